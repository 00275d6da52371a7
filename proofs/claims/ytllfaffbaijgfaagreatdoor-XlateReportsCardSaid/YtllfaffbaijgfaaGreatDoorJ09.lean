/- six.Right's other rules. ext: a block's type in the other version. -/
import Derived.Test.YtllfaffbaijgfaaGreatDoorJ06
import Derived.Test.YtllfaffbaijgfaaGreatDoorJ08
set_option linter.unusedVariables false
set_option linter.unusedSimpArgs false
namespace Go.Proofs.YtllfaffbaijgfaaGreatDoor
open Go Go.RowKit Go.Shelf

theorem cellsOf {w : World} {B : Nat} {c : Array Value} {t : TypeId} {m : Nat × Nat} (h : w.heap[B]? = some (.cells c t m)) (i : Nat) : w.cell? ⟨B, i, none⟩ = c[i]? := by simp [World.cell?, h]
theorem heapKept {w w' : World} {B : Nat} {o : Obj} (h : w.heap[B]? = some o) (hb : Below w.heap.size w w') : w'.heap[B]? = some o := (hb.block B (Array.getElem?_eq_some_iff.1 h).1).trans h

def six1 (x : Six) : Bool := flags6 x.flags && [x.dest, x.source, x.report, x.custodian].all eidR
def six2 (x : Six) : Bool := decide (x.custodian = noEid) || (bits .and .i64 x.flags 8 != 0)
def six3 (x : Six) : Bool := !decide (x.source = noEid) || ((bits .and .i64 x.flags 4 != 0) && (bits .and .i64 x.flags 507912 == 0))
def six4 (x : Six) : Bool := isIn x.time 0 281474976710 && isIn x.life 0 281474976710 && numR x.seq
def six5 (x : Six) : Bool := isIn x.blocks.length 1 8

set_option maxRecDepth 100000 in
theorem six1_calls (x : Six) (bv : Value) (B : Nat) (w : World) (hx : w.heap[B]? = some (.cells #[.int .i64 x.flags, .int .i64 x.dest.scheme, .string (bs x.dest.node), .string (bs x.dest.service), .int .i64 x.dest.a, .int .i64 x.dest.b, .int .i64 x.source.scheme, .string (bs x.source.node), .string (bs x.source.service), .int .i64 x.source.a, .int .i64 x.source.b, .int .i64 x.report.scheme, .string (bs x.report.node), .string (bs x.report.service), .int .i64 x.report.a, .int .i64 x.report.b, .int .i64 x.custodian.scheme, .string (bs x.custodian.node), .string (bs x.custodian.service), .int .i64 x.custodian.a, .int .i64 x.custodian.b, .int .i64 x.time, .int .i64 x.seq, .int .i64 x.life, .int .i64 x.off, .int .i64 x.total, bv] 32 (0, 0))) (hfit : ∀ e ∈ [x.dest, x.source, x.report, x.custodian], eidFit e) :
    Calls Tryz.prog 66 #[.pointer (some ⟨B, 0, none⟩)] w (Rt w (.bool (six1 x))) := by
  have q0 : w.cell? ⟨B, 0, none⟩ = some (.int .i64 x.flags) := cellsOf hx 0
  have H1 := hide (areFlags_calls x.flags w)
  have Hx := hide hx
  have hBl : B < w.heap.size := (Array.getElem?_eq_some_iff.1 hx).1
  clear hx
  go_enter Tryz.func66, Tryz.ntmps66
  go_wp2_with fail
  refine (show Calls _ _ _ _ _ from H1.out).mono ?_
  rintro e_ w1 ⟨rfl, hb1⟩
  have hx1 := heapKept Hx.out hb1
  have q1 := cellsOf hx1 1
  have q2 := cellsOf hx1 2
  have q3 := cellsOf hx1 3
  have q4 := cellsOf hx1 4
  have q5 := cellsOf hx1 5
  have q6 := cellsOf hx1 6
  have q7 := cellsOf hx1 7
  have q8 := cellsOf hx1 8
  have q9 := cellsOf hx1 9
  have q10 := cellsOf hx1 10
  have q11 := cellsOf hx1 11
  have q12 := cellsOf hx1 12
  have q13 := cellsOf hx1 13
  have q14 := cellsOf hx1 14
  have q15 := cellsOf hx1 15
  have q16 := cellsOf hx1 16
  have q17 := cellsOf hx1 17
  have q18 := cellsOf hx1 18
  have q19 := cellsOf hx1 19
  have q20 := cellsOf hx1 20
  simp only [List.getElem?_toArray, List.getElem?_cons_succ, List.getElem?_cons_zero] at q1 q2 q3 q4 q5 q6 q7 q8 q9 q10 q11 q12 q13 q14 q15 q16 q17 q18 q19 q20
  obtain ⟨u, hu⟩ : ∃ u, u = flags6 x.flags := ⟨_, rfl⟩
  rw [← hu]
  have Hu := hide hu
  clear H1 q0 hu hx1
  cases u
  · go_wp2_with fail
    go_ret
    refine ⟨by rw [six1, ← Hu.out]; rfl, hb1⟩
  · go_wp2_with fail
    obtain ⟨W0, hW0⟩ : ∃ W0, w1.alloc (.cells #[.int .i64 x.dest.scheme, .string (bs x.dest.node), .string (bs x.dest.service), .int .i64 x.dest.a, .int .i64 x.dest.b, .int .i64 x.source.scheme, .string (bs x.source.node), .string (bs x.source.service), .int .i64 x.source.a, .int .i64 x.source.b, .int .i64 x.report.scheme, .string (bs x.report.node), .string (bs x.report.service), .int .i64 x.report.a, .int .i64 x.report.b, .int .i64 x.custodian.scheme, .string (bs x.custodian.node), .string (bs x.custodian.service), .int .i64 x.custodian.a, .int .i64 x.custodian.b] 29) = W0 := ⟨_, rfl⟩
    have hB0 : Below w.heap.size w W0 := by rw [← hW0]; exact hb1.alloc hb1.size _
    have k : ∀ i, W0.cell? ⟨w1.heap.size, i, none⟩ = (#[.int .i64 x.dest.scheme, .string (bs x.dest.node), .string (bs x.dest.service), .int .i64 x.dest.a, .int .i64 x.dest.b, .int .i64 x.source.scheme, .string (bs x.source.node), .string (bs x.source.service), .int .i64 x.source.a, .int .i64 x.source.b, .int .i64 x.report.scheme, .string (bs x.report.node), .string (bs x.report.service), .int .i64 x.report.a, .int .i64 x.report.b, .int .i64 x.custodian.scheme, .string (bs x.custodian.node), .string (bs x.custodian.service), .int .i64 x.custodian.a, .int .i64 x.custodian.b] : Array Value)[i]? := fun i => by rw [← hW0]; simp
    have hz0 : w1.heap.size < W0.heap.size := by rw [← hW0]; simp
    rw [hW0]
    clear hW0
    have hv : EidsV W0 [x.dest, x.source, x.report, x.custodian] (.slice (some ⟨w1.heap.size, 0, none⟩) 4 4) := Sl.mk (n := 4) ⟨hz0, fun i e he => by
      match i, he with
      | 0, he => cases he; exact ⟨k 0, k 1, k 2, k 3, k 4⟩
      | 1, he => cases he; exact ⟨k 5, k 6, k 7, k 8, k 9⟩
      | 2, he => cases he; exact ⟨k 10, k 11, k 12, k 13, k 14⟩
      | 3, he => cases he; exact ⟨k 15, k 16, k 17, k 18, k 19⟩
      | _ + 4, he => simp at he⟩
    refine (sixAreNames_calls [x.dest, x.source, x.report, x.custodian] _ W0 (by simp) hfit hv).mono ?_
    rintro e_ w2 ⟨rfl, hb2⟩
    clear k hv hz0
    go_wp2_with fail
    go_ret
    refine ⟨by simp [six1, ← Hu.out], hB0.trans (hb2.mono hB0.size)⟩

theorem eid_none (e : Eid) : e = noEid ↔ e.scheme = 0 ∧ e.node = [] ∧ e.service = [] ∧ e.a = 0 ∧ e.b = 0 := by
  obtain ⟨s, n, v, a, b⟩ := e
  simp [noEid]

set_option maxRecDepth 100000 in
theorem six2_calls (x : Six) (bv : Value) (B N : Nat) (w : World) (hx : w.heap[B]? = some (.cells #[.int .i64 x.flags, .int .i64 x.dest.scheme, .string (bs x.dest.node), .string (bs x.dest.service), .int .i64 x.dest.a, .int .i64 x.dest.b, .int .i64 x.source.scheme, .string (bs x.source.node), .string (bs x.source.service), .int .i64 x.source.a, .int .i64 x.source.b, .int .i64 x.report.scheme, .string (bs x.report.node), .string (bs x.report.service), .int .i64 x.report.a, .int .i64 x.report.b, .int .i64 x.custodian.scheme, .string (bs x.custodian.node), .string (bs x.custodian.service), .int .i64 x.custodian.a, .int .i64 x.custodian.b, .int .i64 x.time, .int .i64 x.seq, .int .i64 x.life, .int .i64 x.off, .int .i64 x.total, bv] 32 (0, 0))) (hn : w.heap[N]? = some (.cells #[.int .i64 0, .string { data := #[] }, .string { data := #[] }, .int .i64 0, .int .i64 0] 29 (0, 0))) :
    Calls Tryz.prog 69 #[.pointer (some ⟨B, 0, none⟩), .pointer (some ⟨N, 0, none⟩)] w (Pu w (.bool (six2 x))) := by
  have q0 := cellsOf hx 0
  have q16 := cellsOf hx 16
  have q17 := cellsOf hx 17
  have q18 := cellsOf hx 18
  have q19 := cellsOf hx 19
  have q20 := cellsOf hx 20
  have n0 := cellsOf hn 0
  have n1 := cellsOf hn 1
  have n2 := cellsOf hn 2
  have n3 := cellsOf hn 3
  have n4 := cellsOf hn 4
  simp only [List.getElem?_toArray, List.getElem?_cons_succ, List.getElem?_cons_zero] at q0 q16 q17 q18 q19 q20 n0 n1 n2 n3 n4
  clear hx hn
  go_enter Tryz.func69, Tryz.ntmps69
  go_wp2
  all_goals (go_ret; refine ⟨?_, rfl⟩)
  all_goals simp_all [six2, eid_none, toList_nil]

set_option maxRecDepth 100000 in
theorem six3_calls (x : Six) (bv : Value) (B N : Nat) (w : World) (hx : w.heap[B]? = some (.cells #[.int .i64 x.flags, .int .i64 x.dest.scheme, .string (bs x.dest.node), .string (bs x.dest.service), .int .i64 x.dest.a, .int .i64 x.dest.b, .int .i64 x.source.scheme, .string (bs x.source.node), .string (bs x.source.service), .int .i64 x.source.a, .int .i64 x.source.b, .int .i64 x.report.scheme, .string (bs x.report.node), .string (bs x.report.service), .int .i64 x.report.a, .int .i64 x.report.b, .int .i64 x.custodian.scheme, .string (bs x.custodian.node), .string (bs x.custodian.service), .int .i64 x.custodian.a, .int .i64 x.custodian.b, .int .i64 x.time, .int .i64 x.seq, .int .i64 x.life, .int .i64 x.off, .int .i64 x.total, bv] 32 (0, 0))) (hn : w.heap[N]? = some (.cells #[.int .i64 0, .string { data := #[] }, .string { data := #[] }, .int .i64 0, .int .i64 0] 29 (0, 0))) :
    Calls Tryz.prog 70 #[.pointer (some ⟨B, 0, none⟩), .pointer (some ⟨N, 0, none⟩)] w (Pu w (.bool (six3 x))) := by
  have q0 := cellsOf hx 0
  have q6 := cellsOf hx 6
  have q7 := cellsOf hx 7
  have q8 := cellsOf hx 8
  have q9 := cellsOf hx 9
  have q10 := cellsOf hx 10
  have n0 := cellsOf hn 0
  have n1 := cellsOf hn 1
  have n2 := cellsOf hn 2
  have n3 := cellsOf hn 3
  have n4 := cellsOf hn 4
  simp only [List.getElem?_toArray, List.getElem?_cons_succ, List.getElem?_cons_zero] at q0 q6 q7 q8 q9 q10 n0 n1 n2 n3 n4
  clear hx hn
  go_enter Tryz.func70, Tryz.ntmps70
  go_wp2
  all_goals (go_ret; refine ⟨?_, rfl⟩)
  all_goals simp_all [six3, eid_none, toList_nil]

set_option maxRecDepth 100000 in
theorem six4_calls (x : Six) (bv : Value) (B : Nat) (w : World) (hx : w.heap[B]? = some (.cells #[.int .i64 x.flags, .int .i64 x.dest.scheme, .string (bs x.dest.node), .string (bs x.dest.service), .int .i64 x.dest.a, .int .i64 x.dest.b, .int .i64 x.source.scheme, .string (bs x.source.node), .string (bs x.source.service), .int .i64 x.source.a, .int .i64 x.source.b, .int .i64 x.report.scheme, .string (bs x.report.node), .string (bs x.report.service), .int .i64 x.report.a, .int .i64 x.report.b, .int .i64 x.custodian.scheme, .string (bs x.custodian.node), .string (bs x.custodian.service), .int .i64 x.custodian.a, .int .i64 x.custodian.b, .int .i64 x.time, .int .i64 x.seq, .int .i64 x.life, .int .i64 x.off, .int .i64 x.total, bv] 32 (0, 0))) :
    Calls Tryz.prog 71 #[.pointer (some ⟨B, 0, none⟩)] w (Pu w (.bool (six4 x))) := by
  have q21 := cellsOf hx 21
  have q22 := cellsOf hx 22
  have q23 := cellsOf hx 23
  simp only [List.getElem?_toArray, List.getElem?_cons_succ, List.getElem?_cons_zero] at q21 q22 q23
  obtain ⟨u1, hu1⟩ : ∃ u, u = isIn x.time 0 281474976710 := ⟨_, rfl⟩
  obtain ⟨u2, hu2⟩ : ∃ u, u = isIn x.life 0 281474976710 := ⟨_, rfl⟩
  have H1 := isIn_calls x.time 0 281474976710 w
  have H2 := isIn_calls x.life 0 281474976710 w
  have H3 := hide (numR_calls x.seq w)
  rw [← hu1] at H1
  rw [← hu2] at H2
  have H1 := hide H1
  have H2 := hide H2
  rw [six4, ← hu1, ← hu2]
  clear hx hu1 hu2
  go_enter Tryz.func71, Tryz.ntmps71
  go_wp2_with fail
  refine (show Calls _ _ _ _ _ from H1.out).mono ?_
  rintro e_ w_ ⟨rfl, rfl⟩
  cases u1
  · go_wp2_with fail
    go_ret
    exact ⟨rfl, rfl⟩
  · go_wp2_with fail
    refine (show Calls _ _ _ _ _ from H2.out).mono ?_
    rintro e_ w_ ⟨rfl, rfl⟩
    cases u2
    · go_wp2_with fail
      go_ret
      exact ⟨rfl, rfl⟩
    · go_wp2_with fail
      refine (show Calls _ _ _ _ _ from H3.out).mono ?_
      rintro e_ w_ ⟨rfl, rfl⟩
      go_wp2_with fail
      go_ret
      exact ⟨rfl, rfl⟩

theorem six5_calls (x : Six) (a : Option Addr) (cap B : Nat) (w : World) (hx : w.heap[B]? = some (.cells #[.int .i64 x.flags, .int .i64 x.dest.scheme, .string (bs x.dest.node), .string (bs x.dest.service), .int .i64 x.dest.a, .int .i64 x.dest.b, .int .i64 x.source.scheme, .string (bs x.source.node), .string (bs x.source.service), .int .i64 x.source.a, .int .i64 x.source.b, .int .i64 x.report.scheme, .string (bs x.report.node), .string (bs x.report.service), .int .i64 x.report.a, .int .i64 x.report.b, .int .i64 x.custodian.scheme, .string (bs x.custodian.node), .string (bs x.custodian.service), .int .i64 x.custodian.a, .int .i64 x.custodian.b, .int .i64 x.time, .int .i64 x.seq, .int .i64 x.life, .int .i64 x.off, .int .i64 x.total, .slice a x.blocks.length cap] 32 (0, 0))) (hlen : x.blocks.length ≤ 9000000000000000000) :
    Calls Tryz.prog 74 #[.pointer (some ⟨B, 0, none⟩)] w (Pu w (.bool (six5 x))) := by
  have q := cellsOf hx 26
  simp only [List.getElem?_toArray, List.getElem?_cons_succ, List.getElem?_cons_zero] at q
  have H := hide (isIn_calls x.blocks.length 1 8 w)
  clear hx
  go_enter Tryz.func74, Tryz.ntmps74
  go_wp2_with fail
  refine (show Calls _ _ _ _ _ from H.out).mono ?_
  rintro e_ w_ ⟨rfl, rfl⟩
  go_wp2_with fail
  go_ret
  exact ⟨rfl, rfl⟩
end Go.Proofs.YtllfaffbaijgfaaGreatDoor

namespace Go.Proofs.YtllfaffbaijgfaaGreatDoor
open Go Go.RowKit Go.Shelf

def typePairs : List (Int × Int) := [(206, 6), (207, 7), (210, 10)]
def turnIn : List (Int × Int) → Int → Int × Int
  | [], t => if t < 1 ∨ 255 < t ∨ t = 192 then (0, 140) else (t, 0)
  | p :: l, t => if t = p.1 then (p.2, 0) else if t = p.2 then (0, 140) else turnIn l t
/-- the pairs of types lie where they were laid -/
def PairsAt (w : World) : Prop := w.heap[25]? = some (.cells #[.int .i64 206, .int .i64 6, .int .i64 207, .int .i64 7, .int .i64 210, .int .i64 10] 476 (0, 0))

theorem typeUp1_calls (p q : Int) (w : World) : Calls Tryz.prog 312 #[.agg #[.int .i64 p, .int .i64 q]] w (Rt w (.agg #[.int .i64 p, .int .i64 q])) := by
  go_enter Tryz.func312, Tryz.ntmps312
  go_wp2_with (apply wpList_store_new (ty := 426) (n := 2); (case hgd => exact rfl); (case ho => exact rfl); (case hd => exact rfl); (case hx => exact rfl); (case hw => exact rfl); (case hg => first | exact rfl | (simp; done)); (case hy => exact rfl); (case hi => kernel_rfl); (case hn0 => exact rfl); (case hn => exact rfl); (case h1 => first | exact rfl | assumption | (simp [Value.oneCell', *]; done) | (simp [*]; done)))
  (refine bodyPost_ret (results_cell1 rfl rfl (load_row (n := 2) (hheap := heapNew (u := w.alloc _) (by ((repeat' (first | exact Below.refl _ _ | assumption | (refine Below.drew ?_) | (refine Below.alloc ?_ ?_ _) | (refine Below.setCell ?_ ?_ _) | (refine Below.step (W := ?hW) ?hq ?_ ?_; case hq => assumption))) <;> (first | (simp; done) | (simp; omega) | (simp at *; omega)))) (by simp)) (hu := Tryz.underlying426) (hd := rfl) (hi := by kernel_rfl) (hc := rfl))) rfl ?_)
  exact ⟨rfl, by ((repeat' (first | exact Below.refl _ _ | assumption | (refine Below.drew ?_) | (refine Below.alloc ?_ ?_ _) | (refine Below.setCell ?_ ?_ _) | (refine Below.step (W := ?hW) ?hq ?_ ?_; case hq => assumption))) <;> (first | (simp; done) | (simp; omega) | (simp at *; omega)))⟩
theorem flip_calls (p q : Int) (w : World) : Calls Tryz.prog 317 #[.agg #[.int .i64 p, .int .i64 q]] w (Rt w (.agg #[.int .i64 q, .int .i64 p])) := by
  go_enter Tryz.func317, Tryz.ntmps317
  go_wp2_with (apply wpList_store_new (ty := 426) (n := 2); (case hgd => exact rfl); (case ho => exact rfl); (case hd => exact rfl); (case hx => exact rfl); (case hw => exact rfl); (case hg => first | exact rfl | (simp; done)); (case hy => exact rfl); (case hi => kernel_rfl); (case hn0 => exact rfl); (case hn => exact rfl); (case h1 => first | exact rfl | assumption | (simp [Value.oneCell', *]; done) | (simp [*]; done)))
  (refine bodyPost_ret (results_cell1 rfl rfl (load_row (n := 2) (hheap := heapNew (u := w.alloc _) (by ((repeat' (first | exact Below.refl _ _ | assumption | (refine Below.drew ?_) | (refine Below.alloc ?_ ?_ _) | (refine Below.setCell ?_ ?_ _) | (refine Below.step (W := ?hW) ?hq ?_ ?_; case hq => assumption))) <;> (first | (simp; done) | (simp; omega) | (simp at *; omega)))) (by simp)) (hu := Tryz.underlying426) (hd := rfl) (hi := by kernel_rfl) (hc := rfl))) rfl ?_)
  exact ⟨rfl, by ((repeat' (first | exact Below.refl _ _ | assumption | (refine Below.drew ?_) | (refine Below.alloc ?_ ?_ _) | (refine Below.setCell ?_ ?_ _) | (refine Below.step (W := ?hW) ?hq ?_ ?_; case hq => assumption))) <;> (first | (simp; done) | (simp; omega) | (simp at *; omega)))⟩

set_option maxRecDepth 100000 in
set_option maxHeartbeats 4000000 in
theorem turnedType_calls (t : Int) (g : FuncId) (f : Int × Int → Int × Int) (w : World) (hp : PairsAt w) (hg : ∀ args W, (callFunc g args).run Tryz.prog W = .ok (.enter g args) W)
    (hf : ∀ (p q : Int) (W : World), Calls Tryz.prog g #[.agg #[.int .i64 p, .int .i64 q]] W (Rt W (.agg #[.int .i64 (f (p, q)).1, .int .i64 (f (p, q)).2]))) :
    Calls Tryz.prog 311 #[.int .i64 t, .func (.func g) #[] #[]] w (Rt w (.tuple #[.int .i64 (turnIn (typePairs.map f) t).1, .int .i64 (turnIn (typePairs.map f) t).2])) := by
  have Hf := hide hf
  clear hf
  obtain ⟨z1, hz1⟩ : ∃ z, z = (turnIn (typePairs.map f) t).1 := ⟨_, rfl⟩
  obtain ⟨z2, hz2⟩ : ∃ z, z = (turnIn (typePairs.map f) t).2 := ⟨_, rfl⟩
  rw [← hz1, ← hz2]
  have Hz := hide (And.intro hz1 hz2)
  clear hz1 hz2
  have k0 := cellsOf hp 0
  simp only [List.getElem?_toArray, List.getElem?_cons_succ, List.getElem?_cons_zero] at k0
  have k1 := cellsOf hp 1
  simp only [List.getElem?_toArray, List.getElem?_cons_succ, List.getElem?_cons_zero] at k1
  have k2 := cellsOf hp 2
  simp only [List.getElem?_toArray, List.getElem?_cons_succ, List.getElem?_cons_zero] at k2
  have k3 := cellsOf hp 3
  simp only [List.getElem?_toArray, List.getElem?_cons_succ, List.getElem?_cons_zero] at k3
  have k4 := cellsOf hp 4
  simp only [List.getElem?_toArray, List.getElem?_cons_succ, List.getElem?_cons_zero] at k4
  have k5 := cellsOf hp 5
  simp only [List.getElem?_toArray, List.getElem?_cons_succ, List.getElem?_cons_zero] at k5
  clear hp
  go_enter Tryz.func311, Tryz.ntmps311
  go_wp2
  clear k0 k1 k2 k3 k4 k5
  go_loopw [9] (fun k wr => ∃ i : Nat, i ≤ 3 ∧ k = .int .i64 i ∧ turnIn (typePairs.map f) t = turnIn ((typePairs.map f).drop i) t ∧ Below w.heap.size w wr) (fun k _ => 3 - (intOf k).toNat)
  case atStart => exact ⟨0, Nat.zero_le _, rfl, rfl, Below.refl _ _⟩
  case round =>
    obtain ⟨i, hi, rfl, hT, hB⟩ := hrel
    have hi3 : i = 0 ∨ i = 1 ∨ i = 2 ∨ i = 3 := by omega
    have HT := hide hT
    clear hT
    have i0 : ∀ w : World, (Instr.index 476 (.agg #[.int .i64 206, .int .i64 6, .int .i64 207, .int .i64 7, .int .i64 210, .int .i64 10]) (.int .i64 0)).run Tryz.prog w = .ok (.agg #[.int .i64 206, .int .i64 6]) w := fun _ => by kernel_rfl
    have i1 : ∀ w : World, (Instr.index 476 (.agg #[.int .i64 206, .int .i64 6, .int .i64 207, .int .i64 7, .int .i64 210, .int .i64 10]) (.int .i64 1)).run Tryz.prog w = .ok (.agg #[.int .i64 207, .int .i64 7]) w := fun _ => by kernel_rfl
    have i2 : ∀ w : World, (Instr.index 476 (.agg #[.int .i64 206, .int .i64 6, .int .i64 207, .int .i64 7, .int .i64 210, .int .i64 10]) (.int .i64 2)).run Tryz.prog w = .ok (.agg #[.int .i64 210, .int .i64 10]) w := fun _ => by kernel_rfl
    rcases hi3 with rfl | rfl | rfl | rfl
    · go_wp2_with fail
      refine (show Calls _ _ _ _ _ from Hf.out 206 6 _).mono ?_
      rintro e_ w2 ⟨rfl, hb2⟩
      obtain ⟨c, hc⟩ : ∃ c, c = (f (206, 6)).1 := ⟨_, rfl⟩
      obtain ⟨d, hd⟩ : ∃ d, d = (f (206, 6)).2 := ⟨_, rfl⟩
      rw [← hc, ← hd]
      have hx2 : w2.heap[wr.heap.size]? = some (.cells #[.int .i64 206, .int .i64 6] 426 (0, 0)) := (hb2.block _ (by simp)).trans (World.alloc_heap_new wr _)
      have hB2 : Below w.heap.size w w2 := (hB.alloc hB.size _).trans (hb2.mono (by simp; have := hB.size; omega))
      have hle := hB.size
      clear hb2
      have ht : turnIn (typePairs.map f) t = if t = c then (d, 0) else if t = d then (0, 140) else turnIn ((typePairs.map f).drop (0 + 1)) t := by rw [hc, hd]; exact HT.out
      clear HT hc hd
      have Ht := hide ht
      clear ht
      have k0 := cellsOf hx2 0
      have k1 := cellsOf hx2 1
      simp only [List.getElem?_toArray, List.getElem?_cons_succ, List.getElem?_cons_zero] at k0 k1
      have f0 : w2.frozen? ⟨wr.heap.size, 0, none⟩ = false := by simp [World.frozen?, hx2]
      have f1 : w2.frozen? ⟨wr.heap.size, 1, none⟩ = false := by simp [World.frozen?, hx2]
      have hB3 : Below w.heap.size w ((w2.setCell ⟨wr.heap.size, 0, none⟩ (.int .i64 c)).setCell ⟨wr.heap.size, 1, none⟩ (.int .i64 d)) := (hB2.setCell (p := ⟨wr.heap.size, 0, none⟩) hle _).setCell (p := ⟨wr.heap.size, 1, none⟩) hle _
      by_cases h1 : t = c
      · go_wp2_with fail
        go_ret2
        exact ⟨by rw [Hz.out.1, Hz.out.2, Ht.out, if_pos h1]; rfl, hB3⟩
      · by_cases h2 : t = d
        · go_wp2_with fail
          go_ret2
          exact ⟨by rw [Hz.out.1, Hz.out.2, Ht.out, if_neg h1, if_pos h2]; rfl, hB3⟩
        · go_wp2_with fail
          go_roundw
          case rel => exact ⟨0 + 1, by omega, by first | rfl | go_num, by rw [Ht.out, if_neg h1, if_neg h2], hB3⟩
          case measure => simp [intOf]
    · go_wp2_with fail
      refine (show Calls _ _ _ _ _ from Hf.out 207 7 _).mono ?_
      rintro e_ w2 ⟨rfl, hb2⟩
      obtain ⟨c, hc⟩ : ∃ c, c = (f (207, 7)).1 := ⟨_, rfl⟩
      obtain ⟨d, hd⟩ : ∃ d, d = (f (207, 7)).2 := ⟨_, rfl⟩
      rw [← hc, ← hd]
      have hx2 : w2.heap[wr.heap.size]? = some (.cells #[.int .i64 207, .int .i64 7] 426 (0, 0)) := (hb2.block _ (by simp)).trans (World.alloc_heap_new wr _)
      have hB2 : Below w.heap.size w w2 := (hB.alloc hB.size _).trans (hb2.mono (by simp; have := hB.size; omega))
      have hle := hB.size
      clear hb2
      have ht : turnIn (typePairs.map f) t = if t = c then (d, 0) else if t = d then (0, 140) else turnIn ((typePairs.map f).drop (1 + 1)) t := by rw [hc, hd]; exact HT.out
      clear HT hc hd
      have Ht := hide ht
      clear ht
      have k0 := cellsOf hx2 0
      have k1 := cellsOf hx2 1
      simp only [List.getElem?_toArray, List.getElem?_cons_succ, List.getElem?_cons_zero] at k0 k1
      have f0 : w2.frozen? ⟨wr.heap.size, 0, none⟩ = false := by simp [World.frozen?, hx2]
      have f1 : w2.frozen? ⟨wr.heap.size, 1, none⟩ = false := by simp [World.frozen?, hx2]
      have hB3 : Below w.heap.size w ((w2.setCell ⟨wr.heap.size, 0, none⟩ (.int .i64 c)).setCell ⟨wr.heap.size, 1, none⟩ (.int .i64 d)) := (hB2.setCell (p := ⟨wr.heap.size, 0, none⟩) hle _).setCell (p := ⟨wr.heap.size, 1, none⟩) hle _
      by_cases h1 : t = c
      · go_wp2_with fail
        go_ret2
        exact ⟨by rw [Hz.out.1, Hz.out.2, Ht.out, if_pos h1]; rfl, hB3⟩
      · by_cases h2 : t = d
        · go_wp2_with fail
          go_ret2
          exact ⟨by rw [Hz.out.1, Hz.out.2, Ht.out, if_neg h1, if_pos h2]; rfl, hB3⟩
        · go_wp2_with fail
          go_roundw
          case rel => exact ⟨1 + 1, by omega, by first | rfl | go_num, by rw [Ht.out, if_neg h1, if_neg h2], hB3⟩
          case measure => simp [intOf]
    · go_wp2_with fail
      refine (show Calls _ _ _ _ _ from Hf.out 210 10 _).mono ?_
      rintro e_ w2 ⟨rfl, hb2⟩
      obtain ⟨c, hc⟩ : ∃ c, c = (f (210, 10)).1 := ⟨_, rfl⟩
      obtain ⟨d, hd⟩ : ∃ d, d = (f (210, 10)).2 := ⟨_, rfl⟩
      rw [← hc, ← hd]
      have hx2 : w2.heap[wr.heap.size]? = some (.cells #[.int .i64 210, .int .i64 10] 426 (0, 0)) := (hb2.block _ (by simp)).trans (World.alloc_heap_new wr _)
      have hB2 : Below w.heap.size w w2 := (hB.alloc hB.size _).trans (hb2.mono (by simp; have := hB.size; omega))
      have hle := hB.size
      clear hb2
      have ht : turnIn (typePairs.map f) t = if t = c then (d, 0) else if t = d then (0, 140) else turnIn ((typePairs.map f).drop (2 + 1)) t := by rw [hc, hd]; exact HT.out
      clear HT hc hd
      have Ht := hide ht
      clear ht
      have k0 := cellsOf hx2 0
      have k1 := cellsOf hx2 1
      simp only [List.getElem?_toArray, List.getElem?_cons_succ, List.getElem?_cons_zero] at k0 k1
      have f0 : w2.frozen? ⟨wr.heap.size, 0, none⟩ = false := by simp [World.frozen?, hx2]
      have f1 : w2.frozen? ⟨wr.heap.size, 1, none⟩ = false := by simp [World.frozen?, hx2]
      have hB3 : Below w.heap.size w ((w2.setCell ⟨wr.heap.size, 0, none⟩ (.int .i64 c)).setCell ⟨wr.heap.size, 1, none⟩ (.int .i64 d)) := (hB2.setCell (p := ⟨wr.heap.size, 0, none⟩) hle _).setCell (p := ⟨wr.heap.size, 1, none⟩) hle _
      by_cases h1 : t = c
      · go_wp2_with fail
        go_ret2
        exact ⟨by rw [Hz.out.1, Hz.out.2, Ht.out, if_pos h1]; rfl, hB3⟩
      · by_cases h2 : t = d
        · go_wp2_with fail
          go_ret2
          exact ⟨by rw [Hz.out.1, Hz.out.2, Ht.out, if_neg h1, if_pos h2]; rfl, hB3⟩
        · go_wp2_with fail
          go_roundw
          case rel => exact ⟨2 + 1, by omega, by first | rfl | go_num, by rw [Ht.out, if_neg h1, if_neg h2], hB3⟩
          case measure => simp [intOf]
    · have ht : turnIn (typePairs.map f) t = if t < 1 ∨ 255 < t ∨ t = 192 then (0, 140) else (t, 0) := HT.out
      by_cases h1 : t < 1
      · go_wp2_with fail
        go_ret2
        exact ⟨by rw [Hz.out.1, Hz.out.2, ht, if_pos (.inl h1)]; rfl, hB⟩
      · by_cases h2 : 255 < t
        · go_wp2_with fail
          go_ret2
          exact ⟨by rw [Hz.out.1, Hz.out.2, ht, if_pos (.inr (.inl h2))]; rfl, hB⟩
        · by_cases h3 : t = 192
          · go_wp2_with fail
            go_ret2
            exact ⟨by rw [Hz.out.1, Hz.out.2, ht, if_pos (.inr (.inr h3))]; rfl, hB⟩
          · go_wp2_with fail
            go_ret2
            exact ⟨by rw [Hz.out.1, Hz.out.2, ht, if_neg (by omega)]; rfl, hB⟩

def typeUpF (t : Int) : Int × Int := turnIn typePairs t
def typeDownF (t : Int) : Int × Int := turnIn (typePairs.map fun p => (p.2, p.1)) t
theorem typeUp_calls (t : Int) (w : World) (hp : PairsAt w) : Calls Tryz.prog 252 #[.int .i64 t] w (Rt w (.tuple #[.int .i64 (typeUpF t).1, .int .i64 (typeUpF t).2])) := by
  have H := hide (turnedType_calls t 312 id w hp (enters_of Tryz.func312 (by kernel_rfl) rfl) (fun p q W => typeUp1_calls p q W))
  rw [show typePairs.map id = typePairs from List.map_id _] at H
  go_enter Tryz.func252, Tryz.ntmps252
  go_wp2_with fail
  refine (show Calls _ _ _ _ _ from H.out).mono ?_
  rintro e_ w2 ⟨rfl, hb2⟩
  go_wp2_with fail
  go_ret2
  exact ⟨rfl, hb2⟩
theorem typeDown_calls (t : Int) (w : World) (hp : PairsAt w) : Calls Tryz.prog 263 #[.int .i64 t] w (Rt w (.tuple #[.int .i64 (typeDownF t).1, .int .i64 (typeDownF t).2])) := by
  have H := hide (turnedType_calls t 317 (fun p => (p.2, p.1)) w hp (enters_of Tryz.func317 (by kernel_rfl) rfl) (fun p q W => flip_calls p q W))
  go_enter Tryz.func263, Tryz.ntmps263
  go_wp2_with fail
  refine (show Calls _ _ _ _ _ from H.out).mono ?_
  rintro e_ w2 ⟨rfl, hb2⟩
  go_wp2_with fail
  go_ret2
  exact ⟨rfl, hb2⟩
end Go.Proofs.YtllfaffbaijgfaaGreatDoor
