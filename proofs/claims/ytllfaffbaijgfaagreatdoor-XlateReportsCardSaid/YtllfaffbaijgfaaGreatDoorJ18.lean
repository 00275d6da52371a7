/- xlate.ReportUp, ReportDown. ext.walk with the walker's up: all blocks gone up. Small functions that hand a value on, or none. -/
import Derived.Test.YtllfaffbaijgfaaGreatDoorJ12
import Derived.Test.YtllfaffbaijgfaaGreatDoorJ17
import Derived.Deep.CutRange
import Derived.Test.YtllfaffbaijgfaaGreatDoorJ16
set_option linter.unusedVariables false
set_option linter.unusedSimpArgs false
namespace Go.Proofs.YtllfaffbaijgfaaGreatDoor
open Go Go.RowKit Go.Shelf

theorem Sents.keep {S : Nat → Addr} {w W : World} (h : Sents S w) (hk : Keep (fun k => k < w.heap.size) w W) : Sents S W :=
  ⟨fun g hg => by
    obtain ⟨h1, c, t, h2⟩ := h.1 g hg
    exact ⟨(hk.cell (p := ⟨g, 0, none⟩) (cellLt h1)).trans h1, c, t, (hk.block _ (Array.getElem?_eq_some_iff.1 h2).1).trans h2⟩, h.2⟩

theorem results_ct {P : Program} {w : World} {fn : Func} {p q : Tmp} {ty : TypeId} {tmps : Array Value} {a : Addr} {u v : Value} (h : fn.results = #[.cell p ty, .tmp q]) (hp : tmps.getD p undef = .pointer (some a)) (hq : tmps.getD q undef = v)
    (hl : (loadVar ty a).run P w = .ok u w) : (results fn tmps).run P w = .ok (.tuple #[u, v]) w := by
  simp only [results, h]
  have ha : (asAddr (tmps.getD p undef)).run P w = .ok a w := by rw [hp]; rfl
  rw [Array.getD_eq_getD_getElem?] at ha hq
  simp [Sem.run_bind, Result.andThen, hl, ha, hq]

theorem ints_setRow {W : World} {l : List Int} {a : Option Addr} {n cap g : Nat} {c : Array Value} (h : IntsV W l (.slice a n cap)) (hne : ∀ b, a = some b → b.block ≠ g) : IntsV (W.setRow g c) l (.slice a n cap) := by
  obtain ⟨a', cap', e, h1⟩ := h
  cases e
  refine ⟨a, cap, rfl, fun hp => ?_⟩
  obtain ⟨b, o, rfl, h2, h3⟩ := h1 hp
  refine ⟨b, o, rfl, by rw [setRow_size]; exact h2, fun i n hn => ?_⟩
  exact (cell_setRow_other W g c ⟨b, o + i, none⟩ (hne ⟨b, o, none⟩ rfl)).trans (h3 i n hn)

def upOk (x : Report) : Bool := fitsR x 281474976710 && (bits .and .i64 x.bits 2 == 0) && turnedB x millis
def reportUp (x : Report) : Report := if upOk x = true then turnedR x millis else zeroReport
def reportUpE (x : Report) : Int := if upOk x = true then 0 else 90

set_option maxRecDepth 100000 in
set_option maxHeartbeats 40000000 in
theorem reportUp_calls (S : Nat → Addr) (x : Report) (a : Option Addr) (cap : Nat) (w : World) (hS : Sents S w) (hfit : eidFit x.source) (hlen : x.times.length ≤ 1048576) (hv : IntsV w x.times (.slice a x.times.length cap)) :
    Calls Tryz.prog 20 #[.agg #[.int .i64 x.bits, .slice a x.times.length cap, .int .i64 x.reason, .int .i64 x.source.scheme, .string (bs x.source.node), .string (bs x.source.service), .int .i64 x.source.a, .int .i64 x.source.b, .int .i64 x.time, .int .i64 x.seq, .bool x.part, .int .i64 x.off, .int .i64 x.len]] w (fun e w' => ∃ a' cap', e = .returned (.tuple #[.agg #[.int .i64 (reportUp x).bits, .slice a' (reportUp x).times.length cap', .int .i64 (reportUp x).reason, .int .i64 (reportUp x).source.scheme, .string (bs (reportUp x).source.node), .string (bs (reportUp x).source.service), .int .i64 (reportUp x).source.a, .int .i64 (reportUp x).source.b, .int .i64 (reportUp x).time, .int .i64 (reportUp x).seq, .bool (reportUp x).part, .int .i64 (reportUp x).off, .int .i64 (reportUp x).len], .int .i64 (reportUpE x)]) ∧ IntsV w' (reportUp x).times (.slice a' (reportUp x).times.length cap') ∧ Below w.heap.size w w') := by
  have HT := hide (show ∀ W, Below w.heap.size w W → _ from fun W h => turned_calls x a cap 43 millis W hlen (hv.mono h) (fun n W' hk => millis_calls S n W' ((hS.mono h).keep hk)) (enters_of Tryz.func43 (by kernel_rfl) rfl))
  have HF := hide (show ∀ W, Below w.heap.size w W → Calls Tryz.prog 24 #[.agg #[.int .i64 x.bits, .slice a x.times.length cap, .int .i64 x.reason, .int .i64 x.source.scheme, .string (bs x.source.node), .string (bs x.source.service), .int .i64 x.source.a, .int .i64 x.source.b, .int .i64 x.time, .int .i64 x.seq, .bool x.part, .int .i64 x.off, .int .i64 x.len], .int .i64 281474976710] W (Rt W (.bool (fitsR x 281474976710))) from fun W h => fits_calls x _ a cap W hfit (by omega) (hv.mono h))
  obtain ⟨n, hn⟩ : ∃ n, n = x.times.length := ⟨_, rfl⟩
  rw [← hn] at HT HF ⊢
  obtain ⟨p, hp⟩ : ∃ p, p = fitsR x 281474976710 := ⟨_, rfl⟩
  obtain ⟨q, hq⟩ : ∃ q, q = turnedB x millis := ⟨_, rfl⟩
  obtain ⟨y, hy⟩ : ∃ y, y = turnedR x millis := ⟨_, rfl⟩
  rw [← hp] at HF
  rw [← hq, ← hy] at HT
  obtain ⟨m, hm⟩ : ∃ m, m = y.times.length := ⟨_, rfl⟩
  rw [← hm] at HT
  have Hm := hide hm
  have Hr := hide (show upOk x = (p && (bits .and .i64 x.bits 2 == 0) && q) by rw [upOk, hp, hq])
  have Hy := hide (show reportUp x = if upOk x = true then y else zeroReport by rw [reportUp, hy])
  clear hS hfit hlen hv hn hp hq hy hm
  go_enter Tryz.func20, Tryz.ntmps20
  go_wp2_with (first | (apply wpList_load_of (ty := 47); (case hgd => exact rfl); (case ho => exact rfl); (case hx => exact rfl); (case hr => apply load_row (n := 13); (case hheap => apply heapNew (u := w); (case hbel => ((repeat' (first | exact Below.refl _ _ | assumption | (refine Below.drew ?_) | (refine Below.alloc ?_ ?_ _) | (refine Below.setCell ?_ ?_ _) | (refine Below.step (W := ?hW) ?hq ?_ ?_; case hq => assumption))) <;> (first | (simp; done) | (simp; omega) | (simp at *; omega)))); (case hnew => exact rfl)); (case hu => exact Tryz.underlying47); (case hd => exact rfl); (case hi => kernel_rfl); (case hc => exact rfl))) | (apply wpList_load_w (ty := 47); (case hgd => exact rfl); (case ho => exact rfl); (case hx => exact rfl); (case hr => apply load_row (n := 13); (case hheap => apply heapNew (u := w); (case hbel => ((repeat' (first | exact Below.refl _ _ | assumption | (refine Below.drew ?_) | (refine Below.alloc ?_ ?_ _) | (refine Below.setCell ?_ ?_ _) | (refine Below.step (W := ?hW) ?hq ?_ ?_; case hq => assumption))) <;> (first | (simp; done) | (simp; omega) | (simp at *; omega)))); (case hnew => exact rfl)); (case hu => exact Tryz.underlying47); (case hd => exact rfl); (case hi => kernel_rfl); (case hc => exact rfl))))
  obtain ⟨w0, hw0⟩ : ∃ w0, w0 = (w.alloc (.cells #[.int .i64 x.bits, .slice a n cap, .int .i64 x.reason, .int .i64 x.source.scheme, .string (bs x.source.node), .string (bs x.source.service), .int .i64 x.source.a, .int .i64 x.source.b, .int .i64 x.time, .int .i64 x.seq, .bool x.part, .int .i64 x.off, .int .i64 x.len] 47)).alloc (.cells zeroRep 47) := ⟨_, rfl⟩
  rw [← hw0]
  have hB0 : Below w.heap.size w w0 := by rw [hw0]; ((repeat' (first | exact Below.refl _ _ | assumption | (refine Below.drew ?_) | (refine Below.alloc ?_ ?_ _) | (refine Below.setCell ?_ ?_ _) | (refine Below.step (W := ?hW) ?hq ?_ ?_; case hq => assumption))) <;> (first | (simp; done) | (simp; omega) | (simp at *; omega)))
  have hx : w0.heap[w.heap.size]? = some (.cells #[.int .i64 x.bits, .slice a n cap, .int .i64 x.reason, .int .i64 x.source.scheme, .string (bs x.source.node), .string (bs x.source.service), .int .i64 x.source.a, .int .i64 x.source.b, .int .i64 x.time, .int .i64 x.seq, .bool x.part, .int .i64 x.off, .int .i64 x.len] 47 (0, 0)) := by rw [hw0]; exact heapNew (u := w) (by ((repeat' (first | exact Below.refl _ _ | assumption | (refine Below.drew ?_) | (refine Below.alloc ?_ ?_ _) | (refine Below.setCell ?_ ?_ _) | (refine Below.step (W := ?hW) ?hq ?_ ?_; case hq => assumption))) <;> (first | (simp; done) | (simp; omega) | (simp at *; omega)))) rfl
  have hr : w0.heap[w.heap.size + 1]? = some (.cells zeroRep 47 (0, 0)) := by rw [hw0]; exact heapNew (u := w.alloc _) (by ((repeat' (first | exact Below.refl _ _ | assumption | (refine Below.drew ?_) | (refine Below.alloc ?_ ?_ _) | (refine Below.setCell ?_ ?_ _) | (refine Below.step (W := ?hW) ?hq ?_ ?_; case hq => assumption))) <;> (first | (simp; done) | (simp; omega) | (simp at *; omega)))) (by simp)
  have hs0 : w0.heap.size = w.heap.size + 2 := by rw [hw0]; simp
  clear hw0
  refine (show Calls _ _ _ _ _ from HT.out w0 hB0).mono ?_
  rintro e_ w1 ⟨a', cap', rfl, hiv, hfr, hb1⟩
  replace hx := heapKept hx hb1
  replace hr := heapKept hr hb1
  have hB1 := hB0.trans (hb1.mono hB0.size)
  have hs1 : w.heap.size + 2 ≤ w1.heap.size := by rw [← hs0]; exact hb1.size
  rw [hs0] at hfr
  clear hb1 hB0 hs0 HT
  go_upto_region 2 with (apply wpList_store_new (ty := 47) (n := 13); (case hgd => exact rfl); (case ho => exact rfl); (case hd => exact rfl); (case hx => exact rfl); (case hw => exact rfl); (case hg => first | exact rfl | (simp; done)); (case hy => exact rfl); (case hi => kernel_rfl); (case hn0 => exact rfl); (case hn => exact rfl); (case h1 => first | exact rfl | assumption | (simp [Value.oneCell', *]; done) | (simp [*]; done)))
  refine wp_named fun w2 hw2 => ?_
  have hb2 : Below w1.heap.size w1 w2 := by rw [hw2]; ((repeat' (first | exact Below.refl _ _ | assumption | (refine Below.drew ?_) | (refine Below.alloc ?_ ?_ _) | (refine Below.setCell ?_ ?_ _) | (refine Below.step (W := ?hW) ?hq ?_ ?_; case hq => assumption))) <;> (first | (simp; done) | (simp; omega) | (simp at *; omega)))
  have hyr : w2.heap[w1.heap.size]? = some (.cells #[.int .i64 y.bits, .slice a' m cap', .int .i64 y.reason, .int .i64 y.source.scheme, .string (bs y.source.node), .string (bs y.source.service), .int .i64 y.source.a, .int .i64 y.source.b, .int .i64 y.time, .int .i64 y.seq, .bool y.part, .int .i64 y.off, .int .i64 y.len] 47 (0, 0)) := by rw [hw2]; exact heapNew (u := w1) (by ((repeat' (first | exact Below.refl _ _ | assumption | (refine Below.drew ?_) | (refine Below.alloc ?_ ?_ _) | (refine Below.setCell ?_ ?_ _) | (refine Below.step (W := ?hW) ?hq ?_ ?_; case hq => assumption))) <;> (first | (simp; done) | (simp; omega) | (simp at *; omega)))) rfl
  replace hiv := hiv.mono hb2
  replace hx := heapKept hx hb2
  replace hr := heapKept hr hb2
  have hB2 := hB1.trans (hb2.mono hB1.size)
  have hs2 : w1.heap.size < w2.heap.size := (Array.getElem?_eq_some_iff.1 hyr).1
  clear hw2 hb2 hB1
  obtain ⟨Y, hY⟩ : ∃ Y, Y = w1.heap.size := ⟨_, rfl⟩
  rw [← hY] at hyr hs1 hs2 ⊢
  clear hY
  go_wp2_with (first | (apply wpList_load_of (ty := 47); (case hgd => exact rfl); (case ho => exact rfl); (case hx => exact rfl); (case hr => apply load_row (n := 13); (case hheap => exact hx); (case hu => exact Tryz.underlying47); (case hd => exact rfl); (case hi => kernel_rfl); (case hc => exact rfl))) | (apply wpList_load_w (ty := 47); (case hgd => exact rfl); (case ho => exact rfl); (case hx => exact rfl); (case hr => apply load_row (n := 13); (case hheap => exact hx); (case hu => exact Tryz.underlying47); (case hd => exact rfl); (case hi => kernel_rfl); (case hc => exact rfl))))
  refine (show Calls _ _ _ _ _ from HF.out w2 hB2).mono ?_
  rintro e_ w3 ⟨rfl, hb3⟩
  replace hiv := hiv.mono hb3
  replace hx := heapKept hx hb3
  replace hr := heapKept hr hb3
  replace hyr := heapKept hyr hb3
  have hB3 := hB2.trans (hb3.mono hB2.size)
  clear hb3 hB2 HF
  have k0 := cellsOf hx 0
  simp only [List.getElem?_toArray, List.getElem?_cons_zero] at k0
  obtain ⟨bt, hbt⟩ : ∃ bt, bt = bits .and .i64 x.bits 2 := ⟨_, rfl⟩
  replace hbt := hbt.symm
  rw [hbt] at Hr
  have bad : upOk x = false → ∀ W, W.heap[w.heap.size + 1]? = some (.cells zeroRep 47 (0, 0)) → Below w.heap.size w W → ∃ a' cap', Ending.returned (.tuple #[.agg zeroRep, .int .i64 90]) = .returned (.tuple #[.agg #[.int .i64 (reportUp x).bits, .slice a' (reportUp x).times.length cap', .int .i64 (reportUp x).reason, .int .i64 (reportUp x).source.scheme, .string (bs (reportUp x).source.node), .string (bs (reportUp x).source.service), .int .i64 (reportUp x).source.a, .int .i64 (reportUp x).source.b, .int .i64 (reportUp x).time, .int .i64 (reportUp x).seq, .bool (reportUp x).part, .int .i64 (reportUp x).off, .int .i64 (reportUp x).len], .int .i64 (reportUpE x)]) ∧ IntsV W (reportUp x).times (.slice a' (reportUp x).times.length cap') ∧ Below w.heap.size w W := fun h W hW hB => by
    have e1 : reportUp x = zeroReport := by rw [reportUp, h]; rfl
    have e2 : reportUpE x = 90 := by rw [reportUpE, h]; rfl
    rw [e1, e2]
    exact ⟨none, 0, rfl, ⟨none, 0, rfl, fun h => absurd h (Nat.not_lt_zero _)⟩, hB⟩
  have Bad := hide bad
  clear bad
  by_cases hok : (p && (bt == 0) && q) = true
  · simp only [Bool.and_eq_true, beq_iff_eq] at hok
    obtain ⟨⟨rfl, h0⟩, rfl⟩ := hok
    have hup : upOk x = true := by rw [Hr.out, h0]; rfl
    have Hup := hide hup
    clear hup
    go_wp2_with (first | (apply wpList_store_at (ty := 47) (n := 13); (case hgd => exact rfl); (case ho => exact rfl); (case hd => exact rfl); (case hx => exact rfl); (case hheap => exact hr); (case hy => exact rfl); (case hi => kernel_rfl); (case hn0 => exact rfl); (case hn => exact rfl); (case h1 => first | exact rfl | assumption | (simp [Value.oneCell', *]; done) | (simp [*]; done))) | (first | (apply wpList_load_of (ty := 47); (case hgd => exact rfl); (case ho => exact rfl); (case hx => exact rfl); (case hr => apply load_row (n := 13); (case hheap => exact hyr); (case hu => exact Tryz.underlying47); (case hd => exact rfl); (case hi => kernel_rfl); (case hc => exact rfl))) | (apply wpList_load_w (ty := 47); (case hgd => exact rfl); (case ho => exact rfl); (case hx => exact rfl); (case hr => apply load_row (n := 13); (case hheap => exact hyr); (case hu => exact Tryz.underlying47); (case hd => exact rfl); (case hi => kernel_rfl); (case hc => exact rfl)))))
    refine bodyPost_ret (results_ct rfl rfl rfl (load_row (n := 13) (hheap := setRow_heap _ _ _ _ _ _ hr) (hu := Tryz.underlying47) (hd := rfl) (hi := by kernel_rfl) (hc := rfl))) rfl ?_
    have e1 : reportUp x = y := by rw [Hy.out, Hup.out]; rfl
    have e2 : reportUpE x = 0 := by rw [reportUpE, Hup.out]; rfl
    rw [e1, e2, ← Hm.out]
    refine ⟨a', cap', rfl, ?_, below_setRow hB3 (by omega) _⟩
    exact ints_setRow (Hm.out ▸ hiv) (fun b hb => by have := hfr b hb; omega)
  · have hup : upOk x = false := by rw [Hr.out]; simpa using hok
    have Hup := hide hup
    clear hup hok
    cases p
    · (go_wp2_with (apply wpList_store_at (ty := 47) (n := 13); (case hgd => exact rfl); (case ho => exact rfl); (case hd => exact rfl); (case hx => exact rfl); (case hheap => exact hr); (case hy => exact rfl); (case hi => kernel_rfl); (case hn0 => exact rfl); (case hn => exact rfl); (case h1 => first | exact rfl | assumption | (simp [Value.oneCell', *]; done) | (simp [*]; done)))); refine bodyPost_ret (results_ct rfl rfl rfl (load_row (n := 13) (hheap := setRow_heap _ _ _ _ _ _ hr) (hu := Tryz.underlying47) (hd := rfl) (hi := by kernel_rfl) (hc := rfl))) rfl ?_; exact Bad.out Hup.out _ (setRow_heap _ _ _ _ _ _ hr) (below_setRow hB3 (by omega) _)
    · by_cases hbz : bt = 0
      · cases q
        · (go_wp2_with (apply wpList_store_at (ty := 47) (n := 13); (case hgd => exact rfl); (case ho => exact rfl); (case hd => exact rfl); (case hx => exact rfl); (case hheap => exact hr); (case hy => exact rfl); (case hi => kernel_rfl); (case hn0 => exact rfl); (case hn => exact rfl); (case h1 => first | exact rfl | assumption | (simp [Value.oneCell', *]; done) | (simp [*]; done)))); refine bodyPost_ret (results_ct rfl rfl rfl (load_row (n := 13) (hheap := setRow_heap _ _ _ _ _ _ hr) (hu := Tryz.underlying47) (hd := rfl) (hi := by kernel_rfl) (hc := rfl))) rfl ?_; exact Bad.out Hup.out _ (setRow_heap _ _ _ _ _ _ hr) (below_setRow hB3 (by omega) _)
        · exact absurd Hup.out (by rw [Hr.out, hbz]; simp)
      · (go_wp2_with (apply wpList_store_at (ty := 47) (n := 13); (case hgd => exact rfl); (case ho => exact rfl); (case hd => exact rfl); (case hx => exact rfl); (case hheap => exact hr); (case hy => exact rfl); (case hi => kernel_rfl); (case hn0 => exact rfl); (case hn => exact rfl); (case h1 => first | exact rfl | assumption | (simp [Value.oneCell', *]; done) | (simp [*]; done)))); refine bodyPost_ret (results_ct rfl rfl rfl (load_row (n := 13) (hheap := setRow_heap _ _ _ _ _ _ hr) (hu := Tryz.underlying47) (hd := rfl) (hi := by kernel_rfl) (hc := rfl))) rfl ?_; exact Bad.out Hup.out _ (setRow_heap _ _ _ _ _ _ hr) (below_setRow hB3 (by omega) _)
end Go.Proofs.YtllfaffbaijgfaaGreatDoor

namespace Go.Proofs.YtllfaffbaijgfaaGreatDoor
open Go Go.RowKit Go.Shelf

theorem upStep_grows (s : WS) (last : Bool) (b : Block) : (upStep s last b).2.num ≤ s.num + 1 ∧ (upStep s last b).2.out.length ≤ s.out.length + 1 := by
  unfold upStep
  split
  · split
    · split
      · split
        · simp
        · split
          · constructor <;> simp <;> omega
          · simp
      · constructor <;> simp <;> omega
    · constructor <;> simp <;> omega
  · constructor <;> simp <;> omega

theorem WalkSt.kept {base P M : Nat} {c : Class} {s : WS} {N : Nat} {A B : World} (h : WalkSt base P M c s A) (hP : P < N) (hM : M < N) (hlow : ∀ k : Nat, k < N → B.heap[k]? = A.heap[k]?)
    (hc : ∀ (k : Nat) (c : Array Value) (m : Nat × Nat), A.heap[k]? = some (.cells c 57 m) → B.heap[k]? = some (.cells c 57 m)) (hs : A.heap.size ≤ B.heap.size) : WalkSt base P M c s B := by
  obtain ⟨⟨v, o, h1, h2, h3, h4⟩, h5, h6, h7, h8⟩ := h
  exact ⟨⟨v, o, (hlow P hP).trans h1, row_kept hc h2, (hlow M hM).trans h3, h4⟩, Nat.le_trans h5 hs, h6, h7, h8⟩

theorem allUp_calls (S : Nat → Addr) (base P M : Nat) (c : Class) (s0 : WS) (l : List Block) (rv : Nat → Value) (a : Option Addr) (cap K : Nat) (w0 w : World) (hS : Sents S w0) (hp : PairsAt w0) (hbase : w0.heap.size = base) (hB : Keep (fun k => k < base) w0 w)
    (h : WalkSt base P M c s0 w) (hK : s0.num ≤ K ∧ s0.out.length ≤ K) (hKl : K + l.length ≤ 1000000)
    (hat : 0 < l.length → ∃ b o, a = some ⟨b, o, none⟩ ∧ b < base ∧ BlocksAt w l rv b o) (hrv : ∀ i x, l[i]? = some x → ∃ a' cap', rv i = .slice a' x.refs.length cap') (hrl : ∀ x ∈ l, x.refs.length ≤ 1000000) (hP : P < w.heap.size) (hM : M < w.heap.size) :
    Calls Tryz.prog 170 #[.slice a l.length cap, .func (.func 171) #[.pointer (some ⟨P, 0, none⟩)] #[]] w
      (fun e w' => e = .returned (.int .i64 (walkF upStep s0 (blkItems l rv)).1) ∧ WalkSt base P M c (walkF upStep s0 (blkItems l rv)).2 w' ∧ WStep base P M w w') := by
  refine (walk_calls upStep (fun i s W => WalkSt base P M c s W ∧ s.num ≤ K + i ∧ s.out.length ≤ K + i ∧ Keep (fun k => k < base) w0 W) base P M l rv a cap 171 #[.pointer (some ⟨P, 0, none⟩)] #[] s0 w (by omega) hat
    (fun i x hx => by obtain ⟨a', cap', e⟩ := hrv i x hx; rw [e]; rfl) h.low hP hM (enters_of Tryz.func171 (by kernel_rfl) rfl) ⟨h, by have := hK.1; omega, hK.2, hB⟩ ?h1 ?h2).mono ?h3
  case h1 =>
    rintro i s A B hA ⟨k1, k2, k3, k4⟩ hlow hc hs
    exact ⟨k1.kept hP hM hlow hc hs, k2, k3, k4.trans ⟨hs, fun k hk => hlow k (by have := h.low; omega)⟩⟩
  case h2 =>
    rintro i x s W hx ⟨k1, k2, k3, k4⟩ hW
    have hi := (List.getElem?_eq_some_iff.1 hx).1
    obtain ⟨a', cap', e⟩ := hrv i x hx
    rw [e]
    subst hbase
    refine (walkUp_calls S w0.heap.size P M c s (decide (i + 1 = l.length)) x a' cap' W (hS.keep k4) ((k4.block _ (Array.getElem?_eq_some_iff.1 hp).1).trans hp) k1 (by omega) (by omega) (hrl x (List.mem_of_getElem? hx))).mono ?_
    rintro e' w' ⟨h1, h2, h3⟩
    have := upStep_grows s (decide (i + 1 = l.length)) x
    exact ⟨h1, ⟨h2, by have := this.1; omega, by have := this.2; omega, k4.trans ⟨h3.size, fun k hk => h3.low k hk⟩⟩, h3⟩
  case h3 =>
    rintro e w' ⟨h1, ⟨i, h2⟩, h3⟩
    exact ⟨h1, h2.1, h3⟩
end Go.Proofs.YtllfaffbaijgfaaGreatDoor

namespace Go.Proofs.YtllfaffbaijgfaaGreatDoor
open Go Go.RowKit Go.Shelf

theorem extNumber_calls (n : Int) (w : World) : Calls Tryz.prog 247 #[.int .i64 n] w (Rt w (.agg #[.int .i64 0, .int .i64 n, .string { data := #[] }, .slice none 0 0])) := by
  go_enter Tryz.func247, Tryz.ntmps247
  go_wp2_with (apply wpList_store_new (ty := 133) (n := 4); (case hgd => exact rfl); (case ho => exact rfl); (case hd => exact rfl); (case hx => exact rfl); (case hw => exact rfl); (case hg => first | exact rfl | (simp; done)); (case hy => exact rfl); (case hi => kernel_rfl); (case hn0 => exact rfl); (case hn => exact rfl); (case h1 => first | exact rfl | assumption | (simp [Value.oneCell', *]; done) | (simp [*]; done)))
  (refine bodyPost_ret (results_cell1 rfl rfl (load_row (n := 4) (hheap := heapNew (u := w) (by ((repeat' (first | exact Below.refl _ _ | assumption | (refine Below.drew ?_) | (refine Below.alloc ?_ ?_ _) | (refine Below.setCell ?_ ?_ _) | (refine Below.step (W := ?hW) ?hq ?_ ?_; case hq => assumption))) <;> (first | (simp; done) | (simp; omega) | (simp at *; omega)))) rfl) (hu := Tryz.underlying133) (hd := rfl) (hi := by kernel_rfl) (hc := rfl))) rfl ?_)
  exact ⟨rfl, by ((repeat' (first | exact Below.refl _ _ | assumption | (refine Below.drew ?_) | (refine Below.alloc ?_ ?_ _) | (refine Below.setCell ?_ ?_ _) | (refine Below.step (W := ?hW) ?hq ?_ ?_; case hq => assumption))) <;> (first | (simp; done) | (simp; omega) | (simp at *; omega)))⟩
theorem eid7Number_calls (n : Int) (w : World) : Calls Tryz.prog 201 #[.int .i64 n] w (Rt w (.agg #[.int .i64 0, .int .i64 n, .string { data := #[] }, .slice none 0 0])) := by
  go_enter Tryz.func201, Tryz.ntmps201
  go_wp2_with (apply wpList_store_new (ty := 133) (n := 4); (case hgd => exact rfl); (case ho => exact rfl); (case hd => exact rfl); (case hx => exact rfl); (case hw => exact rfl); (case hg => first | exact rfl | (simp; done)); (case hy => exact rfl); (case hi => kernel_rfl); (case hn0 => exact rfl); (case hn => exact rfl); (case h1 => first | exact rfl | assumption | (simp [Value.oneCell', *]; done) | (simp [*]; done)))
  (refine bodyPost_ret (results_cell1 rfl rfl (load_row (n := 4) (hheap := heapNew (u := w) (by ((repeat' (first | exact Below.refl _ _ | assumption | (refine Below.drew ?_) | (refine Below.alloc ?_ ?_ _) | (refine Below.setCell ?_ ?_ _) | (refine Below.step (W := ?hW) ?hq ?_ ?_; case hq => assumption))) <;> (first | (simp; done) | (simp; omega) | (simp at *; omega)))) rfl) (hu := Tryz.underlying133) (hd := rfl) (hi := by kernel_rfl) (hc := rfl))) rfl ?_)
  exact ⟨rfl, by ((repeat' (first | exact Below.refl _ _ | assumption | (refine Below.drew ?_) | (refine Below.alloc ?_ ?_ _) | (refine Below.setCell ?_ ?_ _) | (refine Below.step (W := ?hW) ?hq ?_ ?_; case hq => assumption))) <;> (first | (simp; done) | (simp; omega) | (simp at *; omega)))⟩
theorem extList_calls (a : Option Addr) (n cap : Nat) (w : World) : Calls Tryz.prog 248 #[.slice a n cap] w (Rt w (.agg #[.int .i64 4, .int .i64 0, .string { data := #[] }, .slice a n cap])) := by
  go_enter Tryz.func248, Tryz.ntmps248
  go_wp2_with (apply wpList_store_new (ty := 133) (n := 4); (case hgd => exact rfl); (case ho => exact rfl); (case hd => exact rfl); (case hx => exact rfl); (case hw => exact rfl); (case hg => first | exact rfl | (simp; done)); (case hy => exact rfl); (case hi => kernel_rfl); (case hn0 => exact rfl); (case hn => exact rfl); (case h1 => first | exact rfl | assumption | (simp [Value.oneCell', *]; done) | (simp [*]; done)))
  (refine bodyPost_ret (results_cell1 rfl rfl (load_row (n := 4) (hheap := heapNew (u := w) (by ((repeat' (first | exact Below.refl _ _ | assumption | (refine Below.drew ?_) | (refine Below.alloc ?_ ?_ _) | (refine Below.setCell ?_ ?_ _) | (refine Below.step (W := ?hW) ?hq ?_ ?_; case hq => assumption))) <;> (first | (simp; done) | (simp; omega) | (simp at *; omega)))) rfl) (hu := Tryz.underlying133) (hd := rfl) (hi := by kernel_rfl) (hc := rfl))) rfl ?_)
  exact ⟨rfl, by ((repeat' (first | exact Below.refl _ _ | assumption | (refine Below.drew ?_) | (refine Below.alloc ?_ ?_ _) | (refine Below.setCell ?_ ?_ _) | (refine Below.step (W := ?hW) ?hq ?_ ?_; case hq => assumption))) <;> (first | (simp; done) | (simp; omega) | (simp at *; omega)))⟩
theorem eid7List_calls (a : Option Addr) (n cap : Nat) (w : World) : Calls Tryz.prog 200 #[.slice a n cap] w (Rt w (.agg #[.int .i64 4, .int .i64 0, .string { data := #[] }, .slice a n cap])) := by
  go_enter Tryz.func200, Tryz.ntmps200
  go_wp2_with (apply wpList_store_new (ty := 133) (n := 4); (case hgd => exact rfl); (case ho => exact rfl); (case hd => exact rfl); (case hx => exact rfl); (case hw => exact rfl); (case hg => first | exact rfl | (simp; done)); (case hy => exact rfl); (case hi => kernel_rfl); (case hn0 => exact rfl); (case hn => exact rfl); (case h1 => first | exact rfl | assumption | (simp [Value.oneCell', *]; done) | (simp [*]; done)))
  (refine bodyPost_ret (results_cell1 rfl rfl (load_row (n := 4) (hheap := heapNew (u := w) (by ((repeat' (first | exact Below.refl _ _ | assumption | (refine Below.drew ?_) | (refine Below.alloc ?_ ?_ _) | (refine Below.setCell ?_ ?_ _) | (refine Below.step (W := ?hW) ?hq ?_ ?_; case hq => assumption))) <;> (first | (simp; done) | (simp; omega) | (simp at *; omega)))) rfl) (hu := Tryz.underlying133) (hd := rfl) (hi := by kernel_rfl) (hc := rfl))) rfl ?_)
  exact ⟨rfl, by ((repeat' (first | exact Below.refl _ _ | assumption | (refine Below.drew ?_) | (refine Below.alloc ?_ ?_ _) | (refine Below.setCell ?_ ?_ _) | (refine Below.step (W := ?hW) ?hq ?_ ?_; case hq => assumption))) <;> (first | (simp; done) | (simp; omega) | (simp at *; omega)))⟩
theorem adm7List_calls (a : Option Addr) (n cap : Nat) (w : World) : Calls Tryz.prog 130 #[.slice a n cap] w (Rt w (.agg #[.int .i64 4, .int .i64 0, .string { data := #[] }, .slice a n cap])) := by
  go_enter Tryz.func130, Tryz.ntmps130
  go_wp2_with (apply wpList_store_new (ty := 133) (n := 4); (case hgd => exact rfl); (case ho => exact rfl); (case hd => exact rfl); (case hx => exact rfl); (case hw => exact rfl); (case hg => first | exact rfl | (simp; done)); (case hy => exact rfl); (case hi => kernel_rfl); (case hn0 => exact rfl); (case hn => exact rfl); (case h1 => first | exact rfl | assumption | (simp [Value.oneCell', *]; done) | (simp [*]; done)))
  (refine bodyPost_ret (results_cell1 rfl rfl (load_row (n := 4) (hheap := heapNew (u := w) (by ((repeat' (first | exact Below.refl _ _ | assumption | (refine Below.drew ?_) | (refine Below.alloc ?_ ?_ _) | (refine Below.setCell ?_ ?_ _) | (refine Below.step (W := ?hW) ?hq ?_ ?_; case hq => assumption))) <;> (first | (simp; done) | (simp; omega) | (simp at *; omega)))) rfl) (hu := Tryz.underlying133) (hd := rfl) (hi := by kernel_rfl) (hc := rfl))) rfl ?_)
  exact ⟨rfl, by ((repeat' (first | exact Below.refl _ _ | assumption | (refine Below.drew ?_) | (refine Below.alloc ?_ ?_ _) | (refine Below.setCell ?_ ?_ _) | (refine Below.step (W := ?hW) ?hq ?_ ?_; case hq => assumption))) <;> (first | (simp; done) | (simp; omega) | (simp at *; omega)))⟩

theorem eidEitherString_calls (s : List UInt8) (ok : Bool) (w : World) : Calls Tryz.prog 192 #[.string (bs s), .bool ok] w (Pu w (.tuple #[.string (bs (if ok = true then s else [])), .int .i64 (if ok = true then 0 else 60)])) := by
  cases ok
  all_goals go_enter Tryz.func192, Tryz.ntmps192
  all_goals go_wp2
  all_goals go_ret2
  all_goals exact ⟨rfl, rfl⟩

/-- an error of the translation: none, or why -/
def wrongV (e : Int) : Value := if e = 0 then .nilIface else .iface 139 (.agg #[.int .i64 e])
theorem unless_calls (e : Int) (w : World) : Calls Tryz.prog 104 #[.int .i64 e] w (Pu w (wrongV e)) := by
  obtain ⟨v, hv⟩ : ∃ v, v = wrongV e := ⟨_, rfl⟩
  rw [← hv]
  by_cases h : e = 0
  · rw [wrongV, if_pos h] at hv
    have Hv := hide hv
    clear hv
    go_enter Tryz.func104, Tryz.ntmps104
    go_wp2
    go_ret
    exact ⟨by rw [Hv.out]; rfl, rfl⟩
  · rw [wrongV, if_neg h] at hv
    have Hv := hide hv
    clear hv
    go_enter Tryz.func104, Tryz.ntmps104
    go_wp2
    go_ret
    exact ⟨by rw [Hv.out]; rfl, rfl⟩

theorem eitherBlocks_calls (a : Option Addr) (n cap : Nat) (e : Int) (w : World) : Calls Tryz.prog 172 #[.slice a n cap, .int .i64 e] w (Pu w (.tuple #[if e = 0 then .slice a n cap else .slice none 0 0, .int .i64 e])) := by
  obtain ⟨v, hv⟩ : ∃ v, v = if e = 0 then Value.slice a n cap else .slice none 0 0 := ⟨_, rfl⟩
  rw [← hv]
  by_cases h : e = 0
  · rw [if_pos h] at hv
    subst hv
    go_enter Tryz.func172, Tryz.ntmps172
    go_wp2
    go_ret2
    exact ⟨by first | rfl | (rw [h]; rfl), rfl⟩
  · rw [if_neg h] at hv
    subst hv
    go_enter Tryz.func172, Tryz.ntmps172
    go_wp2
    go_ret2
    exact ⟨rfl, rfl⟩

def noClass : Class := ⟨0, false, ⟨0, [], [], 0, 0⟩⟩
abbrev zeroClass : Array Value := #[.int .i64 0, .bool false, .int .i64 0, .string { data := #[] }, .string { data := #[] }, .int .i64 0, .int .i64 0]
set_option maxRecDepth 100000 in
theorem eitherClass_calls (c : Class) (e : Int) (w : World) : Calls Tryz.prog 261 #[.agg #[.int .i64 c.priority, .bool c.custody, .int .i64 c.custodian.scheme, .string (bs c.custodian.node), .string (bs c.custodian.service), .int .i64 c.custodian.a, .int .i64 c.custodian.b], .int .i64 e] w (Rt w (.tuple #[.agg #[.int .i64 (if e = 0 then c else noClass).priority, .bool (if e = 0 then c else noClass).custody, .int .i64 (if e = 0 then c else noClass).custodian.scheme, .string (bs (if e = 0 then c else noClass).custodian.node), .string (bs (if e = 0 then c else noClass).custodian.service), .int .i64 (if e = 0 then c else noClass).custodian.a, .int .i64 (if e = 0 then c else noClass).custodian.b], .int .i64 e])) := by
  obtain ⟨d, hd⟩ : ∃ d, d = if e = 0 then c else noClass := ⟨_, rfl⟩
  rw [← hd]
  obtain ⟨w0, hw0⟩ : ∃ w0, w0 = ((w.alloc (.cells #[.int .i64 c.priority, .bool c.custody, .int .i64 c.custodian.scheme, .string (bs c.custodian.node), .string (bs c.custodian.service), .int .i64 c.custodian.a, .int .i64 c.custodian.b] 70)).alloc (.cells zeroClass 70)).alloc (.cells zeroClass 70) := ⟨_, rfl⟩
  have hB : Below w.heap.size w w0 := by rw [hw0]; ((repeat' (first | exact Below.refl _ _ | assumption | (refine Below.drew ?_) | (refine Below.alloc ?_ ?_ _) | (refine Below.setCell ?_ ?_ _) | (refine Below.step (W := ?hW) ?hq ?_ ?_; case hq => assumption))) <;> (first | (simp; done) | (simp; omega) | (simp at *; omega)))
  have hx : w0.heap[w.heap.size]? = some (.cells #[.int .i64 c.priority, .bool c.custody, .int .i64 c.custodian.scheme, .string (bs c.custodian.node), .string (bs c.custodian.service), .int .i64 c.custodian.a, .int .i64 c.custodian.b] 70 (0, 0)) := by rw [hw0]; exact heapNew (u := w) (by ((repeat' (first | exact Below.refl _ _ | assumption | (refine Below.drew ?_) | (refine Below.alloc ?_ ?_ _) | (refine Below.setCell ?_ ?_ _) | (refine Below.step (W := ?hW) ?hq ?_ ?_; case hq => assumption))) <;> (first | (simp; done) | (simp; omega) | (simp at *; omega)))) rfl
  have hr : w0.heap[w.heap.size + 1]? = some (.cells zeroClass 70 (0, 0)) := by rw [hw0]; exact heapNew (u := w.alloc _) (by ((repeat' (first | exact Below.refl _ _ | assumption | (refine Below.drew ?_) | (refine Below.alloc ?_ ?_ _) | (refine Below.setCell ?_ ?_ _) | (refine Below.step (W := ?hW) ?hq ?_ ?_; case hq => assumption))) <;> (first | (simp; done) | (simp; omega) | (simp at *; omega)))) (by simp)
  have hn : w0.heap[w.heap.size + 1 + 1]? = some (.cells zeroClass 70 (0, 0)) := by rw [hw0]; exact heapNew (u := (w.alloc _).alloc _) (by ((repeat' (first | exact Below.refl _ _ | assumption | (refine Below.drew ?_) | (refine Below.alloc ?_ ?_ _) | (refine Below.setCell ?_ ?_ _) | (refine Below.step (W := ?hW) ?hq ?_ ?_; case hq => assumption))) <;> (first | (simp; done) | (simp; omega) | (simp at *; omega)))) (by simp)
  by_cases h : e = 0
  · rw [if_pos h] at hd
    subst hd h
    go_enter Tryz.func261, Tryz.ntmps261
    go_upto_region 2 with fail
    rw [← hw0]
    clear hw0
    go_wp2_with (first | (first | (apply wpList_load_of (ty := 70); (case hgd => exact rfl); (case ho => exact rfl); (case hx => exact rfl); (case hr => apply load_row (n := 7); (case hheap => exact hx); (case hu => exact Tryz.underlying70); (case hd => exact rfl); (case hi => kernel_rfl); (case hc => exact rfl))) | (apply wpList_load_w (ty := 70); (case hgd => exact rfl); (case ho => exact rfl); (case hx => exact rfl); (case hr => apply load_row (n := 7); (case hheap => exact hx); (case hu => exact Tryz.underlying70); (case hd => exact rfl); (case hi => kernel_rfl); (case hc => exact rfl)))) | (apply wpList_store_at (ty := 70) (n := 7); (case hgd => exact rfl); (case ho => exact rfl); (case hd => exact rfl); (case hx => exact rfl); (case hheap => exact hr); (case hy => exact rfl); (case hi => kernel_rfl); (case hn0 => exact rfl); (case hn => exact rfl); (case h1 => first | exact rfl | assumption | (simp [Value.oneCell', *]; done) | (simp [*]; done))))
    refine bodyPost_ret (results_ct rfl rfl rfl (load_row (n := 7) (hheap := setRow_heap _ _ _ _ _ _ hr) (hu := Tryz.underlying70) (hd := rfl) (hi := by kernel_rfl) (hc := rfl))) rfl ?_
    exact ⟨rfl, below_setRow hB (by omega) _⟩
  · rw [if_neg h] at hd
    subst hd
    go_enter Tryz.func261, Tryz.ntmps261
    go_upto_region 2 with fail
    rw [← hw0]
    clear hw0
    go_wp2_with (first | (first | (apply wpList_load_of (ty := 70); (case hgd => exact rfl); (case ho => exact rfl); (case hx => exact rfl); (case hr => apply load_row (n := 7); (case hheap => exact hn); (case hu => exact Tryz.underlying70); (case hd => exact rfl); (case hi => kernel_rfl); (case hc => exact rfl))) | (apply wpList_load_w (ty := 70); (case hgd => exact rfl); (case ho => exact rfl); (case hx => exact rfl); (case hr => apply load_row (n := 7); (case hheap => exact hn); (case hu => exact Tryz.underlying70); (case hd => exact rfl); (case hi => kernel_rfl); (case hc => exact rfl)))) | (apply wpList_store_at (ty := 70) (n := 7); (case hgd => exact rfl); (case ho => exact rfl); (case hd => exact rfl); (case hx => exact rfl); (case hheap => exact hr); (case hy => exact rfl); (case hi => kernel_rfl); (case hn0 => exact rfl); (case hn => exact rfl); (case h1 => first | exact rfl | assumption | (simp [Value.oneCell', *]; done) | (simp [*]; done))))
    refine bodyPost_ret (results_ct rfl rfl rfl (load_row (n := 7) (hheap := setRow_heap _ _ _ _ _ _ hr) (hu := Tryz.underlying70) (hd := rfl) (hi := by kernel_rfl) (hc := rfl))) rfl ?_
    exact ⟨rfl, below_setRow hB (by omega) _⟩
end Go.Proofs.YtllfaffbaijgfaaGreatDoor
