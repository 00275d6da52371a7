/- xlate: a report's times, changed, one by one; and a report with all its times changed. -/
import Derived.Test.YtllfaffbaijgfaaGreatDoorJ11
import Derived.Test.YtllfaffbaijgfaaGreatDoorJ07
import Derived.RangeFuncBox
import Derived.Maps.AppendAt
import Derived.Laws.CopyOwn
import Derived.Test.YtllfaffbaijgfaaGreatDoorJ09
set_option linter.unusedVariables false
set_option linter.unusedSimpArgs false
namespace Go.Proofs.YtllfaffbaijgfaaGreatDoor
open Go Go.RowKit Go.Shelf
attribute [local go_sem] Oper.semAt_some

/-- what a function does to a number: another one, and whether it could (the error's number is 0); it looks at what lies in w alone -/
def ChgCalls (g : FuncId) (f : Int → Int × Int) (w : World) : Prop := ∀ n W, Keep (fun k => k < w.heap.size) w W → Calls Tryz.prog g #[.int .i64 n] W (Rt W (.tuple #[.int .i64 (f n).1, .int .i64 (f n).2]))

def timesL (l : List Int) (f : Int → Int × Int) : List (Int × Bool) := l.map fun n => ((f n).1, (f n).2 == 0)

set_option maxRecDepth 100000 in
set_option maxHeartbeats 4000000 in
theorem timesIter (l : List Int) (g : FuncId) (f : Int → Int × Int) (B C : Nat) (a : Option Addr) (cap : Nat) (R : Nat → Prop) (w : World) (hlen : l.length ≤ 9000000000000000000)
    (hB : w.cell? ⟨B, 1, none⟩ = some (.slice a l.length cap)) (hC : w.cell? ⟨C, 0, none⟩ = some (.func (.func g) #[] #[])) (hRB : R B) (hRC : R C)
    (hat : 0 < l.length → ∃ b o, a = some ⟨b, o, none⟩ ∧ R b ∧ IntsAt w l b o) (hRlt : ∀ k, R k → k < w.heap.size)
    (hg : ∀ args W, (callFunc g args).run Tryz.prog W = .ok (.enter g args) W)
    (hf : ∀ W, Keep R w W → ∀ n, CallsIn Fence.wide 0 Tryz.prog g #[.int .i64 n] W (Rt W (.tuple #[.int .i64 (f n).1, .int .i64 (f n).2]))) :
    Iter Tryz.prog 187 #[.pointer (some ⟨B, 0, none⟩), .pointer (some ⟨C, 0, none⟩)] (fun y => #[.int .i64 y.1, .bool y.2]) (timesL l f) R (fun _ => False) w := by
  intro lp J Jx W hW hJ hJx hY hj0
  have HY := hide hY
  have Hat := hide hat
  have Hf := hide hf
  obtain ⟨n, hn⟩ : ∃ n, n = l.length := ⟨_, rfl⟩
  rw [← hn] at hB hlen
  have Hn := hide hn
  have kB := (hW.cell (p := ⟨B, 1, none⟩) hRB).trans hB
  have kC := (hW.cell (p := ⟨C, 0, none⟩) hRC).trans hC
  have HR := hide (And.intro hRB hRC)
  have hgs := hg
  clear hY hat hB hC hRB hRC hf hn
  refine callsIn_of_wp Tryz.func187 rfl trivial ?_ rfl
  simp only [Tryz.ntmps187, List.size_toArray, List.length_cons, List.length_nil, Nat.reduceAdd, Nat.reduceSub, Array.replicate_succ, Array.replicate_zero, List.push_toArray, List.append_toArray, List.nil_append, List.cons_append]
  refine wpIn_scope_wide ?_
  gi_wp2
  refine wpIn_label ?_
  gi_wp2
  gi_loopw [11] (fun k wr => ∃ i : Nat, i ≤ n ∧ k = .int .i64 i ∧ J i wr ∧ Keep R W wr) (fun k _ => n - (intOf k).toNat)
  case atStart => exact ⟨0, Nat.zero_le _, rfl, hj0, Keep.refl _ _⟩
  case round =>
    obtain ⟨i, hi, rfl, hJi, hK⟩ := hrel
    by_cases hlt : i < n
    · obtain ⟨b, o, rfl, hRb, hat⟩ := Hat.out (by rw [← Hn.out]; omega)
      obtain ⟨x, hx⟩ : ∃ x, l[i]? = some x := ⟨_, List.getElem?_eq_getElem (by rw [← Hn.out]; exact hlt)⟩
      have k0 := ((hW.trans hK).cell (p := ⟨b, o + i, none⟩) hRb).trans (hat.2 i x hx)
      replace kC := (hK.cell (p := ⟨C, 0, none⟩) HR.out.2).trans kC
      have Hx := hide hx
      have HW := hide (hW.trans hK)
      clear hx hat
      gi_wp2
      refine ⟨trivial, rfl, ?_⟩
      refine (show CallsIn _ _ _ _ _ _ _ from Hf.out wr HW.out x).mono ?_
      rintro e_ w_ ⟨rfl, hb_⟩
      have hJw := hJ _ _ _ hJi (Own1.of_below hb_)
      have hK_ : Keep R wr w_ := ⟨hb_.size, fun k hk => hb_.block k (Nat.lt_of_lt_of_le (hRlt k hk) HW.out.size)⟩
      have hy0 : (timesL l f)[i]? = some ((f x).1, (f x).2 == 0) := by simp [timesL, Hx.out]
      obtain ⟨m, hm⟩ : ∃ m, m = (f x).1 := ⟨_, rfl⟩
      obtain ⟨e, he⟩ : ∃ e, e = (f x).2 := ⟨_, rfl⟩
      rw [← hm, ← he]
      rw [← hm, ← he] at hy0
      clear hm he
      obtain ⟨q, hq⟩ : ∃ q, q = (e == 0) := ⟨_, rfl⟩
      rw [← hq] at hy0
      replace hq := hq.symm
      obtain ⟨fn, tmps, assign, body, hy, hR⟩ := HY.out i _ w_ hy0 hJw
      clear hy0 k0 kC kB
      gi_wp2
      refine ⟨rfl, hR.mono ?_⟩
      rintro e' W' (⟨rfl, hJ', hk⟩ | ⟨rfl, hJx'⟩)
      · clear hy hR hq hgs
        gi_wp2
        go_roundw
        case rel => exact ⟨i + 1, by omega, by first | rfl | go_num, hJ', (hK.trans hK_).trans hk⟩
        case measure => simp [intOf]; omega
      · clear hy hR hq hgs
        gi_wp2
        simp only [Exit.noGoto]
        go_end0
        exact ⟨⟨_, rfl⟩, .inr hJx'⟩
    · have hin : i = n := by omega
      subst hin
      gi_wp2
      simp only [Exit.noGoto]
      go_end0
      exact ⟨⟨_, rfl⟩, .inl (by rw [timesL, List.length_map, ← Hn.out]; exact hJi)⟩

theorem times_calls (x : Report) (a : Option Addr) (n cap : Nat) (g : FuncId) (w : World) : Calls Tryz.prog 118 #[.agg #[.int .i64 x.bits, .slice a n cap, .int .i64 x.reason, .int .i64 x.source.scheme, .string (bs x.source.node), .string (bs x.source.service), .int .i64 x.source.a, .int .i64 x.source.b, .int .i64 x.time, .int .i64 x.seq, .bool x.part, .int .i64 x.off, .int .i64 x.len], .func (.func g) #[] #[]] w (fun e w' => e = .returned (.func (.func 187) #[] #[.pointer (some ⟨w.heap.size, 0, none⟩), .pointer (some ⟨w.heap.size + 1, 0, none⟩)]) ∧ w' = (w.alloc (.cells #[.int .i64 x.bits, .slice a n cap, .int .i64 x.reason, .int .i64 x.source.scheme, .string (bs x.source.node), .string (bs x.source.service), .int .i64 x.source.a, .int .i64 x.source.b, .int .i64 x.time, .int .i64 x.seq, .bool x.part, .int .i64 x.off, .int .i64 x.len] 47)).alloc (.cells #[.func (.func g) #[] #[]] 83)) := by
  go_enter Tryz.func118, Tryz.ntmps118
  go_wp2
  go_ret
  exact ⟨rfl, rfl⟩

def zeroReport : Report := ⟨0, [], 0, ⟨0, [], [], 0, 0⟩, 0, 0, false, 0, 0⟩
def turnedOk (x : Report) (f : Int → Int × Int) : Bool := x.times.all fun n => (f n).2 == 0
def turnedR (x : Report) (f : Int → Int × Int) : Report := if turnedOk x f = true then { x with times := x.times.map fun n => (f n).1, time := (f x.time).1 } else zeroReport
def turnedB (x : Report) (f : Int → Int × Int) : Bool := turnedOk x f && ((f x.time).2 == 0)

theorem results_cells2 {P : Program} {w : World} {fn : Func} {p q : Tmp} {ty ty' : TypeId} {tmps : Array Value} {a b : Addr} {u v : Value} (h : fn.results = #[.cell p ty, .cell q ty']) (hp : tmps.getD p undef = .pointer (some a)) (hq : tmps.getD q undef = .pointer (some b))
    (hl : (loadVar ty a).run P w = .ok u w) (hm : (loadVar ty' b).run P w = .ok v w) : (results fn tmps).run P w = .ok (.tuple #[u, v]) w := by
  simp only [results, h]
  have ha : (asAddr (tmps.getD p undef)).run P w = .ok a w := by rw [hp]; rfl
  have hb : (asAddr (tmps.getD q undef)).run P w = .ok b w := by rw [hq]; rfl
  rw [Array.getD_eq_getD_getElem?] at ha hb
  simp [Sem.run_bind, Result.andThen, hl, ha, hm, hb]

theorem infoInt : (Tryz.prog.info? 3).map (fun i => (i.zero, i.size, i.bytes)) = some (some (.int .i64 0), 1, 8) := by kernel_rfl

abbrev zeroRep : Array Value := #[.int .i64 0, .slice none 0 0, .int .i64 0, .int .i64 0, .string { data := #[] }, .string { data := #[] }, .int .i64 0, .int .i64 0, .int .i64 0, .int .i64 0, .bool false, .int .i64 0, .int .i64 0]

theorem Stp.row {B0 : Nat} {A B : World} {base : Nat} {e : TypeId} {size : Nat} {v : Value} {k : Nat} {xs : List Value} (h : Stp B0 (fun _ => False) A B) (hr : A.ownsRow base e size v k xs) : B.ownsRow base e size v k xs := by
  obtain ⟨h1, h2⟩ := hr
  refine ⟨h1, ?_⟩
  rcases h2 with h2 | ⟨g, cap, cur, e1, e2, e3, e4⟩
  · exact .inl h2
  · exact .inr ⟨g, cap, cur, e1, e2, h.cells _ _ e3 rfl id, e4⟩
theorem Stp.heap {B0 : Nat} {A B : World} {k : Nat} {c : Array Value} {t : TypeId} {m : Nat × Nat} (h : Stp B0 (fun _ => False) A B) (hk : A.heap[k]? = some (.cells c t m)) : B.heap[k]? = some (.cells c t m) := h.cells _ _ hk rfl id

theorem row_apart {W w1 : World} {n₀ size k K B : Nat} {e t : TypeId} {v v' : Value} {xs : List Value} {c : Array Value} {m : Nat × Nat} {tmp : Obj} (hrow : W.ownsRow n₀ e size v k xs) (hK : W.heap[K]? = some (.cells c t m)) (hte : t ≠ e)
    (hg : (W.alloc tmp).grownBy w1 v.ownBlock) (hKB : K ≠ B) : (w1.setCell ⟨B, 0, none⟩ v').heap[K]? = some (.cells c t m) := by
  have hlt := (Array.getElem?_eq_some_iff.1 hK).1
  have hne : some K ≠ v.ownBlock := by
    rcases hrow.2 with ⟨rfl, _⟩ | ⟨g, cap, cur, rfl, _, hgb, _⟩
    · simp [Value.ownBlock]
    · intro e'
      obtain rfl : K = g := by simpa [Value.ownBlock] using e'
      rw [hgb] at hK; cases hK
      exact hte rfl
  have h1 := hg.block K (by simp; omega) hne
  exact (heap_setCell_ne hKB).trans (h1.trans ((Below.heap_alloc W tmp K hlt).trans hK))
theorem row_kept {W W' : World} {base size k : Nat} {e : TypeId} {v : Value} {xs : List Value} (h : ∀ (g : Nat) (c : Array Value) (m : Nat × Nat), W.heap[g]? = some (.cells c e m) → W'.heap[g]? = some (.cells c e m)) (hr : W.ownsRow base e size v k xs) : W'.ownsRow base e size v k xs := by
  obtain ⟨h1, h2⟩ := hr
  refine ⟨h1, ?_⟩
  rcases h2 with h2 | ⟨g, cap, cur, e1, e2, e3, e4⟩
  · exact .inl h2
  · exact .inr ⟨g, cap, cur, e1, e2, h _ _ _ e3, e4⟩
theorem ints_of_row {W : World} {base k : Nat} {e : TypeId} {v : Value} {l : List Int} (h : W.ownsRow base e 1 v k (l.map (Value.int .i64))) (hk : k = l.length) : IntsV W l v := by
  subst hk
  rcases h.2 with ⟨rfl, h0⟩ | ⟨g, cap, cur, rfl, _, hg, _, _, _, ht⟩
  · exact ⟨none, 0, by rw [h0], fun hp => by omega⟩
  · refine ⟨_, _, rfl, fun _ => ⟨g, 0, rfl, (Array.getElem?_eq_some_iff.1 hg).1, fun i n hn => ?_⟩⟩
    have h1 : (cur.toList.take (l.length * 1))[i]? = some (.int .i64 n) := by rw [ht, List.getElem?_map, hn]; rfl
    have hi := (List.getElem?_eq_some_iff.1 hn).1
    rw [List.getElem?_take_of_lt (by omega)] at h1
    simpa [World.cell?, hg] using h1
theorem keeps_setRow {B g : Nat} {W : World} {c0 c : Array Value} {t : TypeId} {m : Nat × Nat} (h : W.heap[g]? = some (.cells c0 t m)) : KeepsFrom B W (W.setRow g c) :=
  ⟨by simp, fun k o _ hk ho => (setRow_other W g k c (fun e => by subst e; rw [h] at hk; cases hk; cases ho)).trans hk⟩

set_option maxRecDepth 100000 in
set_option maxHeartbeats 40000000 in
theorem turned_calls (x : Report) (a : Option Addr) (cap : Nat) (g : FuncId) (f : Int → Int × Int) (w : World) (hlen : x.times.length ≤ 1048576) (hv : IntsV w x.times (.slice a x.times.length cap)) (hf : ChgCalls g f w) (hg : ∀ args W, (callFunc g args).run Tryz.prog W = .ok (.enter g args) W) :
    Calls Tryz.prog 53 #[.agg #[.int .i64 x.bits, .slice a x.times.length cap, .int .i64 x.reason, .int .i64 x.source.scheme, .string (bs x.source.node), .string (bs x.source.service), .int .i64 x.source.a, .int .i64 x.source.b, .int .i64 x.time, .int .i64 x.seq, .bool x.part, .int .i64 x.off, .int .i64 x.len], .func (.func g) #[] #[]] w (fun e w' => ∃ a' cap', e = .returned (.tuple #[.agg #[.int .i64 (turnedR x f).bits, .slice a' (turnedR x f).times.length cap', .int .i64 (turnedR x f).reason, .int .i64 (turnedR x f).source.scheme, .string (bs (turnedR x f).source.node), .string (bs (turnedR x f).source.service), .int .i64 (turnedR x f).source.a, .int .i64 (turnedR x f).source.b, .int .i64 (turnedR x f).time, .int .i64 (turnedR x f).seq, .bool (turnedR x f).part, .int .i64 (turnedR x f).off, .int .i64 (turnedR x f).len], .bool (turnedB x f)]) ∧ IntsV w' (turnedR x f).times (.slice a' (turnedR x f).times.length cap') ∧ (∀ b, a' = some b → w.heap.size ≤ b.block) ∧ Below w.heap.size w w') := by
  have Hf := hide hf
  have Hv := hide hv
  clear hf hv
  obtain ⟨n, hn⟩ : ∃ n, n = x.times.length := ⟨_, rfl⟩
  rw [← hn]
  have Hn := hide hn
  have hn1 : n ≤ 1048576 := by rw [hn]; exact hlen
  clear hn hlen
  have Hg := hide hg
  refine (callsIn_wide (n := 0)).1 ?_
  refine callsIn_of_wp_marks Tryz.func53 rfl trivial ?_ rfl
  simp only [Tryz.ntmps53, List.size_toArray, List.length_cons, List.length_nil, Nat.reduceAdd, Nat.reduceSub, Array.replicate_succ, Array.replicate_zero, List.push_toArray, List.append_toArray, List.nil_append, List.cons_append]
  gi_wp2
  refine ⟨trivial, rfl, ?_⟩
  clear hg
  obtain ⟨W0, hW0⟩ : ∃ W0, W0 = (((w.alloc (.cells #[.int .i64 x.bits, .slice a n cap, .int .i64 x.reason, .int .i64 x.source.scheme, .string (bs x.source.node), .string (bs x.source.service), .int .i64 x.source.a, .int .i64 x.source.b, .int .i64 x.time, .int .i64 x.seq, .bool x.part, .int .i64 x.off, .int .i64 x.len] 47)).alloc (.cells zeroRep 47)).alloc (.cells #[.bool false] 4)).alloc (.cells #[.slice none 0 0] 45) := ⟨_, rfl⟩
  rw [← hW0]
  have hB0 : Below w.heap.size w W0 := by rw [hW0]; ((repeat' (first | exact Below.refl _ _ | assumption | (refine Below.drew ?_) | (refine Below.alloc ?_ ?_ _) | (refine Below.setCell ?_ ?_ _) | (refine Below.step (W := ?hW) ?hq ?_ ?_; case hq => assumption))) <;> (first | (simp; done) | (simp; omega) | (simp at *; omega)))
  have hz0 : W0.heap.size = w.heap.size + 4 := by rw [hW0]; simp
  have x0 : W0.heap[w.heap.size]? = some (.cells #[.int .i64 x.bits, .slice a n cap, .int .i64 x.reason, .int .i64 x.source.scheme, .string (bs x.source.node), .string (bs x.source.service), .int .i64 x.source.a, .int .i64 x.source.b, .int .i64 x.time, .int .i64 x.seq, .bool x.part, .int .i64 x.off, .int .i64 x.len] 47 (0, 0)) := by rw [hW0]; exact heapNew (u := w) (by ((repeat' (first | exact Below.refl _ _ | assumption | (refine Below.drew ?_) | (refine Below.alloc ?_ ?_ _) | (refine Below.setCell ?_ ?_ _) | (refine Below.step (W := ?hW) ?hq ?_ ?_; case hq => assumption))) <;> (first | (simp; done) | (simp; omega) | (simp at *; omega)))) rfl
  have r0 : W0.heap[w.heap.size + 1]? = some (.cells zeroRep 47 (0, 0)) := by rw [hW0]; exact heapNew (u := w.alloc _) (by ((repeat' (first | exact Below.refl _ _ | assumption | (refine Below.drew ?_) | (refine Below.alloc ?_ ?_ _) | (refine Below.setCell ?_ ?_ _) | (refine Below.step (W := ?hW) ?hq ?_ ?_; case hq => assumption))) <;> (first | (simp; done) | (simp; omega) | (simp at *; omega)))) (by simp)
  have b0 : W0.heap[w.heap.size + 1 + 1]? = some (.cells #[.bool false] 4 (0, 0)) := by rw [hW0]; exact heapNew (u := (w.alloc _).alloc _) (by ((repeat' (first | exact Below.refl _ _ | assumption | (refine Below.drew ?_) | (refine Below.alloc ?_ ?_ _) | (refine Below.setCell ?_ ?_ _) | (refine Below.step (W := ?hW) ?hq ?_ ?_; case hq => assumption))) <;> (first | (simp; done) | (simp; omega) | (simp at *; omega)))) (by simp)
  have o0 : W0.heap[w.heap.size + 1 + 1 + 1]? = some (.cells #[.slice none 0 0] 45 (0, 0)) := by rw [hW0]; exact heapNew (u := ((w.alloc _).alloc _).alloc _) (by ((repeat' (first | exact Below.refl _ _ | assumption | (refine Below.drew ?_) | (refine Below.alloc ?_ ?_ _) | (refine Below.setCell ?_ ?_ _) | (refine Below.step (W := ?hW) ?hq ?_ ?_; case hq => assumption))) <;> (first | (simp; done) | (simp; omega) | (simp at *; omega)))) (by simp)
  clear hW0
  refine (callsIn_wide.2 (show Calls _ _ _ _ _ from Hf.out x.time W0 ⟨hB0.size, hB0.block⟩)).mono ?_
  rintro e_ W1 ⟨rfl, hb1⟩
  obtain ⟨t1, ht1⟩ : ∃ t, t = (f x.time).1 := ⟨_, rfl⟩
  obtain ⟨t2, ht2⟩ : ∃ t, t = (f x.time).2 := ⟨_, rfl⟩
  rw [← ht1, ← ht2]
  have Ht := hide (And.intro ht1 ht2)
  clear ht1 ht2
  replace x0 := heapKept x0 hb1
  replace r0 := heapKept r0 hb1
  replace b0 := heapKept b0 hb1
  replace o0 := heapKept o0 hb1
  have hB1 := hB0.trans (hb1.mono hB0.size)
  have hz1 : w.heap.size + 4 ≤ W1.heap.size := by rw [← hz0]; exact hb1.size
  clear hb1 hB0 hz0
  gi_wp2_with (first | (apply wpListIn_load_of (ty := 47); (case hgd => exact rfl); (case ho => exact rfl); (case hx => exact rfl); (case hr => apply load_row (n := 13); (case hheap => exact x0); (case hu => exact Tryz.underlying47); (case hd => exact rfl); (case hi => kernel_rfl); (case hc => exact rfl))) | (apply wpIn_load_of (ty := 47); (case ho => exact rfl); (case hx => exact rfl); (case hr => apply load_row (n := 13); (case hheap => exact x0); (case hu => exact Tryz.underlying47); (case hd => exact rfl); (case hi => kernel_rfl); (case hc => exact rfl))))
  refine ⟨trivial, rfl, ?_⟩
  refine (callsIn_wide.2 (times_calls x a n cap g W1)).mono ?_
  rintro e_ W2 ⟨rfl, hW2⟩
  have hb2 : Below W1.heap.size W1 W2 := by rw [hW2]; ((repeat' (first | exact Below.refl _ _ | assumption | (refine Below.drew ?_) | (refine Below.alloc ?_ ?_ _) | (refine Below.setCell ?_ ?_ _) | (refine Below.step (W := ?hW) ?hq ?_ ?_; case hq => assumption))) <;> (first | (simp; done) | (simp; omega) | (simp at *; omega)))
  have hz2 : W2.heap.size = W1.heap.size + 2 := by rw [hW2]; simp
  have xD : W2.heap[W1.heap.size]? = some (.cells #[.int .i64 x.bits, .slice a n cap, .int .i64 x.reason, .int .i64 x.source.scheme, .string (bs x.source.node), .string (bs x.source.service), .int .i64 x.source.a, .int .i64 x.source.b, .int .i64 x.time, .int .i64 x.seq, .bool x.part, .int .i64 x.off, .int .i64 x.len] 47 (0, 0)) := by rw [hW2]; exact heapNew (u := W1) (by ((repeat' (first | exact Below.refl _ _ | assumption | (refine Below.drew ?_) | (refine Below.alloc ?_ ?_ _) | (refine Below.setCell ?_ ?_ _) | (refine Below.step (W := ?hW) ?hq ?_ ?_; case hq => assumption))) <;> (first | (simp; done) | (simp; omega) | (simp at *; omega)))) rfl
  have xE : W2.heap[W1.heap.size + 1]? = some (.cells #[.func (.func g) #[] #[]] 83 (0, 0)) := by rw [hW2]; exact heapNew (u := W1.alloc _) (by ((repeat' (first | exact Below.refl _ _ | assumption | (refine Below.drew ?_) | (refine Below.alloc ?_ ?_ _) | (refine Below.setCell ?_ ?_ _) | (refine Below.step (W := ?hW) ?hq ?_ ?_; case hq => assumption))) <;> (first | (simp; done) | (simp; omega) | (simp at *; omega)))) (by simp)
  clear hW2
  replace x0 := heapKept x0 hb2
  replace r0 := heapKept r0 hb2
  replace b0 := heapKept b0 hb2
  replace o0 := heapKept o0 hb2
  have hB2 := hB1.trans (hb2.mono hB1.size)
  clear hB1 hb2
  obtain ⟨D, hD⟩ : ∃ D, D = W1.heap.size := ⟨_, rfl⟩
  rw [← hD] at xD xE hz2 hz1 ⊢
  clear hD
  have hlb : ∀ k, (k < w.heap.size ∨ k = D ∨ k = D + 1) → k < W2.heap.size := fun k hk => by omega
  have Hit : Iter Tryz.prog 187 #[.pointer (some ⟨D, 0, none⟩), .pointer (some ⟨D + 1, 0, none⟩)] (fun y => #[.int .i64 y.1, .bool y.2]) (timesL x.times f) (fun k => k < w.heap.size ∨ k = D ∨ k = D + 1) (fun _ => False) W2 :=
    timesIter x.times g f D (D + 1) a cap _ W2 (by rw [← Hn.out]; omega) (by rw [← Hn.out]; exact cellsOf xD 1) (cellsOf xE 0) (.inr (.inl rfl)) (.inr (.inr rfl))
      (fun h0 => by
        obtain ⟨a', cap', e, hat⟩ := Hv.out
        cases e
        obtain ⟨b, o, rfl, h⟩ := hat h0
        exact ⟨b, o, rfl, .inl h.1, h.mono hB2 h.1⟩)
      hlb Hg.out (fun W hW m => callsIn_wide.2 (Hf.out m W ((Keep.of_below hB2 (fun _ h => h)).trans (hW.mono fun k h => .inl h))))
  have Hit := hide Hit
  gi_wp2
  refine wp_range (gf := 187) (lb := #[.pointer (some ⟨D, 0, none⟩), .pointer (some ⟨D + 1, 0, none⟩)]) rfl (enters_of Tryz.func187 (by kernel_rfl) rfl) Hit.out (fun _ => rfl) hlb (fun _ h => h.elim)
    (fun i W => (∃ v, Boxed W (w.heap.size + 1 + 1 + 1) 45 v ∧ W.ownsRow w.heap.size 3 1 v i ((x.times.take i).map fun m => Value.int .i64 (f m).1)) ∧ (∀ (j : Nat) (m : Int), j < i → x.times[j]? = some m → ((f m).2 == 0) = true) ∧
      W.heap[D]? = some (.cells #[.int .i64 x.bits, .slice a n cap, .int .i64 x.reason, .int .i64 x.source.scheme, .string (bs x.source.node), .string (bs x.source.service), .int .i64 x.source.a, .int .i64 x.source.b, .int .i64 x.time, .int .i64 x.seq, .bool x.part, .int .i64 x.off, .int .i64 x.len] 47 (0, 0)) ∧ W.heap[D + 1]? = some (.cells #[.func (.func g) #[] #[]] 83 (0, 0)) ∧
      W.heap[w.heap.size]? = some (.cells #[.int .i64 x.bits, .slice a n cap, .int .i64 x.reason, .int .i64 x.source.scheme, .string (bs x.source.node), .string (bs x.source.service), .int .i64 x.source.a, .int .i64 x.source.b, .int .i64 x.time, .int .i64 x.seq, .bool x.part, .int .i64 x.off, .int .i64 x.len] 47 (0, 0)) ∧ W.heap[w.heap.size + 1]? = some (.cells zeroRep 47 (0, 0)) ∧ W.heap[w.heap.size + 1 + 1]? = some (.cells #[.bool false] 4 (0, 0)) ∧ Below w.heap.size w W)
    (fun c W => c = .ret ∧ (∃ (j : Nat) (m : Int), x.times[j]? = some m ∧ ((f m).2 == 0) = false) ∧ W.heap[w.heap.size + 1]? = some (.cells zeroRep 47 (0, 0)) ∧ W.heap[w.heap.size + 1 + 1]? = some (.cells #[.bool false] 4 (0, 0)) ∧ Below w.heap.size w W)
    (fun i A B h hs => by
      obtain ⟨⟨v, h1, h2⟩, h3, h8, h9, h4, h5, h6, h7⟩ := h
      exact ⟨⟨v, hs.heap h1, hs.row h2⟩, h3, hs.heap h8, hs.heap h9, hs.heap h4, hs.heap h5, hs.heap h6, hs.below h7 (by omega) h7.size (fun _ h => h.elim)⟩)
    (fun c A B h hs => ⟨h.1, h.2.1, hs.heap h.2.2.1, hs.heap h.2.2.2.1, hs.below h.2.2.2.2 (by omega) h.2.2.2.2.size (fun _ h => h.elim)⟩)
    ⟨⟨_, o0, World.ownsRow_nil _ _ _ _⟩, fun j m h => absurd h (Nat.not_lt_zero _), xD, xE, x0, r0, b0, hB2⟩ ?round ?done ?stop
  case round =>
    intro l i y W hl hy hi hrec
    obtain ⟨⟨v, hv, hrow⟩, hok, hxD, hxE, hx, hr, hb, hBW⟩ := hi
    have hW : W2.heap.size < W.heap.size := by obtain ⟨r, hr⟩ := hrec; have := (Array.getElem?_eq_some_iff.1 hr).1; omega
    obtain ⟨m, hm, rfl⟩ : ∃ m, x.times[i]? = some m ∧ y = ((f m).1, (f m).2 == 0) := by
      simp only [timesL, List.getElem?_map, Option.map_eq_some_iff] at hy
      obtain ⟨m, h1, h2⟩ := hy
      exact ⟨m, h1, h2.symm⟩
    have hin : i < n := by rw [Hn.out]; exact (List.getElem?_eq_some_iff.1 hm).1
    obtain ⟨q, hq⟩ : ∃ q, q = ((f m).2 == 0) := ⟨_, rfl⟩
    obtain ⟨u, hu⟩ : ∃ u, u = (f m).1 := ⟨_, rfl⟩
    rw [← hq, ← hu]
    have Hm := hide (And.intro hm (And.intro hq hu))
    have Hok := hide hok
    clear hm hq hu hy Hit hrec hok
    gi_wp2
    refine ⟨KeepsFrom.refl _ _, Keep.refl _ _, fun W₂ hs hk hkr hsz hc hf => ?_⟩
    have hBW2 : Below w.heap.size w W₂ := hs.below hBW (by omega) hBW.size (fun _ h => h.elim)
    replace hv : Boxed W₂ (w.heap.size + 1 + 1 + 1) 45 v := hs.heap hv
    replace hrow := hs.row hrow
    replace hxD := hs.heap hxD
    replace hxE := hs.heap hxE
    replace hx := hs.heap hx
    replace hr := hs.heap hr
    replace hb := hs.heap hb
    have hsW : W2.heap.size < W₂.heap.size := by omega
    clear hs hk hkr hc hf hsz hBW hl hW
    cases q
    · have b1 : (W₂.setRow (w.heap.size + 1) zeroRep).heap[w.heap.size + 1 + 1]? = some (.cells #[.bool false] 4 (0, 0)) := (setRow_other _ _ _ _ (by omega)).trans hb
      have c1 := cellsOf b1 0
      simp only [List.getElem?_toArray, List.getElem?_cons_zero] at c1
      have f1 : (W₂.setRow (w.heap.size + 1) zeroRep).frozen? ⟨w.heap.size + 1 + 1, 0, none⟩ = false := by simp [World.frozen?, b1]
      gi_wp2_with (apply wpListIn_store_at (ty := 47) (n := 13); (case hgd => exact rfl); (case ho => exact rfl); (case hd => exact rfl); (case hx => exact rfl); (case hheap => exact hr); (case hy => exact rfl); (case hi => kernel_rfl); (case hn0 => exact rfl); (case hn => exact rfl); (case h1 => first | exact rfl | assumption | (simp [Value.oneCell', *]; done) | (simp [*]; done)))
      refine ⟨(keeps_setRow hr).trans ((KeepsOthers.setCell _ _ _).from _), rfl, ⟨i, m, Hm.out.1, Hm.out.2.1.symm⟩, ?_, ?_, ?_⟩
      · exact (heap_setCell_ne (by omega)).trans (setRow_heap _ _ _ _ _ _ hr)
      · exact heap_setCell_same b1
      · exact (below_setRow hBW2 (by omega) _).setCell (p := ⟨w.heap.size + 1 + 1, 0, none⟩) (by show w.heap.size ≤ w.heap.size + 1 + 1; omega) _
    · obtain ⟨i0, hi0, hzz0, hzz1, hzz2⟩ := info_parts infoInt
      have hc := hv.cell
      gi_wp2_with (gi_at_builtin; refine wpListIn_append_own _ rfl _ _ 45 rfl w.heap.size 3 i0 (.int .i64 0) 1 8 Tryz.underlying45 hi0 hzz0 hzz1 hzz2 rfl (by decide) _ _ _ rfl (hrow.alloc _) ⟨W₂.heap.size, 0, none⟩ 1 1 [.int .i64 u] rfl rfl (cell_one_new _ _ _) (by simp [Value.oneCell']) (by unfold maxLen; omega) (by omega) (by have := hBW2.size; simp; omega) ?_; intro v' w1 hown' hgrow _; obtain ⟨g', cap', rfl⟩ := ownsRow_succ hown'; obtain ⟨hv1, hv2, hr2, hk2, hb2⟩ := hv.appended (by decide) hrow hBW2.size (by omega) hown' hgrow; have hc1 := hv1.cell; have hf1 := hv1.frozen)
      refine ⟨hk2.from _, ⟨hb2.size, fun k hk => ?_⟩, ⟨_, hv2, ?_⟩, fun j m' hj hm' => ?_, row_apart hrow hxD (by decide) hgrow (by omega), row_apart hrow hxE (by decide) hgrow (by omega), row_apart hrow hx (by decide) hgrow (by omega), row_apart hrow hr (by decide) hgrow (by omega), row_apart hrow hb (by decide) hgrow (by omega), hBW2.trans hb2⟩
      · rcases hk with hk | rfl | rfl
        · exact hb2.block k hk
        · exact (row_apart hrow hxD (by decide) hgrow (by omega)).trans hxD.symm
        · exact (row_apart hrow hxE (by decide) hgrow (by omega)).trans hxE.symm
      · rw [List.take_add_one, Hm.out.1, List.map_append]
        simp only [Option.toList, List.map_cons, List.map_nil, ← Hm.out.2.2]
        exact hr2
      · rcases Nat.lt_succ_iff_lt_or_eq.1 hj with h | rfl
        · exact Hok.out j m' h hm'
        · rw [Hm.out.1] at hm'; cases hm'
          exact Hm.out.2.1.symm
  case done =>
    rintro E W hE ⟨⟨v, hv, hrow⟩, hok, hxD, hxE, hx, hr, hb, hBW⟩ hK
    have hlen : (timesL x.times f).length = n := by rw [timesL, List.length_map, ← Hn.out]
    rw [hlen] at hrow hok
    clear Hit hxD hxE hlen
    rw [show x.times.take n = x.times by rw [Hn.out, List.take_length]] at hrow
    have Hrow := hide hrow
    have Hok := hide (show turnedOk x f = true by
      rw [turnedOk, List.all_eq_true]
      intro m hm
      obtain ⟨j, hj⟩ := List.getElem?_of_mem hm
      exact hok j m (by rw [Hn.out]; exact (List.getElem?_eq_some_iff.1 hj).1) hj)
    obtain ⟨a', cap', hva⟩ : ∃ a' cap', v = .slice a' n cap' := by
      rcases hrow.2 with ⟨h1, h2⟩ | ⟨g, cap, cur, h1, _⟩
      · exact ⟨none, 0, by rw [h1, h2]⟩
      · exact ⟨_, _, h1⟩
    subst hva
    clear hok hrow
    have co := hv.cell
    have c1 := cellsOf hx 1
    have c8 := cellsOf hx 8
    simp only [List.getElem?_toArray, List.getElem?_cons_succ, List.getElem?_cons_zero] at c1 c8
    have f1 : W.frozen? ⟨w.heap.size, 1, none⟩ = false := by simp [World.frozen?, hx]
    have f8 : (W.setCell ⟨w.heap.size, 1, none⟩ (.slice a' n cap')).frozen? ⟨w.heap.size, 8, none⟩ = false := by rw [World.frozen?_setCell]; simp [World.frozen?, hx]
    have hx2 : ((W.setCell ⟨w.heap.size, 1, none⟩ (.slice a' n cap')).setCell ⟨w.heap.size, 8, none⟩ (.int .i64 t1)).heap[w.heap.size]? = some (.cells #[.int .i64 x.bits, .slice a' n cap', .int .i64 x.reason, .int .i64 x.source.scheme, .string (bs x.source.node), .string (bs x.source.service), .int .i64 x.source.a, .int .i64 x.source.b, .int .i64 t1, .int .i64 x.seq, .bool x.part, .int .i64 x.off, .int .i64 x.len] 47 (0, 0)) := heap_setCell_same (heap_setCell_same hx)
    have hr2 : ((W.setCell ⟨w.heap.size, 1, none⟩ (.slice a' n cap')).setCell ⟨w.heap.size, 8, none⟩ (.int .i64 t1)).heap[w.heap.size + 1]? = some (.cells zeroRep 47 (0, 0)) := (heap_setCell_ne (by omega)).trans ((heap_setCell_ne (by omega)).trans hr)
    have hb2 : ((W.setCell ⟨w.heap.size, 1, none⟩ (.slice a' n cap')).setCell ⟨w.heap.size, 8, none⟩ (.int .i64 t1)).heap[w.heap.size + 1 + 1]? = some (.cells #[.bool false] 4 (0, 0)) := (heap_setCell_ne (by omega)).trans ((heap_setCell_ne (by omega)).trans hb)
    have hb3 : (((W.setCell ⟨w.heap.size, 1, none⟩ (.slice a' n cap')).setCell ⟨w.heap.size, 8, none⟩ (.int .i64 t1)).setRow (w.heap.size + 1) #[.int .i64 x.bits, .slice a' n cap', .int .i64 x.reason, .int .i64 x.source.scheme, .string (bs x.source.node), .string (bs x.source.service), .int .i64 x.source.a, .int .i64 x.source.b, .int .i64 t1, .int .i64 x.seq, .bool x.part, .int .i64 x.off, .int .i64 x.len]).heap[w.heap.size + 1 + 1]? = some (.cells #[.bool false] 4 (0, 0)) := (setRow_other _ _ _ _ (by omega)).trans hb2
    have cb := cellsOf hb3 0
    simp only [List.getElem?_toArray, List.getElem?_cons_zero] at cb
    have fb : (((W.setCell ⟨w.heap.size, 1, none⟩ (.slice a' n cap')).setCell ⟨w.heap.size, 8, none⟩ (.int .i64 t1)).setRow (w.heap.size + 1) #[.int .i64 x.bits, .slice a' n cap', .int .i64 x.reason, .int .i64 x.source.scheme, .string (bs x.source.node), .string (bs x.source.service), .int .i64 x.source.a, .int .i64 x.source.b, .int .i64 t1, .int .i64 x.seq, .bool x.part, .int .i64 x.off, .int .i64 x.len]).frozen? ⟨w.heap.size + 1 + 1, 0, none⟩ = false := by simp [World.frozen?, hb3]
    gi_wp2_with (first | (apply wpListIn_store_at (ty := 47) (n := 13); (case hgd => exact rfl); (case ho => exact rfl); (case hd => exact rfl); (case hx => exact rfl); (case hheap => exact hr2); (case hy => exact rfl); (case hi => kernel_rfl); (case hn0 => exact rfl); (case hn => exact rfl); (case h1 => first | exact rfl | assumption | (simp [Value.oneCell', *]; done) | (simp [*]; done))) | (first | (apply wpListIn_load_of (ty := 47); (case hgd => exact rfl); (case ho => exact rfl); (case hx => exact rfl); (case hr => apply load_row (n := 13); (case hheap => exact hx2); (case hu => exact Tryz.underlying47); (case hd => exact rfl); (case hi => kernel_rfl); (case hc => exact rfl))) | (apply wpIn_load_of (ty := 47); (case ho => exact rfl); (case hx => exact rfl); (case hr => apply load_row (n := 13); (case hheap => exact hx2); (case hu => exact Tryz.underlying47); (case hd => exact rfl); (case hi => kernel_rfl); (case hc => exact rfl)))))
    have hsE : w.heap.size + 1 + 1 < E := by omega
    have kK := (((KeepsOthers.setCell W _ _).from W2.heap.size).trans (((KeepsOthers.setCell _ _ _).from _).trans ((keeps_setRow (c := #[.int .i64 x.bits, .slice a' n cap', .int .i64 x.reason, .int .i64 x.source.scheme, .string (bs x.source.node), .string (bs x.source.service), .int .i64 x.source.a, .int .i64 x.source.b, .int .i64 t1, .int .i64 x.seq, .bool x.part, .int .i64 x.off, .int .i64 x.len]) hr2).trans ((KeepsOthers.setCell _ ⟨w.heap.size + 1 + 1, 0, none⟩ (.bool (t2 == 0))).from _)))).same E _ hE hK rfl
    have e1 : turnedR x f = { x with times := x.times.map fun n => (f n).1, time := (f x.time).1 } := by rw [turnedR, if_pos Hok.out]
    have e2 : turnedB x f = (t2 == 0) := by rw [turnedB, Hok.out, Ht.out.2]; rfl
    refine ⟨by simp, .inl ⟨_, _, rfl, run_takeDeferred kK, ?_⟩⟩
    refine ⟨_, results_cells2 rfl rfl rfl (load_row (n := 13) (hheap := (World.putObj_heap_other (by omega)).trans ((heap_setCell_ne (by omega)).trans (setRow_heap _ _ _ _ _ _ hr2))) (hu := Tryz.underlying47) (hd := rfl) (hi := by kernel_rfl) (hc := rfl))
      (load_plain Tryz.underlying4 rfl (v := .bool (t2 == 0)) ?_), a', cap', ?_, ?_, ?_, ?_⟩
    · rw [cell_putObj kK rfl rfl]
      exact World.cell?_setCell_same' _ _ _ (by rw [cb]; rfl)
    · rw [e1, e2, Ht.out.1]
      simp [Hn.out]
    · rw [e1]
      have := row_kept (W' := ((((W.setCell ⟨w.heap.size, 1, none⟩ (.slice a' n cap')).setCell ⟨w.heap.size, 8, none⟩ (.int .i64 t1)).setRow (w.heap.size + 1) #[.int .i64 x.bits, .slice a' n cap', .int .i64 x.reason, .int .i64 x.source.scheme, .string (bs x.source.node), .string (bs x.source.service), .int .i64 x.source.a, .int .i64 x.source.b, .int .i64 t1, .int .i64 x.seq, .bool x.part, .int .i64 x.off, .int .i64 x.len]).setCell ⟨w.heap.size + 1 + 1, 0, none⟩ (.bool (t2 == 0))).putObj E (.deferred none)) (fun g c m hg => by
        have g0 : g ≠ w.heap.size := by rintro rfl; rw [hx] at hg; cases hg
        have g1 : g ≠ w.heap.size + 1 := by rintro rfl; rw [hr] at hg; cases hg
        have g2 : g ≠ w.heap.size + 1 + 1 := by rintro rfl; rw [hb] at hg; cases hg
        have g3 : g ≠ E := by rintro rfl; rw [hK] at hg; cases hg
        rw [World.putObj_heap_other g3, heap_setCell_ne g2, setRow_other _ _ _ _ g1, heap_setCell_ne g0, heap_setCell_ne g0]
        exact hg) Hrow.out
      have hi := ints_of_row (l := x.times.map fun n => (f n).1) (by rw [List.map_map]; exact this) (by rw [List.length_map, Hn.out])
      simpa [Hn.out] using hi
    · rintro b rfl
      rcases Hrow.out.2 with ⟨h, _⟩ | ⟨g, cap, cur, h, hb, _⟩
      · cases h
      · cases h; exact hb
    · exact below_putObj ((below_setRow ((hBW.setCell (p := ⟨w.heap.size, 1, none⟩) (Nat.le_refl _) _).setCell (p := ⟨w.heap.size, 8, none⟩) (Nat.le_refl _) _) (by omega) _).setCell (p := ⟨w.heap.size + 1 + 1, 0, none⟩) (by show w.heap.size ≤ w.heap.size + 1 + 1; omega) _) (by omega) _
  case stop =>
    rintro E c W hE ⟨rfl, ⟨j, m, hm, hbad⟩, hr, hb, hBW⟩ hK
    clear Hit
    gi_wp2
    have h0 : turnedOk x f = false := by
      rw [turnedOk, List.all_eq_false]
      exact ⟨m, List.mem_of_getElem? hm, by rw [hbad]; simp⟩
    have e1 : turnedR x f = zeroReport := by rw [turnedR, h0]; rfl
    have e2 : turnedB x f = false := by rw [turnedB, h0]; rfl
    refine ⟨by simp, .inl ⟨_, _, rfl, run_takeDeferred hK, ?_⟩⟩
    refine ⟨_, results_cells2 rfl rfl rfl (load_row (n := 13) (hheap := (World.putObj_heap_other (by omega)).trans hr) (hu := Tryz.underlying47) (hd := rfl) (hi := by kernel_rfl) (hc := rfl))
      (load_plain Tryz.underlying4 rfl (v := .bool false) ?_), none, 0, ?_, ?_, ?_, ?_⟩
    · rw [cell_putObj hK rfl rfl]
      have cb := cellsOf hb 0
      exact cb
    · rw [e1, e2]; rfl
    · rw [e1]; exact ⟨none, 0, rfl, fun h => absurd h (Nat.not_lt_zero _)⟩
    · rintro b ⟨⟩
    · exact below_putObj hBW (by omega) _
end Go.Proofs.YtllfaffbaijgfaaGreatDoor
