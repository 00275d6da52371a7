/- item.isOne. item.Right. -/
import Derived.Test.YtllfaffbaijgfaaGreatDoorJ22
import Derived.Test.YtllfaffbaijgfaaGreatDoorJ04
import Derived.Test.YtllfaffbaijgfaaGreatDoorJ20
import Derived.Test.YtllfaffbaijgfaaGreatDoorJ23
set_option linter.unusedVariables false
set_option linter.unusedSimpArgs false
namespace Go.Proofs.YtllfaffbaijgfaaGreatDoor
open Go Go.RowKit Go.Shelf

def textR (s : List UInt8) : Bool := s.all fun c => decide (32 ≤ c.toNat) && decide (c.toNat ≤ 126)
def oneR (k n : Int) (s : List UInt8) (l : Nat) : Bool :=
  if k = 0 then numR n && decide (s = []) && decide (l = 0)
  else if k = 2 ∨ k = 3 then decide (n = 0) && decide (s.length ≤ 600) && decide (l = 0) && (decide (k = 2) || textR s)
  else if k = 4 then decide (n = 0) && decide (s = [])
  else false

theorem int_nat0 (l : Nat) : ((l : Int) == 0) = decide (l = 0) := by
  by_cases h : l = 0
  · subst h; rfl
  · have : (l : Int) ≠ 0 := by omega
    simp [h]

set_option maxRecDepth 100000 in
set_option maxHeartbeats 4000000 in
theorem isOne_calls (k n : Int) (s : List UInt8) (a : Option Addr) (l cap : Nat) (w : World) (hs : s.length ≤ 9000000000000000000) (hl : l ≤ 9000000000000000000) (hT : k = 3 → ∀ W, Calls Tryz.prog 326 #[.string (bs s)] W (Rt W (.bool (textR s)))) :
    Calls Tryz.prog 296 #[.agg #[.int .i64 k, .int .i64 n, .string (bs s), .slice a l cap]] w (Rt w (.bool (oneR k n s l))) := by
  obtain ⟨z, hz⟩ : ∃ z, z = oneR k n s l := ⟨_, rfl⟩
  rw [← hz]
  obtain ⟨w0, hw0⟩ : ∃ w0, w0 = w.alloc (.cells #[.int .i64 k, .int .i64 n, .string (bs s), .slice a l cap] 133) := ⟨_, rfl⟩
  have hB : Below w.heap.size w w0 := by rw [hw0]; ((repeat' (first | exact Below.refl _ _ | assumption | (refine Below.drew ?_) | (refine Below.alloc ?_ ?_ _) | (refine Below.setCell ?_ ?_ _) | (refine Below.step (W := ?hW) ?hq ?_ ?_; case hq => assumption))) <;> (first | (simp; done) | (simp; omega) | (simp at *; omega)))
  have hx : w0.heap[w.heap.size]? = some (.cells #[.int .i64 k, .int .i64 n, .string (bs s), .slice a l cap] 133 (0, 0)) := by rw [hw0]; exact World.alloc_heap_new w _
  have k0 := cellsOf hx 0
  simp only [List.getElem?_toArray, List.getElem?_cons_succ, List.getElem?_cons_zero] at k0
  have k1 := cellsOf hx 1
  simp only [List.getElem?_toArray, List.getElem?_cons_succ, List.getElem?_cons_zero] at k1
  have k2 := cellsOf hx 2
  simp only [List.getElem?_toArray, List.getElem?_cons_succ, List.getElem?_cons_zero] at k2
  have k3 := cellsOf hx 3
  simp only [List.getElem?_toArray, List.getElem?_cons_succ, List.getElem?_cons_zero] at k3
  have hsz : (bs s).size = s.length := bs_size s
  have HT := hide hT
  have hnil : ((bs s).toList = []) = (s = []) := propext toList_nil
  clear hx hT
  by_cases h0 : k = 0
  · subst h0
    have hz1 : z = (numR n && decide (s = []) && decide (l = 0)) := by rw [hz, oneR, if_pos rfl]
    have Hz := hide hz1
    clear hz hz1
    obtain ⟨u, hu⟩ : ∃ u, u = numR n := ⟨_, rfl⟩
    have hN := fun W => numR_calls n W
    rw [← hu] at hN
    replace hN := hide hN
    have Hu := hide hu
    clear hu
    go_enter Tryz.func296, Tryz.ntmps296
    cases u
    all_goals (go_upto_region 1 with fail)
    all_goals rw [← hw0]
    all_goals clear hw0
    all_goals go_wp2_with (go_at_call 73; refine (hN.out _).mono ?_; rintro e_ w_ ⟨rfl, rfl⟩)
    all_goals go_ret
    all_goals refine ⟨?_, hB⟩
    all_goals rw [Hz.out, ← Hu.out]
    all_goals have he0 : ((l : Int) == 0) = decide (l = 0) := int_nat0 l
    all_goals first | rfl | (simp [*]; done) | (simp_all; done)
  by_cases h2 : k = 2
  · subst h2
    have hz1 : z = (decide (n = 0) && decide (s.length ≤ 600) && decide (l = 0)) := by rw [hz, oneR, if_neg (by decide), if_pos (.inl rfl)]; simp
    have Hz := hide hz1
    clear hz hz1
    go_enter Tryz.func296, Tryz.ntmps296
    go_upto_region 1 with fail
    rw [← hw0]
    clear hw0
    go_wp2_with fail
    all_goals go_ret
    all_goals refine ⟨?_, hB⟩
    all_goals rw [Hz.out]
    all_goals have he0 : ((l : Int) == 0) = decide (l = 0) := int_nat0 l
    all_goals first | rfl | (simp [*]; done) | (simp_all; done) | (simp_all; omega)
  by_cases h3 : k = 3
  · have hT := HT.out h3
    subst h3
    obtain ⟨u, hu⟩ : ∃ u, u = textR s := ⟨_, rfl⟩
    rw [← hu] at hT
    have hz1 : z = (decide (n = 0) && decide (s.length ≤ 600) && decide (l = 0) && u) := by rw [hz, oneR, if_neg (by decide), if_pos (.inr rfl), hu]; simp
    have Hz := hide hz1
    have HT2 := hide hT
    clear hz hz1 hT hu
    go_enter Tryz.func296, Tryz.ntmps296
    cases u
    all_goals (go_upto_region 1 with fail)
    all_goals rw [← hw0]
    all_goals clear hw0
    all_goals go_wp2_with fail
    all_goals have he0 : ((l : Int) == 0) = decide (l = 0) := int_nat0 l
    all_goals first
      | (refine (show Calls _ _ _ _ _ from HT2.out _).mono ?_
         rintro e_ w_ ⟨rfl, hb_⟩
         have hB2 := hB.trans (hb_.mono hB.size)
         clear hb_
         go_wp2_with fail
         go_ret
         refine ⟨?_, hB2⟩
         rw [Hz.out]
         first | rfl | (simp [*]; done) | (simp_all; done) | (simp_all; omega))
      | (go_ret
         refine ⟨?_, hB⟩
         rw [Hz.out]
         first | rfl | (simp [*]; done) | (simp_all; done) | (simp_all; omega))
  by_cases h4 : k = 4
  · subst h4
    have hz1 : z = (decide (n = 0) && decide (s = [])) := by rw [hz, oneR, if_neg (by decide), if_neg (by decide), if_pos rfl]
    have Hz := hide hz1
    clear hz hz1
    go_enter Tryz.func296, Tryz.ntmps296
    go_upto_region 1 with fail
    rw [← hw0]
    clear hw0
    go_wp2_with fail
    all_goals go_ret
    all_goals refine ⟨?_, hB⟩
    all_goals rw [Hz.out]
    all_goals have he1 : (bs s).toList.isEmpty = decide (s = []) := toList_isEmpty s
    all_goals first | rfl | (simp [*]; done) | (simp_all; done)
  · have hz1 : z = false := by rw [hz, oneR, if_neg h0, if_neg (by omega), if_neg h4]
    have Hz := hide hz1
    clear hz hz1
    go_enter Tryz.func296, Tryz.ntmps296
    go_upto_region 1 with fail
    rw [← hw0]
    clear hw0
    go_wp2_with fail
    all_goals go_ret
    all_goals exact ⟨by rw [Hz.out]; rfl, hB⟩
end Go.Proofs.YtllfaffbaijgfaaGreatDoor

namespace Go.Proofs.YtllfaffbaijgfaaGreatDoor
open Go Go.RowKit Go.Shelf
attribute [local go_sem] Oper.semAt_some

theorem preT_at {R : Nat → Prop} {w : World} {x : Itv} (h : ItvAt R w x) : ∀ (d : Nat) (p : Nat × Itv), p ∈ preT d x → ItvAt R w p.2 := by
  induction h with
  | mk k n s a cap l h hs ih =>
    intro d p hp
    rw [preT_eq, preL_flat] at hp
    rcases List.mem_cons.1 hp with rfl | hp
    · exact .mk k n s a cap l h hs
    · obtain ⟨y, hy, hp⟩ := List.mem_flatMap.1 hp
      exact ih y hy _ p hp
mutual
theorem preT_length : ∀ (d : Nat) (x : Itv), (preT d x).length = x.count
  | d, .mk k n s v l => by rw [preT, Itv.count, List.length_cons, preL_length (d + 1) l]; omega
theorem preL_length : ∀ (d : Nat) (l : List Itv), (preL d l).length = countL l
  | d, [] => by rw [preL, countL]; rfl
  | d, x :: r => by rw [preL, countL, List.length_append, preT_length d x, preL_length d r]
end

def itR (i : Nat) (p : Nat × Itv) : Bool := decide (i + 1 ≤ 60) && decide (p.1 ≤ 6) && oneR p.2.kind p.2.n p.2.s p.2.l.length
def rightI (x : Itv) : Bool := ((preT 1 x).mapIdx itR).all id
theorem rightI_false {x : Itv} {i : Nat} {p : Nat × Itv} (h : (preT 1 x)[i]? = some p) (hb : itR i p = false) : rightI x = false := by
  unfold rightI
  rw [List.all_eq_false]
  exact ⟨itR i p, List.mem_of_getElem? (i := i) (by simp [List.getElem?_mapIdx, h]), by simp [hb]⟩
theorem rightI_true {x : Itv} (h : ∀ i p, i < (preT 1 x).length → (preT 1 x)[i]? = some p → itR i p = true) : rightI x = true := by
  unfold rightI
  rw [List.all_eq_true]
  intro y hy
  obtain ⟨i, hi⟩ := List.mem_iff_getElem?.1 hy
  rw [List.getElem?_mapIdx, Option.map_eq_some_iff] at hi
  obtain ⟨p, hp, rfl⟩ := hi
  exact h i p (List.getElem?_eq_some_iff.1 hp).1 hp

theorem items_calls (x : Itv) (w : World) (hone : x.v.oneCell' = true) : Calls Tryz.prog 229 #[.agg (itC x)] w (fun e w' => e = .returned (.func (.func 297) #[] #[.pointer (some ⟨w.heap.size, 0, none⟩)]) ∧ w' = w.alloc (.cells (itC x) 133)) := by
  have hst := fun (a : Addr) (w : World) => run_store Tryz.prog w a x.v .plain hone
  go_enter Tryz.func229, Tryz.ntmps229
  go_wp2_with (apply wpList_store_new (ty := 133) (n := 4); (case hgd => exact rfl); (case ho => exact rfl); (case hd => exact rfl); (case hx => exact rfl); (case hw => exact rfl); (case hg => first | exact rfl | (simp; done)); (case hy => exact rfl); (case hi => kernel_rfl); (case hn0 => exact rfl); (case hn => exact rfl); (case h1 => first | exact rfl | assumption | (simp [Value.oneCell', *]; done) | (simp [*]; done)))
  go_ret
  exact ⟨rfl, rfl⟩

/-- the numbers fit, and the texts -/
structure ItFit (x : Itv) : Prop where
  cnt : x.count ≤ 900000
  str : ∀ p ∈ preT 1 x, p.2.s.length ≤ 9000000000000000000
  len : ∀ p ∈ preT 1 x, p.2.l.length ≤ 900000

set_option maxRecDepth 100000 in
set_option maxHeartbeats 4000000 in
theorem itemRight_calls (x : Itv) (w : World) (hat : ItvAt (fun k => k < w.heap.size) w x) (hfit : ItFit x) (hT : ∀ p ∈ preT 1 x, p.2.kind = 3 → ∀ W, Calls Tryz.prog 326 #[.string (bs p.2.s)] W (Rt W (.bool (textR p.2.s)))) :
    Calls Tryz.prog 228 #[.agg (itC x)] w (Rt w (.bool (rightI x))) := by
  obtain ⟨z, hz⟩ : ∃ z, z = rightI x := ⟨_, rfl⟩
  rw [← hz]
  have Hz := hide hz
  clear hz
  have hone := hat.oneCell
  have Hat := hide hat
  have Hfit := hide hfit
  have HT := hide hT
  clear hat hfit hT
  have hst := fun (a : Addr) (w : World) => run_store Tryz.prog w a x.v .plain hone
  refine (callsIn_wide (n := 0)).1 ?_
  refine callsIn_of_wp_marks Tryz.func228 rfl trivial ?_ rfl
  simp only [Tryz.ntmps228, List.size_toArray, List.length_cons, List.length_nil, Nat.reduceAdd, Nat.reduceSub, Array.replicate_succ, Array.replicate_zero, List.push_toArray, List.append_toArray, List.nil_append, List.cons_append]
  gi_wp2_with (first | (apply wpListIn_load_of (ty := 133); (case hgd => exact rfl); (case ho => exact rfl); (case hx => exact rfl); (case hr => apply load_row (n := 4); (case hheap => apply heapNew (u := w); (case hbel => ((repeat' (first | exact Below.refl _ _ | assumption | (refine Below.drew ?_) | (refine Below.alloc ?_ ?_ _) | (refine Below.setCell ?_ ?_ _) | (refine Below.step (W := ?hW) ?hq ?_ ?_; case hq => assumption))) <;> (first | (simp; done) | (simp; omega) | (simp at *; omega)))); (case hnew => exact rfl)); (case hu => exact Tryz.underlying133); (case hd => exact rfl); (case hi => kernel_rfl); (case hc => exact rfl))) | (apply wpIn_load_of (ty := 133); (case ho => exact rfl); (case hx => exact rfl); (case hr => apply load_row (n := 4); (case hheap => apply heapNew (u := w); (case hbel => ((repeat' (first | exact Below.refl _ _ | assumption | (refine Below.drew ?_) | (refine Below.alloc ?_ ?_ _) | (refine Below.setCell ?_ ?_ _) | (refine Below.step (W := ?hW) ?hq ?_ ?_; case hq => assumption))) <;> (first | (simp; done) | (simp; omega) | (simp at *; omega)))); (case hnew => exact rfl)); (case hu => exact Tryz.underlying133); (case hd => exact rfl); (case hi => kernel_rfl); (case hc => exact rfl))))
  refine ⟨trivial, rfl, ?_⟩
  refine (callsIn_wide.2 (items_calls x _ hone)).mono ?_
  rintro e_ w_ ⟨rfl, hw_⟩
  obtain ⟨W0, hW0⟩ : ∃ W0, ((w.alloc (.cells (itC x) 133)).alloc (.cells #[.bool false] 4)).alloc (.cells #[.int .i64 0] 3) = W0 := ⟨_, rfl⟩
  simp only [hW0] at hw_ ⊢
  have hB0 : Below w.heap.size w W0 := by rw [← hW0]; ((repeat' (first | exact Below.refl _ _ | assumption | (refine Below.drew ?_) | (refine Below.alloc ?_ ?_ _) | (refine Below.setCell ?_ ?_ _) | (refine Below.step (W := ?hW) ?hq ?_ ?_; case hq => assumption))) <;> (first | (simp; done) | (simp; omega) | (simp at *; omega)))
  have hz0 : W0.heap.size = w.heap.size + 3 := by rw [← hW0]; simp
  have r0 : W0.heap[w.heap.size + 1]? = some (.cells #[.bool false] 4 (0, 0)) := by rw [← hW0]; exact heapNew (u := w.alloc _) (by ((repeat' (first | exact Below.refl _ _ | assumption | (refine Below.drew ?_) | (refine Below.alloc ?_ ?_ _) | (refine Below.setCell ?_ ?_ _) | (refine Below.step (W := ?hW) ?hq ?_ ?_; case hq => assumption))) <;> (first | (simp; done) | (simp; omega) | (simp at *; omega)))) (by simp)
  have n0 : W0.heap[w.heap.size + 1 + 1]? = some (.cells #[.int .i64 0] 3 (0, 0)) := by rw [← hW0]; exact heapNew (u := (w.alloc _).alloc _) (by ((repeat' (first | exact Below.refl _ _ | assumption | (refine Below.drew ?_) | (refine Below.alloc ?_ ?_ _) | (refine Below.setCell ?_ ?_ _) | (refine Below.step (W := ?hW) ?hq ?_ ?_; case hq => assumption))) <;> (first | (simp; done) | (simp; omega) | (simp at *; omega)))) (by simp)
  clear hW0
  have hB1 : Below W0.heap.size W0 w_ := by rw [hw_]; exact (Below.refl _ _).alloc (Nat.le_refl _) _
  have box : w_.heap[W0.heap.size]? = some (.cells (itC x) 133 (0, 0)) := by rw [hw_]; exact World.alloc_heap_new W0 _
  have hz1 : w_.heap.size = W0.heap.size + 1 := by rw [hw_]; simp
  have r1 := heapKept r0 hB1
  have n1 := heapKept n0 hB1
  have hBw := hB0.trans (hB1.mono hB0.size)
  clear hw_ r0 n0 hst
  have hzl : w.heap.size + 1 + 1 < W0.heap.size := by omega
  have hz1l : W0.heap.size < w_.heap.size := by omega
  clear hz0 hz1
  have hlb : ∀ k, (k < w.heap.size ∨ k = W0.heap.size) → k < w_.heap.size := fun k hk => by omega
  have hAt_ : ItvAt (fun k => k < w.heap.size ∨ k = W0.heap.size) w_ x := (Hat.out.keep (Keep.of_below hBw (fun k hk => hk))).more (fun k hk => .inl hk)
  have Hit := hide (itemsIter x 1000000 W0.heap.size (fun k => k < w.heap.size ∨ k = W0.heap.size) w_ (by have := Hfit.out.cnt; omega) (by omega) box (.inr rfl) hAt_ hlb)
  have hlen : (preT 1 x).length ≤ 900000 := by rw [preT_length]; exact Hfit.out.cnt
  clear hAt_
  gi_wp2
  refine wp_rangeO (gf := 297) (lb := #[.pointer (some ⟨W0.heap.size, 0, none⟩)]) rfl (enters_of Tryz.func297 (by kernel_rfl) rfl) Hit.out (fun _ => rfl) hlb
    (fun O i W => (∀ k, O k → w_.heap.size ≤ k) ∧ (∀ j p, j < i → (preT 1 x)[j]? = some p → itR j p = true) ∧ W.heap[w.heap.size + 1 + 1]? = some (.cells #[.int .i64 i] 3 (0, 0)) ∧ W.heap[w.heap.size + 1]? = some (.cells #[.bool false] 4 (0, 0)) ∧ Below w.heap.size w W)
    (fun O c W => c = .ret ∧ (∀ k, O k → w_.heap.size ≤ k) ∧ z = false ∧ W.heap[w.heap.size + 1]? = some (.cells #[.bool false] 4 (0, 0)) ∧ Below w.heap.size w W)
    (fun O O' i A B h hs => by
      obtain ⟨h1, h2, h3, h4, h5⟩ := h
      exact ⟨fun k hk => (hs.lt k hk).1, h2, hs.stp.cells _ _ h3 rfl (fun ho => by have := h1 _ ho; omega), hs.stp.cells _ _ h4 rfl (fun ho => by have := h1 _ ho; omega), hs.stp.below h5 (by omega) h5.size (fun k hk => by have := h1 k hk; omega)⟩)
    (fun O O' c A B h hs => by
      obtain ⟨h1, h2, h3, h4, h5⟩ := h
      exact ⟨h1, fun k hk => (hs.lt k hk).1, h3, hs.stp.cells _ _ h4 rfl (fun ho => by have := h2 _ ho; omega), hs.stp.below h5 (by omega) h5.size (fun k hk => by have := h2 k hk; omega)⟩)
    ⟨fun _ h => h.elim, fun j p h => absurd h (Nat.not_lt_zero _), n1, r1, hBw⟩ ?round ?done ?stop
  case round =>
    rintro O l i ⟨dp, y⟩ W hl hy hO ⟨g1, g2, g3, g4, g5⟩ hrec
    have hyp : (dp, y) ∈ preT 1 x := List.mem_of_getElem? hy
    obtain ⟨ya, ycap, hyv, _, _⟩ := (preT_at Hat.out 1 _ hyp).slice
    have hone2 : y.v.oneCell' = true := (preT_at Hat.out 1 _ hyp).oneCell
    have hst := fun (a : Addr) (w : World) => run_store Tryz.prog w a y.v .plain hone2
    have hW : w_.heap.size < W.heap.size := by obtain ⟨r, hr⟩ := hrec; have := (Array.getElem?_eq_some_iff.1 hr).1; omega
    have hBn : ∀ o, Below W.heap.size W (W.alloc o) := fun o => (Below.refl _ W).alloc (Nat.le_refl _) o
    have hil : i < 900000 := by have := (List.getElem?_eq_some_iff.1 hy).1; omega
    have hOW : ∀ k, (k < w.heap.size ∨ k = W0.heap.size) ∨ O k → k < W.heap.size ∧ k ≠ w.heap.size + 1 + 1 := fun k hk => by
      rcases hk with hk | hk
      · have := hlb k hk; omega
      · have := hO k hk; omega
    have hone3 := isOne_calls y.kind y.n y.s ya y.l.length ycap
    obtain ⟨u, hu⟩ : ∃ u, u = oneR y.kind y.n y.s y.l.length := ⟨_, rfl⟩
    rw [← hu, ← hyv] at hone3
    have H1 := hide (fun W => hone3 W (Hfit.out.str _ hyp) (by have := Hfit.out.len _ hyp; simp only at this; omega) (fun h => HT.out _ hyp h))
    have Hy := hide hy
    have Hu := hide hu
    have HG := hide (And.intro g1 (And.intro g2 g5))
    clear hy hu Hit hrec hyv hone3 hyp
    simp only [itEnc]
    gi_wp2_with (apply wpListIn_store_new (ty := 133) (n := 4); (case hgd => exact rfl); (case ho => exact rfl); (case hd => exact rfl); (case hx => exact rfl); (case hw => exact rfl); (case hg => first | exact rfl | (simp; done)); (case hy => exact rfl); (case hi => kernel_rfl); (case hn0 => exact rfl); (case hn => exact rfl); (case h1 => first | exact rfl | assumption | (simp [Value.oneCell', *]; done) | (simp [*]; done)))
    refine ⟨(KeepsOthers.alloc _ _).from _, Keep.of_below (hBn _) (fun k hk => (hOW k hk).1), fun W₂ hs hk hkr hsz hc hf => ?_⟩
    have b0 : W₂.cell? ⟨W.heap.size, 0, none⟩ = some (.int .i64 y.kind) := (hc _).trans (by simp)
    have b1 : W₂.cell? ⟨W.heap.size, 1, none⟩ = some (.int .i64 y.n) := (hc _).trans (by simp)
    have b2 : W₂.cell? ⟨W.heap.size, 2, none⟩ = some (.string (bs y.s)) := (hc _).trans (by simp)
    have b3 : W₂.cell? ⟨W.heap.size, 3, none⟩ = some y.v := (hc _).trans (by simp)
    have n2 := hs.heap (heapKept g3 (hBn _))
    have r2 := hs.heap (heapKept g4 (hBn _))
    have hBW2 : Below w.heap.size w W₂ := hs.below (HG.out.2.2.alloc HG.out.2.2.size _) (by omega) (Nat.le_trans HG.out.2.2.size (hBn _).size) (fun _ h => h.elim)
    have hszl : W.heap.size < W₂.heap.size := by rw [hsz]; simp
    clear hsz
    have c1 := cellsOf n2 0
    simp only [List.getElem?_toArray, List.getElem?_cons_zero] at c1
    have f1 : W₂.frozen? ⟨w.heap.size + 1 + 1, 0, none⟩ = false := by simp [World.frozen?, n2]
    have H2 := hide (And.intro n2 (And.intro r2 hBW2))
    obtain ⟨A3, hA3⟩ : ∃ A3, A3 = W₂.setCell ⟨w.heap.size + 1 + 1, 0, none⟩ (.int .i64 ((i : Int) + 1)) := ⟨_, rfl⟩
    have z3 : A3.heap.size = W₂.heap.size := by rw [hA3, size_setCell]
    have o3 : ∀ k, k ≠ w.heap.size + 1 + 1 → A3.heap[k]? = W₂.heap[k]? := fun k hk => by rw [hA3]; exact heap_setCell_ne hk
    have n3 : A3.heap[w.heap.size + 1 + 1]? = some (.cells #[.int .i64 ((i : Int) + 1)] 3 (0, 0)) := by rw [hA3]; exact heap_setCell_same n2
    have r3 : A3.heap[w.heap.size + 1]? = some (.cells #[.bool false] 4 (0, 0)) := (o3 _ (by omega)).trans r2
    have hB3 : Below w.heap.size w A3 := by rw [hA3]; exact hBW2.setCell (p := ⟨w.heap.size + 1 + 1, 0, none⟩) (show w.heap.size ≤ w.heap.size + 1 + 1 by omega) _
    have hk3 : Keep (fun k => (k < w.heap.size ∨ k = W0.heap.size) ∨ O k) W₂ A3 := ⟨by omega, fun k hk => o3 k (hOW k hk).2⟩
    have hf3 : KeepsFrom w_.heap.size W₂ A3 := by rw [hA3]; exact (KeepsOthers.setCell _ _ _).from _
    have e1 : A3.cell? ⟨w.heap.size + 1 + 1, 0, none⟩ = some (.int .i64 ((i : Int) + 1)) := by simpa using cellsOf n3 0
    have e2 : A3.cell? ⟨w.heap.size + 1, 0, none⟩ = some (.bool false) := by simpa using cellsOf r3 0
    have e3 : A3.frozen? ⟨w.heap.size + 1, 0, none⟩ = false := by simp [World.frozen?, r3]
    replace b0 := (World.cell?_of_block (w := W₂) (a := ⟨W.heap.size, 0, none⟩) (o3 W.heap.size (by omega))).trans b0
    replace b1 := (World.cell?_of_block (w := W₂) (a := ⟨W.heap.size, 1, none⟩) (o3 W.heap.size (by omega))).trans b1
    replace b2 := (World.cell?_of_block (w := W₂) (a := ⟨W.heap.size, 2, none⟩) (o3 W.heap.size (by omega))).trans b2
    replace b3 := (World.cell?_of_block (w := W₂) (a := ⟨W.heap.size, 3, none⟩) (o3 W.heap.size (by omega))).trans b3
    have H3 := hide (And.intro n3 (And.intro r3 (And.intro hB3 (And.intro hk3 hf3))))
    have hy2 : ∀ b : Bool, itR i (dp, y) = b → (b = true → ∀ j p, j < i + 1 → (preT 1 x)[j]? = some p → itR j p = true) ∧ (b = false → z = false) := fun b hb => ⟨fun h j p hj hp => by
        rcases Nat.lt_succ_iff_lt_or_eq.1 hj with hj | rfl
        · exact HG.out.2.1 j p hj hp
        · rw [Hy.out] at hp; cases hp
          rw [hb]; exact h, fun h => by rw [Hz.out]; exact rightI_false Hy.out (hb.trans h)⟩
    have hir : itR i (dp, y) = (decide (i + 1 ≤ 60) && decide (dp ≤ 6) && u) := by rw [Hu.out]; rfl
    have HY2 := hide (And.intro hy2 hir)
    have hkeepO : ∀ {B : World}, Below A3.heap.size A3 B → Keep (fun k => (k < w.heap.size ∨ k = W0.heap.size) ∨ O k) A3 B := fun h => Keep.of_below h (fun k hk => by have := hOW k hk; omega)
    have HKO := hide (fun B (h : Below A3.heap.size A3 B) => hkeepO h)
    clear hs hk hkr hc hf hBn g1 g2 g3 g4 g5 n2 r2 n3 r3 hB3 hk3 hf3 o3 hy2 hir hkeepO hBW2
    rw [hA3] at b0 b1 b2 b3 e1 e2 e3
    by_cases q1 : i + 1 ≤ 60
    · by_cases q2 : dp ≤ 6
      · gi_wp2_with fail
        refine ⟨trivial, rfl, (CallsIn.inRound l (callsIn_wide.2 (H1.out _))).mono ?_⟩
        rintro e_ A4 ⟨rfl, hb⟩
        rw [← hA3] at hb
        have n4 := heapKept H3.out.1 hb
        have r4 := heapKept H3.out.2.1 hb
        have hB4 := H3.out.2.2.1.trans (hb.mono H3.out.2.2.1.size)
        have k4 := H3.out.2.2.2.1.trans (HKO.out A4 hb)
        have f4 := H3.out.2.2.2.2.trans (keepsFrom_of_below (B0 := w_.heap.size) hb)
        have e4 : A4.cell? ⟨w.heap.size + 1, 0, none⟩ = some (.bool false) := by simpa using cellsOf r4 0
        have e5 : A4.frozen? ⟨w.heap.size + 1, 0, none⟩ = false := by simp [World.frozen?, r4]
        have H4 := hide (And.intro n4 (And.intro r4 (And.intro hB4 (And.intro k4 f4))))
        clear b0 b1 b2 b3 e1 e2 e3 hb n4 r4 hB4 k4 f4 hA3 hst c1 f1
        cases u
        · gi_wp2_with fail
          have H5 := H4.out
          refine ⟨H5.2.2.2.2.trans ((KeepsOthers.setCell _ _ _).from _), rfl, HG.out.1, (HY2.out.1 false (by rw [HY2.out.2]; simp)).2 rfl, heap_setCell_same H5.2.1, H5.2.2.1.setCell (p := ⟨w.heap.size + 1, 0, none⟩) (Nat.le_succ _) _⟩
        · gi_wp2_with fail
          have H5 := H4.out
          refine ⟨H5.2.2.2.2, H5.2.2.2.1, HG.out.1, (fun j a b => (HY2.out.1 true (by rw [HY2.out.2]; simp [q1, q2])).1 rfl j (a, b)), H5.1, H5.2.1, H5.2.2.1⟩
      · clear b0 b1 b2 b3
        gi_wp2_with fail
        refine ⟨trivial, ?_⟩
        gi_wp2_with fail
        rw [← hA3]
        have H5 := H3.out
        refine ⟨H5.2.2.2.2.trans ((KeepsOthers.setCell _ _ _).from _), rfl, HG.out.1, (HY2.out.1 false (by rw [HY2.out.2]; simp [q2])).2 rfl, heap_setCell_same H5.2.1, H5.2.2.1.setCell (p := ⟨w.heap.size + 1, 0, none⟩) (Nat.le_succ _) _⟩
    · clear b0 b1 b2 b3
      gi_wp2_with fail
      refine ⟨trivial, ?_⟩
      gi_wp2_with fail
      rw [← hA3]
      have H5 := H3.out
      refine ⟨H5.2.2.2.2.trans ((KeepsOthers.setCell _ _ _).from _), rfl, HG.out.1, (HY2.out.1 false (by rw [HY2.out.2]; simp [q1])).2 rfl, heap_setCell_same H5.2.1, H5.2.2.1.setCell (p := ⟨w.heap.size + 1, 0, none⟩) (Nat.le_succ _) _⟩
  case done =>
    rintro O D W hD ⟨h1, h2, h3, h4, h5⟩ hK
    have hz' : z = true := by rw [Hz.out]; exact rightI_true (fun i p => h2 i p)
    have Hz2 := hide hz'
    have e2 : W.cell? ⟨w.heap.size + 1, 0, none⟩ = some (.bool false) := by simpa using cellsOf h4 0
    have e3 : W.frozen? ⟨w.heap.size + 1, 0, none⟩ = false := by simp [World.frozen?, h4]
    clear Hit hz'
    gi_wp2
    have kK := (KeepsOthers.setCell W ⟨w.heap.size + 1, 0, none⟩ (.bool true)).same D _ hK rfl
    refine ⟨by simp, .inl ⟨_, _, rfl, run_takeDeferred kK, ?_⟩⟩
    refine ⟨_, results_cell1 rfl rfl (load_plain Tryz.underlying4 rfl (v := .bool true) ?_), by rw [Hz2.out], ?_⟩
    · rw [cell_putObj kK rfl rfl]
      exact World.cell?_setCell_same' _ _ _ (by rw [e2]; rfl)
    · exact below_putObj (h5.setCell (p := ⟨w.heap.size + 1, 0, none⟩) (Nat.le_succ _) _) (by omega) _
  case stop =>
    rintro O D c W hD ⟨rfl, h1, hz', h4, h5⟩ hK
    have Hz2 := hide hz'
    clear Hit hz'
    gi_wp2
    refine ⟨by simp, .inl ⟨_, _, rfl, run_takeDeferred hK, ?_⟩⟩
    refine ⟨_, results_cell1 rfl rfl (load_plain Tryz.underlying4 rfl (v := .bool false) ?_), by rw [Hz2.out], ?_⟩
    · rw [cell_putObj hK rfl rfl]
      simpa using cellsOf h4 0
    · exact below_putObj h5 (by omega) _
end Go.Proofs.YtllfaffbaijgfaaGreatDoor
