/- xlate's steps down: the blocks, the flags, the load. -/
import Derived.Test.YtllfaffbaijgfaaGreatDoorJ33
set_option linter.unusedVariables false
set_option linter.unusedSimpArgs false
namespace Go.Proofs.YtllfaffbaijgfaaGreatDoor
open Go Go.RowKit Go.Shelf

def PairD (B n : Nat) (L : List Value) (v : Value) (W : World) : Prop := ∃ a, v = .tuple #[a, .agg #[.int .i64 noClass.priority, .bool noClass.custody, .int .i64 noClass.custodian.scheme, .string (bs noClass.custodian.node), .string (bs noClass.custodian.service), .int .i64 noClass.custodian.a, .int .i64 noClass.custodian.b], .int .i64 0] ∧ RowV B n L a W

/-- of what lies, block U alone may turn: from one content to another -/
structure Swap (U : Nat) (old new : Obj) (A B : World) : Prop where
  turn : Turn2 U none A B
  done : A.heap[U]? = some new → B.heap[U]? = some new
  step : A.heap[U]? = some old → B.heap[U]? = some old ∨ B.heap[U]? = some new
theorem Swap.refl (U : Nat) (old new : Obj) (A : World) : Swap U old new A A := ⟨Turn2.refl _ _, id, .inl⟩
theorem Swap.drew {U : Nat} {old new : Obj} {A B : World} (h : Swap U old new A B) : Swap U old new A B.drew := ⟨turn_below h.turn (Below.refl _ _).drew, h.done, h.step⟩
theorem Swap.trans {U : Nat} {old new : Obj} {A B C : World} (h : Swap U old new A B) (k : Swap U old new B C) : Swap U old new A C :=
  ⟨h.turn.trans k.turn, fun e => k.done (h.done e), fun e => (h.step e).elim k.step (fun e => .inr (k.done e))⟩
theorem Swap.cell {U i : Nat} {C C' : Array Value} {t : TypeId} {v : Value} {A : World} (h : A.heap[U]? = some (.cells C t (0, 0)) ∨ A.heap[U]? = some (.cells C' t (0, 0))) (h1 : C.setIfInBounds i v = C') (h2 : C'.setIfInBounds i v = C') : Swap U (.cells C t (0, 0)) (.cells C' t (0, 0)) A (A.setCell ⟨U, i, none⟩ v) ∧ (A.setCell ⟨U, i, none⟩ v).heap[U]? = some (.cells C' t (0, 0)) := by
  have hn : (A.setCell ⟨U, i, none⟩ v).heap[U]? = some (.cells C' t (0, 0)) := by
    rcases h with h | h
    · rw [heap_setCell_same (i := i) h, h1]
    · rw [heap_setCell_same (i := i) h, h2]
  exact ⟨⟨turn_setCell (n := 0) (Turn2.refl U A), fun _ => hn, fun _ => .inr hn⟩, hn⟩
def HeapAt (U : Nat) (o : Obj) (_ : Value) (W : World) : Prop := W.heap[U]? = some o
theorem HeapAt.mono {U : Nat} {old new : Obj} {W W' : World} (h : W.heap[U]? = some new) (hg : Swap U old new W W') : W'.heap[U]? = some new := hg.done h

def VDnExt (U C0 : Nat) (new : Obj) (ao : Option Addr) (mo co : Nat) : Nat → Value → (Nat → Value) → World → Prop
  | 0, v, _, W => v = .pointer (some ⟨U, 0, none⟩)
  | 1, v, _, W => v = .pointer (some ⟨U, 0, none⟩)
  | 2, v, _, W => v = .slice ao mo co
  | 3, v, _, W => v = .agg zeroClass
  | 4, v, _, W => v = .pointer (some ⟨U, 0, none⟩)
  | 5, v, _, W => v = .pointer (some ⟨U, 0, none⟩)
  | 6, v, _, W => v = .pointer (some ⟨U, 0, none⟩)
  | 7, v, _, W => v = .pointer (some ⟨U, 1, none⟩)
  | 8, v, _, W => HeapAt U new v W
  | _, _, _, _ => True


set_option maxRecDepth 100000 in
set_option maxHeartbeats 40000000 in
theorem dnExt_calls (U B n : Nat) (L : List Value) (f tm lf : Int) (v : Value) (c : Class) (x : Seven) (s : Value) (w : World) (hU : DnAt w U f v c x s tm lf)
    (hext : Calls Tryz.prog 114 #[s] w (fun e w' => ∃ v, e = .returned v ∧ PairD B n L v w' ∧ Below w.heap.size w w')) :
    Calls Tryz.prog 49 #[.pointer (some ⟨U, 0, none⟩)] w (fun e w' => ∃ a, e = .returned .nilIface ∧ DnAt w' U f a noClass x s tm lf ∧ RowV B n L a w' ∧ Turn2 U none w w') := by
  have hU : w.heap[U]? = some (.cells (dnC f v c x s tm lf) 92 (0, 0)) := hU
  have Hext := hide hext
  have k31 := cellsOf hU 31
  simp only [List.getElem?_toArray, List.getElem?_cons_succ, List.getElem?_cons_zero] at k31
  clear hext
  go_enter Tryz.func49, Tryz.ntmps49
  go_wp2_with fail
  refine (show Calls _ _ _ _ _ from Hext.out).mono ?_
  rintro _ w2 ⟨_, rfl, ⟨a, rfl, hR2⟩, hb2⟩
  obtain ⟨ao, mo, co, rfl⟩ := hR2.slice
  have t2 := turn_below (Turn2.refl U w) hb2
  have hU2 := heapKept hU hb2
  clear hU hb2 k31 Hext
  go_upto_region 2 with (apply wpList_store_new (ty := 70) (n := 7); (case hgd => exact rfl); (case ho => exact rfl); (case hd => exact rfl); (case hx => exact rfl); (case hw => exact rfl); (case hg => first | exact rfl | (simp; done)); (case hy => exact rfl); (case hi => kernel_rfl); (case hn0 => exact rfl); (case hn => exact rfl); (case h1 => first | exact rfl | assumption | (simp [Value.oneCell', *]; done) | (simp [*]; done)))
  refine wp_named fun w3 hw3 => ?_
  have hb3 : Below w2.heap.size w2 w3 := by rw [hw3]; ((repeat' (first | exact Below.refl _ _ | assumption | (refine Below.drew ?_) | (refine Below.alloc ?_ ?_ _) | (refine Below.setCell ?_ ?_ _) | (refine Below.step (W := ?hW) ?hq ?_ ?_; case hq => assumption))) <;> (first | (simp; done) | (simp; omega) | (simp at *; omega)))
  have hc3 : w3.heap[w2.heap.size]? = some (.cells zeroClass 70 (0, 0)) := by rw [hw3]; exact heapNew (u := w2) (by ((repeat' (first | exact Below.refl _ _ | assumption | (refine Below.drew ?_) | (refine Below.alloc ?_ ?_ _) | (refine Below.setCell ?_ ?_ _) | (refine Below.step (W := ?hW) ?hq ?_ ?_; case hq => assumption))) <;> (first | (simp; done) | (simp; omega) | (simp at *; omega)))) rfl
  have hR3 := hR2.mono hb3
  have hU3 := heapKept hU2 hb3
  have t3 := turn_below t2 hb3
  have hne : ¬ U = w2.heap.size := by have := (Array.getElem?_eq_some_iff.1 hU2).1; omega
  clear hw3 hR2 hU2 t2 hb3
  obtain ⟨C0, hC0⟩ : ∃ C0, C0 = w2.heap.size := ⟨_, rfl⟩
  rw [← hC0] at hc3 hne ⊢
  clear hC0
  have HC := hide (And.intro hc3 (show C0 ≠ U from fun e => hne e.symm))
  have H3 := hide (And.intro t3 (And.intro hU3 hR3))
  clear hc3 t3 hU3 hR3
  clear hne
  obtain ⟨old, hold⟩ : ∃ o, o = Obj.cells (dnC f v c x s tm lf) 92 (0, 0) := ⟨_, rfl⟩
  obtain ⟨new, hnew⟩ : ∃ o, o = Obj.cells (dnC f (.slice ao mo co) c x s tm lf) 92 (0, 0) := ⟨_, rfl⟩
  have HO := hide (And.intro (show w3.heap[U]? = some old by rw [hold]; exact H3.out.2.1) (And.intro hold hnew))
  clear hold hnew
  refine wp_region_pred 9 (fun W => Swap U old new w3 W) (fun W W' => Swap U old new W W') (VDnExt U C0 new ao mo co) (by kernel_rfl) (by kernel_rfl) (Swap.refl _ _ _ _).drew
    (fun W W' h hg => h.trans hg) ?hV_17 (fun W => Swap.refl _ _ _ _) ?how_17 ?hfin_17
  case hV_17 =>
    intro i_ v_ g_ W W' hg h
    match i_, h with
    | 0, h => exact h
    | 1, h => exact h
    | 2, h => exact h
    | 3, h => exact h
    | 4, h => exact h
    | 5, h => exact h
    | 6, h => exact h
    | 7, h => exact h
    | 8, h => exact HeapAt.mono h hg
    | _ + 9, _ => trivial
  case how_17 =>
    intro i_ hi_
    match i_, hi_ with
    | 0, _ =>
      refine owes_plain rfl rfl fun ac_ W hC hold hdep => ?_
      have hs0 := hold 0 (by kernel_rfl)
      clear hdep hold
      go_simp
      exact ⟨_, rfl, Swap.refl _ _ _ _, rfl⟩
    | 1, _ =>
      refine owes_plain rfl rfl fun ac_ W hC hold hdep => ?_
      have hs0 := hold 0 (by kernel_rfl)
      clear hdep hold
      go_simp
      exact ⟨_, rfl, Swap.refl _ _ _ _, rfl⟩
    | 2, _ =>
      refine owes_plain rfl rfl fun ac_ W hC hold hdep => ?_
      have hs3 := hold 3 (by kernel_rfl)
      clear hdep hold
      go_simp
      exact ⟨_, rfl, Swap.refl _ _ _ _, rfl⟩
    | 3, _ =>
      refine owes_plain rfl rfl fun ac_ W hC hold hdep => ?_
      have hs4 := hold 4 (by kernel_rfl)
      exact wp_load_of (p := ⟨C0, 0, none⟩) rfl (evalT hs4) (load_row (n := 7) (hheap := (hC.turn.block C0 (Array.getElem?_eq_some_iff.1 HC.out.1).1 HC.out.2 (by simp)).trans HC.out.1) (hu := Tryz.underlying70) (hd := rfl) (hi := by kernel_rfl) (hc := rfl)) ⟨_, rfl, Swap.refl _ _ _ _, rfl⟩
    | 4, _ =>
      refine owes_plain rfl rfl fun ac_ W hC hold hdep => ?_
      obtain ⟨_, (hd0 : _ = (.pointer (some ⟨U, 0, none⟩) : Value))⟩ := hdep 0 17 (by kernel_rfl)
      clear hdep hold
      go_simp
      exact ⟨_, rfl, Swap.refl _ _ _ _, rfl⟩
    | 5, _ =>
      refine owes_plain rfl rfl fun ac_ W hC hold hdep => ?_
      obtain ⟨_, (hd4 : _ = (.pointer (some ⟨U, 0, none⟩) : Value))⟩ := hdep 4 21 (by kernel_rfl)
      clear hdep hold
      go_simp
      exact ⟨_, rfl, Swap.refl _ _ _ _, rfl⟩
    | 6, _ =>
      refine owes_plain rfl rfl fun ac_ W hC hold hdep => ?_
      obtain ⟨_, (hd5 : _ = (.pointer (some ⟨U, 0, none⟩) : Value))⟩ := hdep 5 22 (by kernel_rfl)
      clear hdep hold
      go_simp
      exact ⟨_, rfl, Swap.refl _ _ _ _, rfl⟩
    | 7, _ =>
      refine owes_plain rfl rfl fun ac_ W hC hold hdep => ?_
      obtain ⟨_, (hd6 : _ = (.pointer (some ⟨U, 0, none⟩) : Value))⟩ := hdep 6 23 (by kernel_rfl)
      clear hdep hold
      go_simp
      exact ⟨_, rfl, Swap.refl _ _ _ _, rfl⟩
    | 8, _ =>
      refine owes_plain rfl rfl fun ac_ W hC hold hdep => ?_
      obtain ⟨_, (hd2 : _ = (.slice ao mo co : Value))⟩ := hdep 2 19 (by kernel_rfl)
      obtain ⟨_, (hd7 : _ = (.pointer (some ⟨U, 1, none⟩) : Value))⟩ := hdep 7 24 (by kernel_rfl)
      have hW := hC.step HO.out.1
      rw [HO.out.2.1, HO.out.2.2] at hW
      have hsw := Swap.cell (i := 1) (v := .slice ao mo co) hW rfl rfl
      rw [← HO.out.2.1, ← HO.out.2.2] at hsw
      have hk : ∃ u, W.cell? ⟨U, 1, none⟩ = some u := by (rcases hW with hW | hW; exact ⟨_, cellsOf hW 1⟩; exact ⟨_, cellsOf hW 1⟩)
      have hf : W.frozen? ⟨U, 1, none⟩ = false := by (rcases hW with hW | hW <;> simp [World.frozen?, hW])
      obtain ⟨u1, hk⟩ := hk
      have hsw := hide hsw
      clear hdep hold hW
      go_simp
      all_goals first | exact hsw.out.2 | exact hsw.out.1 | exact ⟨undef, rfl, hsw.out.1, hsw.out.2⟩
    | k + 9, hk => exact absurd hk (by omega)
  case' hfin_17 =>
    intro fv W hC hold hval
    have v0 : (fv 17) = (.pointer (some ⟨U, 0, none⟩) : Value) := hval 0 _ (by omega) rfl
    have v1 : (fv 18) = (.pointer (some ⟨U, 0, none⟩) : Value) := hval 1 _ (by omega) rfl
    have v2 : (fv 19) = (.slice ao mo co : Value) := hval 2 _ (by omega) rfl
    have v3 : (fv 20) = (.agg zeroClass : Value) := hval 3 _ (by omega) rfl
    have v8 : HeapAt U new undef W := hval 8 _ (by omega) rfl
    have s0 := hold 0 (by kernel_rfl)
    simp only [Array.getD_eq_getD_getElem?, List.getElem?_toArray, List.getElem?_cons_succ, List.getElem?_cons_zero, Option.getD_some] at s0
    have s1 := hold 1 (by kernel_rfl)
    simp only [Array.getD_eq_getD_getElem?, List.getElem?_toArray, List.getElem?_cons_succ, List.getElem?_cons_zero, Option.getD_some] at s1
    have s2 := hold 2 (by kernel_rfl)
    simp only [Array.getD_eq_getD_getElem?, List.getElem?_toArray, List.getElem?_cons_succ, List.getElem?_cons_zero, Option.getD_some] at s2
    have s3 := hold 3 (by kernel_rfl)
    simp only [Array.getD_eq_getD_getElem?, List.getElem?_toArray, List.getElem?_cons_succ, List.getElem?_cons_zero, Option.getD_some] at s3
    have s4 := hold 4 (by kernel_rfl)
    simp only [Array.getD_eq_getD_getElem?, List.getElem?_toArray, List.getElem?_cons_succ, List.getElem?_cons_zero, Option.getD_some] at s4
    have s5 := hold 5 (by kernel_rfl)
    simp only [Array.getD_eq_getD_getElem?, List.getElem?_toArray, List.getElem?_cons_succ, List.getElem?_cons_zero, Option.getD_some] at s5
    have s6 := hold 6 (by kernel_rfl)
    simp only [Array.getD_eq_getD_getElem?, List.getElem?_toArray, List.getElem?_cons_succ, List.getElem?_cons_zero, Option.getD_some] at s6
    have s7 := hold 7 (by kernel_rfl)
    simp only [Array.getD_eq_getD_getElem?, List.getElem?_toArray, List.getElem?_cons_succ, List.getElem?_cons_zero, Option.getD_some] at s7
    have s8 := hold 8 (by kernel_rfl)
    simp only [Array.getD_eq_getD_getElem?, List.getElem?_toArray, List.getElem?_cons_succ, List.getElem?_cons_zero, Option.getD_some] at s8
    have s9 := hold 9 (by kernel_rfl)
    simp only [Array.getD_eq_getD_getElem?, List.getElem?_toArray, List.getElem?_cons_succ, List.getElem?_cons_zero, Option.getD_some] at s9
    have s10 := hold 10 (by kernel_rfl)
    simp only [Array.getD_eq_getD_getElem?, List.getElem?_toArray, List.getElem?_cons_succ, List.getElem?_cons_zero, Option.getD_some] at s10
    have s11 := hold 11 (by kernel_rfl)
    simp only [Array.getD_eq_getD_getElem?, List.getElem?_toArray, List.getElem?_cons_succ, List.getElem?_cons_zero, Option.getD_some] at s11
    have s12 := hold 12 (by kernel_rfl)
    simp only [Array.getD_eq_getD_getElem?, List.getElem?_toArray, List.getElem?_cons_succ, List.getElem?_cons_zero, Option.getD_some] at s12
    have s13 := hold 13 (by kernel_rfl)
    simp only [Array.getD_eq_getD_getElem?, List.getElem?_toArray, List.getElem?_cons_succ, List.getElem?_cons_zero, Option.getD_some] at s13
    have s14 := hold 14 (by kernel_rfl)
    simp only [Array.getD_eq_getD_getElem?, List.getElem?_toArray, List.getElem?_cons_succ, List.getElem?_cons_zero, Option.getD_some] at s14
    have s15 := hold 15 (by kernel_rfl)
    simp only [Array.getD_eq_getD_getElem?, List.getElem?_toArray, List.getElem?_cons_succ, List.getElem?_cons_zero, Option.getD_some] at s15
    have s16 := hold 16 (by kernel_rfl)
    simp only [Array.getD_eq_getD_getElem?, List.getElem?_toArray, List.getElem?_cons_succ, List.getElem?_cons_zero, Option.getD_some] at s16
    clear hval hold
    simp only [List.drop_succ_cons, List.drop_zero, List.size_toArray, List.length_cons, List.length_nil, Nat.reduceAdd]
    simp only [List.range, List.range.loop]
    simp only [List.map_cons, List.map_nil]
    simp only [s0, s1, s2, s3, s4, s5, s6, s7, s8, s9, s10, s11, s12, s13, s14, s15, s16]
  simp only [v0, v1, v2, v3]
  have hU4 : W.heap[U]? = some (.cells (dnC f (.slice ao mo co) c x s tm lf) 92 (0, 0)) := by rw [← HO.out.2.2]; exact v8
  go_wp2_with (apply wpList_store_midrow (ty := 70) (n := 7) (off := 2); (case hgd => exact rfl); (case ho => exact rfl); (case hd => exact rfl); (case hx => exact rfl); (case hheap => exact hU4); (case hy => exact rfl); (case hi => kernel_rfl); (case hn => exact rfl); (case hfit => exact of_decide_eq_true rfl); (case h1 => first | exact rfl | assumption | (simp [Value.oneCell', *]; done) | (simp [*]; done)))
  have hU5 : (W.setRow U (midRow (dnC f (.slice ao mo co) c x s tm lf) zeroClass 2)).heap[U]? = some (.cells (dnC f (.slice ao mo co) noClass x s tm lf) 92 (0, 0)) := heap_setRow_same hU4
  have t5 : Turn2 U none w (W.setRow U (midRow (dnC f (.slice ao mo co) c x s tm lf) zeroClass 2)) := turn_setRow (H3.out.1.trans hC.turn)
  have hR5 : RowV B n L (.slice ao mo co) (W.setRow U (midRow (dnC f (.slice ao mo co) c x s tm lf) zeroClass 2)) :=
    row_kept (fun g c' m' hg => (setRow_other W U g _ (by rintro rfl; rw [hU4] at hg; cases hg)).trans hg) (H3.out.2.2.turn hC.turn H3.out.2.1 (by decide))
  have HF := hide (And.intro hU5 (And.intro t5 hR5))
  clear hU5 t5 hR5 hU4 v8
  refine (show Calls _ _ _ _ _ from unless_calls 0 _).mono ?_
  rintro _ w5 ⟨rfl, rfl⟩
  go_wp2_with fail
  go_ret
  exact ⟨_, rfl, HF.out.1, HF.out.2.2, HF.out.2.1⟩

def VDnSig (U : Nat) (g pr : Int) (cu : Bool) (d : Int × Int) : Nat → Value → (Nat → Value) → World → Prop
  | 0, v, _, W => v = .pointer (some ⟨U, 0, none⟩)
  | 1, v, _, W => v = .pointer (some ⟨U, 0, none⟩)
  | 2, v, _, W => v = .pointer (some ⟨U, 0, none⟩)
  | 3, v, _, W => v = .pointer (some ⟨U, 9, none⟩)
  | 4, v, _, W => v = .pointer (some ⟨U, 9, none⟩)
  | 5, v, _, W => v = .int .i64 g
  | 6, v, _, W => v = .pointer (some ⟨U, 0, none⟩)
  | 7, v, _, W => v = .pointer (some ⟨U, 0, none⟩)
  | 8, v, _, W => v = .pointer (some ⟨U, 0, none⟩)
  | 9, v, _, W => v = .pointer (some ⟨U, 0, none⟩)
  | 10, v, _, W => v = .pointer (some ⟨U, 2, none⟩)
  | 11, v, _, W => v = .pointer (some ⟨U, 2, none⟩)
  | 12, v, _, W => v = .int .i64 pr
  | 13, v, _, W => v = .pointer (some ⟨U, 0, none⟩)
  | 14, v, _, W => v = .pointer (some ⟨U, 0, none⟩)
  | 15, v, _, W => v = .pointer (some ⟨U, 0, none⟩)
  | 16, v, _, W => v = .pointer (some ⟨U, 0, none⟩)
  | 17, v, _, W => v = .pointer (some ⟨U, 2, none⟩)
  | 18, v, _, W => v = .pointer (some ⟨U, 3, none⟩)
  | 19, v, _, W => v = .bool cu
  | 20, v, _, W => v = .tuple #[.int .i64 d.1, .int .i64 d.2]
  | 21, v, _, W => v = .tuple #[.int .i64 d.1, .int .i64 d.2]
  | 22, v, _, W => v = .int .i64 d.1
  | 23, v, _, W => v = .int .i64 d.2
  | 24, v, _, W => v = .int .i64 d.1
  | _, _, _, _ => True


set_option maxRecDepth 100000 in
set_option maxHeartbeats 40000000 in
theorem dnSigns_calls (U : Nat) (S : Nat → Addr) (f tm lf : Int) (v : Value) (c : Class) (x : Seven) (s : Value) (w1 : World) (hU : DnAt w1 U f v c x s tm lf) (hS : Sents S w1) :
    Calls Tryz.prog 50 #[.pointer (some ⟨U, 0, none⟩)] w1 (fun e w' => e = .returned (wrongV (downF x.flags c.priority c.custody).2) ∧ DnAt w' U (downF x.flags c.priority c.custody).1 v c x s tm lf ∧ Turn2 U none w1 w') := by
  have hU : w1.heap[U]? = some (.cells (dnC f v c x s tm lf) 92 (0, 0)) := hU
  obtain ⟨d, hd⟩ : ∃ u, u = downF x.flags c.priority c.custody := ⟨_, rfl⟩
  have HD := hide (fun W hb => down_calls S x.flags c.priority c.custody W (hS.mono (w' := W) hb))
  rw [← hd] at HD ⊢
  have k2 := cellsOf hU 2
  simp only [List.getElem?_toArray, List.getElem?_cons_succ, List.getElem?_cons_zero] at k2
  have k3 := cellsOf hU 3
  simp only [List.getElem?_toArray, List.getElem?_cons_succ, List.getElem?_cons_zero] at k3
  have k9 := cellsOf hU 9
  simp only [List.getElem?_toArray, List.getElem?_cons_succ, List.getElem?_cons_zero] at k9
  obtain ⟨g, hg⟩ : ∃ u, u = x.flags := ⟨_, rfl⟩
  obtain ⟨pr, hpr⟩ : ∃ u, u = c.priority := ⟨_, rfl⟩
  obtain ⟨cu, hcu⟩ : ∃ u, u = c.custody := ⟨_, rfl⟩
  rw [← hg, ← hpr, ← hcu] at HD
  rw [← hg] at k9
  rw [← hpr] at k2
  rw [← hcu] at k3
  have HU := hide hU
  clear hU hS hd hg hpr hcu
  go_enter Tryz.func50, Tryz.ntmps50
  go_wp2_with fail
  refine wp_region_pred 25 (fun W => Below w1.heap.size w1 W) (fun W W' => Below W.heap.size W W') (VDnSig U g pr cu d) (by kernel_rfl) (by kernel_rfl) (Below.refl _ _).drew
    (fun W W' h hg => h.trans (hg.mono h.size)) ?hV_18 (fun W => Below.refl _ _) ?how_18 ?hfin_18
  case hV_18 =>
    intro i_ v_ g_ W W' hg h
    match i_, h with
    | 0, h => exact h
    | 1, h => exact h
    | 2, h => exact h
    | 3, h => exact h
    | 4, h => exact h
    | 5, h => exact h
    | 6, h => exact h
    | 7, h => exact h
    | 8, h => exact h
    | 9, h => exact h
    | 10, h => exact h
    | 11, h => exact h
    | 12, h => exact h
    | 13, h => exact h
    | 14, h => exact h
    | 15, h => exact h
    | 16, h => exact h
    | 17, h => exact h
    | 18, h => exact h
    | 19, h => exact h
    | 20, h => exact h
    | 21, h => exact h
    | 22, h => exact h
    | 23, h => exact h
    | 24, h => exact h
    | _ + 25, _ => trivial
  case how_18 =>
    intro i_ hi_
    match i_, hi_ with
    | 0, _ =>
      refine owes_plain rfl rfl fun ac_ W hC hold hdep => ?_
      have hs0 := hold 0 (by kernel_rfl)
      clear hdep hold
      go_simp
      exact ⟨_, rfl, Below.refl _ _, rfl⟩
    | 1, _ =>
      refine owes_plain rfl rfl fun ac_ W hC hold hdep => ?_
      obtain ⟨_, (hd0 : _ = (.pointer (some ⟨U, 0, none⟩) : Value))⟩ := hdep 0 6 (by kernel_rfl)
      clear hdep hold
      go_simp
      exact ⟨_, rfl, Below.refl _ _, rfl⟩
    | 2, _ =>
      refine owes_plain rfl rfl fun ac_ W hC hold hdep => ?_
      obtain ⟨_, (hd1 : _ = (.pointer (some ⟨U, 0, none⟩) : Value))⟩ := hdep 1 7 (by kernel_rfl)
      clear hdep hold
      go_simp
      exact ⟨_, rfl, Below.refl _ _, rfl⟩
    | 3, _ =>
      refine owes_plain rfl rfl fun ac_ W hC hold hdep => ?_
      obtain ⟨_, (hd2 : _ = (.pointer (some ⟨U, 0, none⟩) : Value))⟩ := hdep 2 8 (by kernel_rfl)
      clear hdep hold
      go_simp
      exact ⟨_, rfl, Below.refl _ _, rfl⟩
    | 4, _ =>
      refine owes_plain rfl rfl fun ac_ W hC hold hdep => ?_
      obtain ⟨_, (hd3 : _ = (.pointer (some ⟨U, 9, none⟩) : Value))⟩ := hdep 3 9 (by kernel_rfl)
      clear hdep hold
      go_simp
      exact ⟨_, rfl, Below.refl _ _, rfl⟩
    | 5, _ =>
      refine owes_plain rfl rfl fun ac_ W hC hold hdep => ?_
      obtain ⟨_, (hd4 : _ = (.pointer (some ⟨U, 9, none⟩) : Value))⟩ := hdep 4 10 (by kernel_rfl)
      have k9 := (hC.cell (cellLt k9)).trans k9
      clear hdep hold
      go_simp
      exact ⟨_, rfl, Below.refl _ _, rfl⟩
    | 6, _ =>
      refine owes_plain rfl rfl fun ac_ W hC hold hdep => ?_
      have hs0 := hold 0 (by kernel_rfl)
      clear hdep hold
      go_simp
      exact ⟨_, rfl, Below.refl _ _, rfl⟩
    | 7, _ =>
      refine owes_plain rfl rfl fun ac_ W hC hold hdep => ?_
      obtain ⟨_, (hd6 : _ = (.pointer (some ⟨U, 0, none⟩) : Value))⟩ := hdep 6 12 (by kernel_rfl)
      clear hdep hold
      go_simp
      exact ⟨_, rfl, Below.refl _ _, rfl⟩
    | 8, _ =>
      refine owes_plain rfl rfl fun ac_ W hC hold hdep => ?_
      obtain ⟨_, (hd7 : _ = (.pointer (some ⟨U, 0, none⟩) : Value))⟩ := hdep 7 13 (by kernel_rfl)
      clear hdep hold
      go_simp
      exact ⟨_, rfl, Below.refl _ _, rfl⟩
    | 9, _ =>
      refine owes_plain rfl rfl fun ac_ W hC hold hdep => ?_
      obtain ⟨_, (hd8 : _ = (.pointer (some ⟨U, 0, none⟩) : Value))⟩ := hdep 8 14 (by kernel_rfl)
      clear hdep hold
      go_simp
      exact ⟨_, rfl, Below.refl _ _, rfl⟩
    | 10, _ =>
      refine owes_plain rfl rfl fun ac_ W hC hold hdep => ?_
      obtain ⟨_, (hd9 : _ = (.pointer (some ⟨U, 0, none⟩) : Value))⟩ := hdep 9 15 (by kernel_rfl)
      clear hdep hold
      go_simp
      exact ⟨_, rfl, Below.refl _ _, rfl⟩
    | 11, _ =>
      refine owes_plain rfl rfl fun ac_ W hC hold hdep => ?_
      obtain ⟨_, (hd10 : _ = (.pointer (some ⟨U, 2, none⟩) : Value))⟩ := hdep 10 16 (by kernel_rfl)
      clear hdep hold
      go_simp
      exact ⟨_, rfl, Below.refl _ _, rfl⟩
    | 12, _ =>
      refine owes_plain rfl rfl fun ac_ W hC hold hdep => ?_
      obtain ⟨_, (hd11 : _ = (.pointer (some ⟨U, 2, none⟩) : Value))⟩ := hdep 11 17 (by kernel_rfl)
      have k2 := (hC.cell (cellLt k2)).trans k2
      clear hdep hold
      go_simp
      exact ⟨_, rfl, Below.refl _ _, rfl⟩
    | 13, _ =>
      refine owes_plain rfl rfl fun ac_ W hC hold hdep => ?_
      have hs0 := hold 0 (by kernel_rfl)
      clear hdep hold
      go_simp
      exact ⟨_, rfl, Below.refl _ _, rfl⟩
    | 14, _ =>
      refine owes_plain rfl rfl fun ac_ W hC hold hdep => ?_
      obtain ⟨_, (hd13 : _ = (.pointer (some ⟨U, 0, none⟩) : Value))⟩ := hdep 13 19 (by kernel_rfl)
      clear hdep hold
      go_simp
      exact ⟨_, rfl, Below.refl _ _, rfl⟩
    | 15, _ =>
      refine owes_plain rfl rfl fun ac_ W hC hold hdep => ?_
      obtain ⟨_, (hd14 : _ = (.pointer (some ⟨U, 0, none⟩) : Value))⟩ := hdep 14 20 (by kernel_rfl)
      clear hdep hold
      go_simp
      exact ⟨_, rfl, Below.refl _ _, rfl⟩
    | 16, _ =>
      refine owes_plain rfl rfl fun ac_ W hC hold hdep => ?_
      obtain ⟨_, (hd15 : _ = (.pointer (some ⟨U, 0, none⟩) : Value))⟩ := hdep 15 21 (by kernel_rfl)
      clear hdep hold
      go_simp
      exact ⟨_, rfl, Below.refl _ _, rfl⟩
    | 17, _ =>
      refine owes_plain rfl rfl fun ac_ W hC hold hdep => ?_
      obtain ⟨_, (hd16 : _ = (.pointer (some ⟨U, 0, none⟩) : Value))⟩ := hdep 16 22 (by kernel_rfl)
      clear hdep hold
      go_simp
      exact ⟨_, rfl, Below.refl _ _, rfl⟩
    | 18, _ =>
      refine owes_plain rfl rfl fun ac_ W hC hold hdep => ?_
      obtain ⟨_, (hd17 : _ = (.pointer (some ⟨U, 2, none⟩) : Value))⟩ := hdep 17 23 (by kernel_rfl)
      clear hdep hold
      go_simp
      exact ⟨_, rfl, Below.refl _ _, rfl⟩
    | 19, _ =>
      refine owes_plain rfl rfl fun ac_ W hC hold hdep => ?_
      obtain ⟨_, (hd18 : _ = (.pointer (some ⟨U, 3, none⟩) : Value))⟩ := hdep 18 24 (by kernel_rfl)
      have k3 := (hC.cell (cellLt k3)).trans k3
      clear hdep hold
      go_simp
      exact ⟨_, rfl, Below.refl _ _, rfl⟩
    | 20, _ =>
      refine owes_plain rfl rfl fun ac_ W hC hold hdep => ?_
      obtain ⟨_, (hd5 : _ = (.int .i64 g : Value))⟩ := hdep 5 11 (by kernel_rfl)
      obtain ⟨_, (hd12 : _ = (.int .i64 pr : Value))⟩ := hdep 12 18 (by kernel_rfl)
      obtain ⟨_, (hd19 : _ = (.bool cu : Value))⟩ := hdep 19 25 (by kernel_rfl)
      clear hdep hold
      go_simp
      refine (show Calls _ _ _ _ _ from HD.out W hC).mono ?_
      rintro e_ w_ ⟨rfl, hb_⟩
      exact ⟨_, rfl, hb_, rfl⟩
    | 21, _ =>
      refine owes_plain rfl rfl fun ac_ W hC hold hdep => ?_
      obtain ⟨_, (hd20 : _ = (.tuple #[.int .i64 d.1, .int .i64 d.2] : Value))⟩ := hdep 20 26 (by kernel_rfl)
      clear hdep hold
      go_simp
      exact ⟨_, rfl, Below.refl _ _, rfl⟩
    | 22, _ =>
      refine owes_plain rfl rfl fun ac_ W hC hold hdep => ?_
      obtain ⟨_, (hd21 : _ = (.tuple #[.int .i64 d.1, .int .i64 d.2] : Value))⟩ := hdep 21 5 (by kernel_rfl)
      clear hdep hold
      go_simp
      exact ⟨_, rfl, Below.refl _ _, rfl⟩
    | 23, _ =>
      refine owes_plain rfl rfl fun ac_ W hC hold hdep => ?_
      obtain ⟨_, (hd21 : _ = (.tuple #[.int .i64 d.1, .int .i64 d.2] : Value))⟩ := hdep 21 5 (by kernel_rfl)
      clear hdep hold
      go_simp
      exact ⟨_, rfl, Below.refl _ _, rfl⟩
    | 24, _ =>
      refine owes_plain rfl rfl fun ac_ W hC hold hdep => ?_
      obtain ⟨_, (hd22 : _ = (.int .i64 d.1 : Value))⟩ := hdep 22 27 (by kernel_rfl)
      clear hdep hold
      go_simp
      exact ⟨_, rfl, Below.refl _ _, rfl⟩
    | k + 25, hk => exact absurd hk (by omega)
  case' hfin_18 =>
    intro fv W hC hold hval
    have v23 : (fv 28) = (.int .i64 d.2 : Value) := hval 23 _ (by omega) rfl
    have v24 : (fv 3) = (.int .i64 d.1 : Value) := hval 24 _ (by omega) rfl
    have s0 := hold 0 (by kernel_rfl)
    simp only [Array.getD_eq_getD_getElem?, List.getElem?_toArray, List.getElem?_cons_succ, List.getElem?_cons_zero, Option.getD_some] at s0
    have s1 := hold 1 (by kernel_rfl)
    simp only [Array.getD_eq_getD_getElem?, List.getElem?_toArray, List.getElem?_cons_succ, List.getElem?_cons_zero, Option.getD_some] at s1
    have s2 := hold 2 (by kernel_rfl)
    simp only [Array.getD_eq_getD_getElem?, List.getElem?_toArray, List.getElem?_cons_succ, List.getElem?_cons_zero, Option.getD_some] at s2
    clear hval hold
    simp only [List.drop_succ_cons, List.drop_zero, List.size_toArray, List.length_cons, List.length_nil, Nat.reduceAdd]
    simp only [List.range, List.range.loop]
    simp only [List.map_cons, List.map_nil]
    simp only [s0, s1, s2]
  simp only [v23, v24]
  have hUW := heapKept HU.out hC
  have k0 := cellsOf hUW 0
  simp only [List.getElem?_toArray, List.getElem?_cons_zero] at k0
  have f0 : W.frozen? ⟨U, 0, none⟩ = false := by simp [World.frozen?, hUW]
  have hU4 : (W.setCell ⟨U, 0, none⟩ (.int .i64 d.1)).heap[U]? = some (.cells (dnC d.1 v c x s tm lf) 92 (0, 0)) := heap_setCell_same (i := 0) hUW
  have t4 : Turn2 U none w1 (W.setCell ⟨U, 0, none⟩ (.int .i64 d.1)) := turn_setCell (n := 0) (turn_below (Turn2.refl U w1) hC)
  have HF := hide (And.intro hU4 t4)
  clear hU4 t4 hUW
  go_wp2_with fail
  refine (show Calls _ _ _ _ _ from unless_calls d.2 _).mono ?_
  rintro _ w5 ⟨rfl, rfl⟩
  clear k0 f0
  go_wp2_with fail
  go_ret
  exact ⟨rfl, HF.out.1, HF.out.2⟩

def VDnLoad (U : Nat) (x : Seven) (s : Value) (ld : List UInt8) : Nat → Value → (Nat → Value) → World → Prop
  | 0, v, _, W => v = .pointer (some ⟨U, 0, none⟩)
  | 1, v, _, W => v = .pointer (some ⟨U, 0, none⟩)
  | 2, v, _, W => v = .pointer (some ⟨U, 0, none⟩)
  | 3, v, _, W => v = .pointer (some ⟨U, 0, none⟩)
  | 4, v, _, W => v = .pointer (some ⟨U, 0, none⟩)
  | 5, v, _, W => v = .pointer (some ⟨U, 0, none⟩)
  | 6, v, _, W => v = .pointer (some ⟨U, 9, none⟩)
  | 7, v, _, W => v = .agg #[.int .i64 x.flags, .int .i64 x.sum, .int .i64 x.dest.scheme, .string (bs x.dest.node), .string (bs x.dest.service), .int .i64 x.dest.a, .int .i64 x.dest.b, .int .i64 x.source.scheme, .string (bs x.source.node), .string (bs x.source.service), .int .i64 x.source.a, .int .i64 x.source.b, .int .i64 x.report.scheme, .string (bs x.report.node), .string (bs x.report.service), .int .i64 x.report.a, .int .i64 x.report.b, .int .i64 x.time, .int .i64 x.seq, .int .i64 x.life, .int .i64 x.off, .int .i64 x.total, s]
  | 8, v, _, W => v = .string (bs ld)
  | 9, v, _, W => v = .nilIface
  | _, _, _, _ => True


set_option maxRecDepth 100000 in
set_option maxHeartbeats 40000000 in
theorem dnLoad_calls (U : Nat) (f tm lf : Int) (v : Value) (c : Class) (x : Seven) (s : Value) (ld : List UInt8) (w1 : World) (hU : DnAt w1 U f v c x s tm lf) (hf : bits BinOp.and IntKind.i64 f 2 = 0)
    (hld : ∀ W, Below w1.heap.size w1 W → Calls Tryz.prog 15 #[.agg #[.int .i64 x.flags, .int .i64 x.sum, .int .i64 x.dest.scheme, .string (bs x.dest.node), .string (bs x.dest.service), .int .i64 x.dest.a, .int .i64 x.dest.b, .int .i64 x.source.scheme, .string (bs x.source.node), .string (bs x.source.service), .int .i64 x.source.a, .int .i64 x.source.b, .int .i64 x.report.scheme, .string (bs x.report.node), .string (bs x.report.service), .int .i64 x.report.a, .int .i64 x.report.b, .int .i64 x.time, .int .i64 x.seq, .int .i64 x.life, .int .i64 x.off, .int .i64 x.total, s]] W (Rt W (.string (bs ld)))) :
    Calls Tryz.prog 51 #[.pointer (some ⟨U, 0, none⟩)] w1 (Rt w1 .nilIface) := by
  have hU : w1.heap[U]? = some (.cells (dnC f v c x s tm lf) 92 (0, 0)) := hU
  have k0 := cellsOf hU 0
  simp only [List.getElem?_toArray, List.getElem?_cons_zero] at k0
  have HU := hide hU
  have Hld := hide hld
  clear hU hld
  go_enter Tryz.func51, Tryz.ntmps51
  go_wp2_with fail
  refine wp_region_pred 10 (fun W => Below w1.heap.size w1 W) (fun W W' => Below W.heap.size W W') (VDnLoad U x s ld) (by kernel_rfl) (by kernel_rfl) (Below.refl _ _).drew
    (fun W W' h hg => h.trans (hg.mono h.size)) ?hV_19 (fun W => Below.refl _ _) ?how_19 ?hfin_19
  case hV_19 =>
    intro i_ v_ g_ W W' hg h
    match i_, h with
    | 0, h => exact h
    | 1, h => exact h
    | 2, h => exact h
    | 3, h => exact h
    | 4, h => exact h
    | 5, h => exact h
    | 6, h => exact h
    | 7, h => exact h
    | 8, h => exact h
    | 9, h => exact h
    | _ + 10, _ => trivial
  case how_19 =>
    intro i_ hi_
    match i_, hi_ with
    | 0, _ =>
      refine owes_plain rfl rfl fun ac_ W hC hold hdep => ?_
      have hs0 := hold 0 (by kernel_rfl)
      clear hdep hold
      go_simp
      exact ⟨_, rfl, Below.refl _ _, rfl⟩
    | 1, _ =>
      refine owes_plain rfl rfl fun ac_ W hC hold hdep => ?_
      obtain ⟨_, (hd0 : _ = (.pointer (some ⟨U, 0, none⟩) : Value))⟩ := hdep 0 3 (by kernel_rfl)
      clear hdep hold
      go_simp
      exact ⟨_, rfl, Below.refl _ _, rfl⟩
    | 2, _ =>
      refine owes_plain rfl rfl fun ac_ W hC hold hdep => ?_
      obtain ⟨_, (hd1 : _ = (.pointer (some ⟨U, 0, none⟩) : Value))⟩ := hdep 1 4 (by kernel_rfl)
      clear hdep hold
      go_simp
      exact ⟨_, rfl, Below.refl _ _, rfl⟩
    | 3, _ =>
      refine owes_plain rfl rfl fun ac_ W hC hold hdep => ?_
      have hs0 := hold 0 (by kernel_rfl)
      clear hdep hold
      go_simp
      exact ⟨_, rfl, Below.refl _ _, rfl⟩
    | 4, _ =>
      refine owes_plain rfl rfl fun ac_ W hC hold hdep => ?_
      obtain ⟨_, (hd3 : _ = (.pointer (some ⟨U, 0, none⟩) : Value))⟩ := hdep 3 6 (by kernel_rfl)
      clear hdep hold
      go_simp
      exact ⟨_, rfl, Below.refl _ _, rfl⟩
    | 5, _ =>
      refine owes_plain rfl rfl fun ac_ W hC hold hdep => ?_
      obtain ⟨_, (hd4 : _ = (.pointer (some ⟨U, 0, none⟩) : Value))⟩ := hdep 4 7 (by kernel_rfl)
      clear hdep hold
      go_simp
      exact ⟨_, rfl, Below.refl _ _, rfl⟩
    | 6, _ =>
      refine owes_plain rfl rfl fun ac_ W hC hold hdep => ?_
      obtain ⟨_, (hd5 : _ = (.pointer (some ⟨U, 0, none⟩) : Value))⟩ := hdep 5 8 (by kernel_rfl)
      clear hdep hold
      go_simp
      exact ⟨_, rfl, Below.refl _ _, rfl⟩
    | 7, _ =>
      refine owes_plain rfl rfl fun ac_ W hC hold hdep => ?_
      obtain ⟨_, (hd6 : _ = (.pointer (some ⟨U, 9, none⟩) : Value))⟩ := hdep 6 9 (by kernel_rfl)
      exact wp_load_of (p := ⟨U, 9, none⟩) rfl (evalT hd6) (load_mid (n := 23) (off := 9) (c := #[.int .i64 x.flags, .int .i64 x.sum, .int .i64 x.dest.scheme, .string (bs x.dest.node), .string (bs x.dest.service), .int .i64 x.dest.a, .int .i64 x.dest.b, .int .i64 x.source.scheme, .string (bs x.source.node), .string (bs x.source.service), .int .i64 x.source.a, .int .i64 x.source.b, .int .i64 x.report.scheme, .string (bs x.report.node), .string (bs x.report.service), .int .i64 x.report.a, .int .i64 x.report.b, .int .i64 x.time, .int .i64 x.seq, .int .i64 x.life, .int .i64 x.off, .int .i64 x.total, s]) (heapKept HU.out hC) Tryz.underlying35 rfl (by kernel_rfl) rfl rfl) ⟨_, rfl, Below.refl _ _, rfl⟩
    | 8, _ =>
      refine owes_plain rfl rfl fun ac_ W hC hold hdep => ?_
      obtain ⟨_, (hd7 : _ = (.agg #[.int .i64 x.flags, .int .i64 x.sum, .int .i64 x.dest.scheme, .string (bs x.dest.node), .string (bs x.dest.service), .int .i64 x.dest.a, .int .i64 x.dest.b, .int .i64 x.source.scheme, .string (bs x.source.node), .string (bs x.source.service), .int .i64 x.source.a, .int .i64 x.source.b, .int .i64 x.report.scheme, .string (bs x.report.node), .string (bs x.report.service), .int .i64 x.report.a, .int .i64 x.report.b, .int .i64 x.time, .int .i64 x.seq, .int .i64 x.life, .int .i64 x.off, .int .i64 x.total, s] : Value))⟩ := hdep 7 10 (by kernel_rfl)
      clear hdep hold
      go_simp
      refine (show Calls _ _ _ _ _ from Hld.out W hC).mono ?_
      rintro e_ w_ ⟨rfl, hb_⟩
      exact ⟨_, rfl, hb_, rfl⟩
    | 9, _ =>
      refine owes_plain rfl rfl fun ac_ W hC hold hdep => ?_
      obtain ⟨_, (hd2 : _ = (.pointer (some ⟨U, 0, none⟩) : Value))⟩ := hdep 2 5 (by kernel_rfl)
      obtain ⟨_, (hd8 : _ = (.string (bs ld) : Value))⟩ := hdep 8 11 (by kernel_rfl)
      have k0 := (hC.cell (cellLt k0)).trans k0
      clear hdep hold
      go_simp
      refine (show Calls _ _ _ _ _ from recordSeven_calls U f _ _ W k0 hf).mono ?_
      rintro e_ w_ ⟨rfl, rfl⟩
      exact ⟨_, rfl, Below.refl _ _, rfl⟩
    | k + 10, hk => exact absurd hk (by omega)
  case' hfin_19 =>
    intro fv W hC hold hval
    have v9 : (fv 12) = (.nilIface : Value) := hval 9 _ (by omega) rfl
    have s0 := hold 0 (by kernel_rfl)
    simp only [Array.getD_eq_getD_getElem?, List.getElem?_toArray, List.getElem?_cons_succ, List.getElem?_cons_zero, Option.getD_some] at s0
    have s1 := hold 1 (by kernel_rfl)
    simp only [Array.getD_eq_getD_getElem?, List.getElem?_toArray, List.getElem?_cons_succ, List.getElem?_cons_zero, Option.getD_some] at s1
    have s2 := hold 2 (by kernel_rfl)
    simp only [Array.getD_eq_getD_getElem?, List.getElem?_toArray, List.getElem?_cons_succ, List.getElem?_cons_zero, Option.getD_some] at s2
    clear hval hold
    simp only [List.drop_succ_cons, List.drop_zero, List.size_toArray, List.length_cons, List.length_nil, Nat.reduceAdd]
    simp only [List.range, List.range.loop]
    simp only [List.map_cons, List.map_nil]
    simp only [s0, s1, s2]
  simp only [v9]
  go_wp2_with fail
  go_ret
  exact ⟨rfl, hC⟩
end Go.Proofs.YtllfaffbaijgfaaGreatDoor
