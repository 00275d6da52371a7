/- Cells of a block written out in the heap: a store. No program text. eid.Right: is a name right? Lists of names in memory; whether all of them are right. six.Right: the rules of a bundle of version 6. -/
import Derived.Test.YtllfaffbaijgfaaGreatDoorJ02
import Derived.Test.YtllfaffbaijgfaaGreatDoorJ03
import Derived.Laws.EntriesVeiled
import Derived.Test.YtllfaffbaijgfaaGreatDoorJ01
set_option linter.unusedVariables false
set_option linter.unusedSimpArgs false
namespace Go.Proofs.YtllfaffbaijgfaaGreatDoor
open Go Go.RowKit

theorem heap_setCell_same {w : World} {b i : Nat} {c : Array Value} {ty : TypeId} {m : Nat × Nat} {v : Value} (h : w.heap[b]? = some (.cells c ty m)) : (w.setCell ⟨b, i, none⟩ v).heap[b]? = some (.cells (c.setIfInBounds i v) ty m) := by
  simp [World.setCell, Array.getElem?_modify, h]
theorem heap_setCell_ne {w : World} {b r : Nat} {i : Nat} {v : Value} (h : r ≠ b) : (w.setCell ⟨b, i, none⟩ v).heap[r]? = w.heap[r]? := by
  simp [World.setCell, Array.getElem?_modify, Ne.symm h]
theorem size_setCell (w : World) (a : Addr) (v : Value) : (w.setCell a v).heap.size = w.heap.size := by simp [World.setCell]
theorem store_ok {P : Program} {w : World} {b i : Nat} {c : Array Value} {ty : TypeId} {m : Nat × Nat} {v : Value} (h : w.heap[b]? = some (.cells c ty m)) (hi : i < c.size) (hf : (decide (m.1 ≤ i) && decide (i < m.2)) = false) (h1 : v.oneCell' = true) :
    (store ⟨b, i, none⟩ v).run P w = .ok () (w.setCell ⟨b, i, none⟩ v) := by
  rw [run_store P w _ v _ h1]
  have e1 : w.cell? ⟨b, i, none⟩ = some c[i] := by simp [World.cell?, h, hi]
  have e2 : w.frozen? ⟨b, i, none⟩ = false := by obtain ⟨lo, hi'⟩ := m; simpa [World.frozen?, h] using hf
  simp [e1, e2]
theorem cellOf {u W : World} {c : Array Value} {t : TypeId} {n i : Nat} (h : Below (n + 1) (u.alloc (.cells c t)) W) (hn : n = u.heap.size) : W.cell? ⟨n, i, none⟩ = c[i]? := by
  subst hn
  exact (h.cell (p := ⟨u.heap.size, i, none⟩) (Nat.lt_succ_self _)).trans (by simp)
end Go.Proofs.YtllfaffbaijgfaaGreatDoor

namespace Go.Proofs.YtllfaffbaijgfaaGreatDoor
open Go Go.RowKit Go.Shelf Go.BigFrame

theorem zero_scheme (W : World) : (zeroValue 185).run Tryz.prog W = .ok (.agg #[.string { data := #[] }, .nilFunc, .nilFunc, .nilFunc]) W := by kernel_rfl

/-- what the table answers at a number that it has -/
def SchemeHit (n : Int) (ok : Bool) (c0 c1 c2 c3 : Value) : Prop :=
  ∀ (W : World) (r : Nat), W.heap[r]? = some (.map schemeEs 3) → (Instr.lookup 187 (.map (some r)) (.int .i64 n) true).run Tryz.prog W = .ok (.tuple #[.agg #[c0, c1, c2, c3], .bool ok]) W

theorem schemeEs_int : IntKeys schemeEs.toList := intKeys_cons ⟨0, rfl⟩ (intKeys_cons ⟨1, rfl⟩ (intKeys_cons ⟨2, rfl⟩ intKeys_nil))

theorem scheme0 : SchemeHit 0 true (.string { data := #[100, 116, 110] }) (.func (.func 206) #[] #[]) (.func (.func 207) #[] #[]) (.func (.func 208) #[] #[]) :=
  fun W r h => run_lookup_hit (P := Tryz.prog) Tryz.underlying187 Tryz.underlying3 h 0 true schemeEs_int rfl
theorem scheme1 : SchemeHit 1 true (.string { data := #[100, 116, 110] }) (.func (.func 209) #[] #[]) (.func (.func 210) #[] #[]) (.func (.func 211) #[] #[]) :=
  fun W r h => run_lookup_hit (P := Tryz.prog) Tryz.underlying187 Tryz.underlying3 h 1 true schemeEs_int rfl
theorem scheme2 : SchemeHit 2 true (.string { data := #[105, 112, 110] }) (.func (.func 212) #[] #[]) (.func (.func 213) #[] #[]) (.func (.func 215) #[] #[]) :=
  fun W r h => run_lookup_hit (P := Tryz.prog) Tryz.underlying187 Tryz.underlying3 h 2 true schemeEs_int rfl
theorem schemeNo {n : Int} (h0 : n ≠ 0) (h1 : n ≠ 1) (h2 : n ≠ 2) : SchemeHit n false (.string { data := #[] }) .nilFunc .nilFunc .nilFunc :=
  fun W r h => run_lookup_miss (P := Tryz.prog) Tryz.underlying187 Tryz.underlying3 zero_scheme h n true schemeEs_int (by
    simp [findInt, schemeEs, intOf, intKey, h0, h1, h2])

theorem heap_alloc_old {w : World} {r : Nat} {x : Obj} (h : w.heap[r]? = some x) (o : Obj) : (w.alloc o).heap[r]? = some x := (Below.heap_alloc w o r (Array.getElem?_eq_some_iff.1 h).1).trans h

def zero185 : Obj := .cells #[.string { data := #[] }, .nilFunc, .nilFunc, .nilFunc] 185 (0, 0)
def full185 (c0 c1 c2 c3 : Value) : Obj := .cells #[c0, c1, c2, c3] 185 (0, 0)

/-- below N nothing turns; from there on a fresh scheme may be filled -/
def Turn (N : Nat) (c0 c1 c2 c3 : Value) (w w' : World) : Prop :=
  Below N w w' ∧ ∀ (r : Nat) (o : Obj), w.heap[r]? = some o → w'.heap[r]? = some o ∨ (o = zero185 ∧ w'.heap[r]? = some (full185 c0 c1 c2 c3))
theorem Turn.of {N : Nat} {c0 c1 c2 c3 : Value} {w w' : World} (h : Below w.heap.size w w') (hN : N ≤ w.heap.size) : Turn N c0 c1 c2 c3 w w' :=
  ⟨h.mono hN, fun r o hr => .inl ((h.block r (Array.getElem?_eq_some_iff.1 hr).1).trans hr)⟩

/-- what the store of the found scheme does -/
structure Filled (b : Nat) (c0 c1 c2 c3 : Value) (w w' : World) : Prop where
  os : w'.os = w.os
  tape : w'.tape = w.tape
  output : w'.output = w.output
  size : w'.heap.size = w.heap.size
  here : w'.heap[b]? = some (full185 c0 c1 c2 c3)
  other : ∀ r, r ≠ b → w'.heap[r]? = w.heap[r]?
  was : w.heap[b]? = some zero185 ∨ w.heap[b]? = some (full185 c0 c1 c2 c3)
theorem Filled.turn {b N : Nat} {c0 c1 c2 c3 : Value} {w w' : World} (h : Filled b c0 c1 c2 c3 w w') (hN : N ≤ b) : Turn N c0 c1 c2 c3 w w' := by
  refine ⟨⟨h.os, h.tape, h.output, by rw [h.size]; exact Nat.le_refl _, fun k hk => h.other k (by omega)⟩, fun r o hr => ?_⟩
  by_cases e : r = b
  · subst e
    rcases h.was with hw | hw
    · rw [hw] at hr; cases hr; exact .inr ⟨rfl, h.here⟩
    · rw [hw] at hr; cases hr; exact .inl h.here
  · exact .inl ((h.other r e).trans hr)

theorem fill_run {b : Nat} (c0 c1 c2 c3 : Value) (hcell : c0.oneCell' = true ∧ c1.oneCell' = true ∧ c2.oneCell' = true ∧ c3.oneCell' = true) {w : World} (hw : w.heap[b]? = some zero185 ∨ w.heap[b]? = some (full185 c0 c1 c2 c3)) :
    ∃ w', (((store ⟨b, 0, none⟩ c0).run Tryz.prog w).andThen fun _ w' => ((store ⟨b, 1, none⟩ c1).run Tryz.prog w').andThen fun _ w' => ((store ⟨b, 2, none⟩ c2).run Tryz.prog w').andThen fun _ w' => (store ⟨b, 3, none⟩ c3).run Tryz.prog w') = .ok () w' ∧ Filled b c0 c1 c2 c3 w w' := by
  obtain ⟨x0, x1, x2, x3, hx⟩ : ∃ x0 x1 x2 x3, w.heap[b]? = some (.cells #[x0, x1, x2, x3] 185 (0, 0)) := by
    rcases hw with h | h
    · exact ⟨_, _, _, _, h⟩
    · exact ⟨_, _, _, _, h⟩
  obtain ⟨g0, g1, g2, g3⟩ := hcell
  have e0 := heap_setCell_same (i := 0) (v := c0) hx
  have e1 := heap_setCell_same (i := 1) (v := c1) e0
  have e2 := heap_setCell_same (i := 2) (v := c2) e1
  have e3 := heap_setCell_same (i := 3) (v := c3) e2
  refine ⟨_, ?_, ⟨?_, ?_, ?_, ?_, e3, fun r hr => ?_, hw⟩⟩
  · rw [store_ok hx (by simp) rfl g0]
    simp only [Result.andThen]
    rw [store_ok e0 (by simp) rfl g1]
    simp only [Result.andThen]
    rw [store_ok e1 (by simp) rfl g2]
    simp only [Result.andThen]
    rw [store_ok e2 (by simp) rfl g3]
  · rfl
  · rfl
  · rfl
  · simp only [size_setCell]
  · rw [heap_setCell_ne hr, heap_setCell_ne hr, heap_setCell_ne hr, heap_setCell_ne hr]

def VR (e : Eid) (B n0 : Nat) (ok : Bool) (c0 c1 c2 c3 : Value) : Nat → Value → (Nat → Value) → World → Prop
  | 0, v, _, W => ∃ r, v = .map (some r) ∧ W.heap[r]? = some (.map schemeEs 3)
  | 1, v, _, _ => v = .pointer (some ⟨B, 0, none⟩)
  | 2, v, _, _ => v = .int .i64 e.scheme
  | 3, v, _, _ => v = .tuple #[.agg #[c0, c1, c2, c3], .bool ok]
  | 4, v, _, _ => v = .tuple #[.agg #[c0, c1, c2, c3], .bool ok]
  | 5, v, _, _ => v = .agg #[c0, c1, c2, c3]
  | 6, v, _, _ => v = .bool ok
  | 7, v, _, W => ∃ b, v = .pointer (some ⟨b, 0, none⟩) ∧ n0 ≤ b ∧ (W.heap[b]? = some zero185 ∨ W.heap[b]? = some (full185 c0 c1 c2 c3))
  | 8, _, g, W => ∃ b, g 7 = .pointer (some ⟨b, 0, none⟩) ∧ n0 ≤ b ∧ W.heap[b]? = some (full185 c0 c1 c2 c3)
  | _, _, _, _ => True

set_option maxRecDepth 100000 in
set_option maxHeartbeats 1000000 in
theorem eidRight_any (e : Eid) (w : World) (ok : Bool) (c0 c1 c2 c3 : Value) (hs : SchemeHit e.scheme ok c0 c1 c2 c3) (hcell : c0.oneCell' = true ∧ c1.oneCell' = true ∧ c2.oneCell' = true ∧ c3.oneCell' = true) (K : Bool)
    (hf : ok = true → ∃ f, c1 = .func (.func f) #[] #[] ∧ (∀ args W, (callFunc f args).run Tryz.prog W = .ok (.enter f args) W) ∧ ∀ W, Calls Tryz.prog f #[.agg #[.int .i64 e.scheme, .string (bs e.node), .string (bs e.service), .int .i64 e.a, .int .i64 e.b]] W (Rt W (.bool K))) :
    Calls Tryz.prog 84 #[.agg #[.int .i64 e.scheme, .string (bs e.node), .string (bs e.service), .int .i64 e.a, .int .i64 e.b]] w (Rt w (.bool (ok && K))) := by
  go_enter Tryz.func84, Tryz.ntmps84
  go_wp2_with fail
  obtain ⟨W0, hW0⟩ : ∃ W0, w.alloc (.cells #[.int .i64 e.scheme, .string (bs e.node), .string (bs e.service), .int .i64 e.a, .int .i64 e.b] 29) = W0 := ⟨_, rfl⟩
  have hz0 : W0.heap.size = w.heap.size + 1 := by rw [← hW0]; simp
  have hB0 : Below w.heap.size w W0 := by rw [← hW0]; exact (Below.refl _ w).alloc (Nat.le_refl _) _
  have k0 : W0.cell? ⟨w.heap.size, 0, none⟩ = some (.int .i64 e.scheme) := by rw [← hW0]; simp
  have k1 : W0.cell? ⟨w.heap.size, 1, none⟩ = some (.string (bs e.node)) := by rw [← hW0]; simp
  have k2 : W0.cell? ⟨w.heap.size, 2, none⟩ = some (.string (bs e.service)) := by rw [← hW0]; simp
  have k3 : W0.cell? ⟨w.heap.size, 3, none⟩ = some (.int .i64 e.a) := by rw [← hW0]; simp
  have k4 : W0.cell? ⟨w.heap.size, 4, none⟩ = some (.int .i64 e.b) := by rw [← hW0]; simp
  rw [hW0]
  refine wp_region_pred 9 (fun W => Below (w.heap.size + 1) W0 W ∧ w.heap.size + 1 ≤ W.heap.size) (Turn (w.heap.size + 1) c0 c1 c2 c3) (VR e w.heap.size (w.heap.size + 1) ok c0 c1 c2 c3) (by kernel_rfl) (by kernel_rfl) ⟨(Below.refl _ _).drew, by simp [hz0]⟩
    (fun W W' h hg => ⟨h.1.trans hg.1, Nat.le_trans h.2 hg.1.size⟩) ?hV (fun W => ⟨Below.refl _ _, fun r o hr => .inl hr⟩) ?how ?hfin
  case hV =>
    intro i v g W W' hg h
    match i, h with
    | 0, ⟨r, hv, hr⟩ =>
      refine ⟨r, hv, ?_⟩
      rcases hg.2 r _ hr with h | ⟨h, _⟩
      · exact h
      · simp [zero185] at h
    | 1, h => exact h
    | 2, h => exact h
    | 3, h => exact h
    | 4, h => exact h
    | 5, h => exact h
    | 6, h => exact h
    | 7, ⟨b, hv, hn, hb⟩ =>
      refine ⟨b, hv, hn, ?_⟩
      rcases hb with hb | hb
      · rcases hg.2 b _ hb with h | h
        · exact .inl h
        · exact .inr h.2
      · rcases hg.2 b _ hb with h | h
        · exact .inr h
        · exact .inr h.2
    | 8, ⟨b, hv, hn, hb⟩ =>
      refine ⟨b, hv, hn, ?_⟩
      rcases hg.2 b _ hb with h | h
      · exact h
      · exact h.2
    | _ + 9, _ => trivial
  case how =>
    intro i hi
    match i, hi with
    | 0, _ =>
      refine owes_plain rfl rfl fun a W hC hold hdep => ?_
      go_simp
      refine (schemes_calls W).mono ?_
      rintro e_ w_ ⟨rfl, hb_, hl_, hm_⟩
      exact ⟨_, rfl, Turn.of hb_ hC.2, _, rfl, hm_⟩
    | 1, _ =>
      refine owes_plain rfl rfl fun a W hC hold hdep => ?_
      have h1 := hold 1 (by kernel_rfl)
      go_simp
      exact ⟨_, rfl, Turn.of (Below.refl _ _) hC.2, rfl⟩
    | 2, _ =>
      refine owes_plain rfl rfl fun a W hC hold hdep => ?_
      obtain ⟨_, (h1 : _ = Value.pointer _)⟩ := hdep 1 7 (by kernel_rfl)
      have k0 := (hC.1.cell (p := ⟨w.heap.size, 0, none⟩) (Nat.lt_succ_self _)).trans k0
      go_simp
      exact ⟨_, rfl, Turn.of (Below.refl _ _) hC.2, rfl⟩
    | 3, _ =>
      refine owes_plain rfl rfl fun a W hC hold hdep => ?_
      obtain ⟨_, r, h1, hr⟩ := hdep 0 6 (by kernel_rfl)
      obtain ⟨_, (h2 : _ = Value.int _ _)⟩ := hdep 2 8 (by kernel_rfl)
      have h3 := hs W r hr
      go_simp
      exact ⟨_, rfl, Turn.of (Below.refl _ _) hC.2, rfl⟩
    | 4, _ =>
      refine owes_plain rfl rfl fun a W hC hold hdep => ?_
      obtain ⟨_, (h1 : _ = Value.tuple _)⟩ := hdep 3 9 (by kernel_rfl)
      go_simp
      exact ⟨_, rfl, Turn.of (Below.refl _ _) hC.2, rfl⟩
    | 5, _ =>
      refine owes_plain rfl rfl fun a W hC hold hdep => ?_
      obtain ⟨_, (h1 : _ = Value.tuple _)⟩ := hdep 4 5 (by kernel_rfl)
      go_simp
      exact ⟨_, rfl, Turn.of (Below.refl _ _) hC.2, rfl⟩
    | 6, _ =>
      refine owes_plain rfl rfl fun a W hC hold hdep => ?_
      obtain ⟨_, (h1 : _ = Value.tuple _)⟩ := hdep 4 5 (by kernel_rfl)
      go_simp
      exact ⟨_, rfl, Turn.of (Below.refl _ _) hC.2, rfl⟩
    | 7, _ =>
      refine owes_plain rfl rfl fun a W hC hold hdep => ?_
      go_simp
      exact ⟨_, rfl, Turn.of ((Below.refl _ _).alloc (Nat.le_refl _) _) hC.2, _, rfl, hC.2, .inl (World.alloc_heap_new _ _)⟩
    | 8, _ =>
      refine owes_plain rfl rfl fun a W hC hold hdep => ?_
      obtain ⟨_, b, h1, hn, hb⟩ := hdep 7 3 (by kernel_rfl)
      obtain ⟨_, (h2 : _ = Value.agg _)⟩ := hdep 5 10 (by kernel_rfl)
      obtain ⟨W', hrun, hT⟩ := fill_run c0 c1 c2 c3 hcell hb
      go_simp
      exact ⟨hT.turn hn, b, (seen_at (n := 9) (t := 3) (by kernel_rfl)).trans h1, hn, hT.here⟩
  case hfin =>
    intro f W hC hold hval
    obtain ⟨r, hr, _⟩ := hval 0 _ (by omega) rfl
    have v6 : f 11 = Value.bool ok := hval 6 _ (by omega) rfl
    obtain ⟨b, v8, hn, hb⟩ := hval 8 _ (by omega) rfl
    have h3 : f 3 = .pointer (some ⟨b, 0, none⟩) := (seen_at (n := 9) (t := 3) (by kernel_rfl)).symm.trans v8
    have h1 := hold 1 (by kernel_rfl)
    have h0 := hold 0 (by kernel_rfl)
    clear hval hold v8
    simp only [List.drop_succ_cons, List.drop_zero, List.size_toArray, List.length_cons, List.length_nil, Nat.reduceAdd, List.range, List.range.loop, List.map_cons, List.map_nil]
    have q0 : W.cell? ⟨w.heap.size, 0, none⟩ = some (.int .i64 e.scheme) := (hC.1.cell (p := ⟨w.heap.size, 0, none⟩) (Nat.lt_succ_self _)).trans k0
    have q1 : W.cell? ⟨w.heap.size, 1, none⟩ = some (.string (bs e.node)) := (hC.1.cell (p := ⟨w.heap.size, 1, none⟩) (Nat.lt_succ_self _)).trans k1
    have q2 : W.cell? ⟨w.heap.size, 2, none⟩ = some (.string (bs e.service)) := (hC.1.cell (p := ⟨w.heap.size, 2, none⟩) (Nat.lt_succ_self _)).trans k2
    have q3 : W.cell? ⟨w.heap.size, 3, none⟩ = some (.int .i64 e.a) := (hC.1.cell (p := ⟨w.heap.size, 3, none⟩) (Nat.lt_succ_self _)).trans k3
    have q4 : W.cell? ⟨w.heap.size, 4, none⟩ = some (.int .i64 e.b) := (hC.1.cell (p := ⟨w.heap.size, 4, none⟩) (Nat.lt_succ_self _)).trans k4
    have p1 : W.cell? ⟨b, 1, none⟩ = some c1 := by simp [World.cell?, hb, full185]
    have hB1 : Below w.heap.size w W := hB0.trans (hC.1.mono (by omega))
    clear hs hcell k0 k1 k2 k3 k4 hb hW0 hC hB0 hr
    cases ok with
    | false =>
      go_wp2_with fail
      go_ret
      exact ⟨rfl, hB1⟩
    | true =>
      obtain ⟨g, rfl, hg, hcall⟩ := hf rfl
      go_wp2_with fail
      refine (hcall W).mono ?_
      rintro e_ w_ ⟨rfl, hb_⟩
      have hsz := hB1.size
      go_wp2_with fail
      go_ret
      exact ⟨rfl, hB1.trans (hb_.mono hsz)⟩

theorem run_callFunc_enter {P : Program} {f : FuncId} {fn : Func} {b : Code} (hf : P.funcs[f]? = some fn) (hname : (fn.name == "runtime.NumGoroutine") = false) (hb : fn.body = some b) (args : Array Value) (W : World) : (callFunc f args).run P W = .ok (.enter f args) W := by
  have h1 : fn.name ≠ "runtime.NumGoroutine" := by simpa using hname
  simp [callFunc, go_sem, hf, hb, h1]

theorem toList_nil {l : List UInt8} : (bs l).toList = [] ↔ l = [] := by
  have : (bs l).toList = l := by simp [bs]
  rw [this]

theorem noneR_calls (e : Eid) (w : World) : Calls Tryz.prog 206 #[.agg #[.int .i64 e.scheme, .string (bs e.node), .string (bs e.service), .int .i64 e.a, .int .i64 e.b]] w (Rt w (.bool (decide (e = noEid)))) := by
  obtain ⟨s, n, v, a, b⟩ := e
  go_enter Tryz.func206, Tryz.ntmps206
  go_wp2
  all_goals go_ret
  all_goals refine ⟨?_, (Below.refl _ _).alloc (Nat.le_refl _) _⟩
  all_goals simp_all [toList_nil, noEid]

theorem eidRight_calls (e : Eid) (w : World) (h1 : e.node.length ≤ 9000000000000000000) (h2 : e.service.length ≤ 9000000000000000000) : Calls Tryz.prog 84 #[.agg #[.int .i64 e.scheme, .string (bs e.node), .string (bs e.service), .int .i64 e.a, .int .i64 e.b]] w (Rt w (.bool (eidR e))) := by
  by_cases s0 : e.scheme = 0
  · have := eidRight_any e w true _ _ _ _ (by rw [s0]; exact scheme0) ⟨rfl, rfl, rfl, rfl⟩ (decide (e = noEid)) (fun _ => ⟨_, rfl, run_callFunc_enter (P := Tryz.prog) Tryz.func206 (by kernel_rfl) (b := Tryz.f206.body.get!) (by kernel_rfl), noneR_calls e⟩)
    simpa [eidR, s0] using this
  by_cases s1 : e.scheme = 1
  · have := eidRight_any e w true _ _ _ _ (by rw [s1]; exact scheme1) ⟨rfl, rfl, rfl, rfl⟩ (dtnR e) (fun _ => ⟨_, rfl, run_callFunc_enter (P := Tryz.prog) Tryz.func209 (by kernel_rfl) (b := Tryz.f209.body.get!) (by kernel_rfl), fun W => isDtn_calls e W h1 h2⟩)
    simpa [eidR, s1, dtnR] using this
  by_cases s2 : e.scheme = 2
  · have := eidRight_any e w true _ _ _ _ (by rw [s2]; exact scheme2) ⟨rfl, rfl, rfl, rfl⟩ (ipnR e) (fun _ => ⟨_, rfl, run_callFunc_enter (P := Tryz.prog) Tryz.func212 (by kernel_rfl) (b := Tryz.f212.body.get!) (by kernel_rfl), isIpn_calls e⟩)
    simpa [eidR, s2, ipnR] using this
  · have := eidRight_any e w false _ _ _ _ (schemeNo s0 s1 s2) ⟨rfl, rfl, rfl, rfl⟩ false (by simp)
    simpa [eidR, s0, s1, s2] using this
end Go.Proofs.YtllfaffbaijgfaaGreatDoor

namespace Go.Proofs.YtllfaffbaijgfaaGreatDoor
open Go Go.RowKit Go.Shelf

def eidV (e : Eid) : Value := .agg #[.int .i64 e.scheme, .string (bs e.node), .string (bs e.service), .int .i64 e.a, .int .i64 e.b]
/-- a name's five cells -/
structure EidAt (w : World) (b o : Nat) (e : Eid) : Prop where
  c0 : w.cell? ⟨b, o, none⟩ = some (.int .i64 e.scheme)
  c1 : w.cell? ⟨b, o + 1, none⟩ = some (.string (bs e.node))
  c2 : w.cell? ⟨b, o + 2, none⟩ = some (.string (bs e.service))
  c3 : w.cell? ⟨b, o + 3, none⟩ = some (.int .i64 e.a)
  c4 : w.cell? ⟨b, o + 4, none⟩ = some (.int .i64 e.b)
theorem cell_lt {w : World} {b o : Nat} {v : Value} (h : w.cell? ⟨b, o, none⟩ = some v) : b < w.heap.size := by
  unfold World.cell? at h
  cases hb : w.heap[b]? with
  | none => simp [hb] at h
  | some x => exact (Array.getElem?_eq_some_iff.1 hb).1
theorem EidAt.lt {w : World} {b o : Nat} {e : Eid} (h : EidAt w b o e) : b < w.heap.size := cell_lt h.c0
theorem EidAt.mono {n : Nat} {w w' : World} {b o : Nat} {e : Eid} (h : EidAt w b o e) (hb : Below n w w') (hn : b < n) : EidAt w' b o e :=
  ⟨(hb.cell (p := ⟨b, _, none⟩) hn).trans h.c0, (hb.cell (p := ⟨b, _, none⟩) hn).trans h.c1, (hb.cell (p := ⟨b, _, none⟩) hn).trans h.c2, (hb.cell (p := ⟨b, _, none⟩) hn).trans h.c3, (hb.cell (p := ⟨b, _, none⟩) hn).trans h.c4⟩

/-- a slice of n elements; where there are any, they lie from some place on -/
def Sl (n : Nat) (R : Nat → Nat → Prop) (v : Value) : Prop := ∃ a cap, v = .slice a n cap ∧ (0 < n → ∃ b o, a = some ⟨b, o, none⟩ ∧ R b o)
theorem Sl.imp {n : Nat} {R R' : Nat → Nat → Prop} {v : Value} (h : Sl n R v) (hr : ∀ b o, R b o → R' b o) : Sl n R' v := by
  obtain ⟨a, cap, h1, h2⟩ := h
  exact ⟨a, cap, h1, fun hn => by obtain ⟨b, o, h3, h4⟩ := h2 hn; exact ⟨b, o, h3, hr b o h4⟩⟩
theorem Sl.mk {n b o cap : Nat} {R : Nat → Nat → Prop} (h : R b o) : Sl n R (.slice (some ⟨b, o, none⟩) n cap) := ⟨_, _, rfl, fun _ => ⟨b, o, rfl, h⟩⟩
theorem Sl.nil {R : Nat → Nat → Prop} : Sl 0 R (.slice none 0 0) := ⟨_, _, rfl, fun h => absurd h (Nat.lt_irrefl 0)⟩

def EidsAt (w : World) (l : List Eid) (b o : Nat) : Prop := b < w.heap.size ∧ ∀ i e, l[i]? = some e → EidAt w b (o + i * 5) e
theorem EidsAt.mono {n : Nat} {w w' : World} {l : List Eid} {b o : Nat} (h : EidsAt w l b o) (hb : Below n w w') (hn : b < n) : EidsAt w' l b o := ⟨Nat.lt_of_lt_of_le h.1 hb.size, fun i e he => (h.2 i e he).mono hb hn⟩
def EidsV (w : World) (l : List Eid) (v : Value) : Prop := Sl l.length (EidsAt w l) v
theorem EidsV.mono {w w' : World} {l : List Eid} {v : Value} (h : EidsV w l v) (hb : Below w.heap.size w w') : EidsV w' l v := h.imp fun b o h => h.mono hb h.1

theorem intSmall {n : Nat} (h : n ≤ 9000000000000000000) : wrap64 (n : Int) = n := by
  unfold wrap64
  omega

set_option maxRecDepth 100000 in
/-- slices.IndexFunc over names -/
theorem indexEid_calls (l : List Eid) (g : FuncId) (c : Array Value) (p : Eid → Bool) (v : Value) (w : World) (hlen : l.length ≤ 9000000000000000000) (hv : EidsV w l v)
    (hg : ∀ args W, (callFunc g args).run Tryz.prog W = .ok (.enter g args) W)
    (hp : ∀ e ∈ l, ∀ W, Below w.heap.size w W → Calls Tryz.prog g (#[.agg #[.int .i64 e.scheme, .string (bs e.node), .string (bs e.service), .int .i64 e.a, .int .i64 e.b]] ++ c) W (Rt W (.bool (p e)))) :
    Calls Tryz.prog 205 #[v, .func (.func g) #[] c] w (fun e w' => ∃ k : Int, e = .returned (.int .i64 k) ∧ decide (0 ≤ k) = l.any p ∧ Below w.heap.size w w') := by
  have Hp := hide hp
  clear hp
  obtain ⟨a, cap, rfl, hat⟩ := hv
  have H := hide hat
  clear hat
  obtain ⟨n, hn⟩ : ∃ n, n = l.length := ⟨_, rfl⟩
  rw [← hn]
  rw [← hn] at hlen
  have Hn := hide hn
  clear hn
  go_enter Tryz.func205, Tryz.ntmps205
  go_wp2
  go_loopw [8] (fun k wr => ∃ i : Nat, i ≤ n ∧ k = .int .i64 i ∧ (∀ j, j < i → ∀ x, l[j]? = some x → p x = false) ∧ Below w.heap.size w wr) (fun k _ => n - (intOf k).toNat)
  case atStart => exact ⟨0, Nat.zero_le _, rfl, fun j h => absurd h (Nat.not_lt_zero _), Below.refl _ _⟩
  case round =>
    obtain ⟨i, hi, rfl, hj, hB⟩ := hrel
    by_cases hlt : i < n
    · obtain ⟨b, o, rfl, hat⟩ := H.out (by rw [← Hn.out]; omega)
      obtain ⟨e, hx⟩ : ∃ x, l[i]? = some x := ⟨_, List.getElem?_eq_getElem (by rw [← Hn.out]; exact hlt)⟩
      obtain ⟨k0, k1, k2, k3, k4⟩ := (hat.2 i e hx).mono hB hat.1
      have Hc := hide (Hp.out e (List.mem_of_getElem? hx) wr hB)
      have Hx := hide hx
      have Hj := hide hj
      clear hx hj hat
      go_wp2_with fail
      refine (show Calls _ _ _ _ _ from Hc.out).mono ?_
      rintro e1 w1 ⟨rfl, hb⟩
      have hB1 := hB.trans (hb.mono hB.size)
      clear hb k0 k1 k2 k3 k4
      obtain ⟨q, hq⟩ : ∃ q, q = p e := ⟨_, rfl⟩
      rw [← hq]
      have Hq := hide hq
      clear hq
      cases q
      · go_wp2
        go_roundw
        case rel => exact ⟨i + 1, by omega, by go_num, fun j h => by
          rcases Nat.lt_succ_iff_lt_or_eq.1 h with h | rfl
          · exact Hj.out j h
          · intro x hx
            rw [Hx.out] at hx; cases hx; exact Hq.out.symm, hB1⟩
        case measure => simp [intOf]; omega
      · go_wp2
        go_ret
        refine ⟨i, rfl, ?_, hB1⟩
        rw [List.any_eq_true.2 ⟨e, List.mem_of_getElem? Hx.out, Hq.out.symm⟩]
        simp
    · have Hj := hide hj
      clear hj
      go_wp2
      go_ret
      refine ⟨-1, rfl, ?_, hB⟩
      rw [List.any_eq_false.2 fun x hx => by
        obtain ⟨j, hj, rfl⟩ := List.mem_iff_getElem.1 hx
        simpa using Hj.out j (by rw [← Hn.out] at hj; omega) _ (List.getElem?_eq_getElem hj)]
      rfl

/-- slices.ContainsFunc over names -/
theorem containsEid_calls (l : List Eid) (g : FuncId) (c : Array Value) (p : Eid → Bool) (v : Value) (w : World) (hlen : l.length ≤ 9000000000000000000) (hv : EidsV w l v)
    (hg : ∀ args W, (callFunc g args).run Tryz.prog W = .ok (.enter g args) W)
    (hp : ∀ e ∈ l, ∀ W, Below w.heap.size w W → Calls Tryz.prog g (#[.agg #[.int .i64 e.scheme, .string (bs e.node), .string (bs e.service), .int .i64 e.a, .int .i64 e.b]] ++ c) W (Rt W (.bool (p e)))) :
    Calls Tryz.prog 137 #[v, .func (.func g) #[] c] w (Rt w (.bool (l.any p))) := by
  have H := hide (indexEid_calls l g c p v w hlen hv hg hp)
  clear hp hv hg
  go_enter Tryz.func137, Tryz.ntmps137
  go_wp2_with fail
  refine (show Calls _ _ _ _ _ from H.out).mono ?_
  rintro e w1 ⟨k, rfl, hk, hb⟩
  rw [← hk]
  go_wp2_with fail
  go_ret
  exact ⟨rfl, hb⟩

/-- texts of a name are not too long -/
def eidFit (e : Eid) : Prop := e.node.length ≤ 9000000000000000000 ∧ e.service.length ≤ 9000000000000000000

theorem sixNotRight_calls (e : Eid) (w : World) (h : eidFit e) : Calls Tryz.prog 138 #[.agg #[.int .i64 e.scheme, .string (bs e.node), .string (bs e.service), .int .i64 e.a, .int .i64 e.b]] w (Rt w (.bool (!eidR e))) := by
  go_enter Tryz.func138, Tryz.ntmps138
  go_wp2_with fail
  refine (eidRight_calls e _ h.1 h.2).mono ?_
  rintro e_ w_ ⟨rfl, hb_⟩
  have hz_ := hb_.size
  simp at hz_
  go_wp2_with fail
  go_ret
  exact ⟨rfl, by ((repeat' (first | exact Below.refl _ _ | assumption | (refine Below.drew ?_) | (refine Below.alloc ?_ ?_ _) | (refine Below.setCell ?_ ?_ _) | (refine Below.step (W := ?hW) ?hq ?_ ?_; case hq => assumption))) <;> (first | (simp; done) | (simp; omega) | (simp at *; omega)))⟩

theorem sixAreNames_calls (l : List Eid) (v : Value) (w : World) (hlen : l.length ≤ 9000000000000000000) (hl : ∀ e ∈ l, eidFit e) (hv : EidsV w l v) :
    Calls Tryz.prog 68 #[v] w (Rt w (.bool (l.all eidR))) := by
  have H := hide (containsEid_calls l 138 #[] (fun e => !eidR e) v w hlen hv (enters_of Tryz.func138 (by kernel_rfl) rfl) (fun e he W _ => sixNotRight_calls e W (hl e he)))
  clear hl hv
  go_enter Tryz.func68, Tryz.ntmps68
  go_wp2_with fail
  refine (show Calls _ _ _ _ _ from H.out).mono ?_
  rintro e w1 ⟨rfl, hb⟩
  go_wp2_with fail
  go_ret
  exact ⟨by simp [List.all_eq_not_any_not], hb⟩
end Go.Proofs.YtllfaffbaijgfaaGreatDoor

namespace Go.Proofs.YtllfaffbaijgfaaGreatDoor
open Go Go.RowKit Go.Shelf

/-! the flags of a bundle of version 6 -/
def flags61 (f : Int) : Bool := decide (0 ≤ f) && (bits .andNot .i64 f 508351 == 0) && decide (bits .and .i64 (wrap64 (f.tdiv 128)) 3 < 3)
def flags62 (f : Int) : Bool := (bits .and .i64 f 1 == 0) || (bits .and .i64 f 4 == 0)
def flags63 (f : Int) : Bool := (bits .and .i64 f 2 == 0) || (bits .and .i64 f 507944 == 0)
def flags6 (f : Int) : Bool := flags61 f && flags62 f && flags63 f
theorem flags61_calls (f : Int) (B : Nat) (w : World) (h : w.cell? ⟨B, 0, none⟩ = some (.int .i64 f)) :
    Calls Tryz.prog 134 #[.pointer (some ⟨B, 0, none⟩)] w (Pu w (.bool (flags61 f))) := by
  go_enter Tryz.func134, Tryz.ntmps134
  go_wp2
  all_goals (go_ret; refine ⟨?_, rfl⟩)
  all_goals first | rfl | (simp [flags61, *]; done) | (simp [flags61, *]; omega) | (simp_all [flags61]; done) | (simp_all [flags61]; omega)
theorem flags62_calls (f : Int) (B : Nat) (w : World) (h : w.cell? ⟨B, 0, none⟩ = some (.int .i64 f)) :
    Calls Tryz.prog 135 #[.pointer (some ⟨B, 0, none⟩)] w (Pu w (.bool (flags62 f))) := by
  go_enter Tryz.func135, Tryz.ntmps135
  go_wp2
  all_goals (go_ret; refine ⟨?_, rfl⟩)
  all_goals first | rfl | (simp [flags62, *]; done) | (simp [flags62, *]; omega) | (simp_all [flags62]; done) | (simp_all [flags62]; omega)
theorem flags63_calls (f : Int) (B : Nat) (w : World) (h : w.cell? ⟨B, 0, none⟩ = some (.int .i64 f)) :
    Calls Tryz.prog 136 #[.pointer (some ⟨B, 0, none⟩)] w (Pu w (.bool (flags63 f))) := by
  go_enter Tryz.func136, Tryz.ntmps136
  go_wp2
  all_goals (go_ret; refine ⟨?_, rfl⟩)
  all_goals first | rfl | (simp [flags63, *]; done) | (simp [flags63, *]; omega) | (simp_all [flags63]; done) | (simp_all [flags63]; omega)

theorem areFlags_calls (f : Int) (w : World) : Calls Tryz.prog 67 #[.int .i64 f] w (Rt w (.bool (flags6 f))) := by
  go_enter Tryz.func67, Tryz.ntmps67
  go_wp2_with fail
  have key : ∀ (n : Nat) (o : Obj) (W : World), w.heap.size < n → Below n ((w.alloc (.cells #[.int .i64 f] 3)).alloc o) W → W.cell? ⟨w.heap.size, 0, none⟩ = some (.int .i64 f) := fun n o W hn h => (h.cell (p := ⟨w.heap.size, 0, none⟩) hn).trans (by simp)
  refine (six_areAll [(134, #[.pointer (some ⟨w.heap.size, 0, none⟩)], flags61 f), (135, #[.pointer (some ⟨w.heap.size, 0, none⟩)], flags62 f), (136, #[.pointer (some ⟨w.heap.size, 0, none⟩)], flags63 f)] _ _ _ _ _ (by simp) rfl (by simp) ?h2).mono ?h3
  case h2 =>
    refine ⟨by simp, enters_of Tryz.func134 (by kernel_rfl) rfl, fun W h => Pu.rt (flags61_calls f _ W (key _ _ W (by simp; omega) h)), fun _ => ?_⟩
    refine ⟨by simp, enters_of Tryz.func135 (by kernel_rfl) rfl, fun W h => Pu.rt (flags62_calls f _ W (key _ _ W (by simp; omega) h)), fun _ => ?_⟩
    exact ⟨by simp, enters_of Tryz.func136 (by kernel_rfl) rfl, fun W h => Pu.rt (flags63_calls f _ W (key _ _ W (by simp; omega) h)), fun _ => trivial⟩
  case h3 =>
    rintro e w1 ⟨rfl, hb⟩
    clear key
    go_wp2
    go_ret
    refine ⟨by simp [flags6, Bool.and_assoc], ?_⟩
    ((repeat' (first | exact Below.refl _ _ | assumption | (refine Below.drew ?_) | (refine Below.alloc ?_ ?_ _) | (refine Below.setCell ?_ ?_ _) | (refine Below.step (W := ?hW) ?hq ?_ ?_; case hq => assumption))) <;> (first | (simp; done) | (simp; omega) | (simp at *; omega)))
end Go.Proofs.YtllfaffbaijgfaaGreatDoor
