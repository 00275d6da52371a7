/- ext's walker: the number of the next one, a block put. Maps that count: from numbers to numbers. No program text. Maps that tell yes or no of numbers. No program text. -/
import Derived.Test.YtllfaffbaijgfaaGreatDoorJ09
import Derived.Test.YtllfaffbaijgfaaGreatDoorJ12
import Derived.Deep.RegionHeld3
import Derived.Deep.RegionLaw
import Derived.BigRegion
import Derived.Deep.AppendLies
import Derived.StillTactics
import Derived.Deep.CutRange
import Derived.Test.YtllfaffbaijgfaaGreatDoorJ02
set_option linter.unusedVariables false
set_option linter.unusedSimpArgs false
namespace Go.Proofs.YtllfaffbaijgfaaGreatDoor
open Go Go.RowKit Go.Shelf

/-- a walker, as it lies -/
def WalkAt (W : World) (P : Nat) (tm v : Value) (c : Class) (num : Int) : Prop :=
  W.heap[P]? = some (.cells #[tm, v, .int .i64 c.priority, .bool c.custody, .int .i64 c.custodian.scheme, .string (bs c.custodian.node), .string (bs c.custodian.service), .int .i64 c.custodian.a, .int .i64 c.custodian.b, .int .i64 num] 217 (0, 0))
def nextI (num : Int) (last : Bool) : Int := if last = true then 1 else num + 1 + 1

set_option maxRecDepth 100000 in
theorem next_calls (P : Nat) (tm v : Value) (c : Class) (num : Int) (last : Bool) (w : World) (h0 : 0 ≤ num) (h1 : num ≤ 1000000) (hw : WalkAt w P tm v c num) :
    Calls Tryz.prog 249 #[.pointer (some ⟨P, 0, none⟩), .bool last] w (fun e w' => e = .returned (.int .i64 (nextI num last)) ∧ w' = w.setCell ⟨P, 9, none⟩ (.int .i64 (num + 1))) := by
  have k9 := cellsOf hw 9
  simp only [List.getElem?_toArray, List.getElem?_cons_succ, List.getElem?_cons_zero] at k9
  have f9 : w.frozen? ⟨P, 9, none⟩ = false := by have := hw; unfold WalkAt at this; simp [World.frozen?, this]
  have e1 : wrap64 (num + 1) = num + 1 := by unfold wrap64; omega
  have e2 : wrap64 (num + 1 + 1) = num + 1 + 1 := by unfold wrap64; omega
  have hx := cellsOf (heap_setCell_same (i := 9) (v := .int .i64 (num + 1)) hw) 9
  clear hw
  cases last
  · go_enter Tryz.func249, Tryz.ntmps249
    go_wp2
    go_ret
    exact ⟨rfl, rfl⟩
  · go_enter Tryz.func249, Tryz.ntmps249
    go_wp2
    go_ret
    exact ⟨rfl, rfl⟩

def bcells (b : Block) : List Value := [.int .i64 b.type, .int .i64 b.num, .int .i64 b.flags, .int .i64 b.sum, .slice none 0 0, .string (bs b.data)]
def blocksFlat (l : List Block) : List Value := l.flatMap bcells
/-- a step that turns P and the row at most -/
structure Turn2 (P : Nat) (row : Option Nat) (w w' : World) : Prop where
  os : w'.os = w.os
  tape : w'.tape = w.tape
  output : w'.output = w.output
  size : w.heap.size ≤ w'.heap.size
  block : ∀ k, k < w.heap.size → k ≠ P → some k ≠ row → w'.heap[k]? = w.heap[k]?
theorem infoBlock : (Tryz.prog.info? 57).map (fun i => (i.zero, i.size, i.bytes)) = some (some (.agg #[.int .i64 0, .int .i64 0, .int .i64 0, .int .i64 0, .slice none 0 0, .string { data := #[] }]), 6, 72) := by kernel_rfl

set_option maxRecDepth 100000 in
set_option maxHeartbeats 4000000 in
theorem put_calls (P base k : Nat) (tm v : Value) (c : Class) (num : Int) (last : Bool) (b : Block) (l : List Block) (w : World) (h0 : 0 ≤ num) (h1 : num ≤ 1000000) (hw : WalkAt w P tm v c num) (hrow : w.ownsRow base 57 6 v k (blocksFlat l)) (hk : k ≤ 1000000) (hbase : base ≤ w.heap.size) :
    Calls Tryz.prog 169 #[.pointer (some ⟨P, 0, none⟩), .bool last, .agg #[.int .i64 b.type, .int .i64 b.num, .int .i64 b.flags, .int .i64 b.sum, .slice none 0 0, .string (bs b.data)]] w (fun e w' => ∃ g cap, e = .returned (.tuple #[]) ∧ WalkAt w' P tm (.slice (some ⟨g, 0, none⟩) (k + 1) cap) c (num + 1) ∧
      w'.ownsRow base 57 6 (.slice (some ⟨g, 0, none⟩) (k + 1) cap) (k + 1) (blocksFlat (l ++ [{ b with num := nextI num last }])) ∧ Turn2 P v.ownBlock w w' ∧ (v.ownBlock = some g ∨ w.heap.size ≤ g)) := by
  have hPl : P < w.heap.size := (Array.getElem?_eq_some_iff.1 hw).1
  have hPv : v.ownBlock ≠ some P := by
    rcases hrow.2 with ⟨rfl, _⟩ | ⟨g, cap, cur, rfl, _, hg, _⟩
    · simp [Value.ownBlock]
    · intro e
      obtain rfl : g = P := by simpa [Value.ownBlock] using e
      unfold WalkAt at hw
      rw [hg] at hw; cases hw
  have hvB : v.ownBlock ≠ some w.heap.size := by
    rcases hrow.2 with ⟨rfl, _⟩ | ⟨g, cap, cur, rfl, _, hg, _⟩
    · simp [Value.ownBlock]
    · intro e
      obtain rfl : g = w.heap.size := by simpa [Value.ownBlock] using e
      have := (Array.getElem?_eq_some_iff.1 hg).1
      omega
  go_enter Tryz.func169, Tryz.ntmps169
  go_wp2_with fail
  obtain ⟨w0, hw0⟩ : ∃ w0, w0 = w.alloc (.cells #[.int .i64 b.type, .int .i64 b.num, .int .i64 b.flags, .int .i64 b.sum, .slice none 0 0, .string (bs b.data)] 57) := ⟨_, rfl⟩
  rw [← hw0]
  have P0 : WalkAt w0 P tm v c num := by rw [hw0]; exact (Below.heap_alloc w _ P hPl).trans hw
  have B0 : w0.heap[w.heap.size]? = some (.cells #[.int .i64 b.type, .int .i64 b.num, .int .i64 b.flags, .int .i64 b.sum, .slice none 0 0, .string (bs b.data)] 57 (0, 0)) := by rw [hw0]; exact World.alloc_heap_new w _
  have R0 : w0.ownsRow base 57 6 v k (blocksFlat l) := by rw [hw0]; exact hrow.alloc _
  have T0 : Turn2 P v.ownBlock w w0 := by rw [hw0]; exact ⟨rfl, rfl, rfl, by simp, fun j hj _ _ => Below.heap_alloc w _ j hj⟩
  have hs0 : w0.heap.size = w.heap.size + 1 := by rw [hw0]; simp
  clear hw0
  refine (next_calls P tm v c num last w0 h0 h1 P0).mono ?_
  rintro e_ w1 ⟨rfl, hw1⟩
  have P1 : WalkAt w1 P tm v c (num + 1) := by rw [hw1]; exact heap_setCell_same (i := 9) P0
  have B1 : w1.heap[w.heap.size]? = some (.cells #[.int .i64 b.type, .int .i64 b.num, .int .i64 b.flags, .int .i64 b.sum, .slice none 0 0, .string (bs b.data)] 57 (0, 0)) := by rw [hw1]; exact (heap_setCell_ne (by omega)).trans B0
  have R1 : w1.ownsRow base 57 6 v k (blocksFlat l) := by
    rw [hw1]
    refine row_kept (fun g c' m hg => ?_) R0
    have hne : g ≠ P := by rintro rfl; unfold WalkAt at P0; rw [P0] at hg; cases hg
    exact (heap_setCell_ne hne).trans hg
  have T1 : Turn2 P v.ownBlock w w1 := by
    rw [hw1]
    exact ⟨T0.os, T0.tape, T0.output, by rw [size_setCell]; exact T0.size, fun j hj h2 h3 => (heap_setCell_ne h2).trans (T0.block j hj h2 h3)⟩
  have hs1 : w1.heap.size = w.heap.size + 1 := by rw [hw1, size_setCell, hs0]
  clear hw1 P0 B0 R0 T0 hs0 hw hrow
  obtain ⟨m, hm⟩ : ∃ m, m = nextI num last := ⟨_, rfl⟩
  rw [← hm]
  have Hm := hide hm
  clear hm
  have c1 := cellsOf B1 1
  simp only [List.getElem?_toArray, List.getElem?_cons_succ, List.getElem?_cons_zero] at c1
  have f1 : w1.frozen? ⟨w.heap.size, 1, none⟩ = false := by simp [World.frozen?, B1]
  go_upto_region 2 with fail
  refine wp_named fun w2 hw2 => ?_
  have P2 : WalkAt w2 P tm v c (num + 1) := by rw [hw2]; exact (heap_setCell_ne (by omega)).trans P1
  have B2 : w2.heap[w.heap.size]? = some (.cells #[.int .i64 b.type, .int .i64 m, .int .i64 b.flags, .int .i64 b.sum, .slice none 0 0, .string (bs b.data)] 57 (0, 0)) := by rw [hw2]; exact heap_setCell_same B1
  have R2 : w2.ownsRow base 57 6 v k (blocksFlat l) := by
    rw [hw2]
    rcases R1.2 with ⟨e1, e2⟩ | ⟨g, cap, cur, e1, e2, e3, e4⟩
    · exact ⟨R1.1, .inl ⟨e1, e2⟩⟩
    · refine ⟨R1.1, .inr ⟨g, cap, cur, e1, e2, (heap_setCell_ne ?_).trans e3, e4⟩⟩
      rintro rfl
      exact hvB (by rw [e1]; rfl)
  have T2 : Turn2 P v.ownBlock w w2 := by
    rw [hw2]
    exact ⟨T1.os, T1.tape, T1.output, by rw [size_setCell]; exact T1.size, fun j hj h2 h3 => (heap_setCell_ne (by omega)).trans (T1.block j hj h2 h3)⟩
  have hs2 : w2.heap.size = w.heap.size + 1 := by rw [hw2, size_setCell, hs1]
  clear hw2 P1 B1 R1 T1 hs1 c1 f1
  have HP2 := hide P2
  have HT2 := hide T2
  have k0 := cellsOf B2 0
  simp only [List.getElem?_toArray, List.getElem?_cons_succ, List.getElem?_cons_zero] at k0
  have k1 := cellsOf B2 1
  simp only [List.getElem?_toArray, List.getElem?_cons_succ, List.getElem?_cons_zero] at k1
  have k2 := cellsOf B2 2
  simp only [List.getElem?_toArray, List.getElem?_cons_succ, List.getElem?_cons_zero] at k2
  have k3 := cellsOf B2 3
  simp only [List.getElem?_toArray, List.getElem?_cons_succ, List.getElem?_cons_zero] at k3
  have k4 := cellsOf B2 4
  simp only [List.getElem?_toArray, List.getElem?_cons_succ, List.getElem?_cons_zero] at k4
  have k5 := cellsOf B2 5
  simp only [List.getElem?_toArray, List.getElem?_cons_succ, List.getElem?_cons_zero] at k5
  have p1 := cellsOf P2 1
  simp only [List.getElem?_toArray, List.getElem?_cons_succ, List.getElem?_cons_zero] at p1
  have p1f : w2.frozen? ⟨P, 1, none⟩ = false := by have := P2; unfold WalkAt at this; simp [World.frozen?, this]
  obtain ⟨B, hB⟩ : ∃ B, B = w.heap.size := ⟨_, rfl⟩
  rw [← hB] at k0 k1 k2 k3 k4 k5 hs2 hvB ⊢
  have hBb : base ≤ B := by rw [hB]; exact hbase
  have hPB : P < B := by rw [hB]; exact hPl
  have HB := hide (And.intro hB hbase)
  clear hB hbase hPl B2 P2
  obtain ⟨i0, hi0, hz0, hz1, hz2⟩ := info_parts infoBlock
  have hm1 : k + 1 ≤ maxLen := by unfold maxLen; omega
  have hm2 : (k + 1) * 72 ≤ 140737488355328 := by omega
  have hbw : base ≤ w2.heap.size + 1 := by omega
  have hfz : ((w2.alloc (.cells #[.int .i64 b.type, .int .i64 m, .int .i64 b.flags, .int .i64 b.sum, .slice none 0 0, .string (bs b.data)] 57)).drew).frozen? ⟨P, 1, none⟩ = false := by
    rw [show ((w2.alloc (.cells #[.int .i64 b.type, .int .i64 m, .int .i64 b.flags, .int .i64 b.sum, .slice none 0 0, .string (bs b.data)] 57)).drew).frozen? ⟨P, 1, none⟩ = (w2.alloc (.cells #[.int .i64 b.type, .int .i64 m, .int .i64 b.flags, .int .i64 b.sum, .slice none 0 0, .string (bs b.data)] 57)).frozen? ⟨P, 1, none⟩ from rfl]
    exact (World.frozen?_of_block (w := w2) (Below.heap_alloc w2 _ P (by omega))).trans p1f
  have new0 := World.new_ne w2 ⟨P, 1, none⟩ p1
  have new1 := World.new_ne w2 ⟨B, 0, none⟩ k0
  have hPw : P < w2.heap.size := by omega
  have hnew : (w2.alloc (.cells #[.int .i64 b.type, .int .i64 m, .int .i64 b.flags, .int .i64 b.sum, .slice none 0 0, .string (bs b.data)] 57)).heap[B + 1]? = some (.cells #[.int .i64 b.type, .int .i64 m, .int .i64 b.flags, .int .i64 b.sum, .slice none 0 0, .string (bs b.data)] 57 (0, 0)) := by rw [← hs2]; exact World.alloc_heap_new w2 _
  go_region_law ((refine step_append_lies _ (by rfl) _ _ _ (by rfl) base 57 i0 _ 6 72 Tryz.underlying30 hi0 hz0 hz1 hz2 rfl (by omega) v k (blocksFlat l) (by rfl) ((R2.alloc _).drew) ⟨B + 1, 0, none⟩ 1 1 [.int .i64 b.type, .int .i64 m, .int .i64 b.flags, .int .i64 b.sum, .slice none 0 0, .string (bs b.data)] (by rfl) (by rfl) (World.news_of_block (cs := #[.int .i64 b.type, .int .i64 m, .int .i64 b.flags, .int .i64 b.sum, .slice none 0 0, .string (bs b.data)]) (t := 57) (fr := (0, 0)) hnew) (by simp [Value.oneCell']) (by omega) hm1 hm2 (by simp; omega) (B + 1 + 1) (by simp [hs2]) ?_; intro g cap w3 hown3 hgrow hat hlt; have hP3 : w3.heap[P]? = some (.cells #[tm, v, .int .i64 c.priority, .bool c.custody, .int .i64 c.custodian.scheme, .string (bs c.custodian.node), .string (bs c.custodian.service), .int .i64 c.custodian.a, .int .i64 c.custodian.b, .int .i64 (num + 1)] 217 (0, 0)) := (hgrow.block P (by simp; omega) (Ne.symm hPv)).trans ((Below.heap_alloc w2 _ P hPw).trans HP2.out); have c3 := cellsOf hP3 1; simp only [List.getElem?_toArray, List.getElem?_cons_succ, List.getElem?_cons_zero] at c3; have f3 : w3.frozen? ⟨P, 1, none⟩ = false := by simp [World.frozen?, hP3]))
  all_goals
    go_end0
    refine ⟨g, cap, rfl, heap_setCell_same (i := 1) hP3, ?_, ?_, ?_⟩
    · have e : blocksFlat (l ++ [{ b with num := nextI num last }]) = blocksFlat l ++ [.int .i64 b.type, .int .i64 m, .int .i64 b.flags, .int .i64 b.sum, .slice none 0 0, .string (bs b.data)] := by
        rw [Hm.out]; simp [blocksFlat, bcells, List.flatMap_append]
      rw [e]
      exact row_kept (fun g' c' m' hg => (heap_setCell_ne (by rintro rfl; rw [hP3] at hg; cases hg)).trans hg) hown3
    · have T := HT2.out
      exact ⟨hgrow.os.trans T.os, hgrow.tape.trans T.tape, hgrow.output.trans T.output, by
        rw [size_setCell]; have := hgrow.size; simp at this; have := T.size; omega, fun j hj h2 h3 =>
        (heap_setCell_ne h2).trans ((hgrow.block j (by simp; have := T.size; omega) h3).trans ((Below.heap_alloc w2 _ j (by have := T.size; omega)).trans (T.block j hj h2 h3)))⟩
    · rcases hat with h | h
      · exact .inl h
      · exact .inr (by have := HB.out.1; omega)
end Go.Proofs.YtllfaffbaijgfaaGreatDoor

namespace Go.Proofs.YtllfaffbaijgfaaGreatDoor
open Go Go.RowKit

/-- the map o says f of each number; what it does not have is 0 -/
def Cnt (f : Int → Int) (o : Obj) : Prop := ∃ es c, o = .map es c ∧ IntKeys es.toList ∧ ∀ k, (match findInt k es.toList 0 with | some (_, v) => v = .int .i64 (f k) | none => f k = 0)
theorem Cnt.notCells {f : Int → Int} {o : Obj} (h : Cnt f o) : o.isCells = false := by
  obtain ⟨es, c, rfl, _⟩ := h
  rfl
theorem Cnt.empty : Cnt (fun _ => 0) (.map #[] 0) := ⟨#[], 0, rfl, fun e h => by simp at h, fun k => rfl⟩

theorem findInt_at {n : Int} : ∀ {es : List MapEntry} {i j : Nat} {v : Value}, findInt n es i = some (j, v) → ∃ e, es[j - i]? = some e ∧ i ≤ j ∧ intOf e.key = n ∧ e.val = v
  | [], _, _, _, h => by simp [findInt] at h
  | e :: es, i, j, v, h => by
    unfold findInt at h
    cases he : (n == intOf e.key) with
    | true =>
      simp only [he, if_true, Option.some.injEq, Prod.mk.injEq] at h
      obtain ⟨rfl, rfl⟩ := h
      exact ⟨e, by simp, Nat.le_refl _, (by simpa using he : n = intOf e.key).symm, rfl⟩
    | false =>
      simp only [he, Bool.false_eq_true, if_false] at h
      obtain ⟨e', h1, h2, h3⟩ := findInt_at h
      refine ⟨e', ?_, by omega, h3⟩
      rw [show j - i = (j - (i + 1)) + 1 by omega, List.getElem?_cons_succ]
      exact h1
theorem findInt_push {n : Int} {e : MapEntry} : ∀ {es : List MapEntry} {i : Nat}, findInt n (es ++ [e]) i = match findInt n es i with | some x => some x | none => if n == intOf e.key then some (i + es.length, e.val) else none
  | [], i => by simp [findInt]
  | x :: es, i => by
    simp only [List.cons_append, findInt]
    cases hx : (n == intOf x.key) with
    | true => simp
    | false =>
      simp only [Bool.false_eq_true, if_false]
      rw [findInt_push]
      simp [Nat.add_assoc, Nat.add_comm 1]
theorem findInt_modify {n m : Int} {v : Value} : ∀ {es : List MapEntry} {i j : Nat} {old : Value}, findInt m es i = some (j, old) → findInt n (es.modify (j - i) fun e => { e with key := intKey m, val := v }) i = if n = m then some (j, v) else findInt n es i
  | [], _, _, _, h => by simp [findInt] at h
  | e :: es, i, j, old, h => by
    unfold findInt at h
    cases he : (m == intOf e.key) with
    | true =>
      simp only [he, if_true, Option.some.injEq, Prod.mk.injEq] at h
      obtain ⟨rfl, rfl⟩ := h
      have hm : m = intOf e.key := by simpa using he
      simp only [Nat.sub_self, List.modify_zero_cons, findInt]
      by_cases hn : n = m
      · simp [hn, intKey, intOf]
      · have h1 : (n == intOf e.key) = false := by simpa [← hm] using hn
        have h2 : (n == intOf (intKey m)) = false := by simpa [intKey, intOf] using hn
        simp [hn, h1, h2]
    | false =>
      simp only [he, Bool.false_eq_true, if_false] at h
      obtain ⟨_, _, hle, _⟩ := findInt_at h
      rw [show j - i = (j - (i + 1)) + 1 by omega, List.modify_succ_cons]
      simp only [findInt]
      have hme : m ≠ intOf e.key := by simpa using he
      rw [findInt_modify h]
      by_cases hn : n = m
      · subst hn; simp [hme]
      · simp [hn]

theorem Cnt.lookup {P : Program} {w : World} {r : Nat} {o : Obj} {f : Int → Int} {t k e : TypeId} (ht : P.underlying t = some (.map k e)) (hk : P.underlying k = some (.int .i64)) (hz : ∀ W, (zeroValue e).run P W = .ok (.int .i64 0) W) (ho : w.heap[r]? = some o) (h : Cnt f o) (n : Int) :
    (Instr.lookup t (.map (some r)) (.int .i64 n) false).run P w = .ok (.int .i64 (f n)) w := by
  obtain ⟨es, c, rfl, hi, hv⟩ := h
  have hv := hv n
  cases hf : findInt n es.toList 0 with
  | none =>
    simp only [hf] at hv
    rw [run_lookup_miss ht hk hz ho n false hi hf, hv]
    rfl
  | some x =>
    obtain ⟨i, v⟩ := x
    simp only [hf] at hv
    rw [run_lookup_hit ht hk ho n false hi hf, hv]
    rfl

theorem Cnt.update {P : Program} {w : World} {r : Nat} {o : Obj} {f : Int → Int} {t k e : TypeId} (ht : P.underlying t = some (.map k e)) (hk : P.underlying k = some (.int .i64)) (ho : w.heap[r]? = some o) (h : Cnt f o) (n m : Int) :
    ∃ o', (Instr.mapUpdate t (.map (some r)) (.int .i64 n) (.int .i64 m)).run P w = .ok () (w.putObj r o') ∧ Cnt (fun k => if k = n then m else f k) o' := by
  obtain ⟨es, c, rfl, hi, hv⟩ := h
  cases hf : findInt n es.toList 0 with
  | none =>
    refine ⟨_, run_mapUpdate_new ht hk ho n _ hi hf, _, _, rfl, ?_, fun k => ?_⟩
    · intro e he
      rw [Array.toList_push] at he
      rcases List.mem_append.1 he with he | he
      · exact hi e he
      · simp at he; subst he; exact ⟨n, rfl⟩
    · rw [Array.toList_push, findInt_push]
      have hk := hv k
      by_cases e : k = n
      · subst e; simp [hf, intKey, intOf]
      · simp only [if_neg e]
        cases hg : findInt k es.toList 0 with
        | none => simp only [hg] at hk ⊢; simp [intKey, intOf, e, hk]
        | some x => simp only [hg] at hk ⊢; exact hk
  | some x =>
    obtain ⟨i, old⟩ := x
    obtain ⟨en, h1, _, h2, _⟩ := findInt_at hf
    rw [Nat.sub_zero] at h1
    have hkey : en.key = intKey n := by
      obtain ⟨q, hq⟩ := hi en (List.mem_of_getElem? h1)
      rw [hq] at h2 ⊢
      rw [show n = q from h2.symm]
    have h1' : es[i]? = some en := by simpa using h1
    refine ⟨_, run_mapUpdate_old ht hk ho n _ hi hf (by rw [h1']; exact hkey), _, _, rfl, ?_, fun k => ?_⟩
    · intro e he
      rw [Array.toList_modify] at he
      obtain ⟨j, hj⟩ := List.mem_iff_getElem?.1 he
      rw [List.getElem?_modify] at hj
      cases hes : es.toList[j]? with
      | none => simp [hes] at hj
      | some y =>
        rw [hes] at hj
        have hj := Option.some.inj hj
        by_cases hij : i = j
        · simp only [if_pos hij] at hj; subst hj; exact ⟨n, rfl⟩
        · simp only [if_neg hij] at hj; subst hj; exact hi y (List.mem_of_getElem? hes)
    · rw [Array.toList_modify]
      have := findInt_modify (n := k) (v := .int .i64 m) hf
      rw [Nat.sub_zero] at this
      rw [this]
      have hk := hv k
      by_cases e : k = n
      · simp [e]
      · simp only [if_neg e]; exact hk
end Go.Proofs.YtllfaffbaijgfaaGreatDoor

namespace Go.Proofs.YtllfaffbaijgfaaGreatDoor
open Go Go.RowKit

/-- the map o says f of each number; what it does not have is false -/
def Met (f : Int → Bool) (o : Obj) : Prop := ∃ es c, o = .map es c ∧ IntKeys es.toList ∧ ∀ k, (match findInt k es.toList 0 with | some (_, v) => v = .bool (f k) | none => f k = false)
theorem Met.notCells {f : Int → Bool} {o : Obj} (h : Met f o) : o.isCells = false := by
  obtain ⟨es, c, rfl, _⟩ := h
  rfl
theorem Met.empty : Met (fun _ => false) (.map #[] 0) := ⟨#[], 0, rfl, fun e h => by simp at h, fun k => rfl⟩

theorem Met.lookup {P : Program} {w : World} {r : Nat} {o : Obj} {f : Int → Bool} {t k e : TypeId} (ht : P.underlying t = some (.map k e)) (hk : P.underlying k = some (.int .i64)) (hz : ∀ W, (zeroValue e).run P W = .ok (.bool false) W) (ho : w.heap[r]? = some o) (h : Met f o) (n : Int) :
    (Instr.lookup t (.map (some r)) (.int .i64 n) false).run P w = .ok (.bool (f n)) w := by
  obtain ⟨es, c, rfl, hi, hv⟩ := h
  have hv := hv n
  cases hf : findInt n es.toList 0 with
  | none =>
    simp only [hf] at hv
    rw [run_lookup_miss ht hk hz ho n false hi hf, hv]
    rfl
  | some x =>
    obtain ⟨i, v⟩ := x
    simp only [hf] at hv
    rw [run_lookup_hit ht hk ho n false hi hf, hv]
    rfl

theorem Met.update {P : Program} {w : World} {r : Nat} {o : Obj} {f : Int → Bool} {t k e : TypeId} (ht : P.underlying t = some (.map k e)) (hk : P.underlying k = some (.int .i64)) (ho : w.heap[r]? = some o) (h : Met f o) (n : Int) (m : Bool) :
    ∃ o', (Instr.mapUpdate t (.map (some r)) (.int .i64 n) (.bool m)).run P w = .ok () (w.putObj r o') ∧ Met (fun k => if k = n then m else f k) o' := by
  obtain ⟨es, c, rfl, hi, hv⟩ := h
  cases hf : findInt n es.toList 0 with
  | none =>
    refine ⟨_, run_mapUpdate_new ht hk ho n _ hi hf, _, _, rfl, ?_, fun k => ?_⟩
    · intro e he
      rw [Array.toList_push] at he
      rcases List.mem_append.1 he with he | he
      · exact hi e he
      · simp at he; subst he; exact ⟨n, rfl⟩
    · rw [Array.toList_push, findInt_push]
      have hk := hv k
      by_cases e : k = n
      · subst e; simp [hf, intKey, intOf]
      · simp only [if_neg e]
        cases hg : findInt k es.toList 0 with
        | none => simp only [hg] at hk ⊢; simp [intKey, intOf, e, hk]
        | some x => simp only [hg] at hk ⊢; exact hk
  | some x =>
    obtain ⟨i, old⟩ := x
    obtain ⟨en, h1, _, h2, _⟩ := findInt_at hf
    rw [Nat.sub_zero] at h1
    have hkey : en.key = intKey n := by
      obtain ⟨q, hq⟩ := hi en (List.mem_of_getElem? h1)
      rw [hq] at h2 ⊢
      rw [show n = q from h2.symm]
    have h1' : es[i]? = some en := by simpa using h1
    refine ⟨_, run_mapUpdate_old ht hk ho n _ hi hf (by rw [h1']; exact hkey), _, _, rfl, ?_, fun k => ?_⟩
    · intro e he
      rw [Array.toList_modify] at he
      obtain ⟨j, hj⟩ := List.mem_iff_getElem?.1 he
      rw [List.getElem?_modify] at hj
      cases hes : es.toList[j]? with
      | none => simp [hes] at hj
      | some y =>
        rw [hes] at hj
        have hj := Option.some.inj hj
        by_cases hij : i = j
        · simp only [if_pos hij] at hj; subst hj; exact ⟨n, rfl⟩
        · simp only [if_neg hij] at hj; subst hj; exact hi y (List.mem_of_getElem? hes)
    · rw [Array.toList_modify]
      have := findInt_modify (n := k) (v := .bool m) hf
      rw [Nat.sub_zero] at this
      rw [this]
      have hk := hv k
      by_cases e : k = n
      · simp [e]
      · simp only [if_neg e]; exact hk
end Go.Proofs.YtllfaffbaijgfaaGreatDoor
