/- ext's walker: was a type met; a block gone up. ext's walker: a block of version 7 checked; one gone down. ext's walker: a block gone down. ext: blocks gone through. -/
import Derived.Test.YtllfaffbaijgfaaGreatDoorJ13
import Derived.Test.YtllfaffbaijgfaaGreatDoorJ14
set_option linter.unusedVariables false
set_option linter.unusedSimpArgs false
namespace Go.Proofs.YtllfaffbaijgfaaGreatDoor
open Go Go.RowKit Go.Shelf

theorem zero_bool (W : World) : (zeroValue 4).run Tryz.prog W = .ok (.bool false) W := by kernel_rfl

set_option maxRecDepth 100000 in
theorem metTwice_calls (P M : Nat) (tm v : Value) (c : Class) (num t : Int) (f : Int → Bool) (o : Obj) (w : World) (hw : WalkAt w P (.map (some M)) v c num) (ho : w.heap[M]? = some o) (h : Met f o) :
    Calls Tryz.prog 253 #[.pointer (some ⟨P, 0, none⟩), .int .i64 t] w (fun e w' => ∃ o', e = .returned (.bool (f t)) ∧ w' = w.putObj M o' ∧ Met (fun k => if k = t then true else f k) o') := by
  have k0 := cellsOf hw 0
  simp only [List.getElem?_toArray, List.getElem?_cons_succ, List.getElem?_cons_zero] at k0
  have hl := Met.lookup (P := Tryz.prog) Tryz.underlying213 Tryz.underlying3 zero_bool ho h t
  obtain ⟨o', hu, hm⟩ := Met.update (P := Tryz.prog) Tryz.underlying213 Tryz.underlying3 ho h t true
  have Hm := hide hm
  clear hm h hw ho
  go_enter Tryz.func253, Tryz.ntmps253
  go_wp2
  go_ret
  exact ⟨o', rfl, rfl, Hm.out⟩

/-- what a walker holds -/
structure WS where
  num : Int
  out : List Block
  met : Int → Bool
/-- a walker at P, its map at M: it holds s; all that it makes lies from base on -/
structure WalkSt (base P M : Nat) (c : Class) (s : WS) (W : World) : Prop where
  there : ∃ v o, WalkAt W P (.map (some M)) v c s.num ∧ W.ownsRow base 57 6 v s.out.length (blocksFlat s.out) ∧ W.heap[M]? = some o ∧ Met s.met o
  low : base ≤ W.heap.size
  atP : base ≤ P
  atM : base ≤ M
  num0 : 0 ≤ s.num
/-- a step of a walker: of what lies, it turns itself, its map and blocks of blocks alone -/
structure WStep (base P M : Nat) (w w' : World) : Prop where
  os : w'.os = w.os
  tape : w'.tape = w.tape
  output : w'.output = w.output
  size : w.heap.size ≤ w'.heap.size
  low : ∀ k, k < base → w'.heap[k]? = w.heap[k]?
  far : ∀ k o, w.heap[k]? = some o → k ≠ P → k ≠ M → (∀ c m, o ≠ .cells c 57 m) → w'.heap[k]? = some o
theorem WStep.refl (base P M : Nat) (w : World) : WStep base P M w w := ⟨rfl, rfl, rfl, Nat.le_refl _, fun _ _ => rfl, fun _ _ h _ _ _ => h⟩
theorem WStep.trans {base P M : Nat} {a b c : World} (h : WStep base P M a b) (k : WStep base P M b c) : WStep base P M a c :=
  ⟨k.os.trans h.os, k.tape.trans h.tape, k.output.trans h.output, Nat.le_trans h.size k.size, fun j hj => (k.low j hj).trans (h.low j hj), fun j o h1 h2 h3 h4 => k.far j o (h.far j o h1 h2 h3 h4) h2 h3 h4⟩
theorem WStep.of_below {base P M : Nat} {a b : World} (h : Below a.heap.size a b) (hb : base ≤ a.heap.size) : WStep base P M a b :=
  ⟨h.os, h.tape, h.output, h.size, fun j hj => h.block j (by omega), fun j o h1 _ _ _ => (h.block j (Array.getElem?_eq_some_iff.1 h1).1).trans h1⟩
theorem WStep.below {base P M : Nat} {w a b : World} (h : WStep base P M a b) (k : Below base w a) : Below base w b := k.trans ⟨h.os, h.tape, h.output, h.size, fun j hj => h.low j hj⟩
theorem WStep.of_map {base P M : Nat} {a : World} (o' : Obj) (hM : base ≤ M) : WStep base P M a (a.putObj M o') :=
  ⟨rfl, rfl, rfl, by simp, fun j hj => World.putObj_heap_other (by omega), fun j o h1 _ h3 _ => (World.putObj_heap_other h3).trans h1⟩
theorem WStep.of_turn {base P M k : Nat} {a b : World} {v : Value} {xs : List Value} (h : Turn2 P v.ownBlock a b) (hP : base ≤ P) (hr : a.ownsRow base 57 6 v k xs) (hb : base ≤ a.heap.size) : WStep base P M a b :=
  ⟨h.os, h.tape, h.output, h.size, fun j hj => h.block j (by omega) (by omega) (by
    rcases hr.2 with ⟨rfl, _⟩ | ⟨g, cap, cur, rfl, hg, _⟩
    · simp [Value.ownBlock]
    · simp [Value.ownBlock]; omega), fun j o h1 h2 _ h4 => (h.block j (Array.getElem?_eq_some_iff.1 h1).1 h2 (by
    rcases hr.2 with ⟨rfl, _⟩ | ⟨g, cap, cur, rfl, hg, h5, _⟩
    · simp [Value.ownBlock]
    · intro e
      obtain rfl : j = g := by simpa [Value.ownBlock] using e
      rw [h5] at h1; cases h1
      exact h4 _ _ rfl)).trans h1⟩
theorem WalkSt.below {base P M : Nat} {c : Class} {s : WS} {w w' : World} (h : WalkSt base P M c s w) (hb : Below w.heap.size w w') : WalkSt base P M c s w' := by
  obtain ⟨⟨v, o, h1, h2, h3, h4⟩, h5, h6, h7, h8⟩ := h
  exact ⟨⟨v, o, heapKept h1 hb, row_kept (fun g c m hg => heapKept hg hb) h2, heapKept h3 hb, h4⟩, Nat.le_trans h5 hb.size, h6, h7, h8⟩

theorem walkMet_calls (base P M : Nat) (c : Class) (s : WS) (t : Int) (w : World) (h : WalkSt base P M c s w) :
    Calls Tryz.prog 253 #[.pointer (some ⟨P, 0, none⟩), .int .i64 t] w (fun e w' => e = .returned (.bool (s.met t)) ∧ WalkSt base P M c ⟨s.num, s.out, fun k => if k = t then true else s.met k⟩ w' ∧ WStep base P M w w' ∧ ∀ (k : Nat) (c : Array Value) (t : TypeId) (m : Nat × Nat), w.heap[k]? = some (.cells c t m) → w'.heap[k]? = some (.cells c t m)) := by
  obtain ⟨⟨v, o, h1, h2, h3, h4⟩, h5, h6, h7, h8⟩ := h
  refine (metTwice_calls P M (.map (some M)) v c s.num t s.met o w h1 h3 h4).mono ?_
  rintro e w' ⟨o', rfl, rfl, h9⟩
  have hPM : P ≠ M := by
    rintro rfl
    unfold WalkAt at h1
    rw [h3] at h1; cases h1
    exact absurd h4.notCells (by simp [Obj.isCells])
  have hlt := (Array.getElem?_eq_some_iff.1 h3).1
  refine ⟨rfl, ⟨⟨v, o', (World.putObj_heap_other hPM).trans h1, row_kept (fun g c m hg => (World.putObj_heap_other (by
    rintro rfl
    rw [h3] at hg; cases hg
    exact absurd h4.notCells (by simp [Obj.isCells]))).trans hg) h2, World.putObj_heap_same hlt, h9⟩, by simp; omega, h6, h7, h8⟩, WStep.of_map o' h7, fun k c t m hg => (World.putObj_heap_other (by
    rintro rfl
    rw [h3] at hg; cases hg
    exact absurd h4.notCells (by simp [Obj.isCells]))).trans hg⟩

theorem walkPut_calls (base P M : Nat) (c : Class) (s : WS) (last : Bool) (b : Block) (w : World) (h : WalkSt base P M c s w) (hn : s.num ≤ 1000000) (hl : s.out.length ≤ 1000000) :
    Calls Tryz.prog 169 #[.pointer (some ⟨P, 0, none⟩), .bool last, .agg #[.int .i64 b.type, .int .i64 b.num, .int .i64 b.flags, .int .i64 b.sum, .slice none 0 0, .string (bs b.data)]] w (fun e w' => e = .returned (.tuple #[]) ∧ WalkSt base P M c ⟨s.num + 1, s.out ++ [{ b with num := nextI s.num last }], s.met⟩ w' ∧ WStep base P M w w') := by
  obtain ⟨⟨v, o, h1, h2, h3, h4⟩, h5, h6, h7, h8⟩ := h
  refine (put_calls P base s.out.length (.map (some M)) v c s.num last b s.out w h8 hn h1 h2 hl h5).mono ?_
  rintro e w' ⟨g, cap, rfl, k1, k2, k3, k4⟩
  have hMP : M ≠ P := by
    rintro rfl
    unfold WalkAt at h1
    rw [h3] at h1; cases h1
    exact absurd h4.notCells (by simp [Obj.isCells])
  have hMv : some M ≠ v.ownBlock := by
    rcases h2.2 with ⟨rfl, _⟩ | ⟨g, cap, cur, rfl, _, hg, _⟩
    · simp [Value.ownBlock]
    · intro e
      obtain rfl : M = g := by simpa [Value.ownBlock] using e
      rw [h3] at hg; cases hg
      exact absurd h4.notCells (by simp [Obj.isCells])
  exact ⟨rfl, ⟨⟨_, o, k1, by simpa using k2, (k3.block M (Array.getElem?_eq_some_iff.1 h3).1 hMP hMv).trans h3, h4⟩, Nat.le_trans h5 k3.size, h6, h7, by show (0 : Int) ≤ s.num + 1; omega⟩, WStep.of_turn k3 h6 h2 h5⟩

/-- a block gone up: the error's number, and what the walker holds behind it -/
def upStep (s : WS) (last : Bool) (b : Block) : Int × WS :=
  if (markUpF b.flags).2 = 0 then (if b.refs.length = 0 then (if (typeUpF b.type).2 = 0 then
    (if (typeUpF b.type).1 = b.type then (0, ⟨s.num + 1, s.out ++ [⟨(typeUpF b.type).1, nextI s.num last, (markUpF b.flags).1, 0, [], b.data⟩], s.met⟩)
     else if s.met (typeUpF b.type).1 = true then (143, ⟨s.num, s.out, fun k => if k = (typeUpF b.type).1 then true else s.met k⟩)
     else (0, ⟨s.num + 1, s.out ++ [⟨(typeUpF b.type).1, nextI s.num last, (markUpF b.flags).1, 0, [], b.data⟩], fun k => if k = (typeUpF b.type).1 then true else s.met k⟩))
    else ((typeUpF b.type).2, s)) else (135, s)) else ((markUpF b.flags).2, s)

set_option maxRecDepth 100000 in
set_option maxHeartbeats 4000000 in
theorem walkUp_calls (S : Nat → Addr) (base P M : Nat) (c : Class) (s : WS) (last : Bool) (b : Block) (a : Option Addr) (cap : Nat) (w : World) (hS : Sents S w) (hp : PairsAt w) (h : WalkSt base P M c s w) (hn : s.num ≤ 1000000) (hl : s.out.length ≤ 1000000) (hr : b.refs.length ≤ 1000000) :
    Calls Tryz.prog 171 #[.pointer (some ⟨P, 0, none⟩), .bool last, .agg #[.int .i64 b.type, .int .i64 b.num, .int .i64 b.flags, .int .i64 b.sum, .slice a b.refs.length cap, .string (bs b.data)]] w (fun e w' => e = .returned (.int .i64 (upStep s last b).1) ∧ WalkSt base P M c (upStep s last b).2 w' ∧ WStep base P M w w') := by
  have H := hide h
  have HM := hide (fun W (hW : Below w.heap.size w W) => markUp_calls S b.flags W (hS.mono hW))
  have HT := hide (fun W (hW : Below w.heap.size w W) => typeUp_calls b.type W (heapKept hp hW))
  obtain ⟨n, hnn⟩ : ∃ n, n = b.refs.length := ⟨_, rfl⟩
  obtain ⟨fl, hfl⟩ : ∃ x, x = (markUpF b.flags).1 := ⟨_, rfl⟩
  obtain ⟨e1, he1⟩ : ∃ x, x = (markUpF b.flags).2 := ⟨_, rfl⟩
  obtain ⟨t, ht⟩ : ∃ x, x = (typeUpF b.type).1 := ⟨_, rfl⟩
  obtain ⟨e2, he2⟩ : ∃ x, x = (typeUpF b.type).2 := ⟨_, rfl⟩
  rw [← hfl, ← he1] at HM
  rw [← ht, ← he2] at HT
  obtain ⟨Z, hZ⟩ : ∃ Z, Z = upStep s last b := ⟨_, rfl⟩
  rw [← hZ, ← hnn]
  rw [upStep, ← hfl, ← he1, ← ht, ← he2, ← hnn] at hZ
  have HZ := hide hZ
  rw [← hnn] at hr
  clear h hS hp hnn hfl he1 ht he2 hZ
  go_enter Tryz.func171, Tryz.ntmps171
  go_wp2_with fail
  obtain ⟨w1, hw1⟩ : ∃ w1, w1 = w.alloc (.cells #[.int .i64 b.type, .int .i64 b.num, .int .i64 b.flags, .int .i64 b.sum, .slice a n cap, .string (bs b.data)] 57) := ⟨_, rfl⟩
  rw [← hw1]
  have hB1 : Below w.heap.size w w1 := by rw [hw1]; ((repeat' (first | exact Below.refl _ _ | assumption | (refine Below.drew ?_) | (refine Below.alloc ?_ ?_ _) | (refine Below.setCell ?_ ?_ _) | (refine Below.step (W := ?hW) ?hq ?_ ?_; case hq => assumption))) <;> (first | (simp; done) | (simp; omega) | (simp at *; omega)))
  have hx : w1.heap[w.heap.size]? = some (.cells #[.int .i64 b.type, .int .i64 b.num, .int .i64 b.flags, .int .i64 b.sum, .slice a n cap, .string (bs b.data)] 57 (0, 0)) := by rw [hw1]; exact World.alloc_heap_new w _
  clear hw1
  obtain ⟨B, hB⟩ : ∃ B, B = w.heap.size := ⟨_, rfl⟩
  rw [← hB] at hx ⊢
  clear hB
  refine (show Calls _ _ _ _ _ from HM.out w1 hB1).mono ?_
  rintro e_ w2 ⟨rfl, hb2⟩
  replace hx := heapKept hx hb2
  have hB2 := hB1.trans (hb2.mono hB1.size)
  clear hb2 hB1
  have k0 := cellsOf hx 0
  simp only [List.getElem?_toArray, List.getElem?_cons_succ, List.getElem?_cons_zero] at k0
  have k4 := cellsOf hx 4
  simp only [List.getElem?_toArray, List.getElem?_cons_succ, List.getElem?_cons_zero] at k4
  have k5 := cellsOf hx 5
  simp only [List.getElem?_toArray, List.getElem?_cons_succ, List.getElem?_cons_zero] at k5
  have St2 := H.out.below hB2
  have Ws2 : WStep base P M w w2 := WStep.of_below hB2 H.out.low
  by_cases h1 : e1 = 0
  · by_cases h2 : n = 0
    · subst h2
      go_wp2_with fail
      refine (show Calls _ _ _ _ _ from HT.out w2 hB2).mono ?_
      rintro e_ w3 ⟨rfl, hb3⟩
      replace hx := heapKept hx hb3
      have hB3 := hB2.trans (hb3.mono hB2.size)
      have St3 := H.out.below hB3
      have Ws3 : WStep base P M w w3 := WStep.of_below hB3 H.out.low
      clear hb3 hB2 St2 Ws2 HM HT k0 k4 k5
      have k0 := cellsOf hx 0
      simp only [List.getElem?_toArray, List.getElem?_cons_succ, List.getElem?_cons_zero] at k0
      have k5 := cellsOf hx 5
      simp only [List.getElem?_toArray, List.getElem?_cons_succ, List.getElem?_cons_zero] at k5
      by_cases h3 : e2 = 0
      · by_cases h4 : t = b.type
        · have hz : Z = (0, ⟨s.num + 1, s.out ++ [⟨t, nextI s.num last, fl, 0, [], b.data⟩], s.met⟩) := by rw [HZ.out, if_pos h1, if_pos trivial, if_pos h3, if_pos h4]
          have HP := hide (walkPut_calls base P M c s last ⟨t, 0, fl, 0, [], b.data⟩ w3 St3 hn hl)
          replace h4 := h4.symm
          have hbt : b.type = t := h4
          rw [hbt] at k0
          clear hbt h4
          go_wp2_with fail
          refine (show Calls _ _ _ _ _ from HP.out).mono ?_
          rintro e_ w4 ⟨rfl, St4, Ws4⟩
          go_wp2_with fail
          go_ret
          exact ⟨by rw [hz]; rfl, by rw [hz]; exact St4, Ws3.trans Ws4⟩
        · obtain ⟨q, hq⟩ : ∃ q, q = s.met t := ⟨_, rfl⟩
          have HI := hide (walkMet_calls base P M c s t w3 St3)
          rw [← hq] at HI
          have Hq := hide hq
          clear hq
          go_wp2_with fail
          refine (show Calls _ _ _ _ _ from HI.out).mono ?_
          rintro e_ w4 ⟨rfl, St4, Ws4, Kc⟩
          have hx4 := Kc _ _ _ _ hx
          clear Kc
          have k5 := cellsOf hx4 5
          simp only [List.getElem?_toArray, List.getElem?_cons_succ, List.getElem?_cons_zero] at k5
          cases q
          · have hz : Z = (0, ⟨s.num + 1, s.out ++ [⟨t, nextI s.num last, fl, 0, [], b.data⟩], fun k => if k = t then true else s.met k⟩) := by rw [HZ.out, if_pos h1, if_pos trivial, if_pos h3, if_neg h4, if_neg (by rw [← Hq.out]; simp)]
            have HP := hide (walkPut_calls base P M c ⟨s.num, s.out, fun k => if k = t then true else s.met k⟩ last ⟨t, 0, fl, 0, [], b.data⟩ w4 St4 hn hl)
            go_wp2_with fail
            refine (show Calls _ _ _ _ _ from HP.out).mono ?_
            rintro e_ w5 ⟨rfl, St5, Ws5⟩
            go_wp2_with fail
            go_ret
            exact ⟨by rw [hz]; rfl, by rw [hz]; exact St5, (Ws3.trans Ws4).trans Ws5⟩
          · have hz : Z = (143, ⟨s.num, s.out, fun k => if k = t then true else s.met k⟩) := by rw [HZ.out, if_pos h1, if_pos trivial, if_pos h3, if_neg h4, if_pos Hq.out.symm]
            go_wp2_with fail
            go_ret
            exact ⟨by rw [hz]; rfl, by rw [hz]; exact St4, Ws3.trans Ws4⟩
      · have hz : Z = (e2, s) := by rw [HZ.out, if_pos h1, if_pos trivial, if_neg h3]
        go_wp2_with fail
        go_ret
        exact ⟨by rw [hz]; rfl, by rw [hz]; exact St3, Ws3⟩
    · have hz : Z = (135, s) := by rw [HZ.out, if_pos h1, if_neg h2]
      have hpos : (0 : Int) < (n : Int) := by omega
      go_wp2_with fail
      go_ret
      exact ⟨by rw [hz]; rfl, by rw [hz]; exact St2, Ws2⟩
  · have hz : Z = (e1, s) := by rw [HZ.out, if_neg h1]
    go_wp2_with fail
    go_ret
    exact ⟨by rw [hz]; rfl, by rw [hz]; exact St2, Ws2⟩
end Go.Proofs.YtllfaffbaijgfaaGreatDoor

namespace Go.Proofs.YtllfaffbaijgfaaGreatDoor
open Go Go.RowKit Go.Shelf

theorem WalkSt.next {base P M : Nat} {c : Class} {s : WS} {w : World} (h : WalkSt base P M c s w) :
    WalkSt base P M c ⟨s.num + 1, s.out, s.met⟩ (w.setCell ⟨P, 9, none⟩ (.int .i64 (s.num + 1))) ∧ WStep base P M w (w.setCell ⟨P, 9, none⟩ (.int .i64 (s.num + 1))) := by
  obtain ⟨⟨v, o, h1, h2, h3, h4⟩, h5, h6, h7, h8⟩ := h
  have hMP : M ≠ P := by
    rintro rfl
    unfold WalkAt at h1
    rw [h3] at h1; cases h1
    exact absurd h4.notCells (by simp [Obj.isCells])
  refine ⟨⟨⟨v, o, heap_setCell_same (i := 9) h1, row_kept (fun g c' m hg => (heap_setCell_ne (by
    rintro rfl
    unfold WalkAt at h1
    rw [h1] at hg; cases hg)).trans hg) h2, (heap_setCell_ne hMP).trans h3, h4⟩, by rw [size_setCell]; exact h5, h6, h7, by show (0 : Int) ≤ s.num + 1; omega⟩, ?_⟩
  exact ⟨rfl, rfl, rfl, by rw [size_setCell]; exact Nat.le_refl _, fun j hj => heap_setCell_ne (by omega), fun j o' h1' h2' _ _ => (heap_setCell_ne h2').trans h1'⟩

def checkE (s : WS) (last : Bool) (b : Block) : Int := if b.num = nextI s.num last then (if b.sum = 0 then (if b.refs.length = 0 then 0 else 135) else 145) else 144

set_option maxRecDepth 100000 in
set_option maxHeartbeats 4000000 in
theorem walkCheck_calls (base P M : Nat) (c : Class) (s : WS) (last : Bool) (b : Block) (a : Option Addr) (cap : Nat) (w : World) (h : WalkSt base P M c s w) (hn : s.num ≤ 1000000) (hr : b.refs.length ≤ 1000000) :
    Calls Tryz.prog 182 #[.pointer (some ⟨P, 0, none⟩), .bool last, .agg #[.int .i64 b.type, .int .i64 b.num, .int .i64 b.flags, .int .i64 b.sum, .slice a b.refs.length cap, .string (bs b.data)]] w (fun e w' => e = .returned (.int .i64 (checkE s last b)) ∧ WalkSt base P M c ⟨s.num + 1, s.out, s.met⟩ w' ∧ WStep base P M w w') := by
  have H := hide h
  obtain ⟨n, hnn⟩ : ∃ n, n = b.refs.length := ⟨_, rfl⟩
  obtain ⟨z, hz⟩ : ∃ z, z = checkE s last b := ⟨_, rfl⟩
  obtain ⟨m, hm⟩ : ∃ m, m = nextI s.num last := ⟨_, rfl⟩
  rw [← hz, ← hnn]
  rw [checkE, ← hm, ← hnn] at hz
  have HZ := hide hz
  have Hm := hide hm
  rw [← hnn] at hr
  have hP : P < w.heap.size := by obtain ⟨v, o, h1, _⟩ := h.there; exact (Array.getElem?_eq_some_iff.1 h1).1
  clear h hnn hz hm
  go_enter Tryz.func182, Tryz.ntmps182
  go_upto_region 1 with fail
  refine wp_named fun w1 hw1 => ?_
  have hB1 : Below w.heap.size w w1 := by rw [hw1]; ((repeat' (first | exact Below.refl _ _ | assumption | (refine Below.drew ?_) | (refine Below.alloc ?_ ?_ _) | (refine Below.setCell ?_ ?_ _) | (refine Below.step (W := ?hW) ?hq ?_ ?_; case hq => assumption))) <;> (first | (simp; done) | (simp; omega) | (simp at *; omega)))
  have hx : w1.heap[w.heap.size]? = some (.cells #[.int .i64 b.type, .int .i64 b.num, .int .i64 b.flags, .int .i64 b.sum, .slice a n cap, .string (bs b.data)] 57 (0, 0)) := by rw [hw1]; exact World.alloc_heap_new w _
  clear hw1
  obtain ⟨B, hB⟩ : ∃ B, B = w.heap.size := ⟨_, rfl⟩
  rw [← hB] at hx hP ⊢
  clear hB
  have hPB : ¬ P = B := by omega
  have St1 := H.out.below hB1
  have Ws1 : WStep base P M w w1 := WStep.of_below hB1 H.out.low
  obtain ⟨v, o, hWa, _⟩ := St1.there
  have HN := hide (show ∀ W, W.heap = w1.heap → Calls Tryz.prog 249 #[.pointer (some ⟨P, 0, none⟩), .bool last] W (fun e w' => e = .returned (.int .i64 m) ∧ w' = W.setCell ⟨P, 9, none⟩ (.int .i64 (s.num + 1))) from fun W hW => by
    rw [Hm.out]; exact next_calls P _ v c s.num last W H.out.num0 hn (by unfold WalkAt at hWa ⊢; rw [hW]; exact hWa))
  have k1 := cellsOf hx 1
  simp only [List.getElem?_toArray, List.getElem?_cons_succ, List.getElem?_cons_zero] at k1
  have k3 := cellsOf hx 3
  simp only [List.getElem?_toArray, List.getElem?_cons_succ, List.getElem?_cons_zero] at k3
  have k4 := cellsOf hx 4
  simp only [List.getElem?_toArray, List.getElem?_cons_succ, List.getElem?_cons_zero] at k4
  have HSt := hide St1
  clear hWa St1 hx
  have hE := HSt.out.below (w' := w1.drew) (Below.refl _ _).drew
  have Hf := hide (And.intro hE.next.1 (Ws1.trans ((WStep.of_below (Below.refl _ _).drew HSt.out.low).trans hE.next.2)))
  clear hE Ws1
  have w9 : ∀ k, k ≠ P → (w1.drew.setCell ⟨P, 9, none⟩ (.int .i64 (s.num + 1))).heap[k]? = w1.heap[k]? := fun k hk => heap_setCell_ne hk
  clear w9
  by_cases h1 : b.num = m
  · by_cases h2 : b.sum = 0
    · by_cases h3 : n = 0
      · have hz : z = 0 := by rw [HZ.out, if_pos h1, if_pos h2, if_pos h3]
        subst h3
        go_region_law ((go_simp; go_at_call 249; refine (show Calls _ _ _ _ _ from HN.out w1.drew rfl).mono ?_; rintro e_ w2 ⟨rfl, rfl⟩))
        all_goals (go_wp2_with fail; go_ret; exact ⟨by first | rfl | (rw [hz]; rfl), Hf.out.1, Hf.out.2⟩)
      · have hz : z = 135 := by rw [HZ.out, if_pos h1, if_pos h2, if_neg h3]
        have hpos : (0 : Int) < (n : Int) := by omega
        go_region_law ((go_simp; go_at_call 249; refine (show Calls _ _ _ _ _ from HN.out w1.drew rfl).mono ?_; rintro e_ w2 ⟨rfl, rfl⟩))
        all_goals (go_wp2_with fail; go_ret; exact ⟨by first | rfl | (rw [hz]; rfl), Hf.out.1, Hf.out.2⟩)
    · have hz : z = 145 := by rw [HZ.out, if_pos h1, if_neg h2]
      go_region_law ((go_simp; go_at_call 249; refine (show Calls _ _ _ _ _ from HN.out w1.drew rfl).mono ?_; rintro e_ w2 ⟨rfl, rfl⟩))
      all_goals (go_wp2_with fail; go_ret; exact ⟨by first | rfl | (rw [hz]; rfl), Hf.out.1, Hf.out.2⟩)
  · have hz : z = 144 := by rw [HZ.out, if_neg h1]
    go_region_law ((go_simp; go_at_call 249; refine (show Calls _ _ _ _ _ from HN.out w1.drew rfl).mono ?_; rintro e_ w2 ⟨rfl, rfl⟩))
    all_goals (go_wp2_with fail; go_ret; exact ⟨by first | rfl | (rw [hz]; rfl), Hf.out.1, Hf.out.2⟩)
end Go.Proofs.YtllfaffbaijgfaaGreatDoor

namespace Go.Proofs.YtllfaffbaijgfaaGreatDoor
open Go Go.RowKit Go.Shelf

def downStep (s : WS) (last : Bool) (b : Block) : Int × WS :=
  if (markDownF b.flags last).2 = 0 then (if (typeDownF b.type).2 = 0 then (0, ⟨s.num, s.out ++ [⟨(typeDownF b.type).1, 0, (markDownF b.flags last).1, 0, [], b.data⟩], s.met⟩) else ((typeDownF b.type).2, s)) else ((markDownF b.flags last).2, s)

set_option maxRecDepth 100000 in
set_option maxHeartbeats 4000000 in
theorem walkDown_calls (S : Nat → Addr) (base P M : Nat) (c : Class) (s : WS) (last : Bool) (b : Block) (a : Option Addr) (n cap : Nat) (w : World) (hS : Sents S w) (hp : PairsAt w) (h : WalkSt base P M c s w) (hl : s.out.length ≤ 1000000) :
    Calls Tryz.prog 184 #[.pointer (some ⟨P, 0, none⟩), .bool last, .agg #[.int .i64 b.type, .int .i64 b.num, .int .i64 b.flags, .int .i64 b.sum, .slice a n cap, .string (bs b.data)]] w (fun e w' => e = .returned (.int .i64 (downStep s last b).1) ∧ WalkSt base P M c (downStep s last b).2 w' ∧ WStep base P M w w') := by
  have H := hide h
  have HM := hide (fun W (hW : Below w.heap.size w W) => markDown_calls S b.flags last W (hS.mono hW))
  have HT := hide (fun W (hW : Below w.heap.size w W) => typeDown_calls b.type W (heapKept hp hW))
  obtain ⟨fl, hfl⟩ : ∃ x, x = (markDownF b.flags last).1 := ⟨_, rfl⟩
  obtain ⟨e1, he1⟩ : ∃ x, x = (markDownF b.flags last).2 := ⟨_, rfl⟩
  obtain ⟨t, ht⟩ : ∃ x, x = (typeDownF b.type).1 := ⟨_, rfl⟩
  obtain ⟨e2, he2⟩ : ∃ x, x = (typeDownF b.type).2 := ⟨_, rfl⟩
  rw [← hfl, ← he1] at HM
  rw [← ht, ← he2] at HT
  obtain ⟨Z, hZ⟩ : ∃ Z, Z = downStep s last b := ⟨_, rfl⟩
  rw [← hZ]
  rw [downStep, ← hfl, ← he1, ← ht, ← he2] at hZ
  have HZ := hide hZ
  clear h hS hp hfl he1 ht he2 hZ
  go_enter Tryz.func184, Tryz.ntmps184
  go_wp2_with fail
  obtain ⟨w1, hw1⟩ : ∃ w1, w1 = w.alloc (.cells #[.int .i64 b.type, .int .i64 b.num, .int .i64 b.flags, .int .i64 b.sum, .slice a n cap, .string (bs b.data)] 57) := ⟨_, rfl⟩
  rw [← hw1]
  have hB1 : Below w.heap.size w w1 := by rw [hw1]; ((repeat' (first | exact Below.refl _ _ | assumption | (refine Below.drew ?_) | (refine Below.alloc ?_ ?_ _) | (refine Below.setCell ?_ ?_ _) | (refine Below.step (W := ?hW) ?hq ?_ ?_; case hq => assumption))) <;> (first | (simp; done) | (simp; omega) | (simp at *; omega)))
  have hx : w1.heap[w.heap.size]? = some (.cells #[.int .i64 b.type, .int .i64 b.num, .int .i64 b.flags, .int .i64 b.sum, .slice a n cap, .string (bs b.data)] 57 (0, 0)) := by rw [hw1]; exact World.alloc_heap_new w _
  clear hw1
  obtain ⟨B, hB⟩ : ∃ B, B = w.heap.size := ⟨_, rfl⟩
  rw [← hB] at hx ⊢
  clear hB
  refine (show Calls _ _ _ _ _ from HM.out w1 hB1).mono ?_
  rintro e_ w2 ⟨rfl, hb2⟩
  replace hx := heapKept hx hb2
  have hB2 := hB1.trans (hb2.mono hB1.size)
  clear hb2 hB1
  have k0 := cellsOf hx 0
  simp only [List.getElem?_toArray, List.getElem?_cons_succ, List.getElem?_cons_zero] at k0
  by_cases h1 : e1 = 0
  · go_wp2_with fail
    refine (show Calls _ _ _ _ _ from HT.out w2 hB2).mono ?_
    rintro e_ w3 ⟨rfl, hb3⟩
    replace hx := heapKept hx hb3
    have hB3 := hB2.trans (hb3.mono hB2.size)
    have St3 := H.out.below hB3
    have Ws3 : WStep base P M w w3 := WStep.of_below hB3 H.out.low
    clear hb3 hB2 HM HT k0
    have k5 := cellsOf hx 5
    simp only [List.getElem?_toArray, List.getElem?_cons_succ, List.getElem?_cons_zero] at k5
    by_cases h3 : e2 = 0
    · have hz : Z = (0, ⟨s.num, s.out ++ [⟨t, 0, fl, 0, [], b.data⟩], s.met⟩) := by rw [HZ.out, if_pos h1, if_pos h3]
      have Hz := hide hz
      obtain ⟨⟨v, o, hW, hR, hO, hMt⟩, hlow, haP, haM, hn0⟩ := St3
      have hPl : P < w3.heap.size := (Array.getElem?_eq_some_iff.1 hW).1
      have hPv : v.ownBlock ≠ some P := by
        rcases hR.2 with ⟨rfl, _⟩ | ⟨g, cap, cur, rfl, _, hg, _⟩
        · simp [Value.ownBlock]
        · intro e
          obtain rfl : g = P := by simpa [Value.ownBlock] using e
          unfold WalkAt at hW
          rw [hg] at hW; cases hW
      have p1 := cellsOf hW 1
      simp only [List.getElem?_toArray, List.getElem?_cons_succ, List.getElem?_cons_zero] at p1
      obtain ⟨i0, hi0, hz0, hz1, hz2⟩ := info_parts infoBlock
      obtain ⟨k, hk⟩ : ∃ k, k = s.out.length := ⟨_, rfl⟩
      rw [← hk] at hR hl
      have Hk := hide hk
      have hm1 : k + 1 ≤ maxLen := by unfold maxLen; omega
      have hm2 : (k + 1) * 72 ≤ 140737488355328 := by omega
      obtain ⟨sz, hsz⟩ : ∃ sz, sz = w3.heap.size := ⟨_, rfl⟩
      have hs3 : w3.heap.size = sz := hsz.symm
      have hnew : (w3.alloc (.cells #[.int .i64 t, .int .i64 0, .int .i64 fl, .int .i64 0, .slice none 0 0, .string (bs b.data)] 57)).heap[sz]? = some (.cells #[.int .i64 t, .int .i64 0, .int .i64 fl, .int .i64 0, .slice none 0 0, .string (bs b.data)] 57 (0, 0)) := by rw [hsz]; exact World.alloc_heap_new w3 _
      have pA : ((w3.alloc (.cells #[.int .i64 t, .int .i64 0, .int .i64 fl, .int .i64 0, .slice none 0 0, .string (bs b.data)] 57)).drew).cell? ⟨P, 1, none⟩ = some v := (World.cell?_of_block (w := w3) (Below.heap_alloc w3 _ P hPl)).trans p1
      have hPn : ¬ sz = P := by omega
      have hPm : ¬ P = sz := by omega
      have hPs : P < sz := by omega
      have HP2 := hide hW
      have HX := hide (And.intro hO (And.intro hMt (And.intro hlow (And.intro haP (And.intro haM hn0)))))
      have HR := hide hR
      have hlow' : base ≤ sz := by rw [hsz]; exact hlow
      clear hk hW hO hMt hlow haP haM hn0 hsz hz
      go_wp2_with fail
      go_region_law ((refine step_append_lies _ (by rfl) _ _ _ (by rfl) base 57 i0 _ 6 72 Tryz.underlying30 hi0 hz0 hz1 hz2 rfl (by omega) v k (blocksFlat s.out) (by rfl) ((HR.out.alloc _).drew) ⟨sz, 0, none⟩ 1 1 [.int .i64 t, .int .i64 0, .int .i64 fl, .int .i64 0, .slice none 0 0, .string (bs b.data)] (by rfl) (by rfl) (World.news_of_block (cs := #[.int .i64 t, .int .i64 0, .int .i64 fl, .int .i64 0, .slice none 0 0, .string (bs b.data)]) (t := 57) (fr := (0, 0)) hnew) (by simp [Value.oneCell']) (by omega) hm1 hm2 (by simp; omega) (sz + 1) (by simp [hs3]) ?_; intro g cap' w4 hown4 hgrow hat hlt; have hP4 : w4.heap[P]? = some (.cells #[.map (some M), v, .int .i64 c.priority, .bool c.custody, .int .i64 c.custodian.scheme, .string (bs c.custodian.node), .string (bs c.custodian.service), .int .i64 c.custodian.a, .int .i64 c.custodian.b, .int .i64 s.num] 217 (0, 0)) := (hgrow.block P (by simp; omega) (Ne.symm hPv)).trans ((Below.heap_alloc w3 _ P hPl).trans HP2.out); have c4 := cellsOf hP4 1; simp only [List.getElem?_toArray, List.getElem?_cons_succ, List.getElem?_cons_zero] at c4; have f4 : w4.frozen? ⟨P, 1, none⟩ = false := by simp [World.frozen?, hP4]))
      all_goals
        go_wp2_with fail
        go_ret
        have T : Turn2 P v.ownBlock w3 (w4.setCell ⟨P, 1, none⟩ (.slice (some ⟨g, 0, none⟩) (k + 1) cap')) := ⟨hgrow.os, hgrow.tape, hgrow.output, by rw [size_setCell]; have := hgrow.size; simp at this; omega, fun j hj h2 h3 => (heap_setCell_ne h2).trans ((hgrow.block j (by simp; omega) h3).trans (Below.heap_alloc w3 _ j hj))⟩
        have hMP : M ≠ P := by
          rintro rfl
          have h9 := HP2.out
          unfold WalkAt at h9
          rw [HX.out.1] at h9; cases h9
          exact absurd HX.out.2.1.notCells (by simp [Obj.isCells])
        have hMv : some M ≠ v.ownBlock := by
          rcases HR.out.2 with ⟨rfl, _⟩ | ⟨g, cap, cur, rfl, _, hg, _⟩
          · simp [Value.ownBlock]
          · intro e
            obtain rfl : M = g := by simpa [Value.ownBlock] using e
            rw [HX.out.1] at hg; cases hg
            exact absurd HX.out.2.1.notCells (by simp [Obj.isCells])
        have e : blocksFlat (s.out ++ [⟨t, 0, fl, 0, [], b.data⟩]) = blocksFlat s.out ++ [.int .i64 t, .int .i64 0, .int .i64 fl, .int .i64 0, .slice none 0 0, .string (bs b.data)] := by simp [blocksFlat, bcells, List.flatMap_append]
        refine ⟨by rw [Hz.out]; rfl, ?_, Ws3.trans (WStep.of_turn T HX.out.2.2.2.1 HR.out HX.out.2.2.1)⟩
        rw [Hz.out]
        refine ⟨⟨_, o, heap_setCell_same (i := 1) hP4, ?_, (T.block M (Array.getElem?_eq_some_iff.1 HX.out.1).1 hMP hMv).trans HX.out.1, HX.out.2.1⟩, Nat.le_trans HX.out.2.2.1 T.size, HX.out.2.2.2.1, HX.out.2.2.2.2.1, HX.out.2.2.2.2.2⟩
        show World.ownsRow _ _ _ _ _ (s.out ++ [(⟨t, 0, fl, 0, [], b.data⟩ : Block)]).length (blocksFlat (s.out ++ [⟨t, 0, fl, 0, [], b.data⟩]))
        rw [e, List.length_append, ← Hk.out]
        exact row_kept (fun g' c' m' hg => (heap_setCell_ne (by rintro rfl; rw [hP4] at hg; cases hg)).trans hg) hown4
    · have hz : Z = (e2, s) := by rw [HZ.out, if_pos h1, if_neg h3]
      go_wp2_with fail
      go_ret
      exact ⟨by rw [hz]; rfl, by rw [hz]; exact St3, Ws3⟩
  · have hz : Z = (e1, s) := by rw [HZ.out, if_neg h1]
    go_wp2_with fail
    go_ret
    exact ⟨by rw [hz]; rfl, by rw [hz]; exact H.out.below hB2, WStep.of_below hB2 H.out.low⟩
end Go.Proofs.YtllfaffbaijgfaaGreatDoor

namespace Go.Proofs.YtllfaffbaijgfaaGreatDoor
open Go Go.RowKit Go.Shelf
attribute [local go_sem] Oper.semAt_some

set_option maxRecDepth 100000 in
theorem extIter (l : List Block) (rv : Nat → Value) (a : Option Addr) (cap B : Nat) (R : Nat → Prop) (w : World) (hlen : l.length ≤ 9000000000000000000) (hB : w.cell? ⟨B, 0, none⟩ = some (.slice a l.length cap)) (hRB : R B)
    (hat : 0 < l.length → ∃ b o, a = some ⟨b, o, none⟩ ∧ R b ∧ BlocksAt w l rv b o) (hone : ∀ i x, l[i]? = some x → (rv i).oneCell' = true) (hRlt : ∀ k, R k → k < w.heap.size) :
    Iter Tryz.prog 310 #[.pointer (some ⟨B, 0, none⟩)] blkEnc (blkItems l rv) R (fun _ => False) w := by
  intro lp J Jx W hW hJ hJx hY h0
  have Hat := hide hat
  have HY := hide hY
  have Hone := hide hone
  clear hat hY hone
  obtain ⟨n, hn⟩ : ∃ n, n = l.length := ⟨_, rfl⟩
  rw [← hn] at hB hlen
  have Hn := hide hn
  clear hn
  have HB := hide (And.intro hB hRB)
  clear hB hRB
  have kb := (hW.cell (p := ⟨B, 0, none⟩) HB.out.2).trans HB.out.1
  refine callsIn_of_wp Tryz.func310 rfl trivial ?_ rfl
  simp only [Tryz.ntmps310, List.size_toArray, List.length_cons, List.length_nil, Nat.reduceAdd, Nat.reduceSub, Array.replicate_succ, Array.replicate_zero, List.push_toArray, List.append_toArray, List.nil_append, List.cons_append]
  refine wpIn_scope_wide ?_
  gi_wp2
  refine wpIn_label ?_
  gi_wp2
  gi_loopw [7] (fun k wr => ∃ i : Nat, i ≤ n ∧ k = .int .i64 i ∧ J i wr ∧ Keep R W wr) (fun k _ => n - (intOf k).toNat)
  case atStart => exact ⟨0, Nat.zero_le _, rfl, h0, Keep.refl _ _⟩
  case round =>
    obtain ⟨i, hi, rfl, hJi, hK⟩ := hrel
    by_cases hlt : i < n
    · obtain ⟨b, o, rfl, hRb, hat⟩ := Hat.out (by rw [← Hn.out]; omega)
      obtain ⟨x, hx⟩ : ∃ x, l[i]? = some x := ⟨_, List.getElem?_eq_getElem (by rw [← Hn.out]; exact hlt)⟩
      have hKw : Keep R w wr := hW.trans hK
      obtain ⟨k0, k1, k2, k3, k4, k5⟩ := hat.2 i x hx
      replace k0 := (hKw.cell (p := ⟨b, _, none⟩) hRb).trans k0
      replace k1 := (hKw.cell (p := ⟨b, _, none⟩) hRb).trans k1
      replace k2 := (hKw.cell (p := ⟨b, _, none⟩) hRb).trans k2
      replace k3 := (hKw.cell (p := ⟨b, _, none⟩) hRb).trans k3
      replace k4 := (hKw.cell (p := ⟨b, _, none⟩) hRb).trans k4
      replace k5 := (hKw.cell (p := ⟨b, _, none⟩) hRb).trans k5
      replace kb := (hK.cell (p := ⟨B, 0, none⟩) HB.out.2).trans kb
      have hst := fun (a : Addr) (w : World) => run_store Tryz.prog w a (rv i) .plain (Hone.out i x hx)
      have Hx := hide hx
      clear hx hat hKw
      have hB1 : Below wr.heap.size wr (wr.alloc (.cells #[.int .i64 x.type, .int .i64 x.num, .int .i64 x.flags, .int .i64 x.sum, rv i, .string (bs x.data)] 57)) := (Below.refl _ _).alloc (Nat.le_refl _) _
      have hJ1 := hJ i _ _ hJi (Own1.of_below hB1)
      obtain ⟨fn, tmps, assign, body, hy, hR⟩ := HY.out i _ _ (blkItems_get Hx.out) hJ1
      rw [← Hn.out] at hy
      simp only [blkEnc] at hy
      have kb1 := (hB1.cell (p := ⟨B, 0, none⟩) (cell_lt kb)).trans kb
      have hw1 : wrap64 ((n : Int) - 1) = n - 1 := by unfold wrap64; omega
      have hlast : decide (i + 1 = n) = ((i : Int) == (n : Int) - 1) := by
        rw [Bool.eq_iff_iff]; simp; omega
      rw [hlast] at hy
      gi_wp2
      refine ⟨rfl, hR.mono ?_⟩
      rintro e W' (⟨rfl, hJ', hk⟩ | ⟨rfl, hJx'⟩)
      · clear k0 k1 k2 k3 k4 k5 kb kb1 hy hst hR hlast
        gi_wp2
        go_roundw
        case rel => exact ⟨i + 1, by omega, by go_num, hJ', (hK.trans ⟨hB1.size, fun k hk => hB1.block k (Nat.lt_of_lt_of_le (hRlt k hk) (hW.trans hK).size)⟩).trans hk⟩
        case measure => simp [intOf]; omega
      · clear k0 k1 k2 k3 k4 k5 kb kb1 hy hst hR hlast
        gi_wp2
        simp only [Exit.noGoto]
        go_end0
        exact ⟨⟨_, rfl⟩, .inr hJx'⟩
    · have hin : i = n := by omega
      subst hin
      gi_wp2
      simp only [Exit.noGoto]
      go_end0
      exact ⟨⟨_, rfl⟩, .inl (by rw [blkItems_length, ← Hn.out]; exact hJi)⟩

theorem extBlocks_calls (v : Value) (w : World) (hv : v.oneCell' = true) : Calls Tryz.prog 250 #[v] w (fun e w' => e = .returned (.func (.func 310) #[] #[.pointer (some ⟨w.heap.size, 0, none⟩)]) ∧ w' = w.alloc (.cells #[v] 30)) := by
  have hst := fun (a : Addr) (w : World) => run_store Tryz.prog w a v .plain hv
  cases v <;> first | (simp [Value.oneCell'] at hv; done) | skip
  all_goals go_enter Tryz.func250, Tryz.ntmps250
  all_goals go_wp2
  all_goals go_ret
  all_goals exact ⟨rfl, rfl⟩
end Go.Proofs.YtllfaffbaijgfaaGreatDoor
