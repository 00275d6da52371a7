/- ext's walker without a map: blocks gone down. ext.Down of blocks that hold no class. -/
import Derived.Test.YtllfaffbaijgfaaGreatDoorJ27
set_option linter.unusedVariables false
set_option linter.unusedSimpArgs false
namespace Go.Proofs.YtllfaffbaijgfaaGreatDoor
open Go Go.RowKit Go.Shelf

/-- a walker at P that has no map: it holds s -/
structure WalkSn (base P : Nat) (c : Class) (s : WS) (W : World) : Prop where
  there : ∃ v, WalkAt W P (.map none) v c s.num ∧ W.ownsRow base 57 6 v s.out.length (blocksFlat s.out)
  low : base ≤ W.heap.size
  atP : base ≤ P
  num0 : 0 ≤ s.num
theorem WalkSn.below {base P : Nat} {c : Class} {s : WS} {w w' : World} (h : WalkSn base P c s w) (hb : Below w.heap.size w w') : WalkSn base P c s w' := by
  obtain ⟨⟨v, h1, h2⟩, h5, h6, h8⟩ := h
  exact ⟨⟨v, heapKept h1 hb, row_kept (fun g c m hg => heapKept hg hb) h2⟩, Nat.le_trans h5 hb.size, h6, h8⟩
theorem WalkSn.next {base P : Nat} {c : Class} {s : WS} {w : World} (h : WalkSn base P c s w) :
    WalkSn base P c ⟨s.num + 1, s.out, s.met⟩ (w.setCell ⟨P, 9, none⟩ (.int .i64 (s.num + 1))) ∧ WStep base P P w (w.setCell ⟨P, 9, none⟩ (.int .i64 (s.num + 1))) := by
  obtain ⟨⟨v, h1, h2⟩, h5, h6, h8⟩ := h
  refine ⟨⟨⟨v, heap_setCell_same (i := 9) h1, row_kept (fun g c' m hg => (heap_setCell_ne (by
    rintro rfl
    unfold WalkAt at h1
    rw [h1] at hg; cases hg)).trans hg) h2⟩, by rw [size_setCell]; exact h5, h6, by show (0 : Int) ≤ s.num + 1; omega⟩, ?_⟩
  exact ⟨rfl, rfl, rfl, by rw [size_setCell]; exact Nat.le_refl _, fun j hj => heap_setCell_ne (by omega), fun j o' h1' h2' _ _ => (heap_setCell_ne h2').trans h1'⟩

set_option maxRecDepth 100000 in
set_option maxHeartbeats 4000000 in
theorem walkCheckN_calls (base P : Nat) (c : Class) (s : WS) (last : Bool) (b : Block) (a : Option Addr) (cap : Nat) (w : World) (h : WalkSn base P c s w) (hn : s.num ≤ 1000000) (hr : b.refs.length ≤ 1000000) :
    Calls Tryz.prog 182 #[.pointer (some ⟨P, 0, none⟩), .bool last, .agg #[.int .i64 b.type, .int .i64 b.num, .int .i64 b.flags, .int .i64 b.sum, .slice a b.refs.length cap, .string (bs b.data)]] w (fun e w' => e = .returned (.int .i64 (checkE s last b)) ∧ WalkSn base P c ⟨s.num + 1, s.out, s.met⟩ w' ∧ WStep base P P w w' ∧ ∀ k, k < w.heap.size → k ≠ P → w'.heap[k]? = w.heap[k]?) := by
  have H := hide h
  obtain ⟨n, hnn⟩ : ∃ n, n = b.refs.length := ⟨_, rfl⟩
  obtain ⟨z, hz⟩ : ∃ z, z = checkE s last b := ⟨_, rfl⟩
  obtain ⟨m, hm⟩ : ∃ m, m = nextI s.num last := ⟨_, rfl⟩
  rw [← hz, ← hnn]
  rw [checkE, ← hm, ← hnn] at hz
  have HZ := hide hz
  have Hm := hide hm
  rw [← hnn] at hr
  have hP : P < w.heap.size := by obtain ⟨v, h1, _⟩ := h.there; exact (Array.getElem?_eq_some_iff.1 h1).1
  clear h hnn hz hm
  go_enter Tryz.func182, Tryz.ntmps182
  go_upto_region 1 with fail
  refine wp_named fun w1 hw1 => ?_
  have hB1 : Below w.heap.size w w1 := by rw [hw1]; ((repeat' (first | exact Below.refl _ _ | assumption | (refine Below.drew ?_) | (refine Below.alloc ?_ ?_ _) | (refine Below.setCell ?_ ?_ _) | (refine Below.step (W := ?hW) ?hq ?_ ?_; case hq => assumption))) <;> (first | (simp; done) | (simp; omega) | (simp at *; omega)))
  have hx : w1.heap[w.heap.size]? = some (.cells #[.int .i64 b.type, .int .i64 b.num, .int .i64 b.flags, .int .i64 b.sum, .slice a n cap, .string (bs b.data)] 57 (0, 0)) := by rw [hw1]; exact World.alloc_heap_new w _
  clear hw1
  obtain ⟨B, hB⟩ : ∃ B, B = w.heap.size := ⟨_, rfl⟩
  rw [← hB] at hx hP ⊢
  clear hB
  have hPB : ¬ P = B := by omega
  have St1 := H.out.below hB1
  have Ws1 : WStep base P P w w1 := WStep.of_below hB1 H.out.low
  obtain ⟨v, hWa, _⟩ := St1.there
  have HN := hide (show ∀ W, W.heap = w1.heap → Calls Tryz.prog 249 #[.pointer (some ⟨P, 0, none⟩), .bool last] W (fun e w' => e = .returned (.int .i64 m) ∧ w' = W.setCell ⟨P, 9, none⟩ (.int .i64 (s.num + 1))) from fun W hW => by
    rw [Hm.out]; exact next_calls P _ v c s.num last W H.out.num0 hn (by unfold WalkAt at hWa ⊢; rw [hW]; exact hWa))
  have k1 := cellsOf hx 1
  simp only [List.getElem?_toArray, List.getElem?_cons_succ, List.getElem?_cons_zero] at k1
  have k3 := cellsOf hx 3
  simp only [List.getElem?_toArray, List.getElem?_cons_succ, List.getElem?_cons_zero] at k3
  have k4 := cellsOf hx 4
  simp only [List.getElem?_toArray, List.getElem?_cons_succ, List.getElem?_cons_zero] at k4
  have HSt := hide St1
  clear hWa St1 hx
  have hE := HSt.out.below (w' := w1.drew) (Below.refl _ _).drew
  have w9 : ∀ k, k < w.heap.size → k ≠ P → (w1.drew.setCell ⟨P, 9, none⟩ (.int .i64 (s.num + 1))).heap[k]? = w.heap[k]? := fun k h1 hk => (heap_setCell_ne hk).trans (hB1.block k h1)
  have Hf := hide (And.intro hE.next.1 (And.intro (Ws1.trans ((WStep.of_below (Below.refl _ _).drew HSt.out.low).trans hE.next.2)) w9))
  clear hE Ws1 w9
  by_cases h1 : b.num = m
  · by_cases h2 : b.sum = 0
    · by_cases h3 : n = 0
      · have hz : z = 0 := by rw [HZ.out, if_pos h1, if_pos h2, if_pos h3]
        subst h3
        go_region_law ((go_simp; go_at_call 249; refine (show Calls _ _ _ _ _ from HN.out w1.drew rfl).mono ?_; rintro e_ w2 ⟨rfl, rfl⟩))
        all_goals (go_wp2_with fail; go_ret; exact ⟨by first | rfl | (rw [hz]; rfl), Hf.out.1, Hf.out.2⟩)
      · have hz : z = 135 := by rw [HZ.out, if_pos h1, if_pos h2, if_neg h3]
        have hpos : (0 : Int) < (n : Int) := by omega
        go_region_law ((go_simp; go_at_call 249; refine (show Calls _ _ _ _ _ from HN.out w1.drew rfl).mono ?_; rintro e_ w2 ⟨rfl, rfl⟩))
        all_goals (go_wp2_with fail; go_ret; exact ⟨by first | rfl | (rw [hz]; rfl), Hf.out.1, Hf.out.2⟩)
    · have hz : z = 145 := by rw [HZ.out, if_pos h1, if_neg h2]
      go_region_law ((go_simp; go_at_call 249; refine (show Calls _ _ _ _ _ from HN.out w1.drew rfl).mono ?_; rintro e_ w2 ⟨rfl, rfl⟩))
      all_goals (go_wp2_with fail; go_ret; exact ⟨by first | rfl | (rw [hz]; rfl), Hf.out.1, Hf.out.2⟩)
  · have hz : z = 144 := by rw [HZ.out, if_neg h1]
    go_region_law ((go_simp; go_at_call 249; refine (show Calls _ _ _ _ _ from HN.out w1.drew rfl).mono ?_; rintro e_ w2 ⟨rfl, rfl⟩))
    all_goals (go_wp2_with fail; go_ret; exact ⟨by first | rfl | (rw [hz]; rfl), Hf.out.1, Hf.out.2⟩)
set_option maxRecDepth 100000 in
set_option maxHeartbeats 4000000 in
theorem walkDownN_calls (S : Nat → Addr) (base P : Nat) (c : Class) (s : WS) (last : Bool) (b : Block) (a : Option Addr) (n cap : Nat) (w : World) (hS : Sents S w) (hp : PairsAt w) (h : WalkSn base P c s w) (hl : s.out.length ≤ 1000000) :
    Calls Tryz.prog 184 #[.pointer (some ⟨P, 0, none⟩), .bool last, .agg #[.int .i64 b.type, .int .i64 b.num, .int .i64 b.flags, .int .i64 b.sum, .slice a n cap, .string (bs b.data)]] w (fun e w' => e = .returned (.int .i64 (downStep s last b).1) ∧ WalkSn base P c (downStep s last b).2 w' ∧ WStep base P P w w') := by
  have H := hide h
  have HM := hide (fun W (hW : Below w.heap.size w W) => markDown_calls S b.flags last W (hS.mono hW))
  have HT := hide (fun W (hW : Below w.heap.size w W) => typeDown_calls b.type W (heapKept hp hW))
  obtain ⟨fl, hfl⟩ : ∃ x, x = (markDownF b.flags last).1 := ⟨_, rfl⟩
  obtain ⟨e1, he1⟩ : ∃ x, x = (markDownF b.flags last).2 := ⟨_, rfl⟩
  obtain ⟨t, ht⟩ : ∃ x, x = (typeDownF b.type).1 := ⟨_, rfl⟩
  obtain ⟨e2, he2⟩ : ∃ x, x = (typeDownF b.type).2 := ⟨_, rfl⟩
  rw [← hfl, ← he1] at HM
  rw [← ht, ← he2] at HT
  obtain ⟨Z, hZ⟩ : ∃ Z, Z = downStep s last b := ⟨_, rfl⟩
  rw [← hZ]
  rw [downStep, ← hfl, ← he1, ← ht, ← he2] at hZ
  have HZ := hide hZ
  clear h hS hp hfl he1 ht he2 hZ
  go_enter Tryz.func184, Tryz.ntmps184
  go_wp2_with fail
  obtain ⟨w1, hw1⟩ : ∃ w1, w1 = w.alloc (.cells #[.int .i64 b.type, .int .i64 b.num, .int .i64 b.flags, .int .i64 b.sum, .slice a n cap, .string (bs b.data)] 57) := ⟨_, rfl⟩
  rw [← hw1]
  have hB1 : Below w.heap.size w w1 := by rw [hw1]; ((repeat' (first | exact Below.refl _ _ | assumption | (refine Below.drew ?_) | (refine Below.alloc ?_ ?_ _) | (refine Below.setCell ?_ ?_ _) | (refine Below.step (W := ?hW) ?hq ?_ ?_; case hq => assumption))) <;> (first | (simp; done) | (simp; omega) | (simp at *; omega)))
  have hx : w1.heap[w.heap.size]? = some (.cells #[.int .i64 b.type, .int .i64 b.num, .int .i64 b.flags, .int .i64 b.sum, .slice a n cap, .string (bs b.data)] 57 (0, 0)) := by rw [hw1]; exact World.alloc_heap_new w _
  clear hw1
  obtain ⟨B, hB⟩ : ∃ B, B = w.heap.size := ⟨_, rfl⟩
  rw [← hB] at hx ⊢
  clear hB
  refine (show Calls _ _ _ _ _ from HM.out w1 hB1).mono ?_
  rintro e_ w2 ⟨rfl, hb2⟩
  replace hx := heapKept hx hb2
  have hB2 := hB1.trans (hb2.mono hB1.size)
  clear hb2 hB1
  have k0 := cellsOf hx 0
  simp only [List.getElem?_toArray, List.getElem?_cons_succ, List.getElem?_cons_zero] at k0
  by_cases h1 : e1 = 0
  · go_wp2_with fail
    refine (show Calls _ _ _ _ _ from HT.out w2 hB2).mono ?_
    rintro e_ w3 ⟨rfl, hb3⟩
    replace hx := heapKept hx hb3
    have hB3 := hB2.trans (hb3.mono hB2.size)
    have St3 := H.out.below hB3
    have Ws3 : WStep base P P w w3 := WStep.of_below hB3 H.out.low
    clear hb3 hB2 HM HT k0
    have k5 := cellsOf hx 5
    simp only [List.getElem?_toArray, List.getElem?_cons_succ, List.getElem?_cons_zero] at k5
    by_cases h3 : e2 = 0
    · have hz : Z = (0, ⟨s.num, s.out ++ [⟨t, 0, fl, 0, [], b.data⟩], s.met⟩) := by rw [HZ.out, if_pos h1, if_pos h3]
      have Hz := hide hz
      obtain ⟨⟨v, hW, hR⟩, hlow, haP, hn0⟩ := St3
      have hPl : P < w3.heap.size := (Array.getElem?_eq_some_iff.1 hW).1
      have hPv : v.ownBlock ≠ some P := by
        rcases hR.2 with ⟨rfl, _⟩ | ⟨g, cap, cur, rfl, _, hg, _⟩
        · simp [Value.ownBlock]
        · intro e
          obtain rfl : g = P := by simpa [Value.ownBlock] using e
          unfold WalkAt at hW
          rw [hg] at hW; cases hW
      have p1 := cellsOf hW 1
      simp only [List.getElem?_toArray, List.getElem?_cons_succ, List.getElem?_cons_zero] at p1
      obtain ⟨i0, hi0, hz0, hz1, hz2⟩ := info_parts infoBlock
      obtain ⟨k, hk⟩ : ∃ k, k = s.out.length := ⟨_, rfl⟩
      rw [← hk] at hR hl
      have Hk := hide hk
      have hm1 : k + 1 ≤ maxLen := by unfold maxLen; omega
      have hm2 : (k + 1) * 72 ≤ 140737488355328 := by omega
      obtain ⟨sz, hsz⟩ : ∃ sz, sz = w3.heap.size := ⟨_, rfl⟩
      have hs3 : w3.heap.size = sz := hsz.symm
      have hnew : (w3.alloc (.cells #[.int .i64 t, .int .i64 0, .int .i64 fl, .int .i64 0, .slice none 0 0, .string (bs b.data)] 57)).heap[sz]? = some (.cells #[.int .i64 t, .int .i64 0, .int .i64 fl, .int .i64 0, .slice none 0 0, .string (bs b.data)] 57 (0, 0)) := by rw [hsz]; exact World.alloc_heap_new w3 _
      have pA : ((w3.alloc (.cells #[.int .i64 t, .int .i64 0, .int .i64 fl, .int .i64 0, .slice none 0 0, .string (bs b.data)] 57)).drew).cell? ⟨P, 1, none⟩ = some v := (World.cell?_of_block (w := w3) (Below.heap_alloc w3 _ P hPl)).trans p1
      have hPn : ¬ sz = P := by omega
      have hPm : ¬ P = sz := by omega
      have hPs : P < sz := by omega
      have HP2 := hide hW
      have HX := hide (And.intro hlow (And.intro haP hn0))
      have HR := hide hR
      have hlow' : base ≤ sz := by rw [hsz]; exact hlow
      clear hk hW hlow haP hn0 hsz hz
      go_wp2_with fail
      go_region_law ((refine step_append_lies _ (by rfl) _ _ _ (by rfl) base 57 i0 _ 6 72 Tryz.underlying30 hi0 hz0 hz1 hz2 rfl (by omega) v k (blocksFlat s.out) (by rfl) ((HR.out.alloc _).drew) ⟨sz, 0, none⟩ 1 1 [.int .i64 t, .int .i64 0, .int .i64 fl, .int .i64 0, .slice none 0 0, .string (bs b.data)] (by rfl) (by rfl) (World.news_of_block (cs := #[.int .i64 t, .int .i64 0, .int .i64 fl, .int .i64 0, .slice none 0 0, .string (bs b.data)]) (t := 57) (fr := (0, 0)) hnew) (by simp [Value.oneCell']) (by omega) hm1 hm2 (by simp; omega) (sz + 1) (by simp [hs3]) ?_; intro g cap' w4 hown4 hgrow hat hlt; have hP4 : w4.heap[P]? = some (.cells #[.map none, v, .int .i64 c.priority, .bool c.custody, .int .i64 c.custodian.scheme, .string (bs c.custodian.node), .string (bs c.custodian.service), .int .i64 c.custodian.a, .int .i64 c.custodian.b, .int .i64 s.num] 217 (0, 0)) := (hgrow.block P (by simp; omega) (Ne.symm hPv)).trans ((Below.heap_alloc w3 _ P hPl).trans HP2.out); have c4 := cellsOf hP4 1; simp only [List.getElem?_toArray, List.getElem?_cons_succ, List.getElem?_cons_zero] at c4; have f4 : w4.frozen? ⟨P, 1, none⟩ = false := by simp [World.frozen?, hP4]))
      all_goals
        go_wp2_with fail
        go_ret
        have T : Turn2 P v.ownBlock w3 (w4.setCell ⟨P, 1, none⟩ (.slice (some ⟨g, 0, none⟩) (k + 1) cap')) := ⟨hgrow.os, hgrow.tape, hgrow.output, by rw [size_setCell]; have := hgrow.size; simp at this; omega, fun j hj h2 h3 => (heap_setCell_ne h2).trans ((hgrow.block j (by simp; omega) h3).trans (Below.heap_alloc w3 _ j hj))⟩
        have e : blocksFlat (s.out ++ [⟨t, 0, fl, 0, [], b.data⟩]) = blocksFlat s.out ++ [.int .i64 t, .int .i64 0, .int .i64 fl, .int .i64 0, .slice none 0 0, .string (bs b.data)] := by simp [blocksFlat, bcells, List.flatMap_append]
        refine ⟨by rw [Hz.out]; rfl, ?_, Ws3.trans (WStep.of_turn T HX.out.2.1 HR.out HX.out.1)⟩
        rw [Hz.out]
        refine ⟨⟨_, heap_setCell_same (i := 1) hP4, ?_⟩, Nat.le_trans HX.out.1 T.size, HX.out.2.1, HX.out.2.2⟩
        show World.ownsRow _ _ _ _ _ (s.out ++ [(⟨t, 0, fl, 0, [], b.data⟩ : Block)]).length (blocksFlat (s.out ++ [⟨t, 0, fl, 0, [], b.data⟩]))
        rw [e, List.length_append, ← Hk.out]
        exact row_kept (fun g' c' m' hg => (heap_setCell_ne (by rintro rfl; rw [hP4] at hg; cases hg)).trans hg) hown4
    · have hz : Z = (e2, s) := by rw [HZ.out, if_pos h1, if_neg h3]
      go_wp2_with fail
      go_ret
      exact ⟨by rw [hz]; rfl, by rw [hz]; exact St3, Ws3⟩
  · have hz : Z = (e1, s) := by rw [HZ.out, if_neg h1]
    go_wp2_with fail
    go_ret
    exact ⟨by rw [hz]; rfl, by rw [hz]; exact H.out.below hB2, WStep.of_below hB2 H.out.low⟩
end Go.Proofs.YtllfaffbaijgfaaGreatDoor

namespace Go.Proofs.YtllfaffbaijgfaaGreatDoor
open Go Go.RowKit Go.Shelf

def nextWS (s : WS) : WS := ⟨s.num + 1, s.out, s.met⟩
def dStep (s : WS) (last : Bool) (b : Block) : Int × WS := if checkE s last b = 0 then downStep (nextWS s) last b else (checkE s last b, nextWS s)

set_option maxRecDepth 100000 in
set_option maxHeartbeats 4000000 in
theorem down1_calls (S : Nat → Addr) (base P : Nat) (c : Class) (s : WS) (last : Bool) (b : Block) (a : Option Addr) (cap : Nat) (w0 w : World) (hS : Sents S w0) (hp : PairsAt w0) (hbase : w0.heap.size = base) (hB : Keep (fun k => k < base) w0 w) (h : WalkSn base P c s w) (hn : s.num ≤ 1000000) (hl : s.out.length ≤ 1000000) (hr : b.refs.length ≤ 1000000) (hx : last = false → b.type ≠ 192) :
    Calls Tryz.prog 181 #[.bool last, .agg #[.int .i64 b.type, .int .i64 b.num, .int .i64 b.flags, .int .i64 b.sum, .slice a b.refs.length cap, .string (bs b.data)], .pointer (some ⟨P, 0, none⟩)] w (fun e w' => e = .returned (.int .i64 (dStep s last b).1) ∧ WalkSn base P c (dStep s last b).2 w' ∧ WStep base P P w w') := by
  have HC := hide (fun W (h : WalkSn base P c s W) => walkCheckN_calls base P c s last b a cap W h hn hr)
  have HDn := hide (fun W (h : WalkSn base P c (nextWS s) W) (hk : Keep (fun k => k < base) w0 W) => walkDownN_calls S base P c (nextWS s) last b a b.refs.length cap W (hS.keep (by rw [hbase]; exact hk)) ((hk.block _ (by rw [← hbase]; exact (Array.getElem?_eq_some_iff.1 hp).1)).trans hp) h hl)
  obtain ⟨n, hnn⟩ : ∃ n, n = b.refs.length := ⟨_, rfl⟩
  rw [← hnn]
  rw [← hnn] at HC HDn
  obtain ⟨z, hz⟩ : ∃ z, z = dStep s last b := ⟨_, rfl⟩
  rw [← hz]
  obtain ⟨e1, he1⟩ : ∃ e, e = checkE s last b := ⟨_, rfl⟩
  obtain ⟨d, hd⟩ : ∃ d, d = downStep (nextWS s) last b := ⟨_, rfl⟩
  rw [← he1] at HC
  rw [← hd] at HDn
  rw [dStep, ← he1, ← hd] at hz
  have Hz := hide hz
  have H := hide (And.intro h hB)
  have hlow : base ≤ w.heap.size := h.low
  have Hx := hide hx
  clear hnn he1 hd hz h hB hr hS hp hx
  go_enter Tryz.func181, Tryz.ntmps181
  go_upto_region 1 with fail
  refine wp_named fun w1 hw1 => ?_
  have hB1 : Below w.heap.size w w1 := by rw [hw1]; ((repeat' (first | exact Below.refl _ _ | assumption | (refine Below.drew ?_) | (refine Below.alloc ?_ ?_ _) | (refine Below.setCell ?_ ?_ _) | (refine Below.step (W := ?hW) ?hq ?_ ?_; case hq => assumption))) <;> (first | (simp; done) | (simp; omega) | (simp at *; omega)))
  have hb : w1.heap[w.heap.size]? = some (.cells #[.int .i64 b.type, .int .i64 b.num, .int .i64 b.flags, .int .i64 b.sum, .slice a n cap, .string (bs b.data)] 57 (0, 0)) := by rw [hw1]; exact World.alloc_heap_new w _
  have hlt : w.heap.size < w1.heap.size := by rw [hw1]; simp
  clear hw1
  obtain ⟨B, hBe⟩ : ∃ B, B = w.heap.size := ⟨_, rfl⟩
  rw [← hBe] at hb hlt ⊢
  have hBP : ¬ B = P := by
    rintro rfl
    obtain ⟨v, hW, _⟩ := H.out.1.there
    have := (Array.getElem?_eq_some_iff.1 hW).1
    omega
  have hbB : base ≤ B := by omega
  clear hBe
  have St1 := H.out.1.below hB1
  go_wp2_with (first | (apply wpList_load_of (ty := 57); (case hgd => exact rfl); (case ho => exact rfl); (case hx => exact rfl); (case hr => apply load_row (n := 6); (case hheap => exact hb); (case hu => exact Tryz.underlying57); (case hd => exact rfl); (case hi => kernel_rfl); (case hc => exact rfl))) | (apply wpList_load_w (ty := 57); (case hgd => exact rfl); (case ho => exact rfl); (case hx => exact rfl); (case hr => apply load_row (n := 6); (case hheap => exact hb); (case hu => exact Tryz.underlying57); (case hd => exact rfl); (case hi => kernel_rfl); (case hc => exact rfl))))
  refine (show Calls _ _ _ _ _ from HC.out w1 St1).mono ?_
  rintro _ w2 ⟨rfl, St2, Ws2, hk2⟩
  replace hb := (hk2 B hlt hBP).trans hb
  have Ws := (WStep.of_below (P := P) (M := P) hB1 hlow).trans Ws2
  have hK2 : Keep (fun k => k < base) w0 w2 := H.out.2.trans ⟨Ws.size, fun k hk => Ws.low k hk⟩
  by_cases h1 : e1 = 0
  · have hz : z = d := by rw [Hz.out, if_pos h1]
    subst h1
    have hlt2 : B < w2.heap.size := Nat.lt_of_lt_of_le hlt Ws2.size
    have hcall := hide (HDn.out w2 St2 hK2)
    have Hfin := hide (fun (w' : World) (h : WStep base P P w2 w') => Ws.trans h)
    obtain ⟨v, hW, _⟩ := St2.there
    have p9 := cellsOf hW 9
    have b0 := cellsOf hb 0
    simp only [List.getElem?_toArray, List.getElem?_cons_succ, List.getElem?_cons_zero] at p9 b0
    have Hz2 := hide hz
    clear hW St2 St1 Ws Ws2 hK2 hk2 hz HC HDn
    obtain ⟨t, ht⟩ : ∃ t, t = b.type := ⟨_, rfl⟩
    rw [← ht] at b0
    have Ht := hide ht
    clear ht
    by_cases h2 : (nextWS s).num = 1
    · cases last
      · have h3 : ¬ t = 192 := by rw [Ht.out]; exact Hx.out rfl
        go_wp2_with (first | (apply wpList_load_of (ty := 57); (case hgd => exact rfl); (case ho => exact rfl); (case hx => exact rfl); (case hr => apply load_row (n := 6); (case hheap => exact hb); (case hu => exact Tryz.underlying57); (case hd => exact rfl); (case hi => kernel_rfl); (case hc => exact rfl))) | (apply wpList_load_w (ty := 57); (case hgd => exact rfl); (case ho => exact rfl); (case hx => exact rfl); (case hr => apply load_row (n := 6); (case hheap => exact hb); (case hu => exact Tryz.underlying57); (case hd => exact rfl); (case hi => kernel_rfl); (case hc => exact rfl))))
        refine (show Calls _ _ _ _ _ from hcall.out).mono ?_
        rintro _ w3 ⟨rfl, St3, Ws3⟩
        go_wp2_with fail
        go_ret
        exact ⟨by rw [Hz2.out]; rfl, by rw [Hz2.out]; exact St3, Hfin.out _ Ws3⟩
      · go_wp2_with (first | (apply wpList_load_of (ty := 57); (case hgd => exact rfl); (case ho => exact rfl); (case hx => exact rfl); (case hr => apply load_row (n := 6); (case hheap => exact hb); (case hu => exact Tryz.underlying57); (case hd => exact rfl); (case hi => kernel_rfl); (case hc => exact rfl))) | (apply wpList_load_w (ty := 57); (case hgd => exact rfl); (case ho => exact rfl); (case hx => exact rfl); (case hr => apply load_row (n := 6); (case hheap => exact hb); (case hu => exact Tryz.underlying57); (case hd => exact rfl); (case hi => kernel_rfl); (case hc => exact rfl))))
        refine (show Calls _ _ _ _ _ from hcall.out).mono ?_
        rintro _ w3 ⟨rfl, St3, Ws3⟩
        go_wp2_with fail
        go_ret
        exact ⟨by rw [Hz2.out]; rfl, by rw [Hz2.out]; exact St3, Hfin.out _ Ws3⟩
    · go_wp2_with (first | (apply wpList_load_of (ty := 57); (case hgd => exact rfl); (case ho => exact rfl); (case hx => exact rfl); (case hr => apply load_row (n := 6); (case hheap => exact hb); (case hu => exact Tryz.underlying57); (case hd => exact rfl); (case hi => kernel_rfl); (case hc => exact rfl))) | (apply wpList_load_w (ty := 57); (case hgd => exact rfl); (case ho => exact rfl); (case hx => exact rfl); (case hr => apply load_row (n := 6); (case hheap => exact hb); (case hu => exact Tryz.underlying57); (case hd => exact rfl); (case hi => kernel_rfl); (case hc => exact rfl))))
      refine (show Calls _ _ _ _ _ from hcall.out).mono ?_
      rintro _ w3 ⟨rfl, St3, Ws3⟩
      go_wp2_with fail
      go_ret
      exact ⟨by rw [Hz2.out]; rfl, by rw [Hz2.out]; exact St3, Hfin.out _ Ws3⟩
  · have hz : z = (e1, nextWS s) := by rw [Hz.out, if_neg h1]
    go_wp2_with fail
    go_ret
    exact ⟨by rw [hz]; rfl, by rw [hz]; exact St2, Ws⟩
end Go.Proofs.YtllfaffbaijgfaaGreatDoor
