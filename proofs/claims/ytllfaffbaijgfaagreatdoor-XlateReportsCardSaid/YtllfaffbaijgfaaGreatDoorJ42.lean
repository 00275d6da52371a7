/- The statements' own cuts: a name, a report. -/
import Derived.Test.YtllfaffbaijgfaaGreatDoorJ41
set_option linter.unusedVariables false
set_option linter.unusedSimpArgs false
namespace Go.Proofs.YtllfaffbaijgfaaGreatDoor
open Go Go.RowKit Go.Shelf

def cut6 (e : Eid) : Eid := { e with node := e.node.take 21, service := e.service.take 21 }

theorem bs_take (l : List UInt8) (n : Nat) : (bs l).extract 0 (min l.length n) = bs (l.take n) := by
  apply ByteArray.ext
  rw [ByteArray.data_extract]
  simp only [bs]
  apply Array.ext'
  simp only [Array.toList_extract]
  simp [List.extract, List.take_eq_take_iff, Nat.min_comm]

def VCut6 (e : Eid) (B k l : Nat) : Nat → Value → (Nat → Value) → World → Prop
  | 0, v, _, W => v = .pointer (some ⟨B, 0, none⟩)
  | 1, v, _, W => v = .int .i64 e.scheme
  | 2, v, _, W => v = .pointer (some ⟨B, 1, none⟩)
  | 3, v, _, W => v = .string (bs e.node)
  | 4, v, _, W => v = .pointer (some ⟨B, 1, none⟩)
  | 5, v, _, W => v = .string (bs e.node)
  | 6, v, _, W => v = .int .i64 ((bs e.node).size : Int)
  | 7, v, _, W => v = .int .i64 (k : Int)
  | 8, v, _, W => v = .string (bs (e.node.take 21))
  | 9, v, _, W => v = .pointer (some ⟨B, 2, none⟩)
  | 10, v, _, W => v = .string (bs e.service)
  | 11, v, _, W => v = .pointer (some ⟨B, 2, none⟩)
  | 12, v, _, W => v = .string (bs e.service)
  | 13, v, _, W => v = .int .i64 ((bs e.service).size : Int)
  | 14, v, _, W => v = .int .i64 (l : Int)
  | 15, v, _, W => v = .string (bs (e.service.take 21))
  | 16, v, _, W => v = .pointer (some ⟨B, 3, none⟩)
  | 17, v, _, W => v = .int .i64 e.a
  | 18, v, _, W => v = .pointer (some ⟨B, 4, none⟩)
  | 19, v, _, W => v = .int .i64 e.b
  | 20, v, _, W => v = .agg #[.int .i64 (cut6 e).scheme, .string (bs (cut6 e).node), .string (bs (cut6 e).service), .int .i64 (cut6 e).a, .int .i64 (cut6 e).b]
  | _, _, _, _ => True


set_option maxRecDepth 100000 in
set_option maxHeartbeats 4000000 in
theorem cut6_calls (e : Eid) (w : World) : Calls Tryz.prog 35 #[.agg #[.int .i64 e.scheme, .string (bs e.node), .string (bs e.service), .int .i64 e.a, .int .i64 e.b]] w (Rt w (.agg #[.int .i64 (cut6 e).scheme, .string (bs (cut6 e).node), .string (bs (cut6 e).service), .int .i64 (cut6 e).a, .int .i64 (cut6 e).b])) := by
  go_enter Tryz.func35, Tryz.ntmps35
  go_wp2_with fail
  refine wp_named fun w1 hw1 => ?_
  have hB1 : Below w.heap.size w w1 := by rw [hw1]; ((repeat' (first | exact Below.refl _ _ | assumption | (refine Below.drew ?_) | (refine Below.alloc ?_ ?_ _) | (refine Below.setCell ?_ ?_ _) | (refine Below.step (W := ?hW) ?hq ?_ ?_; case hq => assumption))) <;> (first | (simp; done) | (simp; omega) | (simp at *; omega)))
  have hx : w1.heap[w.heap.size]? = some (.cells #[.int .i64 e.scheme, .string (bs e.node), .string (bs e.service), .int .i64 e.a, .int .i64 e.b] 29 (0, 0)) := by rw [hw1]; exact heapNew (u := w) (by ((repeat' (first | exact Below.refl _ _ | assumption | (refine Below.drew ?_) | (refine Below.alloc ?_ ?_ _) | (refine Below.setCell ?_ ?_ _) | (refine Below.step (W := ?hW) ?hq ?_ ?_; case hq => assumption))) <;> (first | (simp; done) | (simp; omega) | (simp at *; omega)))) rfl
  have hr : w1.heap[w.heap.size + 1]? = some (.cells #[.int .i64 0, .string { data := #[] }, .string { data := #[] }, .int .i64 0, .int .i64 0] 29 (0, 0)) := by rw [hw1]; exact heapNew (u := w.alloc _) (by ((repeat' (first | exact Below.refl _ _ | assumption | (refine Below.drew ?_) | (refine Below.alloc ?_ ?_ _) | (refine Below.setCell ?_ ?_ _) | (refine Below.step (W := ?hW) ?hq ?_ ?_; case hq => assumption))) <;> (first | (simp; done) | (simp; omega) | (simp at *; omega)))) (by simp)
  have k0 := cellsOf hx 0
  simp only [List.getElem?_toArray, List.getElem?_cons_succ, List.getElem?_cons_zero] at k0
  have k1 := cellsOf hx 1
  simp only [List.getElem?_toArray, List.getElem?_cons_succ, List.getElem?_cons_zero] at k1
  have k2 := cellsOf hx 2
  simp only [List.getElem?_toArray, List.getElem?_cons_succ, List.getElem?_cons_zero] at k2
  have k3 := cellsOf hx 3
  simp only [List.getElem?_toArray, List.getElem?_cons_succ, List.getElem?_cons_zero] at k3
  have k4 := cellsOf hx 4
  simp only [List.getElem?_toArray, List.getElem?_cons_succ, List.getElem?_cons_zero] at k4
  clear hw1 hx
  obtain ⟨B, hB⟩ : ∃ B, B = w.heap.size := ⟨_, rfl⟩
  rw [← hB] at k0 k1 k2 k3 k4 hr ⊢
  have hBB := hide hB
  clear hB
  obtain ⟨k, hk⟩ : ∃ k, k = min e.node.length 21 := ⟨_, rfl⟩
  obtain ⟨l, hl⟩ : ∃ l, l = min e.service.length 21 := ⟨_, rfl⟩
  have Hk := hide (show (if (21 : Int) < ((bs e.node).size : Int) then 21 else ((bs e.node).size : Int)) = (k : Int) by rw [bs_size, hk]; split <;> omega)
  have Hl := hide (show (if (21 : Int) < ((bs e.service).size : Int) then 21 else ((bs e.service).size : Int)) = (l : Int) by rw [bs_size, hl]; split <;> omega)
  have kle : k ≤ (bs e.node).size := by rw [bs_size, hk]; omega
  have lle : l ≤ (bs e.service).size := by rw [bs_size, hl]; omega
  have Hk8 := hide (show (bs e.node).extract 0 k = bs (e.node.take 21) by rw [hk]; exact bs_take _ _)
  have Hl8 := hide (show (bs e.service).extract 0 l = bs (e.service.take 21) by rw [hl]; exact bs_take _ _)
  clear hk hl
  refine wp_region_pred 21 (fun W => Below w1.heap.size w1 W) (fun W W' => Below W.heap.size W W') (VCut6 e B k l) (by kernel_rfl) (by kernel_rfl) (Below.refl _ _).drew
    (fun W W' h hg => h.trans (hg.mono h.size)) ?hV_22 (fun W => Below.refl _ _) ?how_22 ?hfin_22
  case hV_22 =>
    intro i_ v_ g_ W W' hg h
    match i_, h with
    | 0, h => exact h
    | 1, h => exact h
    | 2, h => exact h
    | 3, h => exact h
    | 4, h => exact h
    | 5, h => exact h
    | 6, h => exact h
    | 7, h => exact h
    | 8, h => exact h
    | 9, h => exact h
    | 10, h => exact h
    | 11, h => exact h
    | 12, h => exact h
    | 13, h => exact h
    | 14, h => exact h
    | 15, h => exact h
    | 16, h => exact h
    | 17, h => exact h
    | 18, h => exact h
    | 19, h => exact h
    | 20, h => exact h
    | _ + 21, _ => trivial
  case how_22 =>
    intro i_ hi_
    match i_, hi_ with
    | 0, _ =>
      refine owes_plain rfl rfl fun ac_ W hC hold hdep => ?_
      have hs1 := hold 1 (by kernel_rfl)
      clear hdep hold
      go_simp
      exact ⟨_, rfl, Below.refl _ _, rfl⟩
    | 1, _ =>
      refine owes_plain rfl rfl fun ac_ W hC hold hdep => ?_
      obtain ⟨_, (hd0 : _ = (.pointer (some ⟨B, 0, none⟩) : Value))⟩ := hdep 0 3 (by kernel_rfl)
      have k0 := (hC.cell (cellLt k0)).trans k0
      clear hdep hold
      go_simp
      exact ⟨_, rfl, Below.refl _ _, rfl⟩
    | 2, _ =>
      refine owes_plain rfl rfl fun ac_ W hC hold hdep => ?_
      have hs1 := hold 1 (by kernel_rfl)
      clear hdep hold
      go_simp
      exact ⟨_, rfl, Below.refl _ _, rfl⟩
    | 3, _ =>
      refine owes_plain rfl rfl fun ac_ W hC hold hdep => ?_
      obtain ⟨_, (hd2 : _ = (.pointer (some ⟨B, 1, none⟩) : Value))⟩ := hdep 2 5 (by kernel_rfl)
      have k1 := (hC.cell (cellLt k1)).trans k1
      clear hdep hold
      go_simp
      exact ⟨_, rfl, Below.refl _ _, rfl⟩
    | 4, _ =>
      refine owes_plain rfl rfl fun ac_ W hC hold hdep => ?_
      have hs1 := hold 1 (by kernel_rfl)
      clear hdep hold
      go_simp
      exact ⟨_, rfl, Below.refl _ _, rfl⟩
    | 5, _ =>
      refine owes_plain rfl rfl fun ac_ W hC hold hdep => ?_
      obtain ⟨_, (hd4 : _ = (.pointer (some ⟨B, 1, none⟩) : Value))⟩ := hdep 4 7 (by kernel_rfl)
      have k1 := (hC.cell (cellLt k1)).trans k1
      clear hdep hold
      go_simp
      exact ⟨_, rfl, Below.refl _ _, rfl⟩
    | 6, _ =>
      refine owes_plain rfl rfl fun ac_ W hC hold hdep => ?_
      obtain ⟨_, (hd5 : _ = (.string (bs e.node) : Value))⟩ := hdep 5 8 (by kernel_rfl)
      clear hdep hold
      go_simp
      exact ⟨_, rfl, Below.refl _ _, rfl⟩
    | 7, _ =>
      refine owes_plain rfl rfl fun ac_ W hC hold hdep => ?_
      obtain ⟨_, (hd6 : _ = (.int .i64 ((bs e.node).size : Int) : Value))⟩ := hdep 6 9 (by kernel_rfl)
      clear hdep hold
      go_simp
      refine ⟨_, rfl, Below.refl _ _, ?_⟩
      show Value.int _ _ = _
      rw [Hk.out]
    | 8, _ =>
      refine owes_plain rfl rfl fun ac_ W hC hold hdep => ?_
      obtain ⟨_, (hd3 : _ = (.string (bs e.node) : Value))⟩ := hdep 3 6 (by kernel_rfl)
      obtain ⟨_, (hd7 : _ = (.int .i64 (k : Int) : Value))⟩ := hdep 7 10 (by kernel_rfl)
      clear hdep hold
      go_simp
      refine ⟨_, rfl, Below.refl _ _, ?_⟩
      show Value.string _ = _
      rw [Hk8.out]
    | 9, _ =>
      refine owes_plain rfl rfl fun ac_ W hC hold hdep => ?_
      have hs1 := hold 1 (by kernel_rfl)
      clear hdep hold
      go_simp
      exact ⟨_, rfl, Below.refl _ _, rfl⟩
    | 10, _ =>
      refine owes_plain rfl rfl fun ac_ W hC hold hdep => ?_
      obtain ⟨_, (hd9 : _ = (.pointer (some ⟨B, 2, none⟩) : Value))⟩ := hdep 9 12 (by kernel_rfl)
      have k2 := (hC.cell (cellLt k2)).trans k2
      clear hdep hold
      go_simp
      exact ⟨_, rfl, Below.refl _ _, rfl⟩
    | 11, _ =>
      refine owes_plain rfl rfl fun ac_ W hC hold hdep => ?_
      have hs1 := hold 1 (by kernel_rfl)
      clear hdep hold
      go_simp
      exact ⟨_, rfl, Below.refl _ _, rfl⟩
    | 12, _ =>
      refine owes_plain rfl rfl fun ac_ W hC hold hdep => ?_
      obtain ⟨_, (hd11 : _ = (.pointer (some ⟨B, 2, none⟩) : Value))⟩ := hdep 11 14 (by kernel_rfl)
      have k2 := (hC.cell (cellLt k2)).trans k2
      clear hdep hold
      go_simp
      exact ⟨_, rfl, Below.refl _ _, rfl⟩
    | 13, _ =>
      refine owes_plain rfl rfl fun ac_ W hC hold hdep => ?_
      obtain ⟨_, (hd12 : _ = (.string (bs e.service) : Value))⟩ := hdep 12 15 (by kernel_rfl)
      clear hdep hold
      go_simp
      exact ⟨_, rfl, Below.refl _ _, rfl⟩
    | 14, _ =>
      refine owes_plain rfl rfl fun ac_ W hC hold hdep => ?_
      obtain ⟨_, (hd13 : _ = (.int .i64 ((bs e.service).size : Int) : Value))⟩ := hdep 13 16 (by kernel_rfl)
      clear hdep hold
      go_simp
      refine ⟨_, rfl, Below.refl _ _, ?_⟩
      show Value.int _ _ = _
      rw [Hl.out]
    | 15, _ =>
      refine owes_plain rfl rfl fun ac_ W hC hold hdep => ?_
      obtain ⟨_, (hd10 : _ = (.string (bs e.service) : Value))⟩ := hdep 10 13 (by kernel_rfl)
      obtain ⟨_, (hd14 : _ = (.int .i64 (l : Int) : Value))⟩ := hdep 14 17 (by kernel_rfl)
      clear hdep hold
      go_simp
      refine ⟨_, rfl, Below.refl _ _, ?_⟩
      show Value.string _ = _
      rw [Hl8.out]
    | 16, _ =>
      refine owes_plain rfl rfl fun ac_ W hC hold hdep => ?_
      have hs1 := hold 1 (by kernel_rfl)
      clear hdep hold
      go_simp
      exact ⟨_, rfl, Below.refl _ _, rfl⟩
    | 17, _ =>
      refine owes_plain rfl rfl fun ac_ W hC hold hdep => ?_
      obtain ⟨_, (hd16 : _ = (.pointer (some ⟨B, 3, none⟩) : Value))⟩ := hdep 16 19 (by kernel_rfl)
      have k3 := (hC.cell (cellLt k3)).trans k3
      clear hdep hold
      go_simp
      exact ⟨_, rfl, Below.refl _ _, rfl⟩
    | 18, _ =>
      refine owes_plain rfl rfl fun ac_ W hC hold hdep => ?_
      have hs1 := hold 1 (by kernel_rfl)
      clear hdep hold
      go_simp
      exact ⟨_, rfl, Below.refl _ _, rfl⟩
    | 19, _ =>
      refine owes_plain rfl rfl fun ac_ W hC hold hdep => ?_
      obtain ⟨_, (hd18 : _ = (.pointer (some ⟨B, 4, none⟩) : Value))⟩ := hdep 18 21 (by kernel_rfl)
      have k4 := (hC.cell (cellLt k4)).trans k4
      clear hdep hold
      go_simp
      exact ⟨_, rfl, Below.refl _ _, rfl⟩
    | 20, _ =>
      refine owes_plain rfl rfl fun ac_ W hC hold hdep => ?_
      obtain ⟨_, (hd1 : _ = (.int .i64 e.scheme : Value))⟩ := hdep 1 4 (by kernel_rfl)
      obtain ⟨_, (hd8 : _ = (.string (bs (e.node.take 21)) : Value))⟩ := hdep 8 11 (by kernel_rfl)
      obtain ⟨_, (hd15 : _ = (.string (bs (e.service.take 21)) : Value))⟩ := hdep 15 18 (by kernel_rfl)
      obtain ⟨_, (hd17 : _ = (.int .i64 e.a : Value))⟩ := hdep 17 20 (by kernel_rfl)
      obtain ⟨_, (hd19 : _ = (.int .i64 e.b : Value))⟩ := hdep 19 22 (by kernel_rfl)
      clear hdep hold
      go_simp
      exact ⟨_, rfl, Below.refl _ _, rfl⟩
    | k + 21, hk => exact absurd hk (by omega)
  case' hfin_22 =>
    intro fv W hC hold hval
    have v20 : (fv 23) = (.agg #[.int .i64 (cut6 e).scheme, .string (bs (cut6 e).node), .string (bs (cut6 e).service), .int .i64 (cut6 e).a, .int .i64 (cut6 e).b] : Value) := hval 20 _ (by omega) rfl
    have s2 : (fv 2) = (.pointer (some ⟨B + 1, 0, none⟩) : Value) := hold 2 (by kernel_rfl)
    clear hval hold
    simp only [List.drop_succ_cons, List.drop_zero, List.size_toArray, List.length_cons, List.length_nil, Nat.reduceAdd]
    simp only [List.range, List.range.loop]
    simp only [List.map_cons, List.map_nil]
  replace hr := heapKept hr hC
  simp only [v20, s2]
  go_wp2_with (apply wpList_store_at (ty := 29) (n := 5); (case hgd => exact rfl); (case ho => exact rfl); (case hd => exact rfl); (case hx => exact rfl); (case hheap => exact hr); (case hy => exact rfl); (case hi => kernel_rfl); (case hn0 => exact rfl); (case hn => exact rfl); (case h1 => first | exact rfl | assumption | (simp [Value.oneCell', *]; done) | (simp [*]; done)))
  (refine bodyPost_ret (results_cell1 rfl rfl (load_row (n := 5) (hheap := setRow_heap _ _ _ _ _ _ hr) (hu := Tryz.underlying29) (hd := rfl) (hi := by kernel_rfl) (hc := rfl))) rfl ?_)
  exact ⟨rfl, below_setRow (hB1.trans (hC.mono hB1.size)) (by rw [hBB.out]; omega) _⟩

def cut9 (x : Report) : Report := { x with times := x.times.take 8, source := cut6 x.source }

theorem ownsRow_pos {W : World} {base : Nat} {e : TypeId} {size : Nat} {v : Value} {k : Nat} {xs : List Value} (h : W.ownsRow base e size v k xs) (hk : ¬ k = 0) : ∃ g cap, v = .slice (some ⟨g, 0, none⟩) k cap ∧ base ≤ g := by
  rcases h.2 with ⟨_, h0⟩ | ⟨g, cap, _, rfl, hb, _⟩
  · exact absurd h0 hk
  · exact ⟨g, cap, rfl, hb⟩

set_option maxRecDepth 100000 in
set_option maxHeartbeats 4000000 in
theorem cut9_calls (x : Report) (a : Option Addr) (cap : Nat) (w : World) (hlen : x.times.length ≤ 9223372036854775807) (hcap : x.times.length ≤ cap) (hv : IntsV w x.times (.slice a x.times.length cap)) :
    Calls Tryz.prog 19 #[.agg #[.int .i64 x.bits, .slice a x.times.length cap, .int .i64 x.reason, .int .i64 x.source.scheme, .string (bs x.source.node), .string (bs x.source.service), .int .i64 x.source.a, .int .i64 x.source.b, .int .i64 x.time, .int .i64 x.seq, .bool x.part, .int .i64 x.off, .int .i64 x.len]] w (fun e w' => ∃ a' cap', (∀ b, a' = some b → w.heap.size ≤ b.block) ∧ e = .returned (.agg #[.int .i64 (cut9 x).bits, .slice a' (cut9 x).times.length cap', .int .i64 (cut9 x).reason, .int .i64 (cut9 x).source.scheme, .string (bs (cut9 x).source.node), .string (bs (cut9 x).source.service), .int .i64 (cut9 x).source.a, .int .i64 (cut9 x).source.b, .int .i64 (cut9 x).time, .int .i64 (cut9 x).seq, .bool (cut9 x).part, .int .i64 (cut9 x).off, .int .i64 (cut9 x).len]) ∧ IntsV w' (cut9 x).times (.slice a' (cut9 x).times.length cap') ∧ Below w.heap.size w w') := by
  have Hv := hide hv
  clear hv
  obtain ⟨n, hn⟩ : ∃ n, n = x.times.length := ⟨_, rfl⟩
  rw [← hn] at hlen hcap ⊢
  obtain ⟨k, hk⟩ : ∃ k, k = min n 8 := ⟨_, rfl⟩
  have hmin : (if (8 : Int) < (n : Int) then 8 else (n : Int)) = (k : Int) := by rw [hk]; split <;> omega
  have hkl : (x.times.take 8).length = k := by rw [List.length_take, ← hn, hk, Nat.min_comm]
  have hkc : k ≤ cap := by omega
  have hkn : k ≤ n := by omega
  have Hn := hide (And.intro hn hk)
  have Hkl := hide hkl
  clear hn hk hkl
  go_enter Tryz.func19, Tryz.ntmps19
  go_upto_region 1 with fail
  refine wp_named fun w1 hw1 => ?_
  have hB1 : Below w.heap.size w w1 := by rw [hw1]; ((repeat' (first | exact Below.refl _ _ | assumption | (refine Below.drew ?_) | (refine Below.alloc ?_ ?_ _) | (refine Below.setCell ?_ ?_ _) | (refine Below.step (W := ?hW) ?hq ?_ ?_; case hq => assumption))) <;> (first | (simp; done) | (simp; omega) | (simp at *; omega)))
  have hx : w1.heap[w.heap.size]? = some (.cells #[.int .i64 x.bits, .slice a n cap, .int .i64 x.reason, .int .i64 x.source.scheme, .string (bs x.source.node), .string (bs x.source.service), .int .i64 x.source.a, .int .i64 x.source.b, .int .i64 x.time, .int .i64 x.seq, .bool x.part, .int .i64 x.off, .int .i64 x.len] 47 (0, 0)) := by rw [hw1]; exact heapNew (u := w) (by ((repeat' (first | exact Below.refl _ _ | assumption | (refine Below.drew ?_) | (refine Below.alloc ?_ ?_ _) | (refine Below.setCell ?_ ?_ _) | (refine Below.step (W := ?hW) ?hq ?_ ?_; case hq => assumption))) <;> (first | (simp; done) | (simp; omega) | (simp at *; omega)))) rfl
  have hr : w1.heap[w.heap.size + 1]? = some (.cells zeroRep 47 (0, 0)) := by rw [hw1]; exact heapNew (u := w.alloc _) (by ((repeat' (first | exact Below.refl _ _ | assumption | (refine Below.drew ?_) | (refine Below.alloc ?_ ?_ _) | (refine Below.setCell ?_ ?_ _) | (refine Below.step (W := ?hW) ?hq ?_ ?_; case hq => assumption))) <;> (first | (simp; done) | (simp; omega) | (simp at *; omega)))) (by simp)
  have hs1 : w1.heap.size = w.heap.size + 2 := by rw [hw1]; simp
  clear hw1
  have c1 := cellsOf hx 1
  simp only [List.getElem?_toArray, List.getElem?_cons_succ, List.getElem?_cons_zero] at c1
  by_cases h0 : n = 0
  · subst h0
    have hkz : k = 0 := by rw [Hn.out.2]; omega
    subst hkz
    cases a with
    | none =>
      have f1 : w1.frozen? ⟨w.heap.size, 1, none⟩ = false := by simp [World.frozen?, hx]
      go_upto_region 2 with fail
      refine wp_named fun w3 hw3 => ?_
      have htk : x.times.take 8 = [] := List.length_eq_zero_iff.1 Hkl.out
      have x3 : w3.heap[w.heap.size]? = some (.cells #[.int .i64 x.bits, .slice none 0 0, .int .i64 x.reason, .int .i64 x.source.scheme, .string (bs x.source.node), .string (bs x.source.service), .int .i64 x.source.a, .int .i64 x.source.b, .int .i64 x.time, .int .i64 x.seq, .bool x.part, .int .i64 x.off, .int .i64 x.len] 47 (0, 0)) := by rw [hw3]; exact heap_setCell_same hx
      have r3 : w3.heap[w.heap.size + 1]? = some (.cells zeroRep 47 (0, 0)) := by rw [hw3]; exact (heap_setCell_ne (by omega)).trans hr
      have o3 : w3.ownsRow w1.heap.size 3 1 (.slice none 0 0) 0 ((x.times.take 8).map (Value.int .i64)) := by rw [htk]; exact World.ownsRow_nil _ _ _ _
      have b3 : Below w.heap.size w w3 := by rw [hw3]; exact hB1.setCell (p := ⟨w.heap.size, 1, none⟩) (Nat.le_refl _) _
      clear hw3 hB1 hr hx c1
      have k3 := cellsOf x3 3
      simp only [List.getElem?_toArray, List.getElem?_cons_succ, List.getElem?_cons_zero] at k3
      have k4 := cellsOf x3 4
      simp only [List.getElem?_toArray, List.getElem?_cons_succ, List.getElem?_cons_zero] at k4
      have k5 := cellsOf x3 5
      simp only [List.getElem?_toArray, List.getElem?_cons_succ, List.getElem?_cons_zero] at k5
      have k6 := cellsOf x3 6
      simp only [List.getElem?_toArray, List.getElem?_cons_succ, List.getElem?_cons_zero] at k6
      have k7 := cellsOf x3 7
      simp only [List.getElem?_toArray, List.getElem?_cons_succ, List.getElem?_cons_zero] at k7
      go_wp2_with fail
      refine (cut6_calls x.source w3).mono ?_
      rintro e_ w4 ⟨rfl, hb4⟩
      replace x3 := heapKept x3 hb4
      replace r3 := heapKept r3 hb4
      replace o3 := row_kept (fun g c m hg => heapKept hg hb4) o3
      replace b3 := b3.trans (hb4.mono b3.size)
      clear hb4
      replace k3 := cellsOf x3 3
      simp only [List.getElem?_toArray, List.getElem?_cons_succ, List.getElem?_cons_zero] at k3
      have f3 : w4.frozen? ⟨w.heap.size, 3, none⟩ = false := by simp [World.frozen?, x3]
      replace k4 := cellsOf x3 4
      simp only [List.getElem?_toArray, List.getElem?_cons_succ, List.getElem?_cons_zero] at k4
      have f4 : w4.frozen? ⟨w.heap.size, 4, none⟩ = false := by simp [World.frozen?, x3]
      replace k5 := cellsOf x3 5
      simp only [List.getElem?_toArray, List.getElem?_cons_succ, List.getElem?_cons_zero] at k5
      have f5 : w4.frozen? ⟨w.heap.size, 5, none⟩ = false := by simp [World.frozen?, x3]
      replace k6 := cellsOf x3 6
      simp only [List.getElem?_toArray, List.getElem?_cons_succ, List.getElem?_cons_zero] at k6
      have f6 : w4.frozen? ⟨w.heap.size, 6, none⟩ = false := by simp [World.frozen?, x3]
      replace k7 := cellsOf x3 7
      simp only [List.getElem?_toArray, List.getElem?_cons_succ, List.getElem?_cons_zero] at k7
      have f7 : w4.frozen? ⟨w.heap.size, 7, none⟩ = false := by simp [World.frozen?, x3]
      have x5 := heap_setCell_same (i := 7) (v := .int .i64 (cut6 x.source).b) (heap_setCell_same (i := 6) (v := .int .i64 (cut6 x.source).a) (heap_setCell_same (i := 5) (v := .string (bs (cut6 x.source).service)) (heap_setCell_same (i := 4) (v := .string (bs (cut6 x.source).node)) (heap_setCell_same (i := 3) (v := .int .i64 (cut6 x.source).scheme) x3))))
      go_upto_region 3 with fail
      refine wp_named fun w5 hw5 => ?_
      have x6 : w5.heap[w.heap.size]? = some (.cells #[.int .i64 x.bits, .slice none 0 0, .int .i64 x.reason, .int .i64 (cut6 x.source).scheme, .string (bs (cut6 x.source).node), .string (bs (cut6 x.source).service), .int .i64 (cut6 x.source).a, .int .i64 (cut6 x.source).b, .int .i64 x.time, .int .i64 x.seq, .bool x.part, .int .i64 x.off, .int .i64 x.len] 47 (0, 0)) := by rw [hw5]; exact x5
      have r6 : w5.heap[w.heap.size + 1]? = some (.cells zeroRep 47 (0, 0)) := by
        rw [hw5, heap_setCell_ne (by omega), heap_setCell_ne (by omega), heap_setCell_ne (by omega), heap_setCell_ne (by omega), heap_setCell_ne (by omega)]
        exact r3
      have o6 : w5.ownsRow w1.heap.size 3 1 (.slice none 0 0) 0 ((x.times.take 8).map (Value.int .i64)) := by
        rw [hw5]
        refine row_kept (fun g c m hg => ?_) o3
        have hne : g ≠ w.heap.size := by rintro rfl; rw [x3] at hg; cases hg
        rw [heap_setCell_ne hne, heap_setCell_ne hne, heap_setCell_ne hne, heap_setCell_ne hne, heap_setCell_ne hne]
        exact hg
      have b6 : Below w.heap.size w w5 := by
        rw [hw5]
        exact ((((b3.setCell (p := ⟨w.heap.size, 3, none⟩) (Nat.le_refl _) _).setCell (p := ⟨w.heap.size, 4, none⟩) (Nat.le_refl _) _).setCell (p := ⟨w.heap.size, 5, none⟩) (Nat.le_refl _) _).setCell (p := ⟨w.heap.size, 6, none⟩) (Nat.le_refl _) _).setCell (p := ⟨w.heap.size, 7, none⟩) (Nat.le_refl _) _
      have o7 := row_kept (W' := w5.setRow (w.heap.size + 1) #[.int .i64 x.bits, .slice none 0 0, .int .i64 x.reason, .int .i64 (cut6 x.source).scheme, .string (bs (cut6 x.source).node), .string (bs (cut6 x.source).service), .int .i64 (cut6 x.source).a, .int .i64 (cut6 x.source).b, .int .i64 x.time, .int .i64 x.seq, .bool x.part, .int .i64 x.off, .int .i64 x.len]) (fun g c m hg => (setRow_other _ _ _ _ (by rintro rfl; rw [r6] at hg; cases hg)).trans hg) o6
      have Iv := hide (ints_of_row o7 Hkl.out.symm)
      clear hw5 x5 x3 r3 o3 b3 o6 o7 k3 k4 k5 k6 k7 f3 f4 f5 f6 f7
      go_wp2_with (first | (first | (apply wpList_load_of (ty := 47); (case hgd => exact rfl); (case ho => exact rfl); (case hx => exact rfl); (case hr => apply load_row (n := 13); (case hheap => exact x6); (case hu => exact Tryz.underlying47); (case hd => exact rfl); (case hi => kernel_rfl); (case hc => exact rfl))) | (apply wpList_load_w (ty := 47); (case hgd => exact rfl); (case ho => exact rfl); (case hx => exact rfl); (case hr => apply load_row (n := 13); (case hheap => exact x6); (case hu => exact Tryz.underlying47); (case hd => exact rfl); (case hi => kernel_rfl); (case hc => exact rfl)))) | (apply wpList_store_at (ty := 47) (n := 13); (case hgd => exact rfl); (case ho => exact rfl); (case hd => exact rfl); (case hx => exact rfl); (case hheap => exact r6); (case hy => exact rfl); (case hi => kernel_rfl); (case hn0 => exact rfl); (case hn => exact rfl); (case h1 => first | exact rfl | assumption | (simp [Value.oneCell', *]; done) | (simp [*]; done))))
      (refine bodyPost_ret (results_cell1 rfl rfl (load_row (n := 13) (hheap := setRow_heap _ _ _ _ _ _ r6) (hu := Tryz.underlying47) (hd := rfl) (hi := by kernel_rfl) (hc := rfl))) rfl ?_)
      refine ⟨none, 0, (fun _ e => by cases e), ?_, ?_, below_setRow b6 (by omega) _⟩
      · simp only [cut9, Hkl.out]
      · simp only [cut9, Hkl.out]
        exact Iv.out
    | some ad =>
      obtain ⟨i0, hi0, hz0, hz1, hz2⟩ := info_parts infoInt
      have Hown := hide (World.ownsRow_nil w1 w1.heap.size 3 1)
      have hx2 : ∀ w2 : World, w1.grownBy w2 (Value.slice none 0 0).ownBlock → w2.heap[w.heap.size]? = some (.cells #[.int .i64 x.bits, .slice (some ad) 0 cap, .int .i64 x.reason, .int .i64 x.source.scheme, .string (bs x.source.node), .string (bs x.source.service), .int .i64 x.source.a, .int .i64 x.source.b, .int .i64 x.time, .int .i64 x.seq, .bool x.part, .int .i64 x.off, .int .i64 x.len] 47 (0, 0)) := fun w2 h => (h.block _ (by omega) (by simp [Value.ownBlock])).trans hx
      have Hx2 := hide hx2
      have hc0 : ∀ (j : Nat) (u : Value), ([] : List Value)[j]? = some u → w1.cell? (ad.add j) = some u := fun j u h => by simp at h
      have ho0 : ∀ u ∈ ([] : List Value), u.oneCell' = true := fun u h => by simp at h
      have hm1 : 0 + 0 ≤ maxLen := by unfold maxLen; omega
      have hm2 : (0 + 0) * 8 ≤ 140737488355328 := by omega
      have Hc := hide hc0
      have Ho := hide ho0
      clear hx2 hc0 ho0
      go_upto_region 2 with (at_builtin; refine wpList_append_own _ rfl _ _ 45 rfl w1.heap.size 3 i0 (.int .i64 0) 1 8 Tryz.underlying45 hi0 hz0 hz1 hz2 rfl Nat.one_pos _ 0 [] rfl Hown.out ad 0 cap [] rfl rfl Hc.out Ho.out hm1 hm2 (Nat.le_refl _) ?_; intro v' w2 hown' hgrow hnil; obtain rfl : v' = .slice none 0 0 := hnil.2 ⟨rfl, rfl⟩; have cx := cellsOf (Hx2.out w2 hgrow) 1; simp only [List.getElem?_toArray, List.getElem?_cons_succ, List.getElem?_cons_zero] at cx; have fx : w2.frozen? ⟨w.heap.size, 1, none⟩ = false := by simp [World.frozen?, Hx2.out w2 hgrow])
      refine wp_named fun w3 hw3 => ?_
      replace hgrow : w1.grownBy w2 (Value.slice none 0 0).ownBlock := hgrow
      have htk : x.times.take 8 = [] := List.length_eq_zero_iff.1 Hkl.out
      have x3 : w3.heap[w.heap.size]? = some (.cells #[.int .i64 x.bits, .slice none 0 0, .int .i64 x.reason, .int .i64 x.source.scheme, .string (bs x.source.node), .string (bs x.source.service), .int .i64 x.source.a, .int .i64 x.source.b, .int .i64 x.time, .int .i64 x.seq, .bool x.part, .int .i64 x.off, .int .i64 x.len] 47 (0, 0)) := by rw [hw3]; exact heap_setCell_same (Hx2.out w2 hgrow)
      have r3 : w3.heap[w.heap.size + 1]? = some (.cells zeroRep 47 (0, 0)) := by rw [hw3]; exact (heap_setCell_ne (by omega)).trans ((hgrow.block _ (by omega) (by simp [Value.ownBlock])).trans hr)
      have o3 : w3.ownsRow w1.heap.size 3 1 (.slice none 0 0) 0 ((x.times.take 8).map (Value.int .i64)) := by rw [htk]; exact World.ownsRow_nil _ _ _ _
      have b3 : Below w.heap.size w w3 := by rw [hw3]; exact (hB1.trans ⟨hgrow.os, hgrow.tape, hgrow.output, hgrow.size, fun i hi => hgrow.block i (by omega) (by simp [Value.ownBlock])⟩).setCell (p := ⟨w.heap.size, 1, none⟩) (Nat.le_refl _) _
      clear hw3 hgrow hnil hown' hB1 hr hx c1 cx fx Hx2
      have k3 := cellsOf x3 3
      simp only [List.getElem?_toArray, List.getElem?_cons_succ, List.getElem?_cons_zero] at k3
      have k4 := cellsOf x3 4
      simp only [List.getElem?_toArray, List.getElem?_cons_succ, List.getElem?_cons_zero] at k4
      have k5 := cellsOf x3 5
      simp only [List.getElem?_toArray, List.getElem?_cons_succ, List.getElem?_cons_zero] at k5
      have k6 := cellsOf x3 6
      simp only [List.getElem?_toArray, List.getElem?_cons_succ, List.getElem?_cons_zero] at k6
      have k7 := cellsOf x3 7
      simp only [List.getElem?_toArray, List.getElem?_cons_succ, List.getElem?_cons_zero] at k7
      go_wp2_with fail
      refine (cut6_calls x.source w3).mono ?_
      rintro e_ w4 ⟨rfl, hb4⟩
      replace x3 := heapKept x3 hb4
      replace r3 := heapKept r3 hb4
      replace o3 := row_kept (fun g c m hg => heapKept hg hb4) o3
      replace b3 := b3.trans (hb4.mono b3.size)
      clear hb4
      replace k3 := cellsOf x3 3
      simp only [List.getElem?_toArray, List.getElem?_cons_succ, List.getElem?_cons_zero] at k3
      have f3 : w4.frozen? ⟨w.heap.size, 3, none⟩ = false := by simp [World.frozen?, x3]
      replace k4 := cellsOf x3 4
      simp only [List.getElem?_toArray, List.getElem?_cons_succ, List.getElem?_cons_zero] at k4
      have f4 : w4.frozen? ⟨w.heap.size, 4, none⟩ = false := by simp [World.frozen?, x3]
      replace k5 := cellsOf x3 5
      simp only [List.getElem?_toArray, List.getElem?_cons_succ, List.getElem?_cons_zero] at k5
      have f5 : w4.frozen? ⟨w.heap.size, 5, none⟩ = false := by simp [World.frozen?, x3]
      replace k6 := cellsOf x3 6
      simp only [List.getElem?_toArray, List.getElem?_cons_succ, List.getElem?_cons_zero] at k6
      have f6 : w4.frozen? ⟨w.heap.size, 6, none⟩ = false := by simp [World.frozen?, x3]
      replace k7 := cellsOf x3 7
      simp only [List.getElem?_toArray, List.getElem?_cons_succ, List.getElem?_cons_zero] at k7
      have f7 : w4.frozen? ⟨w.heap.size, 7, none⟩ = false := by simp [World.frozen?, x3]
      have x5 := heap_setCell_same (i := 7) (v := .int .i64 (cut6 x.source).b) (heap_setCell_same (i := 6) (v := .int .i64 (cut6 x.source).a) (heap_setCell_same (i := 5) (v := .string (bs (cut6 x.source).service)) (heap_setCell_same (i := 4) (v := .string (bs (cut6 x.source).node)) (heap_setCell_same (i := 3) (v := .int .i64 (cut6 x.source).scheme) x3))))
      go_upto_region 3 with fail
      refine wp_named fun w5 hw5 => ?_
      have x6 : w5.heap[w.heap.size]? = some (.cells #[.int .i64 x.bits, .slice none 0 0, .int .i64 x.reason, .int .i64 (cut6 x.source).scheme, .string (bs (cut6 x.source).node), .string (bs (cut6 x.source).service), .int .i64 (cut6 x.source).a, .int .i64 (cut6 x.source).b, .int .i64 x.time, .int .i64 x.seq, .bool x.part, .int .i64 x.off, .int .i64 x.len] 47 (0, 0)) := by rw [hw5]; exact x5
      have r6 : w5.heap[w.heap.size + 1]? = some (.cells zeroRep 47 (0, 0)) := by
        rw [hw5, heap_setCell_ne (by omega), heap_setCell_ne (by omega), heap_setCell_ne (by omega), heap_setCell_ne (by omega), heap_setCell_ne (by omega)]
        exact r3
      have o6 : w5.ownsRow w1.heap.size 3 1 (.slice none 0 0) 0 ((x.times.take 8).map (Value.int .i64)) := by
        rw [hw5]
        refine row_kept (fun g c m hg => ?_) o3
        have hne : g ≠ w.heap.size := by rintro rfl; rw [x3] at hg; cases hg
        rw [heap_setCell_ne hne, heap_setCell_ne hne, heap_setCell_ne hne, heap_setCell_ne hne, heap_setCell_ne hne]
        exact hg
      have b6 : Below w.heap.size w w5 := by
        rw [hw5]
        exact ((((b3.setCell (p := ⟨w.heap.size, 3, none⟩) (Nat.le_refl _) _).setCell (p := ⟨w.heap.size, 4, none⟩) (Nat.le_refl _) _).setCell (p := ⟨w.heap.size, 5, none⟩) (Nat.le_refl _) _).setCell (p := ⟨w.heap.size, 6, none⟩) (Nat.le_refl _) _).setCell (p := ⟨w.heap.size, 7, none⟩) (Nat.le_refl _) _
      have o7 := row_kept (W' := w5.setRow (w.heap.size + 1) #[.int .i64 x.bits, .slice none 0 0, .int .i64 x.reason, .int .i64 (cut6 x.source).scheme, .string (bs (cut6 x.source).node), .string (bs (cut6 x.source).service), .int .i64 (cut6 x.source).a, .int .i64 (cut6 x.source).b, .int .i64 x.time, .int .i64 x.seq, .bool x.part, .int .i64 x.off, .int .i64 x.len]) (fun g c m hg => (setRow_other _ _ _ _ (by rintro rfl; rw [r6] at hg; cases hg)).trans hg) o6
      have Iv := hide (ints_of_row o7 Hkl.out.symm)
      clear hw5 x5 x3 r3 o3 b3 o6 o7 k3 k4 k5 k6 k7 f3 f4 f5 f6 f7
      go_wp2_with (first | (first | (apply wpList_load_of (ty := 47); (case hgd => exact rfl); (case ho => exact rfl); (case hx => exact rfl); (case hr => apply load_row (n := 13); (case hheap => exact x6); (case hu => exact Tryz.underlying47); (case hd => exact rfl); (case hi => kernel_rfl); (case hc => exact rfl))) | (apply wpList_load_w (ty := 47); (case hgd => exact rfl); (case ho => exact rfl); (case hx => exact rfl); (case hr => apply load_row (n := 13); (case hheap => exact x6); (case hu => exact Tryz.underlying47); (case hd => exact rfl); (case hi => kernel_rfl); (case hc => exact rfl)))) | (apply wpList_store_at (ty := 47) (n := 13); (case hgd => exact rfl); (case ho => exact rfl); (case hd => exact rfl); (case hx => exact rfl); (case hheap => exact r6); (case hy => exact rfl); (case hi => kernel_rfl); (case hn0 => exact rfl); (case hn => exact rfl); (case h1 => first | exact rfl | assumption | (simp [Value.oneCell', *]; done) | (simp [*]; done))))
      (refine bodyPost_ret (results_cell1 rfl rfl (load_row (n := 13) (hheap := setRow_heap _ _ _ _ _ _ r6) (hu := Tryz.underlying47) (hd := rfl) (hi := by kernel_rfl) (hc := rfl))) rfl ?_)
      refine ⟨none, 0, (fun _ e => by cases e), ?_, ?_, below_setRow b6 (by omega) _⟩
      · simp only [cut9, Hkl.out]
      · simp only [cut9, Hkl.out]
        exact Iv.out
  · obtain ⟨b, o, rfl, hat⟩ : ∃ b o, a = some ⟨b, o, none⟩ ∧ IntsAt w x.times b o := by
      obtain ⟨a', cap', e, h⟩ := Hv.out
      cases e
      exact h (by rw [← Hn.out.1]; omega)
    have hat1 := hat.mono hB1 hat.1
    have hk0 : ¬ k = 0 := by rw [Hn.out.2]; omega
    obtain ⟨i0, hi0, hz0, hz1, hz2⟩ := info_parts infoInt
    have hcells : ∀ j u, ((x.times.take 8).map (Value.int .i64))[j]? = some u → w1.cell? ((⟨b, o, none⟩ : Addr).add j) = some u := fun j u hj => by
      rw [show (⟨b, o, none⟩ : Addr).add j = ⟨b, o + j, none⟩ by unfold Addr.add; split <;> simp_all]
      rw [List.getElem?_map, Option.map_eq_some_iff] at hj
      obtain ⟨m, h1, rfl⟩ := hj
      have hj8 : j < 8 := by have := (List.getElem?_eq_some_iff.1 h1).1; rw [List.length_take] at this; omega
      rw [List.getElem?_take_of_lt hj8] at h1
      exact hat1.2 j m h1
    have hone : ∀ u ∈ (x.times.take 8).map (Value.int .i64), u.oneCell' = true := fun u hu => by
      obtain ⟨m, _, rfl⟩ := List.mem_map.1 hu
      rfl
    have hl1 : ((x.times.take 8).map (Value.int .i64)).length = k * 1 := by rw [List.length_map, Hkl.out, Nat.mul_one]
    have hm1 : 0 + k ≤ maxLen := by unfold maxLen; omega
    have hm2 : (0 + k) * 8 ≤ 140737488355328 := by omega
    have Hown := hide (World.ownsRow_nil w1 w1.heap.size 3 1)
    have Hc := hide hcells
    have Ho := hide hone
    clear hcells hone
    have hx2 : ∀ w2 : World, w1.grownBy w2 (Value.slice none 0 0).ownBlock → w2.heap[w.heap.size]? = some (.cells #[.int .i64 x.bits, .slice (some ⟨b, o, none⟩) n cap, .int .i64 x.reason, .int .i64 x.source.scheme, .string (bs x.source.node), .string (bs x.source.service), .int .i64 x.source.a, .int .i64 x.source.b, .int .i64 x.time, .int .i64 x.seq, .bool x.part, .int .i64 x.off, .int .i64 x.len] 47 (0, 0)) := fun w2 h => (h.block _ (by omega) (by simp [Value.ownBlock])).trans hx
    have Hx2 := hide hx2
    clear hx2
    go_upto_region 2 with (at_builtin; refine wpList_append_own _ rfl _ _ 45 rfl w1.heap.size 3 i0 (.int .i64 0) 1 8 Tryz.underlying45 hi0 hz0 hz1 hz2 rfl Nat.one_pos _ 0 [] rfl Hown.out ⟨b, o, none⟩ k cap ((x.times.take 8).map (Value.int .i64)) rfl hl1 Hc.out Ho.out hm1 hm2 (Nat.le_refl _) ?_; intro v' w2 hown' hgrow _; rw [Nat.zero_add] at hown'; obtain ⟨g', cap', rfl, hg'⟩ := ownsRow_pos hown' hk0; have cx := cellsOf (Hx2.out w2 hgrow) 1; simp only [List.getElem?_toArray, List.getElem?_cons_succ, List.getElem?_cons_zero] at cx; have fx : w2.frozen? ⟨w.heap.size, 1, none⟩ = false := by simp [World.frozen?, Hx2.out w2 hgrow])
    refine wp_named fun w3 hw3 => ?_
    replace hgrow : w1.grownBy w2 (Value.slice none 0 0).ownBlock := hgrow
    have x3 : w3.heap[w.heap.size]? = some (.cells #[.int .i64 x.bits, .slice (some ⟨g', 0, none⟩) k cap', .int .i64 x.reason, .int .i64 x.source.scheme, .string (bs x.source.node), .string (bs x.source.service), .int .i64 x.source.a, .int .i64 x.source.b, .int .i64 x.time, .int .i64 x.seq, .bool x.part, .int .i64 x.off, .int .i64 x.len] 47 (0, 0)) := by rw [hw3]; exact heap_setCell_same (Hx2.out w2 hgrow)
    have r3 : w3.heap[w.heap.size + 1]? = some (.cells zeroRep 47 (0, 0)) := by rw [hw3]; exact (heap_setCell_ne (by omega)).trans ((hgrow.block _ (by omega) (by simp [Value.ownBlock])).trans hr)
    have o3 : w3.ownsRow w1.heap.size 3 1 (.slice (some ⟨g', 0, none⟩) k cap') k ((x.times.take 8).map (Value.int .i64)) := by rw [hw3]; exact row_kept (fun g c m hg => (heap_setCell_ne (by rintro rfl; rw [Hx2.out w2 hgrow] at hg; cases hg)).trans hg) hown'
    have b3 : Below w.heap.size w w3 := by rw [hw3]; exact (hB1.trans ⟨hgrow.os, hgrow.tape, hgrow.output, hgrow.size, fun i hi => hgrow.block i (by omega) (by simp [Value.ownBlock])⟩).setCell (p := ⟨w.heap.size, 1, none⟩) (Nat.le_refl _) _
    clear hw3 hown' hgrow hB1 hr hx hat hat1 c1 cx fx Hx2
    have k3 := cellsOf x3 3
    simp only [List.getElem?_toArray, List.getElem?_cons_succ, List.getElem?_cons_zero] at k3
    have k4 := cellsOf x3 4
    simp only [List.getElem?_toArray, List.getElem?_cons_succ, List.getElem?_cons_zero] at k4
    have k5 := cellsOf x3 5
    simp only [List.getElem?_toArray, List.getElem?_cons_succ, List.getElem?_cons_zero] at k5
    have k6 := cellsOf x3 6
    simp only [List.getElem?_toArray, List.getElem?_cons_succ, List.getElem?_cons_zero] at k6
    have k7 := cellsOf x3 7
    simp only [List.getElem?_toArray, List.getElem?_cons_succ, List.getElem?_cons_zero] at k7
    go_wp2_with fail
    refine (cut6_calls x.source w3).mono ?_
    rintro e_ w4 ⟨rfl, hb4⟩
    replace x3 := heapKept x3 hb4
    replace r3 := heapKept r3 hb4
    replace o3 := row_kept (fun g c m hg => heapKept hg hb4) o3
    replace b3 := b3.trans (hb4.mono b3.size)
    clear hb4
    replace k3 := cellsOf x3 3
    simp only [List.getElem?_toArray, List.getElem?_cons_succ, List.getElem?_cons_zero] at k3
    have f3 : w4.frozen? ⟨w.heap.size, 3, none⟩ = false := by simp [World.frozen?, x3]
    replace k4 := cellsOf x3 4
    simp only [List.getElem?_toArray, List.getElem?_cons_succ, List.getElem?_cons_zero] at k4
    have f4 : w4.frozen? ⟨w.heap.size, 4, none⟩ = false := by simp [World.frozen?, x3]
    replace k5 := cellsOf x3 5
    simp only [List.getElem?_toArray, List.getElem?_cons_succ, List.getElem?_cons_zero] at k5
    have f5 : w4.frozen? ⟨w.heap.size, 5, none⟩ = false := by simp [World.frozen?, x3]
    replace k6 := cellsOf x3 6
    simp only [List.getElem?_toArray, List.getElem?_cons_succ, List.getElem?_cons_zero] at k6
    have f6 : w4.frozen? ⟨w.heap.size, 6, none⟩ = false := by simp [World.frozen?, x3]
    replace k7 := cellsOf x3 7
    simp only [List.getElem?_toArray, List.getElem?_cons_succ, List.getElem?_cons_zero] at k7
    have f7 : w4.frozen? ⟨w.heap.size, 7, none⟩ = false := by simp [World.frozen?, x3]
    have x5 := heap_setCell_same (i := 7) (v := .int .i64 (cut6 x.source).b) (heap_setCell_same (i := 6) (v := .int .i64 (cut6 x.source).a) (heap_setCell_same (i := 5) (v := .string (bs (cut6 x.source).service)) (heap_setCell_same (i := 4) (v := .string (bs (cut6 x.source).node)) (heap_setCell_same (i := 3) (v := .int .i64 (cut6 x.source).scheme) x3))))
    go_upto_region 3 with fail
    refine wp_named fun w5 hw5 => ?_
    have x6 : w5.heap[w.heap.size]? = some (.cells #[.int .i64 x.bits, .slice (some ⟨g', 0, none⟩) k cap', .int .i64 x.reason, .int .i64 (cut6 x.source).scheme, .string (bs (cut6 x.source).node), .string (bs (cut6 x.source).service), .int .i64 (cut6 x.source).a, .int .i64 (cut6 x.source).b, .int .i64 x.time, .int .i64 x.seq, .bool x.part, .int .i64 x.off, .int .i64 x.len] 47 (0, 0)) := by rw [hw5]; exact x5
    have r6 : w5.heap[w.heap.size + 1]? = some (.cells zeroRep 47 (0, 0)) := by
      rw [hw5, heap_setCell_ne (by omega), heap_setCell_ne (by omega), heap_setCell_ne (by omega), heap_setCell_ne (by omega), heap_setCell_ne (by omega)]
      exact r3
    have o6 : w5.ownsRow w1.heap.size 3 1 (.slice (some ⟨g', 0, none⟩) k cap') k ((x.times.take 8).map (Value.int .i64)) := by
      rw [hw5]
      refine row_kept (fun g c m hg => ?_) o3
      have hne : g ≠ w.heap.size := by rintro rfl; rw [x3] at hg; cases hg
      rw [heap_setCell_ne hne, heap_setCell_ne hne, heap_setCell_ne hne, heap_setCell_ne hne, heap_setCell_ne hne]
      exact hg
    have b6 : Below w.heap.size w w5 := by
      rw [hw5]
      exact ((((b3.setCell (p := ⟨w.heap.size, 3, none⟩) (Nat.le_refl _) _).setCell (p := ⟨w.heap.size, 4, none⟩) (Nat.le_refl _) _).setCell (p := ⟨w.heap.size, 5, none⟩) (Nat.le_refl _) _).setCell (p := ⟨w.heap.size, 6, none⟩) (Nat.le_refl _) _).setCell (p := ⟨w.heap.size, 7, none⟩) (Nat.le_refl _) _
    have o7 := row_kept (W' := w5.setRow (w.heap.size + 1) #[.int .i64 x.bits, .slice (some ⟨g', 0, none⟩) k cap', .int .i64 x.reason, .int .i64 (cut6 x.source).scheme, .string (bs (cut6 x.source).node), .string (bs (cut6 x.source).service), .int .i64 (cut6 x.source).a, .int .i64 (cut6 x.source).b, .int .i64 x.time, .int .i64 x.seq, .bool x.part, .int .i64 x.off, .int .i64 x.len]) (fun g c m hg => (setRow_other _ _ _ _ (by rintro rfl; rw [r6] at hg; cases hg)).trans hg) o6
    have Iv := hide (ints_of_row o7 Hkl.out.symm)
    clear hw5 x5 x3 r3 o3 b3 o6 o7 k3 k4 k5 k6 k7 f3 f4 f5 f6 f7
    go_wp2_with (first | (first | (apply wpList_load_of (ty := 47); (case hgd => exact rfl); (case ho => exact rfl); (case hx => exact rfl); (case hr => apply load_row (n := 13); (case hheap => exact x6); (case hu => exact Tryz.underlying47); (case hd => exact rfl); (case hi => kernel_rfl); (case hc => exact rfl))) | (apply wpList_load_w (ty := 47); (case hgd => exact rfl); (case ho => exact rfl); (case hx => exact rfl); (case hr => apply load_row (n := 13); (case hheap => exact x6); (case hu => exact Tryz.underlying47); (case hd => exact rfl); (case hi => kernel_rfl); (case hc => exact rfl)))) | (apply wpList_store_at (ty := 47) (n := 13); (case hgd => exact rfl); (case ho => exact rfl); (case hd => exact rfl); (case hx => exact rfl); (case hheap => exact r6); (case hy => exact rfl); (case hi => kernel_rfl); (case hn0 => exact rfl); (case hn => exact rfl); (case h1 => first | exact rfl | assumption | (simp [Value.oneCell', *]; done) | (simp [*]; done))))
    (refine bodyPost_ret (results_cell1 rfl rfl (load_row (n := 13) (hheap := setRow_heap _ _ _ _ _ _ r6) (hu := Tryz.underlying47) (hd := rfl) (hi := by kernel_rfl) (hc := rfl))) rfl ?_)
    refine ⟨some ⟨g', 0, none⟩, cap', (fun _ e => by cases e; show w.heap.size ≤ g'; omega), ?_, ?_, below_setRow b6 (by omega) _⟩
    · simp only [cut9, Hkl.out]
    · simp only [cut9, Hkl.out]
      exact Iv.out
end Go.Proofs.YtllfaffbaijgfaaGreatDoor
