/- adm6.Same. A report that goes up is right there, and comes down as it was; one that comes down goes up so: the plain law. -/
import Derived.Test.YtllfaffbaijgfaaGreatDoorJ11
import Derived.Test.YtllfaffbaijgfaaGreatDoorJ20
import Derived.Test.YtllfaffbaijgfaaGreatDoorJ08
import Derived.Deep.Light
import Derived.Laws.CopyOwn
import Derived.Deep.CutRange
import Derived.Test.YtllfaffbaijgfaaGreatDoorJ41
import Derived.Test.YtllfaffbaijgfaaGreatDoorJ42
set_option linter.unusedVariables false
set_option linter.unusedSimpArgs false
namespace Go.Proofs.YtllfaffbaijgfaaGreatDoor
open Go Go.RowKit Go.Shelf

theorem toList_loop (b : ByteArray) : ∀ (k i : Nat) (r : List UInt8), i + k = b.data.size → ByteArray.toList.loop b i r = r.reverse ++ b.data.toList.drop i
  | 0, i, r, h => by
    unfold ByteArray.toList.loop
    rw [if_neg (show ¬ i < b.size from by show ¬ i < b.data.size; omega), List.drop_eq_nil_of_le (by simp only [Array.length_toList]; omega), List.append_nil]
  | k + 1, i, r, h => by
    have hi : i < b.data.size := by omega
    have hl : i < b.data.toList.length := by simpa using hi
    unfold ByteArray.toList.loop
    rw [if_pos (show i < b.size from hi), toList_loop b k (i + 1) _ (by omega), List.drop_eq_getElem_cons hl]
    have : b.get! i = b.data.toList[i] := by
      show b.data[i]! = _
      rw [getElem!_pos b.data i hi, Array.getElem_toList]
    rw [this]
    simp only [List.reverse_cons, List.append_assoc, List.cons_append, List.nil_append]
theorem bs_list (l : List UInt8) : (bs l).toList = l := by
  have := toList_loop (bs l) (bs l).data.size 0 [] (by omega)
  rw [bs_toList] at this
  simpa [ByteArray.toList] using this

/-- are two reports the same, but for their times? -/
def sameB (x y : Report) : Bool := decide (x.source = y.source ∧ x.time = y.time ∧ x.seq = y.seq ∧ x.part = y.part ∧ x.off = y.off ∧ x.len = y.len ∧ x.bits = y.bits ∧ x.reason = y.reason)
theorem sameB_true {x y : Report} (h1 : x.source.scheme = y.source.scheme) (h2 : (bs x.source.node).toList = (bs y.source.node).toList) (h3 : (bs x.source.service).toList = (bs y.source.service).toList) (h4 : x.source.a = y.source.a) (h5 : x.source.b = y.source.b)
    (h6 : x.time = y.time) (h7 : x.seq = y.seq) (h8 : x.part = y.part) (h9 : x.off = y.off) (h10 : x.len = y.len) (h11 : x.bits = y.bits) (h12 : x.reason = y.reason) : sameB x y = true := by
  have e : x.source = y.source := by
    cases hx : x.source
    cases hy : y.source
    rw [hx, hy] at h1 h2 h3 h4 h5
    simp only [bs_list] at h1 h2 h3 h4 h5
    rw [h1, h2, h3, h4, h5]
  simp [sameB, *]

abbrev zeroRec : Array Value := #[.int .i64 0, .string { data := #[] }, .string { data := #[] }, .int .i64 0, .int .i64 0, .int .i64 0, .int .i64 0, .bool false, .int .i64 0, .int .i64 0, .int .i64 0, .slice none 0 0, .int .i64 0, .int .i64 0, .string { data := #[] }, .string { data := #[] }, .int .i64 0, .int .i64 0, .int .i64 0, .int .i64 0, .bool false, .int .i64 0, .int .i64 0]

def VSame (x y : Report) (a a' : Option Addr) (n n' cap cap' B : Nat) : Nat → Value → (Nat → Value) → World → Prop
  | 0, v, _, W => v = .agg #[.int .i64 x.bits, .slice a n cap, .int .i64 x.reason, .int .i64 x.source.scheme, .string (bs x.source.node), .string (bs x.source.service), .int .i64 x.source.a, .int .i64 x.source.b, .int .i64 x.time, .int .i64 x.seq, .bool x.part, .int .i64 x.off, .int .i64 x.len]
  | 1, v, _, W => v = .agg #[.int .i64 x.source.scheme, .string (bs x.source.node), .string (bs x.source.service), .int .i64 x.source.a, .int .i64 x.source.b, .int .i64 x.time, .int .i64 x.seq, .bool x.part, .int .i64 x.off, .int .i64 x.len, .int .i64 x.bits, .slice a n cap, .int .i64 x.reason, .int .i64 x.source.scheme, .string (bs x.source.node), .string (bs x.source.service), .int .i64 x.source.a, .int .i64 x.source.b, .int .i64 x.time, .int .i64 x.seq, .bool x.part, .int .i64 x.off, .int .i64 x.len]
  | 2, v, _, W => v = .agg #[.int .i64 y.bits, .slice a' n' cap', .int .i64 y.reason, .int .i64 y.source.scheme, .string (bs y.source.node), .string (bs y.source.service), .int .i64 y.source.a, .int .i64 y.source.b, .int .i64 y.time, .int .i64 y.seq, .bool y.part, .int .i64 y.off, .int .i64 y.len]
  | 3, v, _, W => v = .agg #[.int .i64 y.source.scheme, .string (bs y.source.node), .string (bs y.source.service), .int .i64 y.source.a, .int .i64 y.source.b, .int .i64 y.time, .int .i64 y.seq, .bool y.part, .int .i64 y.off, .int .i64 y.len, .int .i64 y.bits, .slice a' n' cap', .int .i64 y.reason, .int .i64 y.source.scheme, .string (bs y.source.node), .string (bs y.source.service), .int .i64 y.source.a, .int .i64 y.source.b, .int .i64 y.time, .int .i64 y.seq, .bool y.part, .int .i64 y.off, .int .i64 y.len]
  | 4, v, _, W => NewAt B zeroRec 99 v W
  | 5, v, _, W => NewAt B zeroRec 99 v W
  | _, _, _, _ => True


set_option maxRecDepth 100000 in
set_option maxHeartbeats 40000000 in
theorem same_any (x y : Report) (a a' : Option Addr) (n n' cap cap' : Nat) (w : World) (r : Bool) (hr : ∀ W, Below w.heap.size w W → Calls Tryz.prog 56 #[.slice a n cap, .slice a' n' cap'] W (Rt W (.bool r))) :
    Calls Tryz.prog 23 #[.agg #[.int .i64 x.bits, .slice a n cap, .int .i64 x.reason, .int .i64 x.source.scheme, .string (bs x.source.node), .string (bs x.source.service), .int .i64 x.source.a, .int .i64 x.source.b, .int .i64 x.time, .int .i64 x.seq, .bool x.part, .int .i64 x.off, .int .i64 x.len], .agg #[.int .i64 y.bits, .slice a' n' cap', .int .i64 y.reason, .int .i64 y.source.scheme, .string (bs y.source.node), .string (bs y.source.service), .int .i64 y.source.a, .int .i64 y.source.b, .int .i64 y.time, .int .i64 y.seq, .bool y.part, .int .i64 y.off, .int .i64 y.len]] w (Rt w (.bool (sameB x y && r))) := by
  obtain ⟨z, hz⟩ : ∃ z, z = (sameB x y && r) := ⟨_, rfl⟩
  rw [← hz]
  have Hz := hide hz
  clear hz
  have Hr := hide hr
  clear hr
  go_enter Tryz.func23, Tryz.ntmps23
  go_wp2_with fail
  refine wp_named fun w1 hw1 => ?_
  have hB1 : Below w.heap.size w w1 := by rw [hw1]; ((repeat' (first | exact Below.refl _ _ | assumption | (refine Below.drew ?_) | (refine Below.alloc ?_ ?_ _) | (refine Below.setCell ?_ ?_ _) | (refine Below.step (W := ?hW) ?hq ?_ ?_; case hq => assumption))) <;> (first | (simp; done) | (simp; omega) | (simp at *; omega)))
  have hs1 : w1.heap.size = w.heap.size + 2 := by rw [hw1]; simp
  have hx : w1.heap[w.heap.size]? = some (.cells #[.int .i64 x.bits, .slice a n cap, .int .i64 x.reason, .int .i64 x.source.scheme, .string (bs x.source.node), .string (bs x.source.service), .int .i64 x.source.a, .int .i64 x.source.b, .int .i64 x.time, .int .i64 x.seq, .bool x.part, .int .i64 x.off, .int .i64 x.len] 47 (0, 0)) := by rw [hw1]; exact heapNew (u := w) (by ((repeat' (first | exact Below.refl _ _ | assumption | (refine Below.drew ?_) | (refine Below.alloc ?_ ?_ _) | (refine Below.setCell ?_ ?_ _) | (refine Below.step (W := ?hW) ?hq ?_ ?_; case hq => assumption))) <;> (first | (simp; done) | (simp; omega) | (simp at *; omega)))) rfl
  have hy : w1.heap[w.heap.size + 1]? = some (.cells #[.int .i64 y.bits, .slice a' n' cap', .int .i64 y.reason, .int .i64 y.source.scheme, .string (bs y.source.node), .string (bs y.source.service), .int .i64 y.source.a, .int .i64 y.source.b, .int .i64 y.time, .int .i64 y.seq, .bool y.part, .int .i64 y.off, .int .i64 y.len] 47 (0, 0)) := by rw [hw1]; exact heapNew (u := w.alloc _) (by ((repeat' (first | exact Below.refl _ _ | assumption | (refine Below.drew ?_) | (refine Below.alloc ?_ ?_ _) | (refine Below.setCell ?_ ?_ _) | (refine Below.step (W := ?hW) ?hq ?_ ?_; case hq => assumption))) <;> (first | (simp; done) | (simp; omega) | (simp at *; omega)))) (by simp)
  have k0 := cellsOf hx 0
  have l0 := cellsOf hy 0
  simp only [List.getElem?_toArray, List.getElem?_cons_succ, List.getElem?_cons_zero] at k0 l0
  have k1 := cellsOf hx 1
  have l1 := cellsOf hy 1
  simp only [List.getElem?_toArray, List.getElem?_cons_succ, List.getElem?_cons_zero] at k1 l1
  have k2 := cellsOf hx 2
  have l2 := cellsOf hy 2
  simp only [List.getElem?_toArray, List.getElem?_cons_succ, List.getElem?_cons_zero] at k2 l2
  have k3 := cellsOf hx 3
  have l3 := cellsOf hy 3
  simp only [List.getElem?_toArray, List.getElem?_cons_succ, List.getElem?_cons_zero] at k3 l3
  have k4 := cellsOf hx 4
  have l4 := cellsOf hy 4
  simp only [List.getElem?_toArray, List.getElem?_cons_succ, List.getElem?_cons_zero] at k4 l4
  have k5 := cellsOf hx 5
  have l5 := cellsOf hy 5
  simp only [List.getElem?_toArray, List.getElem?_cons_succ, List.getElem?_cons_zero] at k5 l5
  have k6 := cellsOf hx 6
  have l6 := cellsOf hy 6
  simp only [List.getElem?_toArray, List.getElem?_cons_succ, List.getElem?_cons_zero] at k6 l6
  have k7 := cellsOf hx 7
  have l7 := cellsOf hy 7
  simp only [List.getElem?_toArray, List.getElem?_cons_succ, List.getElem?_cons_zero] at k7 l7
  have k8 := cellsOf hx 8
  have l8 := cellsOf hy 8
  simp only [List.getElem?_toArray, List.getElem?_cons_succ, List.getElem?_cons_zero] at k8 l8
  have k9 := cellsOf hx 9
  have l9 := cellsOf hy 9
  simp only [List.getElem?_toArray, List.getElem?_cons_succ, List.getElem?_cons_zero] at k9 l9
  have k10 := cellsOf hx 10
  have l10 := cellsOf hy 10
  simp only [List.getElem?_toArray, List.getElem?_cons_succ, List.getElem?_cons_zero] at k10 l10
  have k11 := cellsOf hx 11
  have l11 := cellsOf hy 11
  simp only [List.getElem?_toArray, List.getElem?_cons_succ, List.getElem?_cons_zero] at k11 l11
  have k12 := cellsOf hx 12
  have l12 := cellsOf hy 12
  simp only [List.getElem?_toArray, List.getElem?_cons_succ, List.getElem?_cons_zero] at k12 l12
  clear hw1 hx hy hs1
  obtain ⟨B, hBe⟩ : ∃ B, B = w1.heap.size := ⟨_, rfl⟩
  refine wp_region_predD 6 (fun i => i == 4 || i == 5) (fun W => Below w1.heap.size w1 W) (fun W W' => Below W.heap.size W W') (VSame x y a a' n n' cap cap' B) (by kernel_rfl) (by kernel_rfl) (Below.refl _ _).drew
    ?hA_23 (fun W W' h hg => h.trans (hg.mono h.size)) ?hV_23 (fun W => Below.refl _ _) ?how_23 ?hfin_23
  case hA_23 =>
    intro j u g W c hj hv hu
    have hj2 : j = 4 ∨ j = 5 := by simpa using hj
    rcases hj2 with rfl | rfl
    all_goals exact NewAt.lt hv hu
  case hV_23 =>
    intro i_ v_ g_ W W' hg h
    match i_, h with
    | 0, h => exact h
    | 1, h => exact h
    | 2, h => exact h
    | 3, h => exact h
    | 4, h => exact NewAt.mono h hg
    | 5, h => exact NewAt.mono h hg
    | _ + 6, _ => trivial
  case how_23 =>
    intro i_ hi_
    match i_, hi_ with
    | 0, _ =>
      refine owesD_plain rfl rfl fun ac_ W hC hold hdep => ?_
      have hs2 := hold 2 (by kernel_rfl)
      have k0 := (hC.cell (cellLt k0)).trans k0
      have k1 := (hC.cell (cellLt k1)).trans k1
      have k2 := (hC.cell (cellLt k2)).trans k2
      have k3 := (hC.cell (cellLt k3)).trans k3
      have k4 := (hC.cell (cellLt k4)).trans k4
      have k5 := (hC.cell (cellLt k5)).trans k5
      have k6 := (hC.cell (cellLt k6)).trans k6
      have k7 := (hC.cell (cellLt k7)).trans k7
      have k8 := (hC.cell (cellLt k8)).trans k8
      have k9 := (hC.cell (cellLt k9)).trans k9
      have k10 := (hC.cell (cellLt k10)).trans k10
      have k11 := (hC.cell (cellLt k11)).trans k11
      have k12 := (hC.cell (cellLt k12)).trans k12
      clear hdep hold
      go_simp
      exact ⟨_, rfl, Below.refl _ _, rfl⟩
    | 1, _ =>
      refine owesD_plain rfl rfl fun ac_ W hC hold hdep => ?_
      obtain ⟨_, (hd0 : _ = (.agg #[.int .i64 x.bits, .slice a n cap, .int .i64 x.reason, .int .i64 x.source.scheme, .string (bs x.source.node), .string (bs x.source.service), .int .i64 x.source.a, .int .i64 x.source.b, .int .i64 x.time, .int .i64 x.seq, .bool x.part, .int .i64 x.off, .int .i64 x.len] : Value))⟩ := hdep 0 7 (by kernel_rfl)
      clear hdep hold
      go_simp
      refine (show Calls _ _ _ _ _ from ofReport_calls x a n cap W).mono ?_
      rintro e_ w_ ⟨rfl, hb_⟩
      exact ⟨_, rfl, hb_, rfl⟩
    | 2, _ =>
      refine owesD_plain rfl rfl fun ac_ W hC hold hdep => ?_
      have hs3 := hold 3 (by kernel_rfl)
      have l0 := (hC.cell (cellLt l0)).trans l0
      have l1 := (hC.cell (cellLt l1)).trans l1
      have l2 := (hC.cell (cellLt l2)).trans l2
      have l3 := (hC.cell (cellLt l3)).trans l3
      have l4 := (hC.cell (cellLt l4)).trans l4
      have l5 := (hC.cell (cellLt l5)).trans l5
      have l6 := (hC.cell (cellLt l6)).trans l6
      have l7 := (hC.cell (cellLt l7)).trans l7
      have l8 := (hC.cell (cellLt l8)).trans l8
      have l9 := (hC.cell (cellLt l9)).trans l9
      have l10 := (hC.cell (cellLt l10)).trans l10
      have l11 := (hC.cell (cellLt l11)).trans l11
      have l12 := (hC.cell (cellLt l12)).trans l12
      clear hdep hold
      go_simp
      exact ⟨_, rfl, Below.refl _ _, rfl⟩
    | 3, _ =>
      refine owesD_plain rfl rfl fun ac_ W hC hold hdep => ?_
      obtain ⟨_, (hd2 : _ = (.agg #[.int .i64 y.bits, .slice a' n' cap', .int .i64 y.reason, .int .i64 y.source.scheme, .string (bs y.source.node), .string (bs y.source.service), .int .i64 y.source.a, .int .i64 y.source.b, .int .i64 y.time, .int .i64 y.seq, .bool y.part, .int .i64 y.off, .int .i64 y.len] : Value))⟩ := hdep 2 9 (by kernel_rfl)
      clear hdep hold
      go_simp
      refine (show Calls _ _ _ _ _ from ofReport_calls y a' n' cap' W).mono ?_
      rintro e_ w_ ⟨rfl, hb_⟩
      exact ⟨_, rfl, hb_, rfl⟩
    | 4, _ =>
      refine owesD_plain rfl rfl fun ac_ W hC hold hdep => ?_
      clear hdep hold
      go_simp
      exact ⟨_, rfl, (Below.refl _ _).alloc (Nat.le_refl _) _, newAt_alloc _ _ W hC.size, fun c hc => by cases hc; exact Nat.le_refl _⟩
    | 5, _ =>
      refine owesD_plain rfl rfl fun ac_ W hC hold hdep => ?_
      clear hdep hold
      go_simp
      exact ⟨_, rfl, (Below.refl _ _).alloc (Nat.le_refl _) _, newAt_alloc _ _ W hC.size, fun c hc => by cases hc; exact Nat.le_refl _⟩
    | k + 6, hk => exact absurd hk (by omega)
  case' hfin_23 =>
    intro fv W hC hold hval hpair
    have ap4_5 : Apart (fv 5) (fv 6) := hpair 4 _ 5 _ (by omega) (by omega) (by decide) rfl rfl rfl rfl
    clear hpair
    have v1 : (fv 8) = (.agg #[.int .i64 x.source.scheme, .string (bs x.source.node), .string (bs x.source.service), .int .i64 x.source.a, .int .i64 x.source.b, .int .i64 x.time, .int .i64 x.seq, .bool x.part, .int .i64 x.off, .int .i64 x.len, .int .i64 x.bits, .slice a n cap, .int .i64 x.reason, .int .i64 x.source.scheme, .string (bs x.source.node), .string (bs x.source.service), .int .i64 x.source.a, .int .i64 x.source.b, .int .i64 x.time, .int .i64 x.seq, .bool x.part, .int .i64 x.off, .int .i64 x.len] : Value) := hval 1 _ (by omega) rfl
    have v3 : (fv 10) = (.agg #[.int .i64 y.source.scheme, .string (bs y.source.node), .string (bs y.source.service), .int .i64 y.source.a, .int .i64 y.source.b, .int .i64 y.time, .int .i64 y.seq, .bool y.part, .int .i64 y.off, .int .i64 y.len, .int .i64 y.bits, .slice a' n' cap', .int .i64 y.reason, .int .i64 y.source.scheme, .string (bs y.source.node), .string (bs y.source.service), .int .i64 y.source.a, .int .i64 y.source.b, .int .i64 y.time, .int .i64 y.seq, .bool y.part, .int .i64 y.off, .int .i64 y.len] : Value) := hval 3 _ (by omega) rfl
    have v4 : NewAt B zeroRec 99 (fv 5) W := hval 4 _ (by omega) rfl
    have v5 : NewAt B zeroRec 99 (fv 6) W := hval 5 _ (by omega) rfl
    have s0 := hold 0 (by kernel_rfl)
    simp only [Array.getD_eq_getD_getElem?, List.getElem?_toArray, List.getElem?_cons_succ, List.getElem?_cons_zero, Option.getD_some] at s0
    have s1 := hold 1 (by kernel_rfl)
    simp only [Array.getD_eq_getD_getElem?, List.getElem?_toArray, List.getElem?_cons_succ, List.getElem?_cons_zero, Option.getD_some] at s1
    have s2 := hold 2 (by kernel_rfl)
    simp only [Array.getD_eq_getD_getElem?, List.getElem?_toArray, List.getElem?_cons_succ, List.getElem?_cons_zero, Option.getD_some] at s2
    have s3 := hold 3 (by kernel_rfl)
    simp only [Array.getD_eq_getD_getElem?, List.getElem?_toArray, List.getElem?_cons_succ, List.getElem?_cons_zero, Option.getD_some] at s3
    have s4 := hold 4 (by kernel_rfl)
    simp only [Array.getD_eq_getD_getElem?, List.getElem?_toArray, List.getElem?_cons_succ, List.getElem?_cons_zero, Option.getD_some] at s4
    clear hval hold
    simp only [List.drop_succ_cons, List.drop_zero, List.size_toArray, List.length_cons, List.length_nil, Nat.reduceAdd]
    simp only [List.range, List.range.loop]
    simp only [List.map_cons, List.map_nil]
    simp only [s0, s1, s2, s3, s4]
  obtain ⟨p, hp1, hp0, hp2⟩ := v4
  obtain ⟨q, hq1, hq0, hq2⟩ := v5
  have hpq : p ≠ q := ap4_5 p q hp1 hq1
  have hq3 : (W.setRow p #[.int .i64 x.source.scheme, .string (bs x.source.node), .string (bs x.source.service), .int .i64 x.source.a, .int .i64 x.source.b, .int .i64 x.time, .int .i64 x.seq, .bool x.part, .int .i64 x.off, .int .i64 x.len, .int .i64 x.bits, .slice a n cap, .int .i64 x.reason, .int .i64 x.source.scheme, .string (bs x.source.node), .string (bs x.source.service), .int .i64 x.source.a, .int .i64 x.source.b, .int .i64 x.time, .int .i64 x.seq, .bool x.part, .int .i64 x.off, .int .i64 x.len]).heap[q]? = some (.cells zeroRec 99 (0, 0)) := (heap_setRow_ne (Ne.symm hpq)).trans hq2
  clear ap4_5
  simp only [hp1, hq1, v1, v3]
  go_upto_region 2 with (first | (apply wpList_store_at (ty := 99) (n := 23); (case hgd => exact rfl); (case ho => exact rfl); (case hd => exact rfl); (case hx => exact rfl); (case hheap => exact hp2); (case hy => exact rfl); (case hi => kernel_rfl); (case hn0 => exact rfl); (case hn => exact rfl); (case h1 => first | exact rfl | assumption | (simp [Value.oneCell', *]; done) | (simp [*]; done))) | (apply wpList_store_at (ty := 99) (n := 23); (case hgd => exact rfl); (case ho => exact rfl); (case hd => exact rfl); (case hx => exact rfl); (case hheap => exact hq3); (case hy => exact rfl); (case hi => kernel_rfl); (case hn0 => exact rfl); (case hn => exact rfl); (case h1 => first | exact rfl | assumption | (simp [Value.oneCell', *]; done) | (simp [*]; done))))
  refine wp_named fun w2 hw2 => ?_
  have hB2 : Below w1.heap.size w1 w2 := by rw [hw2]; rw [hBe] at hp0 hq0; exact below_setRow (below_setRow hC hp0 _) hq0 _
  have P2 : w2.heap[p]? = some (.cells #[.int .i64 x.source.scheme, .string (bs x.source.node), .string (bs x.source.service), .int .i64 x.source.a, .int .i64 x.source.b, .int .i64 x.time, .int .i64 x.seq, .bool x.part, .int .i64 x.off, .int .i64 x.len, .int .i64 x.bits, .slice a n cap, .int .i64 x.reason, .int .i64 x.source.scheme, .string (bs x.source.node), .string (bs x.source.service), .int .i64 x.source.a, .int .i64 x.source.b, .int .i64 x.time, .int .i64 x.seq, .bool x.part, .int .i64 x.off, .int .i64 x.len] 99 (0, 0)) := by rw [hw2]; exact (heap_setRow_ne hpq).trans (heap_setRow_same hp2)
  have Q2 : w2.heap[q]? = some (.cells #[.int .i64 y.source.scheme, .string (bs y.source.node), .string (bs y.source.service), .int .i64 y.source.a, .int .i64 y.source.b, .int .i64 y.time, .int .i64 y.seq, .bool y.part, .int .i64 y.off, .int .i64 y.len, .int .i64 y.bits, .slice a' n' cap', .int .i64 y.reason, .int .i64 y.source.scheme, .string (bs y.source.node), .string (bs y.source.service), .int .i64 y.source.a, .int .i64 y.source.b, .int .i64 y.time, .int .i64 y.seq, .bool y.part, .int .i64 y.off, .int .i64 y.len] 99 (0, 0)) := by rw [hw2]; exact heap_setRow_same hq3
  clear hw2 hp2 hq2 hq3 hC hBe
  replace k0 := (hB2.cell (cellLt k0)).trans k0
  replace l0 := (hB2.cell (cellLt l0)).trans l0
  replace k1 := (hB2.cell (cellLt k1)).trans k1
  replace l1 := (hB2.cell (cellLt l1)).trans l1
  replace k2 := (hB2.cell (cellLt k2)).trans k2
  replace l2 := (hB2.cell (cellLt l2)).trans l2
  have p0 := cellsOf P2 0
  have q0 := cellsOf Q2 0
  simp only [List.getElem?_toArray, List.getElem?_cons_succ, List.getElem?_cons_zero] at p0 q0
  have p1 := cellsOf P2 1
  have q1 := cellsOf Q2 1
  simp only [List.getElem?_toArray, List.getElem?_cons_succ, List.getElem?_cons_zero] at p1 q1
  have p2 := cellsOf P2 2
  have q2 := cellsOf Q2 2
  simp only [List.getElem?_toArray, List.getElem?_cons_succ, List.getElem?_cons_zero] at p2 q2
  have p3 := cellsOf P2 3
  have q3 := cellsOf Q2 3
  simp only [List.getElem?_toArray, List.getElem?_cons_succ, List.getElem?_cons_zero] at p3 q3
  have p4 := cellsOf P2 4
  have q4 := cellsOf Q2 4
  simp only [List.getElem?_toArray, List.getElem?_cons_succ, List.getElem?_cons_zero] at p4 q4
  have p5 := cellsOf P2 5
  have q5 := cellsOf Q2 5
  simp only [List.getElem?_toArray, List.getElem?_cons_succ, List.getElem?_cons_zero] at p5 q5
  have p6 := cellsOf P2 6
  have q6 := cellsOf Q2 6
  simp only [List.getElem?_toArray, List.getElem?_cons_succ, List.getElem?_cons_zero] at p6 q6
  have p7 := cellsOf P2 7
  have q7 := cellsOf Q2 7
  simp only [List.getElem?_toArray, List.getElem?_cons_succ, List.getElem?_cons_zero] at p7 q7
  have p8 := cellsOf P2 8
  have q8 := cellsOf Q2 8
  simp only [List.getElem?_toArray, List.getElem?_cons_succ, List.getElem?_cons_zero] at p8 q8
  have p9 := cellsOf P2 9
  have q9 := cellsOf Q2 9
  simp only [List.getElem?_toArray, List.getElem?_cons_succ, List.getElem?_cons_zero] at p9 q9
  clear k3 k4 k5 k6 k7 k8 k9 k10 k11 k12 l3 l4 l5 l6 l7 l8 l9 l10 l11 l12 P2 Q2
  have HB2 := hB1.trans (hB2.mono hB1.size)
  go_wp2_with fail
  all_goals first
    | (go_ret
       refine ⟨?_, HB2⟩
       have hf : z = false := by
         rw [Hz.out]
         have : sameB x y = false := by
           rw [sameB, decide_eq_false_iff_not]
           rintro ⟨e1, e2, e3, e4, e5, e6, e7, e8⟩
           first | exact absurd (congrArg Eid.scheme e1) (by assumption) | exact absurd (congrArg (fun e => (bs e.node).toList) e1) (by assumption) | exact absurd (congrArg (fun e => (bs e.service).toList) e1) (by assumption) | exact absurd (congrArg Eid.a e1) (by assumption) | exact absurd (congrArg Eid.b e1) (by assumption) | exact absurd e2 (by assumption) | exact absurd e3 (by assumption) | exact absurd e4 (by assumption) | exact absurd e5 (by assumption) | exact absurd e6 (by assumption) | exact absurd e7 (by assumption) | exact absurd e8 (by assumption)
         rw [this]; rfl
       rw [hf]
       rfl)
    | (have ht : z = r := by
         rw [Hz.out, sameB_true (by assumption) (by assumption) (by assumption) (by assumption) (by assumption) (by assumption) (by assumption) (by assumption) (by assumption) (by assumption) (by assumption) (by assumption)]; rfl
       refine (show Calls _ _ _ _ _ from Hr.out w2 HB2).mono ?_
       rintro e_ w3 ⟨rfl, hb3⟩
       have HB3 := HB2.trans (hb3.mono HB2.size)
       clear hb3
       go_wp2_with fail
       go_ret
       exact ⟨by rw [ht]; rfl, HB3⟩)

theorem admSame_calls (x y : Report) (v v' : Value) (a a' : Option Addr) (cap cap' : Nat) (w : World) (hl : x.times.length ≤ 9000000000000000000) (hl' : y.times.length ≤ 9000000000000000000)
    (hv : IntsV w x.times (.slice a x.times.length cap)) (hv' : IntsV w y.times (.slice a' y.times.length cap')) :
    Calls Tryz.prog 23 #[.agg #[.int .i64 x.bits, .slice a x.times.length cap, .int .i64 x.reason, .int .i64 x.source.scheme, .string (bs x.source.node), .string (bs x.source.service), .int .i64 x.source.a, .int .i64 x.source.b, .int .i64 x.time, .int .i64 x.seq, .bool x.part, .int .i64 x.off, .int .i64 x.len], .agg #[.int .i64 y.bits, .slice a' y.times.length cap', .int .i64 y.reason, .int .i64 y.source.scheme, .string (bs y.source.node), .string (bs y.source.service), .int .i64 y.source.a, .int .i64 y.source.b, .int .i64 y.time, .int .i64 y.seq, .bool y.part, .int .i64 y.off, .int .i64 y.len]] w (Rt w (.bool (sameB x y && decide (x.times = y.times)))) :=
  same_any x y a a' _ _ cap cap' w _ fun W h => equalInts_calls x.times y.times _ _ W hl hl' (hv.mono h) (hv'.mono h)
end Go.Proofs.YtllfaffbaijgfaaGreatDoor

namespace Go.Proofs.YtllfaffbaijgfaaGreatDoor
open Go Go.RowKit

theorem millis_ok {n : Int} (h : (millis n).2 = 0) : 0 ≤ n ∧ n ≤ 281474976710 ∧ (millis n).1 = n * 1000 := by
  unfold millis at h ⊢
  split at h
  · rename_i hn
    rw [if_pos hn]
    exact ⟨hn.1, hn.2, rfl⟩
  · cases h
theorem seconds_millis {n : Int} (h0 : 0 ≤ n) (h1 : n ≤ 281474976710) : seconds (n * 1000) = (n, 0) := by
  have e : secondsE (n * 1000) = none := by
    unfold secondsE
    rw [if_pos (by simp [numR]; omega), if_pos (by rw [Int.tmod_eq_emod_of_nonneg (by omega)]; omega)]
  unfold seconds
  rw [e]
  have hd : (n * 1000).tdiv 1000 = n := by rw [Int.tdiv_eq_ediv_of_nonneg (by omega)]; omega
  rw [hd]
  have : IntKind.i64.wrap n = n := by rw [IntWalk.i64_left]; unfold wrap64; omega
  simp [this, errno]
theorem seconds_ok {n : Int} (h : (seconds n).2 = 0) : 0 ≤ n ∧ n ≤ 281474976710655 ∧ (seconds n).1 * 1000 = n ∧ 0 ≤ (seconds n).1 ∧ (seconds n).1 ≤ 281474976710 := by
  have hE : secondsE n = none := by
    cases hs : secondsE n with
    | none => rfl
    | some g =>
      unfold seconds at h
      rw [hs] at h
      unfold secondsE at hs
      split at hs
      · split at hs
        · cases hs
        · cases hs; exact absurd (show numberOf 2 = 0 from h) (by decide)
      · cases hs; exact absurd (show numberOf 1 = 0 from h) (by decide)
  unfold secondsE at hE
  split at hE
  · rename_i hn
    split at hE
    · rename_i hm
      have hn' : 0 ≤ n ∧ n ≤ 281474976710655 := by simpa [numR] using hn
      have he : secondsE n = none := by unfold secondsE; rw [if_pos hn, if_pos hm]
      rw [Int.tmod_eq_emod_of_nonneg hn'.1] at hm
      have hd : n.tdiv 1000 = n / 1000 := Int.tdiv_eq_ediv_of_nonneg hn'.1
      have hw : IntKind.i64.wrap (n / 1000) = n / 1000 := by rw [IntWalk.i64_left]; unfold wrap64; omega
      have hs : (seconds n).1 = n / 1000 := by unfold seconds; rw [he, hd, hw]; rfl
      rw [hs]
      refine ⟨hn'.1, hn'.2, by omega, by omega, by omega⟩
    · cases hE
  · cases hE
theorem millis_seconds {n : Int} (h : (seconds n).2 = 0) : millis (seconds n).1 = (n, 0) := by
  obtain ⟨h0, h1, h2, h3, h4⟩ := seconds_ok h
  unfold millis
  rw [if_pos ⟨h3, h4⟩, h2]

theorem turned_ok {x : Report} {f : Int → Int × Int} (h : turnedB x f = true) : turnedR x f = { x with times := x.times.map fun n => (f n).1, time := (f x.time).1 } ∧ (∀ n ∈ x.times, (f n).2 = 0) ∧ (f x.time).2 = 0 := by
  simp only [turnedB, Bool.and_eq_true, beq_iff_eq] at h
  refine ⟨by unfold turnedR; rw [if_pos h.1], fun n hn => ?_, h.2⟩
  have := List.all_eq_true.1 h.1 n hn
  simpa using this
theorem turnedB_of {x : Report} {f : Int → Int × Int} (h1 : ∀ n ∈ x.times, (f n).2 = 0) (h2 : (f x.time).2 = 0) : turnedB x f = true := by
  simp only [turnedB, turnedOk, Bool.and_eq_true, beq_iff_eq, List.all_eq_true]
  exact ⟨fun n hn => by simp [h1 n hn], h2⟩
/-- up and down again, or down and up again: as it was -/
theorem turned_back {x : Report} {f g : Int → Int × Int} (h : turnedB x f = true) (hfg : ∀ n, (f n).2 = 0 → g (f n).1 = (n, 0)) : turnedB (turnedR x f) g = true ∧ turnedR (turnedR x f) g = x := by
  obtain ⟨e, h1, h2⟩ := turned_ok h
  rw [e]
  have hb : turnedB { x with times := x.times.map fun n => (f n).1, time := (f x.time).1 } g = true := turnedB_of (fun n hn => by
    obtain ⟨m, hm, rfl⟩ := List.mem_map.1 hn
    rw [hfg m (h1 m hm)]) (by show (g (f x.time).1).2 = 0; rw [hfg _ h2])
  refine ⟨hb, ?_⟩
  rw [(turned_ok hb).1]
  have et : (x.times.map fun n => (f n).1).map (fun n => (g n).1) = x.times := by
    rw [List.map_map]
    conv => rhs; rw [← List.map_id x.times]
    apply List.map_congr_left
    intro n hn
    show (g (f n).1).1 = n
    rw [hfg n (h1 n hn)]
  simp only [et, hfg _ h2]
theorem fits_turned {x : Report} {f : Int → Int × Int} {p q : Int} (h : turnedB x f = true) (hf : ∀ n, (f n).2 = 0 → 0 ≤ (f n).1 ∧ (f n).1 ≤ q) (hx : fitsR x p = true) : fitsR (turnedR x f) q = true := by
  obtain ⟨e, h1, h2⟩ := turned_ok h
  rw [e]
  simp only [fitsR, Bool.and_eq_true, bundleR, within, List.all_cons, List.all_nil, Bool.and_true, decide_eq_true_eq, List.length_map] at hx ⊢
  obtain ⟨⟨⟨⟨⟨a1, a2⟩, a3⟩, a4⟩, a5⟩, ⟨⟨b1, b2⟩, b3⟩, b4⟩ := hx
  refine ⟨⟨⟨⟨⟨a1, a2⟩, a3⟩, ?_⟩, a5⟩, ⟨⟨b1, b2⟩, hf _ h2⟩, b4⟩
  rw [List.all_eq_true]
  intro n hn
  obtain ⟨m, hm, rfl⟩ := List.mem_map.1 hn
  simpa using hf m (h1 m hm)
theorem sameB_self (x : Report) : sameB x x = true := by simp [sameB]
theorem bits_turned {x : Report} {f : Int → Int × Int} (h : turnedB x f = true) : (turnedR x f).bits = x.bits := by rw [(turned_ok h).1]

def lawB (x : Report) : Bool :=
  (((decide (reportUpE x ≠ 0)) && decide ((reportUp x).times.length = 0)) || (decide (reportUpE x = 0) && right7R (reportUp x) && decide (reportDownE (reportUp x) = 0) && (sameB (reportDown (reportUp x)) x && decide ((reportDown (reportUp x)).times = x.times)))) &&
  (((decide (reportDownE x ≠ 0)) && decide ((reportDown x).times.length = 0)) || (decide (reportDownE x = 0) && fitsR (reportDown x) 281474976710 && decide (reportUpE (reportDown x) = 0) && (sameB (reportUp (reportDown x)) x && decide ((reportUp (reportDown x)).times = x.times))))

theorem law_up (x : Report) : (((decide (reportUpE x ≠ 0)) && decide ((reportUp x).times.length = 0)) || (decide (reportUpE x = 0) && right7R (reportUp x) && decide (reportDownE (reportUp x) = 0) && (sameB (reportDown (reportUp x)) x && decide ((reportDown (reportUp x)).times = x.times)))) = true := by
  by_cases h : upOk x = true
  · have hu : reportUp x = turnedR x millis := by unfold reportUp; rw [if_pos h]
    have he : reportUpE x = 0 := by unfold reportUpE; rw [if_pos h]
    simp only [upOk, Bool.and_eq_true, beq_iff_eq] at h
    obtain ⟨⟨h1, h2⟩, h3⟩ := h
    have hb := turned_back h3 (g := seconds) (fun n hn => by obtain ⟨p, q, r⟩ := millis_ok hn; rw [r]; exact seconds_millis p q)
    have hr : right7R (turnedR x millis) = true := by
      simp only [right7R, Bool.and_eq_true, decide_eq_true_eq]
      exact ⟨fits_turned h3 (fun n hn => by obtain ⟨p, q, r⟩ := millis_ok hn; rw [r]; omega) h1, by rw [bits_turned h3]; exact h2⟩
    have hd : downOk7 (turnedR x millis) = true := by simp only [downOk7, Bool.and_eq_true]; exact ⟨hr, hb.1⟩
    have e1 : reportDownE (turnedR x millis) = 0 := by unfold reportDownE; rw [if_pos hd]
    have e2 : reportDown (turnedR x millis) = x := by unfold reportDown; rw [if_pos hd]; exact hb.2
    rw [hu, he, hr, e1, e2, sameB_self]
    simp
  · have hu : reportUp x = zeroReport := by unfold reportUp; rw [if_neg h]
    have he : reportUpE x = 90 := by unfold reportUpE; rw [if_neg h]
    rw [hu, he]
    simp [zeroReport]
theorem law_down (x : Report) : (((decide (reportDownE x ≠ 0)) && decide ((reportDown x).times.length = 0)) || (decide (reportDownE x = 0) && fitsR (reportDown x) 281474976710 && decide (reportUpE (reportDown x) = 0) && (sameB (reportUp (reportDown x)) x && decide ((reportUp (reportDown x)).times = x.times)))) = true := by
  by_cases h : downOk7 x = true
  · have hu : reportDown x = turnedR x seconds := by unfold reportDown; rw [if_pos h]
    have he : reportDownE x = 0 := by unfold reportDownE; rw [if_pos h]
    simp only [downOk7, right7R, Bool.and_eq_true, decide_eq_true_eq] at h
    obtain ⟨⟨h1, h2⟩, h3⟩ := h
    have hb := turned_back h3 (g := millis) (fun n hn => millis_seconds hn)
    have hf : fitsR (turnedR x seconds) 281474976710 = true := fits_turned h3 (fun n hn => by obtain ⟨_, _, _, p, q⟩ := seconds_ok hn; exact ⟨p, q⟩) h1
    have hd : upOk (turnedR x seconds) = true := by
      simp only [upOk, Bool.and_eq_true, beq_iff_eq]
      exact ⟨⟨hf, by rw [bits_turned h3]; exact h2⟩, hb.1⟩
    have e1 : reportUpE (turnedR x seconds) = 0 := by unfold reportUpE; rw [if_pos hd]
    have e2 : reportUp (turnedR x seconds) = x := by unfold reportUp; rw [if_pos hd]; exact hb.2
    rw [hu, he, hf, e1, e2, sameB_self]
    simp
  · have hu : reportDown x = zeroReport := by unfold reportDown; rw [if_neg h]
    have he : reportDownE x = 120 := by unfold reportDownE; rw [if_neg h]
    rw [hu, he]
    simp [zeroReport]
theorem law_true (x : Report) : lawB x = true := by
  unfold lawB
  rw [law_up, law_down]
  rfl
end Go.Proofs.YtllfaffbaijgfaaGreatDoor
