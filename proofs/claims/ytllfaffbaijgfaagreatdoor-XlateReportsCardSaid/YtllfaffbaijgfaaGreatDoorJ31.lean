/- xlate's steps up: the blocks, the load. xlate's steps up, one after the other. -/
import Derived.Test.YtllfaffbaijgfaaGreatDoorJ30
set_option linter.unusedVariables false
set_option linter.unusedSimpArgs false
namespace Go.Proofs.YtllfaffbaijgfaaGreatDoor
open Go Go.RowKit Go.Shelf

/-- a row of blocks of one's own -/
def RowV (B n : Nat) (L : List Value) (v : Value) (W : World) : Prop := W.ownsRow B 57 6 v n L
theorem RowV.mono {B n : Nat} {L : List Value} {v : Value} {W W' : World} (h : RowV B n L v W) (hb : Below W.heap.size W W') : RowV B n L v W' := row_kept (fun _ _ _ hg => heapKept hg hb) h
theorem RowV.less {B B' n : Nat} {L : List Value} {v : Value} {W : World} (h : RowV B n L v W) (hb : B' ≤ B) : RowV B' n L v W :=
  ⟨h.1, h.2.imp id (fun ⟨g, cap, cur, h1, h2, h3⟩ => ⟨g, cap, cur, h1, Nat.le_trans hb h2, h3⟩)⟩
theorem RowV.slice {B n : Nat} {L : List Value} {v : Value} {W : World} (h : RowV B n L v W) : ∃ a m cap, v = .slice a m cap := by
  rcases h.2 with ⟨hv, _⟩ | ⟨g, cap, cur, hv, _⟩
  · exact ⟨_, _, _, hv⟩
  · exact ⟨_, _, _, hv⟩
theorem RowV.turn {B n U : Nat} {L : List Value} {v : Value} {W W' : World} (h : RowV B n L v W) (ht : Turn2 U none W W') {C : Array Value} {t : TypeId} (hU : W.heap[U]? = some (.cells C t (0, 0))) (hne : t ≠ 57) : RowV B n L v W' :=
  row_kept (fun g c m hg => (ht.block g (Array.getElem?_eq_some_iff.1 hg).1 (by rintro rfl; rw [hU] at hg; cases hg; exact hne rfl) (by simp)).trans hg) h
def PairV (B n : Nat) (L : List Value) (v : Value) (W : World) : Prop := ∃ a, v = .tuple #[a, .int .i64 0] ∧ RowV B n L a W
theorem PairV.mono {B n : Nat} {L : List Value} {v : Value} {W W' : World} (h : PairV B n L v W) (hb : Below W.heap.size W W') : PairV B n L v W' := by
  obtain ⟨a, h1, h2⟩ := h
  exact ⟨a, h1, h2.mono hb⟩

def VUpExt (U B n : Nat) (L : List Value) (c : Class) (s : Value) : Nat → Value → (Nat → Value) → World → Prop
  | 0, v, _, W => v = .pointer (some ⟨U, 0, none⟩)
  | 1, v, _, W => v = .pointer (some ⟨U, 0, none⟩)
  | 2, v, _, W => v = .pointer (some ⟨U, 0, none⟩)
  | 3, v, _, W => v = .pointer (some ⟨U, 9, none⟩)
  | 4, v, _, W => v = .pointer (some ⟨U, 35, none⟩)
  | 5, v, _, W => v = s
  | 6, v, _, W => v = .pointer (some ⟨U, 0, none⟩)
  | 7, v, _, W => v = .pointer (some ⟨U, 0, none⟩)
  | 8, v, _, W => v = .pointer (some ⟨U, 0, none⟩)
  | 9, v, _, W => v = .pointer (some ⟨U, 0, none⟩)
  | 10, v, _, W => v = .pointer (some ⟨U, 2, none⟩)
  | 11, v, _, W => v = .agg #[.int .i64 c.priority, .bool c.custody, .int .i64 c.custodian.scheme, .string (bs c.custodian.node), .string (bs c.custodian.service), .int .i64 c.custodian.a, .int .i64 c.custodian.b]
  | 12, v, _, W => PairV B n L v W
  | 13, v, _, W => PairV B n L v W
  | 14, v, _, W => RowV B n L v W
  | 15, v, _, W => v = .int .i64 0
  | 16, v, _, W => RowV B n L v W
  | _, _, _, _ => True


set_option maxRecDepth 100000 in
set_option maxHeartbeats 40000000 in
theorem upExt_calls (U B n : Nat) (L : List Value) (f : Int) (v : Value) (c : Class) (x : Six) (s : Value) (w : World) (hU : UpAt w U f v c x s) (hv : v.oneCell' = true)
    (hext : ∀ W, Below w.heap.size w W → Calls Tryz.prog 105 #[s, .agg #[.int .i64 c.priority, .bool c.custody, .int .i64 c.custodian.scheme, .string (bs c.custodian.node), .string (bs c.custodian.service), .int .i64 c.custodian.a, .int .i64 c.custodian.b]] W (fun e w' => ∃ v, e = .returned v ∧ PairV B n L v w' ∧ Below W.heap.size W w')) :
    Calls Tryz.prog 40 #[.pointer (some ⟨U, 0, none⟩)] w (fun e w' => ∃ a, e = .returned .nilIface ∧ UpAt w' U f a c x s ∧ RowV B n L a w' ∧ Turn2 U none w w') := by
  have hU : w.heap[U]? = some (.cells (upC f v c x s) 76 (0, 0)) := hU
  obtain ⟨w1, hw1⟩ : ∃ w1, w1 = w := ⟨_, rfl⟩
  have Hext := hide hext
  have HU := hide hU
  rw [← hw1] at Hext
  have k1 := cellsOf hU 1
  simp only [List.getElem?_toArray, List.getElem?_cons_succ, List.getElem?_cons_zero] at k1
  rw [← hw1] at k1
  have k2 := cellsOf hU 2
  simp only [List.getElem?_toArray, List.getElem?_cons_succ, List.getElem?_cons_zero] at k2
  rw [← hw1] at k2
  have k3 := cellsOf hU 3
  simp only [List.getElem?_toArray, List.getElem?_cons_succ, List.getElem?_cons_zero] at k3
  rw [← hw1] at k3
  have k4 := cellsOf hU 4
  simp only [List.getElem?_toArray, List.getElem?_cons_succ, List.getElem?_cons_zero] at k4
  rw [← hw1] at k4
  have k5 := cellsOf hU 5
  simp only [List.getElem?_toArray, List.getElem?_cons_succ, List.getElem?_cons_zero] at k5
  rw [← hw1] at k5
  have k6 := cellsOf hU 6
  simp only [List.getElem?_toArray, List.getElem?_cons_succ, List.getElem?_cons_zero] at k6
  rw [← hw1] at k6
  have k7 := cellsOf hU 7
  simp only [List.getElem?_toArray, List.getElem?_cons_succ, List.getElem?_cons_zero] at k7
  rw [← hw1] at k7
  have k8 := cellsOf hU 8
  simp only [List.getElem?_toArray, List.getElem?_cons_succ, List.getElem?_cons_zero] at k8
  rw [← hw1] at k8
  have k35 := cellsOf hU 35
  simp only [List.getElem?_toArray, List.getElem?_cons_succ, List.getElem?_cons_zero] at k35
  rw [← hw1] at k35
  have Hw1 := hide hw1
  rw [← hw1]
  clear hU hext hw1
  go_enter Tryz.func40, Tryz.ntmps40
  go_wp2_with fail
  refine wp_region_pred 17 (fun W => Below w1.heap.size w1 W) (fun W W' => Below W.heap.size W W') (VUpExt U B n L c s) (by kernel_rfl) (by kernel_rfl) (Below.refl _ _).drew
    (fun W W' h hg => h.trans (hg.mono h.size)) ?hV_14 (fun W => Below.refl _ _) ?how_14 ?hfin_14
  case hV_14 =>
    intro i_ v_ g_ W W' hg h
    match i_, h with
    | 0, h => exact h
    | 1, h => exact h
    | 2, h => exact h
    | 3, h => exact h
    | 4, h => exact h
    | 5, h => exact h
    | 6, h => exact h
    | 7, h => exact h
    | 8, h => exact h
    | 9, h => exact h
    | 10, h => exact h
    | 11, h => exact h
    | 12, h => exact PairV.mono h hg
    | 13, h => exact PairV.mono h hg
    | 14, h => exact RowV.mono h hg
    | 15, h => exact h
    | 16, h => exact RowV.mono h hg
    | _ + 17, _ => trivial
  case how_14 =>
    intro i_ hi_
    match i_, hi_ with
    | 0, _ =>
      refine owes_plain rfl rfl fun ac_ W hC hold hdep => ?_
      have hs0 := hold 0 (by kernel_rfl)
      clear hdep hold
      go_simp
      exact ⟨_, rfl, Below.refl _ _, rfl⟩
    | 1, _ =>
      refine owes_plain rfl rfl fun ac_ W hC hold hdep => ?_
      obtain ⟨_, (hd0 : _ = (.pointer (some ⟨U, 0, none⟩) : Value))⟩ := hdep 0 6 (by kernel_rfl)
      clear hdep hold
      go_simp
      exact ⟨_, rfl, Below.refl _ _, rfl⟩
    | 2, _ =>
      refine owes_plain rfl rfl fun ac_ W hC hold hdep => ?_
      obtain ⟨_, (hd1 : _ = (.pointer (some ⟨U, 0, none⟩) : Value))⟩ := hdep 1 7 (by kernel_rfl)
      clear hdep hold
      go_simp
      exact ⟨_, rfl, Below.refl _ _, rfl⟩
    | 3, _ =>
      refine owes_plain rfl rfl fun ac_ W hC hold hdep => ?_
      obtain ⟨_, (hd2 : _ = (.pointer (some ⟨U, 0, none⟩) : Value))⟩ := hdep 2 8 (by kernel_rfl)
      clear hdep hold
      go_simp
      exact ⟨_, rfl, Below.refl _ _, rfl⟩
    | 4, _ =>
      refine owes_plain rfl rfl fun ac_ W hC hold hdep => ?_
      obtain ⟨_, (hd3 : _ = (.pointer (some ⟨U, 9, none⟩) : Value))⟩ := hdep 3 9 (by kernel_rfl)
      clear hdep hold
      go_simp
      exact ⟨_, rfl, Below.refl _ _, rfl⟩
    | 5, _ =>
      refine owes_plain rfl rfl fun ac_ W hC hold hdep => ?_
      obtain ⟨_, (hd4 : _ = (.pointer (some ⟨U, 35, none⟩) : Value))⟩ := hdep 4 10 (by kernel_rfl)
      have k35 := (hC.cell (cellLt k35)).trans k35
      clear hdep hold
      go_simp
      exact ⟨_, rfl, Below.refl _ _, rfl⟩
    | 6, _ =>
      refine owes_plain rfl rfl fun ac_ W hC hold hdep => ?_
      have hs0 := hold 0 (by kernel_rfl)
      clear hdep hold
      go_simp
      exact ⟨_, rfl, Below.refl _ _, rfl⟩
    | 7, _ =>
      refine owes_plain rfl rfl fun ac_ W hC hold hdep => ?_
      obtain ⟨_, (hd6 : _ = (.pointer (some ⟨U, 0, none⟩) : Value))⟩ := hdep 6 12 (by kernel_rfl)
      clear hdep hold
      go_simp
      exact ⟨_, rfl, Below.refl _ _, rfl⟩
    | 8, _ =>
      refine owes_plain rfl rfl fun ac_ W hC hold hdep => ?_
      obtain ⟨_, (hd7 : _ = (.pointer (some ⟨U, 0, none⟩) : Value))⟩ := hdep 7 13 (by kernel_rfl)
      clear hdep hold
      go_simp
      exact ⟨_, rfl, Below.refl _ _, rfl⟩
    | 9, _ =>
      refine owes_plain rfl rfl fun ac_ W hC hold hdep => ?_
      obtain ⟨_, (hd8 : _ = (.pointer (some ⟨U, 0, none⟩) : Value))⟩ := hdep 8 14 (by kernel_rfl)
      clear hdep hold
      go_simp
      exact ⟨_, rfl, Below.refl _ _, rfl⟩
    | 10, _ =>
      refine owes_plain rfl rfl fun ac_ W hC hold hdep => ?_
      obtain ⟨_, (hd9 : _ = (.pointer (some ⟨U, 0, none⟩) : Value))⟩ := hdep 9 15 (by kernel_rfl)
      clear hdep hold
      go_simp
      exact ⟨_, rfl, Below.refl _ _, rfl⟩
    | 11, _ =>
      refine owes_plain rfl rfl fun ac_ W hC hold hdep => ?_
      obtain ⟨_, (hd10 : _ = (.pointer (some ⟨U, 2, none⟩) : Value))⟩ := hdep 10 16 (by kernel_rfl)
      have k2 := (hC.cell (cellLt k2)).trans k2
      have k3 := (hC.cell (cellLt k3)).trans k3
      have k4 := (hC.cell (cellLt k4)).trans k4
      have k5 := (hC.cell (cellLt k5)).trans k5
      have k6 := (hC.cell (cellLt k6)).trans k6
      have k7 := (hC.cell (cellLt k7)).trans k7
      have k8 := (hC.cell (cellLt k8)).trans k8
      clear hdep hold
      go_simp
      exact ⟨_, rfl, Below.refl _ _, rfl⟩
    | 12, _ =>
      refine owes_plain rfl rfl fun ac_ W hC hold hdep => ?_
      obtain ⟨_, (hd5 : _ = (s : Value))⟩ := hdep 5 11 (by kernel_rfl)
      obtain ⟨_, (hd11 : _ = (.agg #[.int .i64 c.priority, .bool c.custody, .int .i64 c.custodian.scheme, .string (bs c.custodian.node), .string (bs c.custodian.service), .int .i64 c.custodian.a, .int .i64 c.custodian.b] : Value))⟩ := hdep 11 17 (by kernel_rfl)
      clear hdep hold
      go_simp
      refine (show Calls _ _ _ _ _ from Hext.out W hC).mono ?_
      rintro e_ w_ ⟨v, rfl, hr_, hb_⟩
      exact ⟨_, rfl, hb_, hr_⟩
    | 13, _ =>
      refine owes_plain rfl rfl fun ac_ W hC hold hdep => ?_
      obtain ⟨_, (hd12 : PairV B n L _ W)⟩ := hdep 12 18 (by kernel_rfl)
      clear hdep hold
      go_simp
      exact ⟨_, rfl, Below.refl _ _, hd12⟩
    | 14, _ =>
      refine owes_plain rfl rfl fun ac_ W hC hold hdep => ?_
      obtain ⟨_, (hd13 : PairV B n L _ W)⟩ := hdep 13 5 (by kernel_rfl)
      obtain ⟨a, ha, hR⟩ := hd13
      have hR := hide hR
      clear hdep hold
      go_simp
      exact ⟨_, rfl, Below.refl _ _, hR.out⟩
    | 15, _ =>
      refine owes_plain rfl rfl fun ac_ W hC hold hdep => ?_
      obtain ⟨_, (hd13 : PairV B n L _ W)⟩ := hdep 13 5 (by kernel_rfl)
      obtain ⟨a, ha, hR⟩ := hd13
      clear hdep hold hR
      go_simp
      exact ⟨_, rfl, Below.refl _ _, rfl⟩
    | 16, _ =>
      refine owes_plain rfl rfl fun ac_ W hC hold hdep => ?_
      obtain ⟨_, (hd14 : RowV B n L _ W)⟩ := hdep 14 19 (by kernel_rfl)
      clear hdep hold
      go_simp
      exact ⟨_, rfl, Below.refl _ _, hd14⟩
    | k + 17, hk => exact absurd hk (by omega)
  case' hfin_14 =>
    intro fv W hC hold hval
    have v15 : (fv 20) = (.int .i64 0 : Value) := hval 15 _ (by omega) rfl
    have v16 : RowV B n L (fv 3) W := hval 16 _ (by omega) rfl
    have s0 := hold 0 (by kernel_rfl)
    simp only [Array.getD_eq_getD_getElem?, List.getElem?_toArray, List.getElem?_cons_succ, List.getElem?_cons_zero, Option.getD_some] at s0
    have s1 := hold 1 (by kernel_rfl)
    simp only [Array.getD_eq_getD_getElem?, List.getElem?_toArray, List.getElem?_cons_succ, List.getElem?_cons_zero, Option.getD_some] at s1
    have s2 := hold 2 (by kernel_rfl)
    simp only [Array.getD_eq_getD_getElem?, List.getElem?_toArray, List.getElem?_cons_succ, List.getElem?_cons_zero, Option.getD_some] at s2
    clear hval hold
    simp only [List.drop_succ_cons, List.drop_zero, List.size_toArray, List.length_cons, List.length_nil, Nat.reduceAdd]
    simp only [List.range, List.range.loop]
    simp only [List.map_cons, List.map_nil]
    simp only [s0, s1, s2]
  simp only [v15]
  obtain ⟨a, m, cap, ha⟩ := v16.slice
  rw [ha] at v16
  simp only [ha]
  have HB := hC
  rw [Hw1.out] at HB
  have hUW := heapKept HU.out HB
  have k1 := cellsOf hUW 1
  simp only [List.getElem?_toArray, List.getElem?_cons_succ, List.getElem?_cons_zero] at k1
  have f1 : W.frozen? ⟨U, 1, none⟩ = false := by simp [World.frozen?, hUW]
  have H16 := hide v16
  clear v16 HB
  go_wp2_with fail
  have hT : Turn2 U none w (W.setCell ⟨U, 1, none⟩ (.slice a m cap)) := by
    have := turn_setCell (i := 1) (n := 0) (v := .slice a m cap) (turn_below (Turn2.refl U w1) hC)
    rw [← Hw1.out]; exact this
  have hU2 : (W.setCell ⟨U, 1, none⟩ (.slice a m cap)).heap[U]? = some (.cells (upC f (.slice a m cap) c x s) 76 (0, 0)) := heap_setCell_same (i := 1) hUW
  have hR2 : RowV B n L (.slice a m cap) (W.setCell ⟨U, 1, none⟩ (.slice a m cap)) := row_kept (fun g c' m' hg => (heap_setCell_ne (by rintro rfl; rw [hUW] at hg; cases hg)).trans hg) H16.out
  have HF := hide (And.intro hT (And.intro hU2 hR2))
  clear hT hU2 hR2 hUW k1 f1 hC
  refine (show Calls _ _ _ _ _ from unless_calls 0 _).mono ?_
  rintro _ w5 ⟨rfl, rfl⟩
  go_wp2_with fail
  go_ret
  exact ⟨_, rfl, HF.out.2.1, HF.out.2.2, by rw [Hw1.out]; exact HF.out.1⟩

theorem recordSix_calls (U : Nat) (f : Int) (l t : Value) (w : World) (h0 : w.cell? ⟨U, 0, none⟩ = some (.int .i64 f)) (hf : bits BinOp.and IntKind.i64 f 2 = 0) :
    Calls Tryz.prog 106 #[.pointer (some ⟨U, 0, none⟩), l, t] w (Pu w .nilIface) := by
  go_enter Tryz.func106, Tryz.ntmps106
  go_wp2_with fail
  go_ret
  exact ⟨rfl, rfl⟩
theorem recordSeven_calls (U : Nat) (f : Int) (l t : Value) (w : World) (h0 : w.cell? ⟨U, 0, none⟩ = some (.int .i64 f)) (hf : bits BinOp.and IntKind.i64 f 2 = 0) :
    Calls Tryz.prog 116 #[.pointer (some ⟨U, 0, none⟩), l, t] w (Pu w .nilIface) := by
  go_enter Tryz.func116, Tryz.ntmps116
  go_wp2_with fail
  go_ret
  exact ⟨rfl, rfl⟩

def VUpLoad (U : Nat) (x : Six) (s : Value) (ld : List UInt8) : Nat → Value → (Nat → Value) → World → Prop
  | 0, v, _, W => v = .pointer (some ⟨U, 0, none⟩)
  | 1, v, _, W => v = .pointer (some ⟨U, 0, none⟩)
  | 2, v, _, W => v = .pointer (some ⟨U, 0, none⟩)
  | 3, v, _, W => v = .pointer (some ⟨U, 0, none⟩)
  | 4, v, _, W => v = .pointer (some ⟨U, 0, none⟩)
  | 5, v, _, W => v = .pointer (some ⟨U, 0, none⟩)
  | 6, v, _, W => v = .pointer (some ⟨U, 9, none⟩)
  | 7, v, _, W => v = .agg #[.int .i64 x.flags, .int .i64 x.dest.scheme, .string (bs x.dest.node), .string (bs x.dest.service), .int .i64 x.dest.a, .int .i64 x.dest.b, .int .i64 x.source.scheme, .string (bs x.source.node), .string (bs x.source.service), .int .i64 x.source.a, .int .i64 x.source.b, .int .i64 x.report.scheme, .string (bs x.report.node), .string (bs x.report.service), .int .i64 x.report.a, .int .i64 x.report.b, .int .i64 x.custodian.scheme, .string (bs x.custodian.node), .string (bs x.custodian.service), .int .i64 x.custodian.a, .int .i64 x.custodian.b, .int .i64 x.time, .int .i64 x.seq, .int .i64 x.life, .int .i64 x.off, .int .i64 x.total, s]
  | 8, v, _, W => v = .string (bs ld)
  | 9, v, _, W => v = .nilIface
  | _, _, _, _ => True


set_option maxRecDepth 100000 in
set_option maxHeartbeats 40000000 in
theorem upLoad_calls (U : Nat) (f : Int) (v : Value) (c : Class) (x : Six) (s : Value) (ld : List UInt8) (w1 : World) (hU : UpAt w1 U f v c x s) (hf : bits BinOp.and IntKind.i64 f 2 = 0)
    (hld : ∀ W, Below w1.heap.size w1 W → Calls Tryz.prog 16 #[.agg #[.int .i64 x.flags, .int .i64 x.dest.scheme, .string (bs x.dest.node), .string (bs x.dest.service), .int .i64 x.dest.a, .int .i64 x.dest.b, .int .i64 x.source.scheme, .string (bs x.source.node), .string (bs x.source.service), .int .i64 x.source.a, .int .i64 x.source.b, .int .i64 x.report.scheme, .string (bs x.report.node), .string (bs x.report.service), .int .i64 x.report.a, .int .i64 x.report.b, .int .i64 x.custodian.scheme, .string (bs x.custodian.node), .string (bs x.custodian.service), .int .i64 x.custodian.a, .int .i64 x.custodian.b, .int .i64 x.time, .int .i64 x.seq, .int .i64 x.life, .int .i64 x.off, .int .i64 x.total, s]] W (Rt W (.string (bs ld)))) :
    Calls Tryz.prog 41 #[.pointer (some ⟨U, 0, none⟩)] w1 (Rt w1 .nilIface) := by
  have hU : w1.heap[U]? = some (.cells (upC f v c x s) 76 (0, 0)) := hU
  have k0 := cellsOf hU 0
  simp only [List.getElem?_toArray, List.getElem?_cons_zero] at k0
  have HU := hide hU
  have Hld := hide hld
  clear hU hld
  go_enter Tryz.func41, Tryz.ntmps41
  go_wp2_with fail
  refine wp_region_pred 10 (fun W => Below w1.heap.size w1 W) (fun W W' => Below W.heap.size W W') (VUpLoad U x s ld) (by kernel_rfl) (by kernel_rfl) (Below.refl _ _).drew
    (fun W W' h hg => h.trans (hg.mono h.size)) ?hV_15 (fun W => Below.refl _ _) ?how_15 ?hfin_15
  case hV_15 =>
    intro i_ v_ g_ W W' hg h
    match i_, h with
    | 0, h => exact h
    | 1, h => exact h
    | 2, h => exact h
    | 3, h => exact h
    | 4, h => exact h
    | 5, h => exact h
    | 6, h => exact h
    | 7, h => exact h
    | 8, h => exact h
    | 9, h => exact h
    | _ + 10, _ => trivial
  case how_15 =>
    intro i_ hi_
    match i_, hi_ with
    | 0, _ =>
      refine owes_plain rfl rfl fun ac_ W hC hold hdep => ?_
      have hs0 := hold 0 (by kernel_rfl)
      clear hdep hold
      go_simp
      exact ⟨_, rfl, Below.refl _ _, rfl⟩
    | 1, _ =>
      refine owes_plain rfl rfl fun ac_ W hC hold hdep => ?_
      obtain ⟨_, (hd0 : _ = (.pointer (some ⟨U, 0, none⟩) : Value))⟩ := hdep 0 3 (by kernel_rfl)
      clear hdep hold
      go_simp
      exact ⟨_, rfl, Below.refl _ _, rfl⟩
    | 2, _ =>
      refine owes_plain rfl rfl fun ac_ W hC hold hdep => ?_
      obtain ⟨_, (hd1 : _ = (.pointer (some ⟨U, 0, none⟩) : Value))⟩ := hdep 1 4 (by kernel_rfl)
      clear hdep hold
      go_simp
      exact ⟨_, rfl, Below.refl _ _, rfl⟩
    | 3, _ =>
      refine owes_plain rfl rfl fun ac_ W hC hold hdep => ?_
      have hs0 := hold 0 (by kernel_rfl)
      clear hdep hold
      go_simp
      exact ⟨_, rfl, Below.refl _ _, rfl⟩
    | 4, _ =>
      refine owes_plain rfl rfl fun ac_ W hC hold hdep => ?_
      obtain ⟨_, (hd3 : _ = (.pointer (some ⟨U, 0, none⟩) : Value))⟩ := hdep 3 6 (by kernel_rfl)
      clear hdep hold
      go_simp
      exact ⟨_, rfl, Below.refl _ _, rfl⟩
    | 5, _ =>
      refine owes_plain rfl rfl fun ac_ W hC hold hdep => ?_
      obtain ⟨_, (hd4 : _ = (.pointer (some ⟨U, 0, none⟩) : Value))⟩ := hdep 4 7 (by kernel_rfl)
      clear hdep hold
      go_simp
      exact ⟨_, rfl, Below.refl _ _, rfl⟩
    | 6, _ =>
      refine owes_plain rfl rfl fun ac_ W hC hold hdep => ?_
      obtain ⟨_, (hd5 : _ = (.pointer (some ⟨U, 0, none⟩) : Value))⟩ := hdep 5 8 (by kernel_rfl)
      clear hdep hold
      go_simp
      exact ⟨_, rfl, Below.refl _ _, rfl⟩
    | 7, _ =>
      refine owes_plain rfl rfl fun ac_ W hC hold hdep => ?_
      obtain ⟨_, (hd6 : _ = (.pointer (some ⟨U, 9, none⟩) : Value))⟩ := hdep 6 9 (by kernel_rfl)
      exact wp_load_of (p := ⟨U, 9, none⟩) rfl (evalT hd6) (load_mid (n := 27) (off := 9) (c := #[.int .i64 x.flags, .int .i64 x.dest.scheme, .string (bs x.dest.node), .string (bs x.dest.service), .int .i64 x.dest.a, .int .i64 x.dest.b, .int .i64 x.source.scheme, .string (bs x.source.node), .string (bs x.source.service), .int .i64 x.source.a, .int .i64 x.source.b, .int .i64 x.report.scheme, .string (bs x.report.node), .string (bs x.report.service), .int .i64 x.report.a, .int .i64 x.report.b, .int .i64 x.custodian.scheme, .string (bs x.custodian.node), .string (bs x.custodian.service), .int .i64 x.custodian.a, .int .i64 x.custodian.b, .int .i64 x.time, .int .i64 x.seq, .int .i64 x.life, .int .i64 x.off, .int .i64 x.total, s]) (heapKept HU.out hC) Tryz.underlying32 rfl (by kernel_rfl) rfl rfl) ⟨_, rfl, Below.refl _ _, rfl⟩
    | 8, _ =>
      refine owes_plain rfl rfl fun ac_ W hC hold hdep => ?_
      obtain ⟨_, (hd7 : _ = (.agg #[.int .i64 x.flags, .int .i64 x.dest.scheme, .string (bs x.dest.node), .string (bs x.dest.service), .int .i64 x.dest.a, .int .i64 x.dest.b, .int .i64 x.source.scheme, .string (bs x.source.node), .string (bs x.source.service), .int .i64 x.source.a, .int .i64 x.source.b, .int .i64 x.report.scheme, .string (bs x.report.node), .string (bs x.report.service), .int .i64 x.report.a, .int .i64 x.report.b, .int .i64 x.custodian.scheme, .string (bs x.custodian.node), .string (bs x.custodian.service), .int .i64 x.custodian.a, .int .i64 x.custodian.b, .int .i64 x.time, .int .i64 x.seq, .int .i64 x.life, .int .i64 x.off, .int .i64 x.total, s] : Value))⟩ := hdep 7 10 (by kernel_rfl)
      clear hdep hold
      go_simp
      refine (show Calls _ _ _ _ _ from Hld.out W hC).mono ?_
      rintro e_ w_ ⟨rfl, hb_⟩
      exact ⟨_, rfl, hb_, rfl⟩
    | 9, _ =>
      refine owes_plain rfl rfl fun ac_ W hC hold hdep => ?_
      obtain ⟨_, (hd2 : _ = (.pointer (some ⟨U, 0, none⟩) : Value))⟩ := hdep 2 5 (by kernel_rfl)
      obtain ⟨_, (hd8 : _ = (.string (bs ld) : Value))⟩ := hdep 8 11 (by kernel_rfl)
      have k0 := (hC.cell (cellLt k0)).trans k0
      clear hdep hold
      go_simp
      refine (show Calls _ _ _ _ _ from recordSix_calls U f _ _ W k0 hf).mono ?_
      rintro e_ w_ ⟨rfl, rfl⟩
      exact ⟨_, rfl, Below.refl _ _, rfl⟩
    | k + 10, hk => exact absurd hk (by omega)
  case' hfin_15 =>
    intro fv W hC hold hval
    have v9 : (fv 12) = (.nilIface : Value) := hval 9 _ (by omega) rfl
    have s0 := hold 0 (by kernel_rfl)
    simp only [Array.getD_eq_getD_getElem?, List.getElem?_toArray, List.getElem?_cons_succ, List.getElem?_cons_zero, Option.getD_some] at s0
    have s1 := hold 1 (by kernel_rfl)
    simp only [Array.getD_eq_getD_getElem?, List.getElem?_toArray, List.getElem?_cons_succ, List.getElem?_cons_zero, Option.getD_some] at s1
    have s2 := hold 2 (by kernel_rfl)
    simp only [Array.getD_eq_getD_getElem?, List.getElem?_toArray, List.getElem?_cons_succ, List.getElem?_cons_zero, Option.getD_some] at s2
    clear hval hold
    simp only [List.drop_succ_cons, List.drop_zero, List.size_toArray, List.length_cons, List.length_nil, Nat.reduceAdd]
    simp only [List.range, List.range.loop]
    simp only [List.map_cons, List.map_nil]
    simp only [s0, s1, s2]
  simp only [v9]
  go_wp2_with fail
  go_ret
  exact ⟨rfl, hC⟩
end Go.Proofs.YtllfaffbaijgfaaGreatDoor

namespace Go.Proofs.YtllfaffbaijgfaaGreatDoor
open Go Go.RowKit Go.Shelf

theorem Sents.below {S : Nat → Addr} {w W : World} (h : Sents S w) (hb : Below w.heap.size w W) : Sents S W := h.mono hb
abbrev upFs (U : Nat) : List Value := [.func (.func 38) #[.pointer (some ⟨U, 0, none⟩)] #[], .func (.func 39) #[.pointer (some ⟨U, 0, none⟩)] #[], .func (.func 40) #[.pointer (some ⟨U, 0, none⟩)] #[], .func (.func 41) #[.pointer (some ⟨U, 0, none⟩)] #[]]
theorem UpAt.below {U : Nat} {f : Int} {v : Value} {c : Class} {x : Six} {s : Value} {W W' : World} (h : UpAt W U f v c x s) (hb : Below W.heap.size W W') : UpAt W' U f v c x s := heapKept h hb

/-- what Up asks of its callees at x -/
structure UpAsk (S : Nat → Addr) (x : Six) (s : Value) (w : World) : Prop where
  right : ∀ W, Below w.heap.size w W → Calls Tryz.prog 27 #[.agg #[.int .i64 x.flags, .int .i64 x.dest.scheme, .string (bs x.dest.node), .string (bs x.dest.service), .int .i64 x.dest.a, .int .i64 x.dest.b, .int .i64 x.source.scheme, .string (bs x.source.node), .string (bs x.source.service), .int .i64 x.source.a, .int .i64 x.source.b, .int .i64 x.report.scheme, .string (bs x.report.node), .string (bs x.report.service), .int .i64 x.report.a, .int .i64 x.report.b, .int .i64 x.custodian.scheme, .string (bs x.custodian.node), .string (bs x.custodian.service), .int .i64 x.custodian.a, .int .i64 x.custodian.b, .int .i64 x.time, .int .i64 x.seq, .int .i64 x.life, .int .i64 x.off, .int .i64 x.total, s]] W (Rt W (.bool true))
  sents : Sents S w

theorem upSteps_err (U b : Nat) (S : Nat → Addr) (f : Int) (v : Value) (c : Class) (x : Six) (s : Value) (w w4 : World) (hB : Below w.heap.size w w4) (hUg : w.heap.size ≤ U) (hbU : b ≠ U) (hb : b < w4.heap.size) (hU : UpAt w4 U f v c x s) (hA : UpAsk S x s w) (he : (upF x.flags).2 ≠ 0) :
    StepsTo b (fun v W => v = .iface 139 (.agg #[.int .i64 (upF x.flags).2]) ∧ Turn2 U none w4 W) (upFs U) w4 := by
  refine ⟨_, _, _, rfl, enters_of Tryz.func38 (by kernel_rfl) rfl, (upRight_calls U f v c x s true w4 hU (hA.right w4 hB)).mono ?_⟩
  rintro _ w5 ⟨rfl, hb5⟩
  have t5 := turn_below (Turn2.refl U w4) hb5
  refine .inl ⟨by simp [wrongV], hb5.block b hb, _, _, _, rfl, enters_of Tryz.func39 (by kernel_rfl) rfl, (upSigns_calls U S f v c x s w5 (hU.below hb5) (fun W hW => hA.sents.mono ((t5.trans hW).below hB hUg))).mono ?_⟩
  rintro _ w6 ⟨rfl, _, t6⟩
  exact .inr ⟨(upF x.flags).2, by rw [wrongV, if_neg he], rfl, t5.trans t6⟩

theorem upSteps_ok (U b B n : Nat) (L : List Value) (ld : List UInt8) (S : Nat → Addr) (f : Int) (v : Value) (hv : v.oneCell' = true) (c : Class) (x : Six) (s : Value) (w w4 : World) (hB : Below w.heap.size w w4) (hUg : w.heap.size ≤ U) (hbU : b ≠ U) (hb : b < w4.heap.size) (hU : UpAt w4 U f v c x s) (hA : UpAsk S x s w)
    (he : (upF x.flags).2 = 0) (hf : bits BinOp.and IntKind.i64 (upF x.flags).1 2 = 0)
    (hext : ∀ W, Below w.heap.size w W → Calls Tryz.prog 105 #[s, .agg #[.int .i64 (Class.mk (classN x.flags) (classC x.flags) x.custodian).priority, .bool (Class.mk (classN x.flags) (classC x.flags) x.custodian).custody, .int .i64 (Class.mk (classN x.flags) (classC x.flags) x.custodian).custodian.scheme, .string (bs (Class.mk (classN x.flags) (classC x.flags) x.custodian).custodian.node), .string (bs (Class.mk (classN x.flags) (classC x.flags) x.custodian).custodian.service), .int .i64 (Class.mk (classN x.flags) (classC x.flags) x.custodian).custodian.a, .int .i64 (Class.mk (classN x.flags) (classC x.flags) x.custodian).custodian.b]] W (fun e w' => ∃ v, e = .returned v ∧ PairV B n L v w' ∧ Below W.heap.size W w'))
    (hld : ∀ W, Below w.heap.size w W → Calls Tryz.prog 16 #[.agg #[.int .i64 x.flags, .int .i64 x.dest.scheme, .string (bs x.dest.node), .string (bs x.dest.service), .int .i64 x.dest.a, .int .i64 x.dest.b, .int .i64 x.source.scheme, .string (bs x.source.node), .string (bs x.source.service), .int .i64 x.source.a, .int .i64 x.source.b, .int .i64 x.report.scheme, .string (bs x.report.node), .string (bs x.report.service), .int .i64 x.report.a, .int .i64 x.report.b, .int .i64 x.custodian.scheme, .string (bs x.custodian.node), .string (bs x.custodian.service), .int .i64 x.custodian.a, .int .i64 x.custodian.b, .int .i64 x.time, .int .i64 x.seq, .int .i64 x.life, .int .i64 x.off, .int .i64 x.total, s]] W (Rt W (.string (bs ld)))) :
    StepsTo b (fun v W => v = .nilIface ∧ ∃ a, UpAt W U (upF x.flags).1 a ⟨classN x.flags, classC x.flags, x.custodian⟩ x s ∧ RowV B n L a W ∧ Turn2 U none w4 W) (upFs U) w4 := by
  refine ⟨_, _, _, rfl, enters_of Tryz.func38 (by kernel_rfl) rfl, (upRight_calls U f v c x s true w4 hU (hA.right w4 hB)).mono ?_⟩
  rintro _ w5 ⟨rfl, hb5⟩
  have t5 := turn_below (Turn2.refl U w4) hb5
  refine .inl ⟨by simp [wrongV], hb5.block b hb, _, _, _, rfl, enters_of Tryz.func39 (by kernel_rfl) rfl, (upSigns_calls U S f v c x s w5 (hU.below hb5) (fun W hW => hA.sents.mono ((t5.trans hW).below hB hUg))).mono ?_⟩
  rintro _ w6 ⟨rfl, hU6, t6⟩
  have t56 := t5.trans t6
  have hB6 := t56.below hB hUg
  refine .inl ⟨by rw [he]; simp [wrongV], t6.block b (by have := t5.size; omega) hbU (by simp), _, _, _, rfl, enters_of Tryz.func40 (by kernel_rfl) rfl, (upExt_calls U B n L _ v _ x s w6 hU6 hv (fun W hW => hext W (hB6.trans (hW.mono hB6.size)))).mono ?_⟩
  rintro _ w7 ⟨a, rfl, hU7, hR7, t7⟩
  have t67 := t56.trans t7
  have hB7 := t67.below hB hUg
  refine .inl ⟨rfl, t7.block b (by have := t56.size; omega) hbU (by simp), _, _, _, rfl, enters_of Tryz.func41 (by kernel_rfl) rfl, (upLoad_calls U _ a _ x s ld w7 hU7 hf (fun W hW => hld W (hB7.trans (hW.mono hB7.size)))).mono ?_⟩
  rintro _ w8 ⟨rfl, hb8⟩
  exact .inl ⟨rfl, hb8.block b (by have := t67.size; omega), rfl, a, hU7.below hb8, hR7.mono hb8, turn_below t67 hb8⟩
end Go.Proofs.YtllfaffbaijgfaaGreatDoor
