/- eid.Halves: the two texts of a name. head: the majors, the rooms, gone through. head: the rooms that have room for a number, handed on one by one. -/
import Derived.Test.YtllfaffbaijgfaaGreatDoorJ04
import Derived.Test.YtllfaffbaijgfaaGreatDoorJ20
import Derived.Test.YtllfaffbaijgfaaGreatDoorJ08
import Derived.Deep.CutRange
import Derived.Laws.CopyOwn
import Derived.Test.YtllfaffbaijgfaaGreatDoorJ07
set_option linter.unusedVariables false
set_option linter.unusedSimpArgs false
namespace Go.Proofs.YtllfaffbaijgfaaGreatDoor
open Go Go.RowKit Go.Shelf

/-- what the table answers at a number that it has, where nothing is asked but the scheme -/
def SchemeIs (n : Int) (c0 c1 c2 c3 : Value) : Prop :=
  ∀ (W : World) (r : Nat), W.heap[r]? = some (.map schemeEs 3) → (Instr.lookup 187 (.map (some r)) (.int .i64 n) false).run Tryz.prog W = .ok (.agg #[c0, c1, c2, c3]) W
/-- the table of schemes, laid -/
def SchM (v : Value) (W : World) : Prop := ∃ r, v = .map (some r) ∧ W.heap[r]? = some (.map schemeEs 3)
theorem SchM.mono {v : Value} {W W' : World} (h : SchM v W) (hb : Below W.heap.size W W') : SchM v W' := by
  obtain ⟨r, h1, h2⟩ := h
  exact ⟨r, h1, (hb.block r (Array.getElem?_eq_some_iff.1 h2).1).trans h2⟩
theorem schemesM_calls (w : World) : Calls Tryz.prog 145 #[] w (fun e w' => ∃ v, e = .returned v ∧ SchM v w' ∧ Below w.heap.size w w') :=
  (schemes_calls w).mono fun _ w' ⟨h1, h2, _, h4⟩ => ⟨_, h1, ⟨_, rfl, h4⟩, h2⟩

theorem schemeIs0 : SchemeIs 0 (.string { data := #[100, 116, 110] }) (.func (.func 206) #[] #[]) (.func (.func 207) #[] #[]) (.func (.func 208) #[] #[]) :=
  fun W r h => run_lookup_hit (P := Tryz.prog) Tryz.underlying187 Tryz.underlying3 h 0 false schemeEs_int rfl
theorem schemeIs1 : SchemeIs 1 (.string { data := #[100, 116, 110] }) (.func (.func 209) #[] #[]) (.func (.func 210) #[] #[]) (.func (.func 211) #[] #[]) :=
  fun W r h => run_lookup_hit (P := Tryz.prog) Tryz.underlying187 Tryz.underlying3 h 1 false schemeEs_int rfl
theorem schemeIs2 : SchemeIs 2 (.string { data := #[105, 112, 110] }) (.func (.func 212) #[] #[]) (.func (.func 213) #[] #[]) (.func (.func 215) #[] #[]) :=
  fun W r h => run_lookup_hit (P := Tryz.prog) Tryz.underlying187 Tryz.underlying3 h 2 false schemeEs_int rfl

abbrev zeroSch : Array Value := #[.string { data := #[] }, .nilFunc, .nilFunc, .nilFunc]

def VHalfA (e : Eid) (b0 B : Nat) (c0 c1 c2 c3 : Value) : Nat → Value → (Nat → Value) → World → Prop
  | 0, v, _, W => SchM v W
  | 1, v, _, W => v = .pointer (some ⟨b0, 0, none⟩)
  | 2, v, _, W => v = .int .i64 e.scheme
  | 3, v, _, W => v = .agg #[c0, c1, c2, c3]
  | 4, v, _, W => NewAt B zeroSch 185 v W
  | _, _, _, _ => True

def VHalfB (e : Eid) (b0 b : Nat) (word rest : List UInt8) (f : FuncId) : Nat → Value → (Nat → Value) → World → Prop
  | 0, v, _, W => v = .pointer (some ⟨b, 0, none⟩)
  | 1, v, _, W => v = .string (bs word)
  | 2, v, _, W => v = .pointer (some ⟨b, 2, none⟩)
  | 3, v, _, W => v = .func (.func f) #[] #[]
  | 4, v, _, W => v = .agg #[.int .i64 e.scheme, .string (bs e.node), .string (bs e.service), .int .i64 e.a, .int .i64 e.b]
  | 5, v, _, W => v = .string (bs rest)
  | _, _, _, _ => True


set_option maxRecDepth 100000 in
set_option maxHeartbeats 40000000 in
theorem halves_ok (e : Eid) (w : World) (hl1 : e.node.length ≤ 9000000000000000000) (hl2 : e.service.length ≤ 9000000000000000000) (he : eidR e = true) (word rest : List UInt8) (c1 c3 : Value) (f : FuncId) (hs : SchemeIs e.scheme (.string (bs word)) c1 (.func (.func f) #[] #[]) c3) (hcell : c1.oneCell' = true ∧ c3.oneCell' = true)
    (hg : ∀ args W, (callFunc f args).run Tryz.prog W = .ok (.enter f args) W) (hcall : ∀ W, Calls Tryz.prog f #[.agg #[.int .i64 e.scheme, .string (bs e.node), .string (bs e.service), .int .i64 e.a, .int .i64 e.b]] W (Rt W (.string (bs rest)))) :
    Calls Tryz.prog 191 #[.agg #[.int .i64 e.scheme, .string (bs e.node), .string (bs e.service), .int .i64 e.a, .int .i64 e.b]] w (Rt w (.tuple #[.string (bs word), .string (bs rest), .int .i64 0])) := by
  have Hg := hide hg
  have Hcall := hide hcall
  have Hs := hide hs
  obtain ⟨g1, g3⟩ := hcell
  have H1 := fun W => eidRight_calls e W hl1 hl2
  rw [he] at H1
  replace H1 := hide H1
  clear hg hcall hs he
  go_enter Tryz.func191, Tryz.ntmps191
  go_wp2_with (first | (first | (apply wpList_load_of (ty := 29); (case hgd => exact rfl); (case ho => exact rfl); (case hx => exact rfl); (case hr => apply load_row (n := 5); (case hheap => apply heapNew (u := w); (case hbel => ((repeat' (first | exact Below.refl _ _ | assumption | (refine Below.drew ?_) | (refine Below.alloc ?_ ?_ _) | (refine Below.setCell ?_ ?_ _) | (refine Below.step (W := ?hW) ?hq ?_ ?_; case hq => assumption))) <;> (first | (simp; done) | (simp; omega) | (simp at *; omega)))); (case hnew => exact rfl)); (case hu => exact Tryz.underlying29); (case hd => exact rfl); (case hi => kernel_rfl); (case hc => exact rfl))) | (apply wpList_load_w (ty := 29); (case hgd => exact rfl); (case ho => exact rfl); (case hx => exact rfl); (case hr => apply load_row (n := 5); (case hheap => apply heapNew (u := w); (case hbel => ((repeat' (first | exact Below.refl _ _ | assumption | (refine Below.drew ?_) | (refine Below.alloc ?_ ?_ _) | (refine Below.setCell ?_ ?_ _) | (refine Below.step (W := ?hW) ?hq ?_ ?_; case hq => assumption))) <;> (first | (simp; done) | (simp; omega) | (simp at *; omega)))); (case hnew => exact rfl)); (case hu => exact Tryz.underlying29); (case hd => exact rfl); (case hi => kernel_rfl); (case hc => exact rfl)))) | (go_at_call 84; refine (H1.out _).mono ?_; rintro e_ w_ ⟨rfl, hb_⟩; obtain ⟨hc_, hf_⟩ := bcell hb_; have hz_ := hb_.size; simp at hz_))
  refine wp_named fun w1 hw1 => ?_
  have hB1 : Below w.heap.size w w1 := by rw [hw1]; first | exact (Below.refl _ w).alloc (Nat.le_refl _) _ |>.trans (hb_.mono (by simp)) | ((repeat' (first | exact Below.refl _ _ | assumption | (refine Below.drew ?_) | (refine Below.alloc ?_ ?_ _) | (refine Below.setCell ?_ ?_ _) | (refine Below.step (W := ?hW) ?hq ?_ ?_; case hq => assumption))) <;> (first | (simp; done) | (simp; omega) | (simp at *; omega)))
  have hx : w1.heap[w.heap.size]? = some (.cells #[.int .i64 e.scheme, .string (bs e.node), .string (bs e.service), .int .i64 e.a, .int .i64 e.b] 29 (0, 0)) := by rw [hw1]; exact heapNew (u := w) (by first | (exact hb_.mono (by simp)) | ((repeat' (first | exact Below.refl _ _ | assumption | (refine Below.drew ?_) | (refine Below.alloc ?_ ?_ _) | (refine Below.setCell ?_ ?_ _) | (refine Below.step (W := ?hW) ?hq ?_ ?_; case hq => assumption))) <;> (first | (simp; done) | (simp; omega) | (simp at *; omega)))) rfl
  have k0 := cellsOf hx 0
  simp only [List.getElem?_toArray, List.getElem?_cons_succ, List.getElem?_cons_zero] at k0
  have k1 := cellsOf hx 1
  simp only [List.getElem?_toArray, List.getElem?_cons_succ, List.getElem?_cons_zero] at k1
  have k2 := cellsOf hx 2
  simp only [List.getElem?_toArray, List.getElem?_cons_succ, List.getElem?_cons_zero] at k2
  have k3 := cellsOf hx 3
  simp only [List.getElem?_toArray, List.getElem?_cons_succ, List.getElem?_cons_zero] at k3
  have k4 := cellsOf hx 4
  simp only [List.getElem?_toArray, List.getElem?_cons_succ, List.getElem?_cons_zero] at k4
  clear hw1 hx
  obtain ⟨B, hBe⟩ : ∃ B, B = w1.heap.size := ⟨_, rfl⟩
  obtain ⟨b0, hb0⟩ : ∃ b0, b0 = w.heap.size := ⟨_, rfl⟩
  rw [← hb0] at k0 k1 k2 k3 k4 ⊢
  clear hb0
  obtain ⟨hB0, hBe⟩ : w1.heap.size ≤ B ∧ B ≤ w1.heap.size := ⟨Nat.le_of_eq hBe.symm, Nat.le_of_eq hBe⟩
  obtain ⟨c0, hc0⟩ : ∃ c0, c0 = Value.string (bs word) := ⟨_, rfl⟩
  obtain ⟨c2, hc2⟩ : ∃ c2, c2 = Value.func (.func f) #[] #[] := ⟨_, rfl⟩
  have hs := Hs.out
  rw [← hc0, ← hc2] at hs
  have Hc0 := hide hc0
  have Hc2 := hide hc2
  have g0 : c0.oneCell' = true := by rw [hc0]; rfl
  have g2 : c2.oneCell' = true := by rw [hc2]; rfl
  clear hc0 hc2 Hs
  refine wp_region_predD 5 (fun i => i == 4) (fun W => Below w1.heap.size w1 W) (fun W W' => Below W.heap.size W W') (VHalfA e b0 B c0 c1 c2 c3) (by kernel_rfl) (by kernel_rfl) (Below.refl _ _).drew
    ?hA_8 (fun W W' h hg => h.trans (hg.mono h.size)) ?hV_8 (fun W => Below.refl _ _) ?how_8 ?hfin_8
  case hA_8 =>
    intro j u g W c hj hv hu
    have hj2 : j = 4 := by simpa using hj
    rcases hj2 with rfl
    all_goals exact NewAt.lt hv hu
  case hV_8 =>
    intro i_ v_ g_ W W' hg h
    match i_, h with
    | 0, h => exact SchM.mono h hg
    | 1, h => exact h
    | 2, h => exact h
    | 3, h => exact h
    | 4, h => exact NewAt.mono h hg
    | _ + 5, _ => trivial
  case how_8 =>
    intro i_ hi_
    match i_, hi_ with
    | 0, _ =>
      refine owesD_plain rfl rfl fun ac_ W hC hold hdep => ?_
      clear hdep hold
      go_simp
      refine (show Calls _ _ _ _ _ from schemesM_calls W).mono ?_
      rintro e_ w_ ⟨v, rfl, hr_, hb_⟩
      exact ⟨_, rfl, hb_, hr_⟩
    | 1, _ =>
      refine owesD_plain rfl rfl fun ac_ W hC hold hdep => ?_
      have hs1 := hold 1 (by kernel_rfl)
      clear hdep hold
      go_simp
      exact ⟨_, rfl, Below.refl _ _, rfl⟩
    | 2, _ =>
      refine owesD_plain rfl rfl fun ac_ W hC hold hdep => ?_
      obtain ⟨_, (hd1 : _ = (.pointer (some ⟨b0, 0, none⟩) : Value))⟩ := hdep 1 10 (by kernel_rfl)
      have k0 := (hC.cell (cellLt k0)).trans k0
      clear hdep hold
      go_simp
      exact ⟨_, rfl, Below.refl _ _, rfl⟩
    | 3, _ =>
      refine owesD_plain rfl rfl fun ac_ W hC hold hdep => ?_
      obtain ⟨_, (hd0 : SchM _ W)⟩ := hdep 0 9 (by kernel_rfl)
      obtain ⟨_, (hd2 : _ = (.int .i64 e.scheme : Value))⟩ := hdep 2 11 (by kernel_rfl)
      obtain ⟨r, hr1, hr2⟩ := hd0
      have h3 := hs W r hr2
      clear hdep hold hr2
      go_simp
      exact ⟨_, rfl, Below.refl _ _, rfl⟩
    | 4, _ =>
      refine owesD_plain rfl rfl fun ac_ W hC hold hdep => ?_
      clear hdep hold
      go_simp
      exact ⟨_, rfl, (Below.refl _ _).alloc (Nat.le_refl _) _, newAt_alloc _ _ W hC.size, fun c hc => by cases hc; exact Nat.le_refl _⟩
    | k + 5, hk => exact absurd hk (by omega)
  case' hfin_8 =>
    intro fv W hC hold hval hpair
    clear hpair
    have v3 : (fv 12) = (.agg #[c0, c1, c2, c3] : Value) := hval 3 _ (by omega) rfl
    have v4 : NewAt B zeroSch 185 (fv 5) W := hval 4 _ (by omega) rfl
    have s0 := hold 0 (by kernel_rfl)
    simp only [Array.getD_eq_getD_getElem?, List.getElem?_toArray, List.getElem?_cons_succ, List.getElem?_cons_zero, Option.getD_some] at s0
    have s1 := hold 1 (by kernel_rfl)
    simp only [Array.getD_eq_getD_getElem?, List.getElem?_toArray, List.getElem?_cons_succ, List.getElem?_cons_zero, Option.getD_some] at s1
    have s2 := hold 2 (by kernel_rfl)
    simp only [Array.getD_eq_getD_getElem?, List.getElem?_toArray, List.getElem?_cons_succ, List.getElem?_cons_zero, Option.getD_some] at s2
    have s3 := hold 3 (by kernel_rfl)
    simp only [Array.getD_eq_getD_getElem?, List.getElem?_toArray, List.getElem?_cons_succ, List.getElem?_cons_zero, Option.getD_some] at s3
    have s4 := hold 4 (by kernel_rfl)
    simp only [Array.getD_eq_getD_getElem?, List.getElem?_toArray, List.getElem?_cons_succ, List.getElem?_cons_zero, Option.getD_some] at s4
    clear hval hold
    simp only [List.drop_succ_cons, List.drop_zero, List.size_toArray, List.length_cons, List.length_nil, Nat.reduceAdd]
    simp only [List.range, List.range.loop]
    simp only [List.map_cons, List.map_nil]
    simp only [s0, s1, s2, s3, s4]
  obtain ⟨b, hp1, hp0, hp2⟩ := v4
  simp only [hp1, v3]
  clear hs
  go_wp2_with (apply wpList_store_at (ty := 185) (n := 4); (case hgd => exact rfl); (case ho => exact rfl); (case hd => exact rfl); (case hx => exact rfl); (case hheap => exact hp2); (case hy => exact rfl); (case hi => kernel_rfl); (case hn0 => exact rfl); (case hn => exact rfl); (case h1 => first | exact rfl | assumption | (simp [Value.oneCell', *]; done) | (simp [*]; done)))
  refine wp_named fun w2 hw2 => ?_
  have hB2 : Below w1.heap.size w1 w2 := by rw [hw2]; exact below_setRow hC (Nat.le_trans hB0 hp0) _
  have P2 : w2.heap[b]? = some (.cells #[c0, c1, c2, c3] 185 (0, 0)) := by rw [hw2]; exact heap_setRow_same hp2
  rw [Hc0.out, Hc2.out] at P2
  clear hw2 hp2 hC hBe
  replace k0 := (hB2.cell (cellLt k0)).trans k0
  replace k1 := (hB2.cell (cellLt k1)).trans k1
  replace k2 := (hB2.cell (cellLt k2)).trans k2
  replace k3 := (hB2.cell (cellLt k3)).trans k3
  replace k4 := (hB2.cell (cellLt k4)).trans k4
  have q0 := cellsOf P2 0
  have q2 := cellsOf P2 2
  simp only [List.getElem?_toArray, List.getElem?_cons_succ, List.getElem?_cons_zero] at q0 q2
  have HB2 := hB1.trans (hB2.mono hB1.size)
  clear P2
  refine wp_region_pred 6 (fun W => Below w2.heap.size w2 W) (fun W W' => Below W.heap.size W W') (VHalfB e b0 b word rest f) (by kernel_rfl) (by kernel_rfl) (Below.refl _ _).drew
    (fun W W' h hg => h.trans (hg.mono h.size)) ?hV_9 (fun W => Below.refl _ _) ?how_9 ?hfin_9
  case hV_9 =>
    intro i_ v_ g_ W W' hg h
    match i_, h with
    | 0, h => exact h
    | 1, h => exact h
    | 2, h => exact h
    | 3, h => exact h
    | 4, h => exact h
    | 5, h => exact h
    | _ + 6, _ => trivial
  case how_9 =>
    intro i_ hi_
    match i_, hi_ with
    | 0, _ =>
      refine owes_plain rfl rfl fun ac_ W hC hold hdep => ?_
      have hs5 := hold 5 (by kernel_rfl)
      clear hdep hold
      go_simp
      exact ⟨_, rfl, Below.refl _ _, rfl⟩
    | 1, _ =>
      refine owes_plain rfl rfl fun ac_ W hC hold hdep => ?_
      obtain ⟨_, (hd0 : _ = (.pointer (some ⟨b, 0, none⟩) : Value))⟩ := hdep 0 13 (by kernel_rfl)
      have q0 := (hC.cell (cellLt q0)).trans q0
      clear hdep hold
      go_simp
      exact ⟨_, rfl, Below.refl _ _, rfl⟩
    | 2, _ =>
      refine owes_plain rfl rfl fun ac_ W hC hold hdep => ?_
      have hs5 := hold 5 (by kernel_rfl)
      clear hdep hold
      go_simp
      exact ⟨_, rfl, Below.refl _ _, rfl⟩
    | 3, _ =>
      refine owes_plain rfl rfl fun ac_ W hC hold hdep => ?_
      obtain ⟨_, (hd2 : _ = (.pointer (some ⟨b, 2, none⟩) : Value))⟩ := hdep 2 15 (by kernel_rfl)
      have q2 := (hC.cell (cellLt q2)).trans q2
      clear hdep hold
      go_simp
      exact ⟨_, rfl, Below.refl _ _, rfl⟩
    | 4, _ =>
      refine owes_plain rfl rfl fun ac_ W hC hold hdep => ?_
      have hs1 := hold 1 (by kernel_rfl)
      have k0 := (hC.cell (cellLt k0)).trans k0
      have k1 := (hC.cell (cellLt k1)).trans k1
      have k2 := (hC.cell (cellLt k2)).trans k2
      have k3 := (hC.cell (cellLt k3)).trans k3
      have k4 := (hC.cell (cellLt k4)).trans k4
      clear hdep hold
      go_simp
      exact ⟨_, rfl, Below.refl _ _, rfl⟩
    | 5, _ =>
      refine owes_plain rfl rfl fun ac_ W hC hold hdep => ?_
      obtain ⟨_, (hd3 : _ = (.func (.func f) #[] #[] : Value))⟩ := hdep 3 16 (by kernel_rfl)
      obtain ⟨_, (hd4 : _ = (.agg #[.int .i64 e.scheme, .string (bs e.node), .string (bs e.service), .int .i64 e.a, .int .i64 e.b] : Value))⟩ := hdep 4 17 (by kernel_rfl)
      have hg := Hg.out
      have hcall := Hcall.out W
      clear hdep hold
      go_simp
      refine (show Calls _ _ _ _ _ from hcall).mono ?_
      rintro e_ w_ ⟨rfl, hb_⟩
      exact ⟨_, rfl, hb_, rfl⟩
    | k + 6, hk => exact absurd hk (by omega)
  case' hfin_9 =>
    intro fv W hC hold hval
    have v1 : (fv 14) = (.string (bs word) : Value) := hval 1 _ (by omega) rfl
    have v5 : (fv 18) = (.string (bs rest) : Value) := hval 5 _ (by omega) rfl
    have s0 := hold 0 (by kernel_rfl)
    simp only [Array.getD_eq_getD_getElem?, List.getElem?_toArray, List.getElem?_cons_succ, List.getElem?_cons_zero, Option.getD_some] at s0
    have s1 := hold 1 (by kernel_rfl)
    simp only [Array.getD_eq_getD_getElem?, List.getElem?_toArray, List.getElem?_cons_succ, List.getElem?_cons_zero, Option.getD_some] at s1
    have s2 := hold 2 (by kernel_rfl)
    simp only [Array.getD_eq_getD_getElem?, List.getElem?_toArray, List.getElem?_cons_succ, List.getElem?_cons_zero, Option.getD_some] at s2
    have s3 := hold 3 (by kernel_rfl)
    simp only [Array.getD_eq_getD_getElem?, List.getElem?_toArray, List.getElem?_cons_succ, List.getElem?_cons_zero, Option.getD_some] at s3
    have s4 := hold 4 (by kernel_rfl)
    simp only [Array.getD_eq_getD_getElem?, List.getElem?_toArray, List.getElem?_cons_succ, List.getElem?_cons_zero, Option.getD_some] at s4
    have s5 := hold 5 (by kernel_rfl)
    simp only [Array.getD_eq_getD_getElem?, List.getElem?_toArray, List.getElem?_cons_succ, List.getElem?_cons_zero, Option.getD_some] at s5
    clear hval hold
    simp only [List.drop_succ_cons, List.drop_zero, List.size_toArray, List.length_cons, List.length_nil, Nat.reduceAdd]
    simp only [List.range, List.range.loop]
    simp only [List.map_cons, List.map_nil]
    simp only [s0, s1, s2, s3, s4, s5]
  simp only [v1, v5]
  go_wp2_with fail
  go_ret3
  exact ⟨rfl, HB2.trans (hC.mono HB2.size)⟩
end Go.Proofs.YtllfaffbaijgfaaGreatDoor

namespace Go.Proofs.YtllfaffbaijgfaaGreatDoor
open Go Go.RowKit Go.Shelf
attribute [local go_sem] Oper.semAt_some

/-- the variables that hold an error of head -/
def headErrs : List Nat := [21, 22, 23, 24]
abbrev roomsV : Array Value := #[.int .i64 0, .int .i64 24, .int .i64 0, .int .i64 1, .int .i64 256, .int .i64 24, .int .i64 2, .int .i64 65536, .int .i64 25, .int .i64 4, .int .i64 4294967296, .int .i64 26, .int .i64 8, .int .i64 281474976710656, .int .i64 27]
/-- head's variables lie as they were laid -/
structure HeadAt (S : Nat → Addr) (w : World) : Prop where
  rooms : w.heap[26]? = some (.cells roomsV 506 (0, 0))
  errs : (∀ g ∈ headErrs, w.cell? ⟨g, 0, none⟩ = some (errV (some (S g))) ∧ ∃ c t, w.heap[(S g).block]? = some (.cells c t (0, 0))) ∧ (∀ g ∈ headErrs, ∀ h ∈ headErrs, S g = S h → g = h)
theorem HeadAt.mono {S : Nat → Addr} {w w' : World} (h : HeadAt S w) (hb : Below w.heap.size w w') : HeadAt S w' :=
  ⟨(hb.block _ (Array.getElem?_eq_some_iff.1 h.rooms).1).trans h.rooms, fun g hg => by
    obtain ⟨h1, c, t, h2⟩ := h.errs.1 g hg
    exact ⟨(hb.cell (p := ⟨g, 0, none⟩) (cell_lt h1)).trans h1, c, t, (hb.block _ (Array.getElem?_eq_some_iff.1 h2).1).trans h2⟩, h.errs.2⟩

set_option maxRecDepth 100000 in
theorem headIsOne_calls (n : Int) (l : List Int) (v : Value) (w : World) (hlen : l.length ≤ 9000000000000000000) (hv : IntsV w l v) :
    Calls Tryz.prog 366 #[.int .i64 n, v] w (Pu w (.bool (l.any fun x => decide (x = n)))) := by
  obtain ⟨a, cap, rfl, hat⟩ := hv
  have H := hide hat
  clear hat
  obtain ⟨k, hk⟩ : ∃ k, k = l.length := ⟨_, rfl⟩
  rw [← hk]
  rw [← hk] at hlen
  have Hk := hide hk
  clear hk
  obtain ⟨z, hz⟩ : ∃ z, z = l.any fun x => decide (x = n) := ⟨_, rfl⟩
  rw [← hz]
  have HZ := hide hz
  clear hz
  go_enter Tryz.func366, Tryz.ntmps366
  go_wp2
  go_loopw [9] (fun kk wr => ∃ i : Nat, i ≤ k ∧ kk = .int .i64 i ∧ (z = (l.drop i).any fun x => decide (x = n)) ∧ w = wr) (fun kk _ => k - (intOf kk).toNat)
  case atStart => exact ⟨0, Nat.zero_le _, rfl, HZ.out, rfl⟩
  case round =>
    obtain ⟨i, hi, rfl, hj, rfl⟩ := hrel
    have Hj := hide hj
    clear hj
    by_cases hlt : i < k
    · have hil : i < l.length := by rw [← Hk.out]; exact hlt
      obtain ⟨blk, off, rfl, hc⟩ := H.out (by omega)
      have hx : l[i]? = some l[i] := List.getElem?_eq_getElem hil
      have c0 := hc.2 i _ hx
      obtain ⟨x, hxe⟩ : ∃ x, x = l[i] := ⟨_, rfl⟩
      rw [← hxe] at c0
      have hd : z = (decide (x = n) || (l.drop (i + 1)).any fun x => decide (x = n)) := by rw [Hj.out, List.drop_eq_getElem_cons hil, hxe]; rfl
      have Hd := hide hd
      clear hd hxe hx hc
      by_cases e : x = n
      · go_wp2
        go_ret
        exact ⟨by rw [Hd.out]; simp [e], rfl⟩
      · have hd2 : z = (l.drop (i + 1)).any fun x => decide (x = n) := by rw [Hd.out]; simp [e]
        have Hd2 := hide hd2
        clear hd2
        go_wp2
        go_roundw
        case rel => exact ⟨i + 1, by omega, by go_num, Hd2.out, by first | rfl | trivial⟩
        case measure => simp [intOf]; omega
    · have hz : z = false := by rw [Hj.out, List.drop_eq_nil_of_le (by rw [← Hk.out]; omega)]; rfl
      have Hz := hide hz
      clear hz
      go_wp2
      go_ret
      exact ⟨by rw [Hz.out]; rfl, rfl⟩

theorem intsV_alloc (l : List Int) (cap : Nat) (t : TypeId) (w : World) : IntsV (w.alloc (.cells (l.map (Value.int .i64)).toArray t)) l (.slice (some ⟨w.heap.size, 0, none⟩) l.length cap) :=
  ⟨_, cap, rfl, fun _ => ⟨_, _, rfl, by simp, fun i n h => by
    have hh : (w.alloc (.cells (l.map (Value.int .i64)).toArray t)).heap[w.heap.size]? = some (.cells (l.map (Value.int .i64)).toArray t (0, 0)) := World.alloc_heap_new w _
    have := cellsOf hh i
    rw [Nat.zero_add]
    rw [this]
    simp [h]⟩⟩

def isMajor (n : Int) : Bool := [0, 2, 3, 4].any fun x : Int => decide (x = n)
set_option maxRecDepth 100000 in
theorem isMajor_calls (n : Int) (w : World) : Calls Tryz.prog 339 #[.int .i64 n] w (Rt w (.bool (isMajor n))) := by
  obtain ⟨z, hz⟩ : ∃ z, z = isMajor n := ⟨_, rfl⟩
  have H := headIsOne_calls n [0, 2, 3, 4] _ _ (by simp) (intsV_alloc [0, 2, 3, 4] 4 3 w)
  rw [show ([0, 2, 3, 4].any fun x : Int => decide (x = n)) = z from hz.symm] at H
  rw [← hz]
  clear hz
  have H1 := hide H
  clear H
  go_enter Tryz.func339, Tryz.ntmps339
  go_wp2_with fail
  refine (show Calls _ _ _ _ _ from H1.out).mono ?_
  rintro e_ w_ ⟨rfl, rfl⟩
  go_wp2
  go_ret
  exact ⟨rfl, by ((repeat' (first | exact Below.refl _ _ | assumption | (refine Below.drew ?_) | (refine Below.alloc ?_ ?_ _) | (refine Below.setCell ?_ ?_ _) | (refine Below.step (W := ?hW) ?hq ?_ ?_; case hq => assumption))) <;> (first | (simp; done) | (simp; omega) | (simp at *; omega)))⟩

/-- the rooms that have room for a number -/
abbrev Room := Int × Int × Int
def roomsL : List Room := [(0, 24, 0), (1, 256, 24), (2, 65536, 25), (4, 4294967296, 26), (8, 281474976710656, 27)]
def fitsL (n : Int) (l : List Room) : List Room := l.filter fun x => decide (n < x.2.1)
def roomEnc (x : Room) : Array Value := #[.agg #[.int .i64 x.1, .int .i64 x.2.1, .int .i64 x.2.2]]

theorem headFits_calls (n : Int) (w : World) : Calls Tryz.prog 340 #[.int .i64 n] w (fun e w' => e = .returned (.func (.func 367) #[] #[.pointer (some ⟨w.heap.size, 0, none⟩)]) ∧ w' = w.alloc (.cells #[.int .i64 n] 3)) := by
  go_enter Tryz.func340, Tryz.ntmps340
  go_wp2
  go_ret
  exact ⟨rfl, rfl⟩

end Go.Proofs.YtllfaffbaijgfaaGreatDoor

namespace Go.Proofs.YtllfaffbaijgfaaGreatDoor
open Go Go.RowKit Go.Shelf
attribute [local go_sem] Oper.semAt_some

set_option maxRecDepth 100000 in
set_option maxHeartbeats 4000000 in
theorem fitsIter (n : Int) (B : Nat) (R : Nat → Prop) (w : World) (hB : w.cell? ⟨B, 0, none⟩ = some (.int .i64 n)) (hRB : R B) (hrooms : w.heap[26]? = some (.cells roomsV 506 (0, 0))) (hRr : R 26) (hRlt : ∀ k, R k → k < w.heap.size) :
    Iter Tryz.prog 367 #[.pointer (some ⟨B, 0, none⟩)] roomEnc (fitsL n roomsL) R (fun _ => False) w := by
  intro lp J Jx W hW hJ hJx hY h0
  have HY := hide hY
  have HB := hide (And.intro hB hRB)
  have kb := (hW.cell (p := ⟨B, 0, none⟩) hRB).trans hB
  have hr := (hW.block _ hRr).trans hrooms
  clear hY hB hRB hrooms hRr
  have k0 := cellsOf hr 0
  simp only [List.getElem?_toArray, List.getElem?_cons_succ, List.getElem?_cons_zero] at k0
  have k1 := cellsOf hr 1
  simp only [List.getElem?_toArray, List.getElem?_cons_succ, List.getElem?_cons_zero] at k1
  have k2 := cellsOf hr 2
  simp only [List.getElem?_toArray, List.getElem?_cons_succ, List.getElem?_cons_zero] at k2
  have k3 := cellsOf hr 3
  simp only [List.getElem?_toArray, List.getElem?_cons_succ, List.getElem?_cons_zero] at k3
  have k4 := cellsOf hr 4
  simp only [List.getElem?_toArray, List.getElem?_cons_succ, List.getElem?_cons_zero] at k4
  have k5 := cellsOf hr 5
  simp only [List.getElem?_toArray, List.getElem?_cons_succ, List.getElem?_cons_zero] at k5
  have k6 := cellsOf hr 6
  simp only [List.getElem?_toArray, List.getElem?_cons_succ, List.getElem?_cons_zero] at k6
  have k7 := cellsOf hr 7
  simp only [List.getElem?_toArray, List.getElem?_cons_succ, List.getElem?_cons_zero] at k7
  have k8 := cellsOf hr 8
  simp only [List.getElem?_toArray, List.getElem?_cons_succ, List.getElem?_cons_zero] at k8
  have k9 := cellsOf hr 9
  simp only [List.getElem?_toArray, List.getElem?_cons_succ, List.getElem?_cons_zero] at k9
  have k10 := cellsOf hr 10
  simp only [List.getElem?_toArray, List.getElem?_cons_succ, List.getElem?_cons_zero] at k10
  have k11 := cellsOf hr 11
  simp only [List.getElem?_toArray, List.getElem?_cons_succ, List.getElem?_cons_zero] at k11
  have k12 := cellsOf hr 12
  simp only [List.getElem?_toArray, List.getElem?_cons_succ, List.getElem?_cons_zero] at k12
  have k13 := cellsOf hr 13
  simp only [List.getElem?_toArray, List.getElem?_cons_succ, List.getElem?_cons_zero] at k13
  have k14 := cellsOf hr 14
  simp only [List.getElem?_toArray, List.getElem?_cons_succ, List.getElem?_cons_zero] at k14
  clear hr
  refine callsIn_of_wp Tryz.func367 rfl trivial ?_ rfl
  simp only [Tryz.ntmps367, List.size_toArray, List.length_cons, List.length_nil, Nat.reduceAdd, Nat.reduceSub, Array.replicate_succ, Array.replicate_zero, List.push_toArray, List.append_toArray, List.nil_append, List.cons_append]
  refine wpIn_scope_wide ?_
  gi_wp2
  refine wpIn_label ?_
  gi_wp2
  clear k0 k1 k2 k3 k4 k5 k6 k7 k8 k9 k10 k11 k12 k13 k14
  gi_loopw [6] (fun k wr => ∃ i : Nat, i ≤ 5 ∧ k = .int .i64 i ∧ (∃ j, (fitsL n roomsL).drop j = fitsL n (roomsL.drop i) ∧ j ≤ (fitsL n roomsL).length ∧ J j wr) ∧ Keep R W wr) (fun k _ => 5 - (intOf k).toNat)
  case atStart => exact ⟨0, by omega, rfl, ⟨0, rfl, Nat.zero_le _, h0⟩, Keep.refl _ _⟩
  case round =>
    obtain ⟨i, hi, rfl, ⟨j, hj, hjl, hJj⟩, hK⟩ := hrel
    replace kb := (hK.cell (p := ⟨B, 0, none⟩) HB.out.2).trans kb
    have Hj := hide hj
    have Hjl := hide hjl
    clear hj hjl
    by_cases hlt : i < 5
    · obtain ⟨a, b, c, hroom, hidx⟩ : ∃ a b c : Int, roomsL[i]? = some (a, b, c) ∧ ∀ w : World, (Instr.index 506 (.agg roomsV) (.int .i64 (i : Int))).run Tryz.prog w = .ok (.agg #[.int .i64 a, .int .i64 b, .int .i64 c]) w := by
        have hi5 : i = 0 ∨ i = 1 ∨ i = 2 ∨ i = 3 ∨ i = 4 := by omega
        rcases hi5 with rfl | rfl | rfl | rfl | rfl
        · exact ⟨0, 24, 0, rfl, fun _ => by kernel_rfl⟩
        · exact ⟨1, 256, 24, rfl, fun _ => by kernel_rfl⟩
        · exact ⟨2, 65536, 25, rfl, fun _ => by kernel_rfl⟩
        · exact ⟨4, 4294967296, 26, rfl, fun _ => by kernel_rfl⟩
        · exact ⟨8, 281474976710656, 27, rfl, fun _ => by kernel_rfl⟩
      have hB1 : Below wr.heap.size wr (wr.alloc (.cells #[.int .i64 a, .int .i64 b, .int .i64 c] 461)) := (Below.refl _ _).alloc (Nat.le_refl _) _
      have kb1 := (hB1.cell (p := ⟨B, 0, none⟩) (cell_lt kb)).trans kb
      have hK1 : Keep R W (wr.alloc (.cells #[.int .i64 a, .int .i64 b, .int .i64 c] 461)) := hK.trans ⟨hB1.size, fun k hk => hB1.block k (Nat.lt_of_lt_of_le (hRlt k hk) (hW.trans hK).size)⟩
      have hJ1 := hJ j _ _ hJj (Own1.of_below hB1)
      obtain ⟨hil, hre⟩ := List.getElem?_eq_some_iff.1 hroom
      have hdr : roomsL.drop i = (a, b, c) :: roomsL.drop (i + 1) := by rw [List.drop_eq_getElem_cons hil, hre]
      have HHi := hide (And.intro hdr hroom)
      clear hdr hroom hre
      by_cases hn : n < b
      · have hj2 : (fitsL n roomsL).drop j = (a, b, c) :: fitsL n (roomsL.drop (i + 1)) := by rw [Hj.out, HHi.out.1]; simp [fitsL, hn]
        have hjx : (fitsL n roomsL)[j]? = some (a, b, c) := by rw [← List.head?_drop, hj2]; rfl
        have hjn : (fitsL n roomsL).drop (j + 1) = fitsL n (roomsL.drop (i + 1)) := by rw [← List.tail_drop, hj2]; rfl
        have hjl2 := (List.getElem?_eq_some_iff.1 hjx).1
        have Hjn := hide (And.intro hjn hjl2)
        obtain ⟨fn, tmps, assign, body, hy, hR⟩ := HY.out j (a, b, c) _ hjx hJ1
        simp only [roomEnc] at hy
        clear hj2 hjx hjn hjl2 hJ1
        gi_wp2_with (apply wpListIn_store_new (ty := 461) (n := 3); (case hgd => exact rfl); (case ho => exact rfl); (case hd => exact rfl); (case hx => exact rfl); (case hw => exact rfl); (case hg => first | exact rfl | (simp; done)); (case hy => exact rfl); (case hi => kernel_rfl); (case hn0 => exact rfl); (case hn => exact rfl); (case h1 => first | exact rfl | assumption | (simp [Value.oneCell', *]; done) | (simp [*]; done)))
        refine ⟨rfl, hR.mono ?_⟩
        rintro e W' (⟨rfl, hJ', hk⟩ | ⟨rfl, hJx'⟩)
        · clear kb kb1 hy hR hidx
          gi_wp2
          go_roundw
          case rel => exact ⟨i + 1, by omega, by go_num, ⟨j + 1, Hjn.out.1, Hjn.out.2, hJ'⟩, hK1.trans hk⟩
          case measure => simp [intOf]; omega
        · clear kb kb1 hy hR hidx
          gi_wp2
          simp only [Exit.noGoto]
          go_end0
          exact ⟨⟨_, rfl⟩, .inr hJx'⟩
      · have hj2 : (fitsL n roomsL).drop j = fitsL n (roomsL.drop (i + 1)) := by rw [Hj.out, HHi.out.1]; simp [fitsL, hn]
        have Hj2 := hide hj2
        clear hj2
        gi_wp2_with (apply wpListIn_store_new (ty := 461) (n := 3); (case hgd => exact rfl); (case ho => exact rfl); (case hd => exact rfl); (case hx => exact rfl); (case hw => exact rfl); (case hg => first | exact rfl | (simp; done)); (case hy => exact rfl); (case hi => kernel_rfl); (case hn0 => exact rfl); (case hn => exact rfl); (case h1 => first | exact rfl | assumption | (simp [Value.oneCell', *]; done) | (simp [*]; done)))
        refine ⟨(by intro _ h; cases h), ?_⟩
        gi_wp2
        go_roundw
        case rel => exact ⟨i + 1, by omega, by go_num, ⟨j, Hj2.out, Hjl.out, hJ1⟩, hK1⟩
        case measure => simp [intOf]; omega
    · have hin : i = 5 := by omega
      subst hin
      have hje : j = (fitsL n roomsL).length := by
        have h1 := Hj.out
        have h2 := Hjl.out
        have h3 := congrArg List.length h1
        simp only [List.length_drop] at h3
        have h4 : (fitsL n (roomsL.drop 5)).length = 0 := rfl
        omega
      have Hje := hide hje
      clear hje
      gi_wp2
      simp only [Exit.noGoto]
      go_end0
      exact ⟨⟨_, rfl⟩, .inl (by rw [← Hje.out]; exact hJj)⟩
end Go.Proofs.YtllfaffbaijgfaaGreatDoor
