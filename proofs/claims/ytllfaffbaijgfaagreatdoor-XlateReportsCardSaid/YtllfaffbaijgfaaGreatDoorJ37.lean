/- nums.Cut of an empty text: too short. six.Parse of an empty text. xlate.Over, where it refuses. -/
import Derived.Test.YtllfaffbaijgfaaGreatDoorJ36
import Derived.Defers
import Derived.Recover
set_option linter.unusedVariables false
set_option linter.unusedSimpArgs false
namespace Go.Proofs.YtllfaffbaijgfaaGreatDoor
open Go Go.RowKit Go.Shelf

def numErrs : List Nat := [20, 18, 19]
/-- nums' errors lie as they were laid -/
def NumsAt (S : Nat → Addr) (w : World) : Prop :=
  (∀ g ∈ numErrs, w.cell? ⟨g, 0, none⟩ = some (errV (some (S g))) ∧ ∃ c t, w.heap[(S g).block]? = some (.cells c t (0, 0))) ∧ (∀ g ∈ numErrs, ∀ h ∈ numErrs, S g = S h → g = h)
theorem NumsAt.mono {S : Nat → Addr} {w w' : World} (h : NumsAt S w) (hb : Below w.heap.size w w') : NumsAt S w' :=
  ⟨fun g hg => by
    obtain ⟨h1, c, t, h2⟩ := h.1 g hg
    exact ⟨(hb.cell (p := ⟨g, 0, none⟩) (cell_lt h1)).trans h1, c, t, (hb.block _ (Array.getElem?_eq_some_iff.1 h2).1).trans h2⟩, h.2⟩
theorem isN_calls {S : Nat → Addr} {w : World} (H : NumsAt S w) {g h : Nat} (hg : g ∈ numErrs) (hh : h ∈ numErrs) :
    Calls Tryz.prog 120 #[.iface 526 (.pointer (some (S g))), .iface 526 (.pointer (some (S h)))] w (Pu w (.bool (decide (g = h)))) := by
  by_cases e : g = h
  · subst e
    refine (is_same (S g) w).mono ?_
    rintro en w' ⟨rfl, rfl⟩
    exact ⟨by simp, rfl⟩
  · obtain ⟨_, ca, ta, ha⟩ := H.1 g hg
    obtain ⟨_, cb, tb, hb⟩ := H.1 h hh
    refine (is_other (S g) (S h) ca cb ta tb w (fun q => e (H.2 g hg h hh (by simpa using q))) ha hb).mono ?_
    rintro en w' ⟨rfl, rfl⟩
    exact ⟨by simp [e], rfl⟩

set_option maxRecDepth 100000 in
theorem numsEither_short (S : Nat → Addr) (w : World) (h : NumsAt S w) : Calls Tryz.prog 288 #[.string { data := #[] }, .iface 526 (.pointer (some (S 19)))] w (Pu w (.tuple #[.string { data := #[] }, .int .i64 11])) := by
  have g0 := (h.1 20 (by decide)).1
  have g1 := (h.1 18 (by decide)).1
  have g2 := (h.1 19 (by decide)).1
  simp only [errV] at g0 g1 g2
  have i0 := hide (isN_calls h (g := 19) (h := 20) (by decide) (by decide))
  have i1 := hide (isN_calls h (g := 19) (h := 18) (by decide) (by decide))
  have i2 := hide (isN_calls h (g := 19) (h := 19) (by decide) (by decide))
  clear h
  go_enter Tryz.func288, Tryz.ntmps288
  go_wp2_with fail
  refine (show Calls _ _ _ _ _ from i0.out).mono ?_
  rintro _ _ ⟨rfl, rfl⟩
  go_wp2_with fail
  refine (show Calls _ _ _ _ _ from i1.out).mono ?_
  rintro _ _ ⟨rfl, rfl⟩
  go_wp2_with fail
  refine (show Calls _ _ _ _ _ from i2.out).mono ?_
  rintro _ _ ⟨rfl, rfl⟩
  go_wp2_with fail
  go_ret2
  exact ⟨rfl, rfl⟩

set_option maxRecDepth 100000 in
theorem within_short (S : Nat → Addr) (w : World) (h : NumsAt S w) : Calls Tryz.prog 287 #[.string { data := #[] }, .int .i64 0, .int .i64 1] w (Rt w (.agg #[.bool false, .iface 526 (.pointer (some (S 19)))])) := by
  have g2 := (h.1 19 (by decide)).1
  simp only [errV] at g2
  have gl := cellLt g2
  clear h
  go_enter Tryz.func287, Tryz.ntmps287
  go_wp2_with (apply wpList_store_new (ty := 388) (n := 2); (case hgd => exact rfl); (case ho => exact rfl); (case hd => exact rfl); (case hx => exact rfl); (case hw => exact rfl); (case hg => first | exact rfl | (simp; done)); (case hy => exact rfl); (case hi => kernel_rfl); (case hn0 => exact rfl); (case hn => exact rfl); (case h1 => first | exact rfl | assumption | (simp [Value.oneCell', *]; done) | (simp [*]; done)))
  (refine bodyPost_ret (results_cell1 rfl rfl (load_row (n := 2) (hheap := World.alloc_heap_new w _) (hu := Tryz.underlying388) (hd := rfl) (hi := by kernel_rfl) (hc := rfl))) rfl ?_)
  exact ⟨rfl, by ((repeat' (first | exact Below.refl _ _ | assumption | (refine Below.drew ?_) | (refine Below.alloc ?_ ?_ _) | (refine Below.setCell ?_ ?_ _) | (refine Below.step (W := ?hW) ?hq ?_ ?_; case hq => assumption))) <;> (first | (simp; done) | (simp; omega) | (simp at *; omega)))⟩

set_option maxRecDepth 100000 in
theorem first_one (b : Nat) (t : TypeId) (a : Value) (w : World) (h : w.heap[b]? = some (.cells #[.bool false, .iface t a] 388 (0, 0))) : Calls Tryz.prog 286 #[.slice (some ⟨b, 0, none⟩) 1 1] w (Rt w (.iface t a)) := by
  have k0 := cellsOf h 0
  have k1 := cellsOf h 1
  simp only [List.getElem?_toArray, List.getElem?_cons_succ, List.getElem?_cons_zero] at k0 k1
  have hl : b < w.heap.size := (Array.getElem?_eq_some_iff.1 h).1
  clear h
  go_enter Tryz.func286, Tryz.ntmps286
  go_wp2
  refine wp_loop_rounds 1 ?_
  rw [rounds_succ]
  go_wp2_with (apply wpList_store_new (ty := 388) (n := 2); (case hgd => exact rfl); (case ho => exact rfl); (case hd => exact rfl); (case hx => exact rfl); (case hw => exact rfl); (case hg => first | exact rfl | (simp; done)); (case hy => exact rfl); (case hi => kernel_rfl); (case hn0 => exact rfl); (case hn => exact rfl); (case h1 => first | exact rfl | assumption | (simp [Value.oneCell', *]; done) | (simp [*]; done)))
  go_ret
  exact ⟨rfl, by ((repeat' (first | exact Below.refl _ _ | assumption | (refine Below.drew ?_) | (refine Below.alloc ?_ ?_ _) | (refine Below.setCell ?_ ?_ _) | (refine Below.step (W := ?hW) ?hq ?_ ?_; case hq => assumption))) <;> (first | (simp; done) | (simp; omega) | (simp at *; omega)))⟩

set_option maxRecDepth 100000 in
theorem cut_short (S : Nat → Addr) (w : World) (h : NumsAt S w) : Calls Tryz.prog 222 #[.string { data := #[] }, .int .i64 0, .int .i64 1] w (Rt w (.tuple #[.string { data := #[] }, .int .i64 11])) := by
  have H := hide h
  clear h
  go_enter Tryz.func222, Tryz.ntmps222
  go_wp2_with fail
  refine (show Calls _ _ _ _ _ from within_short S w H.out).mono ?_
  rintro _ w1 ⟨rfl, hb1⟩
  go_wp2_with fail
  obtain ⟨w2, hw2⟩ : ∃ w2, w2 = w1.alloc (.cells #[.bool false, .iface 526 (.pointer (some (S 19)))] 388) := ⟨_, rfl⟩
  rw [← hw2]
  have hb2 : Below w1.heap.size w1 w2 := by rw [hw2]; exact (Below.refl _ _).alloc (Nat.le_refl _) _
  have hr : w2.heap[w1.heap.size]? = some (.cells #[.bool false, .iface 526 (.pointer (some (S 19)))] 388 (0, 0)) := by rw [hw2]; exact World.alloc_heap_new w1 _
  clear hw2
  refine (show Calls _ _ _ _ _ from first_one w1.heap.size _ _ w2 hr).mono ?_
  rintro _ w3 ⟨rfl, hb3⟩
  have hB : Below w.heap.size w w3 := hb1.trans ((hb2.trans (hb3.mono hb2.size)).mono hb1.size)
  clear hr hb1 hb2 hb3
  go_wp2_with fail
  refine (show Calls _ _ _ _ _ from numsEither_short S w3 (H.out.mono hB)).mono ?_
  rintro _ _ ⟨rfl, rfl⟩
  go_wp2_with fail
  go_ret2
  exact ⟨rfl, hB⟩

abbrev faultC : List PanicEntry := [{ v := .iface 282 (.agg #[]), recovered := false }]
set_option maxRecDepth 100000 in
theorem must_panics (v : List UInt8) (w : World) : Calls Tryz.prog 221 #[.string (bs v), .int .i64 11] w (fun e w' => e = .panicked faultC ∧ w' = w) := by
  go_enter Tryz.func221, Tryz.ntmps221
  go_wp2
  exact ⟨rfl, rfl, rfl⟩

abbrev rdC : Array Value := #[.string { data := #[] }, .int .i64 0] ++ zeroSix
def Never (_ : Value) (_ : World) : Prop := False
theorem Never.mono {W W' : World} (h : False) (_ : Below W.heap.size W W') : False := h
theorem owes_dplain {P : Program} {ops : Array Oper} {Q : Exit → Act → World → Prop} {C : World → Prop} {T : World → World → Prop} {V : Nat → Value → (Nat → Value) → World → Prop} {n : Nat} {a0 : Act} {i : Nat} {o : Oper} (ho : ops[i]? = some o) (hg : o.guard = none)
    (h : ∀ (a : Act) (w : World), C w → a.defers = a0.defers → (∀ t, notDst ops n t = true → (a.tmps[t]?).getD undef = a0.tmps.getD t undef) →
      (∀ j t, depB ops n o j t = true → ∃ g, V j ((a.tmps[t]?).getD undef) g w) →
      o.upon P a (fun a' w' => ∃ v, a' = a.put o.dst v ∧ T w w' ∧ V i (if o.dst.isSome then v else undef) (seen ops o fun t => a.tmps.getD t undef) w') Q ((execOp a.eval o).run P w)) : Owes P Q C T V ops n a0 i := by
  intro o' ho' a w hC _ hdf hold hdep
  rw [ho] at ho'
  cases ho'
  have hw : Region.wanted o (yielded ops a.tmps) = true := by simp [Region.wanted, hg]
  rw [if_pos hw]
  refine h a w hC hdf (fun t ht => ?_) (fun j t ht => ?_)
  · rw [← Array.getD_eq_getD_getElem?]; exact hold t (notDst_spec ht)
  · obtain ⟨hj, ⟨oj, hoj, hd⟩, he⟩ := depB_spec ht
    have := hdep j oj hj hoj he
    simp only [own, hd, Array.getD_eq_getD_getElem?] at this
    exact ⟨_, this⟩

def VBytes (T : Nat) : Nat → Value → (Nat → Value) → World → Prop
  | 0, v, _, W => v = .pointer (some ⟨T, 0, none⟩)
  | 1, v, _, W => v = .pointer (some ⟨T, 0, none⟩)
  | 2, v, _, W => v = .pointer (some ⟨T, 0, none⟩)
  | 3, v, _, W => v = .string { data := #[] }
  | 4, v, _, W => v = .pointer (some ⟨T, 0, none⟩)
  | 5, v, _, W => v = .pointer (some ⟨T, 0, none⟩)
  | 6, v, _, W => v = .pointer (some ⟨T, 1, none⟩)
  | 7, v, _, W => v = .int .i64 0
  | 8, v, _, W => v = .int .i64 1
  | 9, v, _, W => v = .tuple #[.string { data := #[] }, .int .i64 11]
  | 10, v, _, W => v = .string { data := #[] }
  | 11, v, _, W => v = .int .i64 11
  | 12, v, _, W => Never v W
  | _, _, _, _ => True


set_option maxRecDepth 100000 in
set_option maxHeartbeats 4000000 in
theorem bytes_panics (S : Nat → Addr) (T : Nat) (w1 : World) (h : NumsAt S w1) (k0 : w1.cell? ⟨T, 0, none⟩ = some (.string { data := #[] })) (k1 : w1.cell? ⟨T, 1, none⟩ = some (.int .i64 0)) :
    Calls Tryz.prog 150 #[.pointer (some ⟨T, 0, none⟩), .int .i64 1] w1 (fun e w' => e = .panicked faultC ∧ Below w1.heap.size w1 w') := by
  have HN := hide h
  clear h
  go_enter Tryz.func150, Tryz.ntmps150
  go_wp2_with fail
  refine wp_region_pred 13 (fun W => Below w1.heap.size w1 W) (fun W W' => Below W.heap.size W W') (VBytes T) (by kernel_rfl) (by kernel_rfl) (Below.refl _ _).drew
    (fun W W' h hg => h.trans (hg.mono h.size)) ?hV_21 (fun W => Below.refl _ _) ?how_21 ?hfin_21
  case hV_21 =>
    intro i_ v_ g_ W W' hg h
    match i_, h with
    | 0, h => exact h
    | 1, h => exact h
    | 2, h => exact h
    | 3, h => exact h
    | 4, h => exact h
    | 5, h => exact h
    | 6, h => exact h
    | 7, h => exact h
    | 8, h => exact h
    | 9, h => exact h
    | 10, h => exact h
    | 11, h => exact h
    | 12, h => exact Never.mono h hg
    | _ + 13, _ => trivial
  case how_21 =>
    intro i_ hi_
    match i_, hi_ with
    | 0, _ =>
      refine owes_plain rfl rfl fun ac_ W hC hold hdep => ?_
      have hs0 := hold 0 (by kernel_rfl)
      clear hdep hold
      go_simp
      exact ⟨_, rfl, Below.refl _ _, rfl⟩
    | 1, _ =>
      refine owes_plain rfl rfl fun ac_ W hC hold hdep => ?_
      obtain ⟨_, (hd0 : _ = (.pointer (some ⟨T, 0, none⟩) : Value))⟩ := hdep 0 6 (by kernel_rfl)
      clear hdep hold
      go_simp
      exact ⟨_, rfl, Below.refl _ _, rfl⟩
    | 2, _ =>
      refine owes_plain rfl rfl fun ac_ W hC hold hdep => ?_
      obtain ⟨_, (hd1 : _ = (.pointer (some ⟨T, 0, none⟩) : Value))⟩ := hdep 1 7 (by kernel_rfl)
      clear hdep hold
      go_simp
      exact ⟨_, rfl, Below.refl _ _, rfl⟩
    | 3, _ =>
      refine owes_plain rfl rfl fun ac_ W hC hold hdep => ?_
      obtain ⟨_, (hd2 : _ = (.pointer (some ⟨T, 0, none⟩) : Value))⟩ := hdep 2 8 (by kernel_rfl)
      have k0 := (hC.cell (cellLt k0)).trans k0
      clear hdep hold
      go_simp
      exact ⟨_, rfl, Below.refl _ _, rfl⟩
    | 4, _ =>
      refine owes_plain rfl rfl fun ac_ W hC hold hdep => ?_
      have hs0 := hold 0 (by kernel_rfl)
      clear hdep hold
      go_simp
      exact ⟨_, rfl, Below.refl _ _, rfl⟩
    | 5, _ =>
      refine owes_plain rfl rfl fun ac_ W hC hold hdep => ?_
      obtain ⟨_, (hd4 : _ = (.pointer (some ⟨T, 0, none⟩) : Value))⟩ := hdep 4 10 (by kernel_rfl)
      clear hdep hold
      go_simp
      exact ⟨_, rfl, Below.refl _ _, rfl⟩
    | 6, _ =>
      refine owes_plain rfl rfl fun ac_ W hC hold hdep => ?_
      obtain ⟨_, (hd5 : _ = (.pointer (some ⟨T, 0, none⟩) : Value))⟩ := hdep 5 11 (by kernel_rfl)
      clear hdep hold
      go_simp
      exact ⟨_, rfl, Below.refl _ _, rfl⟩
    | 7, _ =>
      refine owes_plain rfl rfl fun ac_ W hC hold hdep => ?_
      obtain ⟨_, (hd6 : _ = (.pointer (some ⟨T, 1, none⟩) : Value))⟩ := hdep 6 12 (by kernel_rfl)
      have k1 := (hC.cell (cellLt k1)).trans k1
      clear hdep hold
      go_simp
      exact ⟨_, rfl, Below.refl _ _, rfl⟩
    | 8, _ =>
      refine owes_plain rfl rfl fun ac_ W hC hold hdep => ?_
      have hs1 := hold 1 (by kernel_rfl)
      clear hdep hold
      go_simp
      exact ⟨_, rfl, Below.refl _ _, rfl⟩
    | 9, _ =>
      refine owes_plain rfl rfl fun ac_ W hC hold hdep => ?_
      obtain ⟨_, (hd3 : _ = (.string { data := #[] } : Value))⟩ := hdep 3 9 (by kernel_rfl)
      obtain ⟨_, (hd7 : _ = (.int .i64 0 : Value))⟩ := hdep 7 13 (by kernel_rfl)
      obtain ⟨_, (hd8 : _ = (.int .i64 1 : Value))⟩ := hdep 8 14 (by kernel_rfl)
      clear hdep hold
      go_simp
      refine (show Calls _ _ _ _ _ from cut_short S W (HN.out.mono hC)).mono ?_
      rintro e_ w_ ⟨rfl, hb_⟩
      exact ⟨_, rfl, hb_, rfl⟩
    | 10, _ =>
      refine owes_plain rfl rfl fun ac_ W hC hold hdep => ?_
      obtain ⟨_, (hd9 : _ = (.tuple #[.string { data := #[] }, .int .i64 11] : Value))⟩ := hdep 9 15 (by kernel_rfl)
      clear hdep hold
      go_simp
      exact ⟨_, rfl, Below.refl _ _, rfl⟩
    | 11, _ =>
      refine owes_plain rfl rfl fun ac_ W hC hold hdep => ?_
      obtain ⟨_, (hd9 : _ = (.tuple #[.string { data := #[] }, .int .i64 11] : Value))⟩ := hdep 9 15 (by kernel_rfl)
      clear hdep hold
      go_simp
      exact ⟨_, rfl, Below.refl _ _, rfl⟩
    | 12, _ =>
      refine owes_dplain rfl rfl fun ac_ W hC hdf hold hdep => ?_
      obtain ⟨_, (hd10 : _ = (.string { data := #[] } : Value))⟩ := hdep 10 16 (by kernel_rfl)
      obtain ⟨_, (hd11 : _ = (.int .i64 11 : Value))⟩ := hdep 11 17 (by kernel_rfl)
      have Hdf := hide hdf
      clear hold hdep hdf
      go_simp
      refine (show Calls _ _ _ _ _ from must_panics [] W).mono ?_
      rintro e_ w_ ⟨rfl, rfl⟩
      exact ⟨Hdf.out, rfl, hC⟩
    | k + 13, hk => exact absurd hk (by omega)
  case' hfin_21 =>
    intro fv W hC hold hval
    have v12 : Never (fv 18) W := hval 12 _ (by omega) rfl
    have s0 := hold 0 (by kernel_rfl)
    simp only [Array.getD_eq_getD_getElem?, List.getElem?_toArray, List.getElem?_cons_succ, List.getElem?_cons_zero, Option.getD_some] at s0
    have s1 := hold 1 (by kernel_rfl)
    simp only [Array.getD_eq_getD_getElem?, List.getElem?_toArray, List.getElem?_cons_succ, List.getElem?_cons_zero, Option.getD_some] at s1
    have s2 := hold 2 (by kernel_rfl)
    simp only [Array.getD_eq_getD_getElem?, List.getElem?_toArray, List.getElem?_cons_succ, List.getElem?_cons_zero, Option.getD_some] at s2
    have s3 := hold 3 (by kernel_rfl)
    simp only [Array.getD_eq_getD_getElem?, List.getElem?_toArray, List.getElem?_cons_succ, List.getElem?_cons_zero, Option.getD_some] at s3
    have s4 := hold 4 (by kernel_rfl)
    simp only [Array.getD_eq_getD_getElem?, List.getElem?_toArray, List.getElem?_cons_succ, List.getElem?_cons_zero, Option.getD_some] at s4
    have s5 := hold 5 (by kernel_rfl)
    simp only [Array.getD_eq_getD_getElem?, List.getElem?_toArray, List.getElem?_cons_succ, List.getElem?_cons_zero, Option.getD_some] at s5
    clear hval hold
    simp only [List.drop_succ_cons, List.drop_zero, List.size_toArray, List.length_cons, List.length_nil, Nat.reduceAdd]
    simp only [List.range, List.range.loop]
    simp only [List.map_cons, List.map_nil]
    simp only [s0, s1, s2, s3, s4, s5]
  exact v12.elim
end Go.Proofs.YtllfaffbaijgfaaGreatDoor

namespace Go.Proofs.YtllfaffbaijgfaaGreatDoor
open Go Go.RowKit Go.Shelf

set_option maxRecDepth 100000 in
set_option maxHeartbeats 4000000 in
theorem read_panics (S : Nat → Addr) (T : Nat) (w1 : World) (h : NumsAt S w1) (k0 : w1.cell? ⟨T, 0, none⟩ = some (.string { data := #[] })) (k1 : w1.cell? ⟨T, 1, none⟩ = some (.int .i64 0)) :
    Calls Tryz.prog 94 #[.pointer (some ⟨T, 0, none⟩)] w1 (fun e w' => e = .panicked faultC ∧ Below w1.heap.size w1 w') := by
  have HB := hide (bytes_panics S T w1 h k0 k1)
  clear h k0 k1
  go_enter Tryz.func94, Tryz.ntmps94
  go_wp2_with fail
  refine (show Calls _ _ _ _ _ from HB.out).mono ?_
  rintro _ w2 ⟨rfl, hb⟩
  exact ⟨rfl, rfl, hb⟩

set_option maxRecDepth 100000 in
set_option maxHeartbeats 4000000 in
theorem parseCatch (X E : Nat) (u : TypeId) (pv old : Value) (older : List PanicEntry) (w : World) (hX : w.heap[X]? = some (.cells zeroSix 32 (0, 0))) (hE : w.heap[E]? = some (.cells #[old] 24 (0, 0))) (hne : X ≠ E) :
    CallsD Tryz.prog 93 #[.pointer (some ⟨X, 0, none⟩), .pointer (some ⟨E, 0, none⟩)] (.panicking ({ v := .iface u pv, recovered := false } :: older)) w fun e u' w' =>
      e = .returned (.tuple #[]) ∧ u' = .panicking ({ v := .iface u pv, recovered := true } :: older) ∧ w' = (w.setRow X zeroSix).setCell ⟨E, 0, none⟩ (.int .i64 80) := by
  refine callsD_of_wpS Tryz.func93 rfl fun c₀ cs hu => ?_
  apply wpS_seq
  apply wpS_region
  simp [wpOpsS, go_sem, recoverD, hu, Tryz.ntmps93, Exit.thenS]
  refine wpS_of_wp ?_
  show Code.wp _ _ _ { tmps := #[.pointer (some ⟨X, 0, none⟩), .pointer (some ⟨E, 0, none⟩), .iface u pv, .iface u pv, undef, undef, undef], defers := [] } w
  have hE2 : (w.setRow X zeroSix).heap[E]? = some (.cells #[old] 24 (0, 0)) := (setRow_other w X E zeroSix (fun e => hne e.symm)).trans hE
  have k0 := cellsOf hE2 0
  simp only [List.getElem?_toArray, List.getElem?_cons_zero] at k0
  have f0 : (w.setRow X zeroSix).frozen? ⟨E, 0, none⟩ = false := by simp [World.frozen?, hE2]
  go_wp2_with (apply wpList_store_at (ty := 32) (n := 27); (case hgd => exact rfl); (case ho => exact rfl); (case hd => exact rfl); (case hx => exact rfl); (case hheap => exact hX); (case hy => exact rfl); (case hi => kernel_rfl); (case hn0 => exact rfl); (case hn => exact rfl); (case h1 => first | exact rfl | assumption | (simp [Value.oneCell', *]; done) | (simp [*]; done)))
  exact ⟨rfl, _, rfl, _, results_none rfl _ _ _, rfl, rfl, rfl⟩

theorem results_cc {P : Program} {w : World} {fn : Func} {p q : Tmp} {ty tz : TypeId} {tmps : Array Value} {a b : Addr} {u v : Value} (h : fn.results = #[.cell p ty, .cell q tz]) (hp : tmps.getD p undef = .pointer (some a)) (hq : tmps.getD q undef = .pointer (some b))
    (hl : (loadVar ty a).run P w = .ok u w) (hm : (loadVar tz b).run P w = .ok v w) : (results fn tmps).run P w = .ok (.tuple #[u, v]) w := by
  simp only [results, h]
  have ha : (asAddr (tmps.getD p undef)).run P w = .ok a w := by rw [hp]; rfl
  have hb : (asAddr (tmps.getD q undef)).run P w = .ok b w := by rw [hq]; rfl
  rw [Array.getD_eq_getD_getElem?] at ha hb
  simp [Sem.run_bind, Result.andThen, hl, hm, ha, hb]

set_option maxRecDepth 100000 in
set_option maxHeartbeats 4000000 in
theorem parse_empty (S : Nat → Addr) (w : World) (h : NumsAt S w) : Calls Tryz.prog 31 #[.string { data := #[] }] w (Rt w (.tuple #[.agg zeroSix, .int .i64 80])) := by
  have hmf : ∀ (fn : Fn) (first cap : Array Value) (w : World), (Instr.makeFunc fn first cap).run Tryz.prog w = .ok (.func fn first cap) w := fun _ _ _ _ => rfl
  have H := hide h
  clear h
  go_enter_defers Tryz.func31, Tryz.ntmps31
  go_upto_region 3 with fail
  refine wp_named fun w1 hw1 => ?_
  have hB1 : Below w.heap.size w w1 := by rw [hw1]; ((repeat' (first | exact Below.refl _ _ | assumption | (refine Below.drew ?_) | (refine Below.alloc ?_ ?_ _) | (refine Below.setCell ?_ ?_ _) | (refine Below.step (W := ?hW) ?hq ?_ ?_; case hq => assumption))) <;> (first | (simp; done) | (simp; omega) | (simp at *; omega)))
  have hX : w1.heap[w.heap.size]? = some (.cells zeroSix 32 (0, 0)) := by rw [hw1]; exact heapNew (u := w) (by ((repeat' (first | exact Below.refl _ _ | assumption | (refine Below.drew ?_) | (refine Below.alloc ?_ ?_ _) | (refine Below.setCell ?_ ?_ _) | (refine Below.step (W := ?hW) ?hq ?_ ?_; case hq => assumption))) <;> (first | (simp; done) | (simp; omega) | (simp at *; omega)))) rfl
  have hE : w1.heap[w.heap.size + 1]? = some (.cells #[.int .i64 0] 24 (0, 0)) := by rw [hw1]; exact heapNew (u := w.alloc _) (by ((repeat' (first | exact Below.refl _ _ | assumption | (refine Below.drew ?_) | (refine Below.alloc ?_ ?_ _) | (refine Below.setCell ?_ ?_ _) | (refine Below.step (W := ?hW) ?hq ?_ ?_; case hq => assumption))) <;> (first | (simp; done) | (simp; omega) | (simp at *; omega)))) (by simp)
  have hT : w1.heap[w.heap.size + 1 + 1]? = some (.cells rdC 125 (0, 0)) := by rw [hw1]; exact heapNew (u := (w.alloc _).alloc _) (by ((repeat' (first | exact Below.refl _ _ | assumption | (refine Below.drew ?_) | (refine Below.alloc ?_ ?_ _) | (refine Below.setCell ?_ ?_ _) | (refine Below.step (W := ?hW) ?hq ?_ ?_; case hq => assumption))) <;> (first | (simp; done) | (simp; omega) | (simp at *; omega)))) (by simp)
  clear hw1
  have HR := hide (read_panics S (w.heap.size + 1 + 1) w1 (H.out.mono hB1) (cellsOf hT 0) (cellsOf hT 1))
  go_wp2_with fail
  refine (show Calls _ _ _ _ _ from HR.out).mono ?_
  rintro _ w2 ⟨rfl, hb⟩
  have hX2 := heapKept hX hb
  have hE2 := heapKept hE hb
  refine leaves_cons (f := 93) (args := #[.pointer (some ⟨w.heap.size, 0, none⟩), .pointer (some ⟨w.heap.size + 1, 0, none⟩)]) (by simp) (by simp [go_sem]) ?_
  refine (parseCatch w.heap.size (w.heap.size + 1) 282 (.agg #[]) (.int .i64 0) [] w2 hX2 hE2 (by omega)).mono ?_
  rintro e u' w'' ⟨rfl, rfl, rfl⟩
  have hX3 : ((w2.setRow w.heap.size zeroSix).setCell ⟨w.heap.size + 1, 0, none⟩ (.int .i64 80)).heap[w.heap.size]? = some (.cells zeroSix 32 (0, 0)) := (heap_setCell_ne (by omega)).trans (heap_setRow_same hX2)
  have hE3 : ((w2.setRow w.heap.size zeroSix).setCell ⟨w.heap.size + 1, 0, none⟩ (.int .i64 80)).heap[w.heap.size + 1]? = some (.cells #[.int .i64 80] 24 (0, 0)) := heap_setCell_same (i := 0) ((setRow_other w2 w.heap.size (w.heap.size + 1) zeroSix (by omega)).trans hE2)
  have hB3 : Below w.heap.size w ((w2.setRow w.heap.size zeroSix).setCell ⟨w.heap.size + 1, 0, none⟩ (.int .i64 80)) := (below_setRow (hB1.trans (hb.mono hB1.size)) (Nat.le_refl _) _).setCell (p := ⟨w.heap.size + 1, 0, none⟩) (by show w.heap.size ≤ w.heap.size + 1; omega) _
  exact ⟨_, results_cc rfl rfl rfl (load_row (n := 27) (hheap := hX3) (hu := Tryz.underlying32) (hd := rfl) (hi := by kernel_rfl) (hc := rfl)) (load_plain Tryz.underlying24 rfl (cellsOf hE3 0)), rfl, hB3⟩
end Go.Proofs.YtllfaffbaijgfaaGreatDoor

namespace Go.Proofs.YtllfaffbaijgfaaGreatDoor
open Go Go.RowKit Go.Shelf

set_option maxRecDepth 100000 in
theorem over5 (w : World) : Calls Tryz.prog 12 #[.int .i64 5, .string { data := #[] }] w (Rt w (.tuple #[.string { data := #[] }, .int .i64 2])) := by
  go_enter Tryz.func12, Tryz.ntmps12
  go_wp2_with fail
  go_ret2
  exact ⟨rfl, Below.refl _ _⟩

set_option maxRecDepth 100000 in
set_option maxHeartbeats 4000000 in
theorem over6 (S : Nat → Addr) (w : World) (h : NumsAt S w) : Calls Tryz.prog 12 #[.int .i64 6, .string { data := #[] }] w (Rt w (.tuple #[.string { data := #[] }, .int .i64 80])) := by
  have H := hide (parse_empty S w h)
  clear h
  go_enter Tryz.func12, Tryz.ntmps12
  go_wp2_with fail
  refine (show Calls _ _ _ _ _ from H.out).mono ?_
  rintro _ w1 ⟨rfl, hb⟩
  have Hb := hide hb
  clear hb
  go_wp2_with (apply wpList_store_new (ty := 32) (n := 27); (case hgd => exact rfl); (case ho => exact rfl); (case hd => exact rfl); (case hx => exact rfl); (case hw => exact rfl); (case hg => first | exact rfl | (simp; done)); (case hy => exact rfl); (case hi => kernel_rfl); (case hn0 => exact rfl); (case hn => exact rfl); (case h1 => first | exact rfl | assumption | (simp [Value.oneCell', *]; done) | (simp [*]; done)))
  go_ret2
  exact ⟨rfl, Hb.out.alloc Hb.out.size _⟩
end Go.Proofs.YtllfaffbaijgfaaGreatDoor
