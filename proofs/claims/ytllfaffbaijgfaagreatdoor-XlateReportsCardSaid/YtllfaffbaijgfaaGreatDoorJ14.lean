/- signs.Class, Down, MarkUp, MarkDown. -/
import Derived.Test.YtllfaffbaijgfaaGreatDoorJ08
set_option linter.unusedVariables false
set_option linter.unusedSimpArgs false
namespace Go.Proofs.YtllfaffbaijgfaaGreatDoor
open Go Go.RowKit Go.Shelf

def markUpE (f : Int) : Option Nat := if inB f 127 = true then (if hasB f 32 = true then some 12 else if hasB f 64 = true then some 13 else none) else some 8
def markUpF (f : Int) : Int × Int := (if (markUpE f).isSome then 0 else onlyI f 23, errno (markUpE f))

def VMarkUp (S : Nat → Addr) (f z : Int) (p u q : Bool) (E : Option Nat) : Nat → Value → (Nat → Value) → World → Prop
  | 0, v, _, W => v = .agg #[.int .i64 f]
  | 1, v, _, W => v = .int .i64 (onlyI f 23)
  | 2, v, _, W => v = .agg #[.int .i64 f]
  | 3, v, _, W => v = .bool p
  | 4, v, _, W => v = errV (some (S 8))
  | 5, v, _, W => RuleV p (some (S 8)) v W
  | 6, v, _, W => v = .agg #[.int .i64 f]
  | 7, v, _, W => v = .bool u
  | 8, v, _, W => v = .bool (!u)
  | 9, v, _, W => v = errV (some (S 12))
  | 10, v, _, W => RuleV (!u) (some (S 12)) v W
  | 11, v, _, W => v = .agg #[.int .i64 f]
  | 12, v, _, W => v = .bool q
  | 13, v, _, W => v = .bool (!q)
  | 14, v, _, W => v = errV (some (S 13))
  | 15, v, _, W => RuleV (!q) (some (S 13)) v W
  | 16, v, _, W => RulesV [(p, some (S 8)), (!u, some (S 12)), (!q, some (S 13))] v W
  | 17, v, _, W => v = errV (E.map S)
  | 18, v, _, W => v = .tuple #[.int .i64 z, .int .i64 (errno E)]
  | 19, v, _, W => v = .int .i64 z
  | 20, v, _, W => v = .int .i64 (errno E)
  | _, _, _, _ => True


set_option maxRecDepth 100000 in
set_option maxHeartbeats 4000000 in
theorem markUp_calls (S : Nat → Addr) (f : Int) (w : World) (h : Sents S w) : Calls Tryz.prog 251 #[.int .i64 f] w (Rt w (.tuple #[.int .i64 (markUpF f).1, .int .i64 (markUpF f).2])) := by
  have g1 := (h.1 8 (by decide)).1
  have g2 := (h.1 12 (by decide)).1
  have g3 := (h.1 13 (by decide)).1
  obtain ⟨p, hp⟩ : ∃ p, p = inB f 127 := ⟨_, rfl⟩
  obtain ⟨u, hu⟩ : ∃ u, u = hasB f 32 := ⟨_, rfl⟩
  obtain ⟨q, hq⟩ : ∃ q, q = hasB f 64 := ⟨_, rfl⟩
  obtain ⟨E, hE⟩ : ∃ E, E = markUpE f := ⟨_, rfl⟩
  have HE := hide (show saysE S [(p, some (S 8)), (!u, some (S 12)), (!q, some (S 13))] E by
    rw [hE, markUpE, ← hp, ← hu, ← hq]
    refine ⟨?_, ?_⟩
    · cases p <;> cases u <;> cases q <;> rfl
    · cases p <;> cases u <;> cases q <;> (intro g hg; cases hg) <;> decide)
  obtain ⟨z, hz⟩ : ∃ z, z = (markUpF f).1 := ⟨_, rfl⟩
  have hn : (markUpF f).2 = errno E := by rw [markUpF, hE]
  rw [← hz, hn]
  have Hz := hide (show (if E.isSome then 0 else onlyI f 23) = z by rw [hz, markUpF, hE])
  have Ho := hide (show ∀ W, Calls Tryz.prog 166 #[.agg #[.int .i64 f], .int .i64 23] W (Rt W (.int .i64 (onlyI f 23))) from fun W => only_calls f 23 W (by decide) (by decide))
  have Hp := hide (show ∀ W, Calls Tryz.prog 185 #[.agg #[.int .i64 f], .int .i64 127] W (Rt W (.bool p)) from fun W => by rw [hp]; exact setIsIn_calls f 127 W)
  have Hu := hide (show ∀ W, Calls Tryz.prog 165 #[.agg #[.int .i64 f], .int .i64 32] W (Rt W (.bool u)) from fun W => by rw [hu]; exact has_calls f 32 W)
  have Hq := hide (show ∀ W, Calls Tryz.prog 165 #[.agg #[.int .i64 f], .int .i64 64] W (Rt W (.bool q)) from fun W => by rw [hq]; exact has_calls f 64 W)
  have H := hide h
  clear h hp hu hq hE hz hn
  go_enter Tryz.func251, Tryz.ntmps251
  go_wp2_with fail
  refine wp_named fun w1 hw1 => ?_
  have hB1 : Below w.heap.size w w1 := by rw [hw1]; ((repeat' (first | exact Below.refl _ _ | assumption | (refine Below.drew ?_) | (refine Below.alloc ?_ ?_ _) | (refine Below.setCell ?_ ?_ _) | (refine Below.step (W := ?hW) ?hq ?_ ?_; case hq => assumption))) <;> (first | (simp; done) | (simp; omega) | (simp at *; omega)))
  have k0 : w1.cell? ⟨w.heap.size, 0, none⟩ = some (.int .i64 f) := by rw [hw1]; simp
  replace g1 := (hB1.cell (cellLt g1)).trans g1
  replace g2 := (hB1.cell (cellLt g2)).trans g2
  replace g3 := (hB1.cell (cellLt g3)).trans g3
  clear hw1
  refine wp_region_pred 21 (fun W => Below w1.heap.size w1 W) (fun W W' => Below W.heap.size W W') (VMarkUp S f z p u q E) (by kernel_rfl) (by kernel_rfl) (Below.refl _ _).drew
    (fun W W' h hg => h.trans (hg.mono h.size)) ?hV_3 (fun W => Below.refl _ _) ?how_3 ?hfin_3
  case hV_3 =>
    intro i_ v_ g_ W W' hg h
    match i_, h with
    | 0, h => exact h
    | 1, h => exact h
    | 2, h => exact h
    | 3, h => exact h
    | 4, h => exact h
    | 5, h => exact RuleV.mono h hg
    | 6, h => exact h
    | 7, h => exact h
    | 8, h => exact h
    | 9, h => exact h
    | 10, h => exact RuleV.mono h hg
    | 11, h => exact h
    | 12, h => exact h
    | 13, h => exact h
    | 14, h => exact h
    | 15, h => exact RuleV.mono h hg
    | 16, h => exact RulesV.mono h hg
    | 17, h => exact h
    | 18, h => exact h
    | 19, h => exact h
    | 20, h => exact h
    | _ + 21, _ => trivial
  case how_3 =>
    intro i_ hi_
    match i_, hi_ with
    | 0, _ =>
      refine owes_plain rfl rfl fun ac_ W hC hold hdep => ?_
      have hs4 := hold 4 (by kernel_rfl)
      have k0 := (hC.cell (cellLt k0)).trans k0
      clear hdep hold
      go_simp
      exact ⟨_, rfl, Below.refl _ _, rfl⟩
    | 1, _ =>
      refine owes_plain rfl rfl fun ac_ W hC hold hdep => ?_
      obtain ⟨_, (hd0 : _ = (.agg #[.int .i64 f] : Value))⟩ := hdep 0 7 (by kernel_rfl)
      clear hdep hold
      go_simp
      refine (show Calls _ _ _ _ _ from Ho.out W).mono ?_
      rintro e_ w_ ⟨rfl, hb_⟩
      exact ⟨_, rfl, hb_, rfl⟩
    | 2, _ =>
      refine owes_plain rfl rfl fun ac_ W hC hold hdep => ?_
      have hs4 := hold 4 (by kernel_rfl)
      have k0 := (hC.cell (cellLt k0)).trans k0
      clear hdep hold
      go_simp
      exact ⟨_, rfl, Below.refl _ _, rfl⟩
    | 3, _ =>
      refine owes_plain rfl rfl fun ac_ W hC hold hdep => ?_
      obtain ⟨_, (hd2 : _ = (.agg #[.int .i64 f] : Value))⟩ := hdep 2 9 (by kernel_rfl)
      clear hdep hold
      go_simp
      refine (show Calls _ _ _ _ _ from Hp.out W).mono ?_
      rintro e_ w_ ⟨rfl, hb_⟩
      exact ⟨_, rfl, hb_, rfl⟩
    | 4, _ =>
      refine owes_plain rfl rfl fun ac_ W hC hold hdep => ?_
      have g1 := (hC.cell (cellLt g1)).trans g1
      clear hdep hold
      go_simp
      exact ⟨_, rfl, Below.refl _ _, rfl⟩
    | 5, _ =>
      refine owes_plain rfl rfl fun ac_ W hC hold hdep => ?_
      obtain ⟨_, (hd3 : _ = (.bool p : Value))⟩ := hdep 3 10 (by kernel_rfl)
      obtain ⟨_, (hd4 : _ = (errV (some (S 8)) : Value))⟩ := hdep 4 11 (by kernel_rfl)
      clear hdep hold
      go_simp
      refine (show Calls _ _ _ _ _ from must_rule _ _ W).mono ?_
      rintro e_ w_ ⟨v, rfl, hr_, hb_⟩
      exact ⟨_, rfl, hb_, hr_⟩
    | 6, _ =>
      refine owes_plain rfl rfl fun ac_ W hC hold hdep => ?_
      have hs4 := hold 4 (by kernel_rfl)
      have k0 := (hC.cell (cellLt k0)).trans k0
      clear hdep hold
      go_simp
      exact ⟨_, rfl, Below.refl _ _, rfl⟩
    | 7, _ =>
      refine owes_plain rfl rfl fun ac_ W hC hold hdep => ?_
      obtain ⟨_, (hd6 : _ = (.agg #[.int .i64 f] : Value))⟩ := hdep 6 13 (by kernel_rfl)
      clear hdep hold
      go_simp
      refine (show Calls _ _ _ _ _ from Hu.out W).mono ?_
      rintro e_ w_ ⟨rfl, hb_⟩
      exact ⟨_, rfl, hb_, rfl⟩
    | 8, _ =>
      refine owes_plain rfl rfl fun ac_ W hC hold hdep => ?_
      obtain ⟨_, (hd7 : _ = (.bool u : Value))⟩ := hdep 7 14 (by kernel_rfl)
      clear hdep hold
      go_simp
      exact ⟨_, rfl, Below.refl _ _, rfl⟩
    | 9, _ =>
      refine owes_plain rfl rfl fun ac_ W hC hold hdep => ?_
      have g2 := (hC.cell (cellLt g2)).trans g2
      clear hdep hold
      go_simp
      exact ⟨_, rfl, Below.refl _ _, rfl⟩
    | 10, _ =>
      refine owes_plain rfl rfl fun ac_ W hC hold hdep => ?_
      obtain ⟨_, (hd8 : _ = (.bool (!u) : Value))⟩ := hdep 8 15 (by kernel_rfl)
      obtain ⟨_, (hd9 : _ = (errV (some (S 12)) : Value))⟩ := hdep 9 16 (by kernel_rfl)
      clear hdep hold
      go_simp
      refine (show Calls _ _ _ _ _ from must_rule _ _ W).mono ?_
      rintro e_ w_ ⟨v, rfl, hr_, hb_⟩
      exact ⟨_, rfl, hb_, hr_⟩
    | 11, _ =>
      refine owes_plain rfl rfl fun ac_ W hC hold hdep => ?_
      have hs4 := hold 4 (by kernel_rfl)
      have k0 := (hC.cell (cellLt k0)).trans k0
      clear hdep hold
      go_simp
      exact ⟨_, rfl, Below.refl _ _, rfl⟩
    | 12, _ =>
      refine owes_plain rfl rfl fun ac_ W hC hold hdep => ?_
      obtain ⟨_, (hd11 : _ = (.agg #[.int .i64 f] : Value))⟩ := hdep 11 18 (by kernel_rfl)
      clear hdep hold
      go_simp
      refine (show Calls _ _ _ _ _ from Hq.out W).mono ?_
      rintro e_ w_ ⟨rfl, hb_⟩
      exact ⟨_, rfl, hb_, rfl⟩
    | 13, _ =>
      refine owes_plain rfl rfl fun ac_ W hC hold hdep => ?_
      obtain ⟨_, (hd12 : _ = (.bool q : Value))⟩ := hdep 12 19 (by kernel_rfl)
      clear hdep hold
      go_simp
      exact ⟨_, rfl, Below.refl _ _, rfl⟩
    | 14, _ =>
      refine owes_plain rfl rfl fun ac_ W hC hold hdep => ?_
      have g3 := (hC.cell (cellLt g3)).trans g3
      clear hdep hold
      go_simp
      exact ⟨_, rfl, Below.refl _ _, rfl⟩
    | 15, _ =>
      refine owes_plain rfl rfl fun ac_ W hC hold hdep => ?_
      obtain ⟨_, (hd13 : _ = (.bool (!q) : Value))⟩ := hdep 13 20 (by kernel_rfl)
      obtain ⟨_, (hd14 : _ = (errV (some (S 13)) : Value))⟩ := hdep 14 21 (by kernel_rfl)
      clear hdep hold
      go_simp
      refine (show Calls _ _ _ _ _ from must_rule _ _ W).mono ?_
      rintro e_ w_ ⟨v, rfl, hr_, hb_⟩
      exact ⟨_, rfl, hb_, hr_⟩
    | 16, _ =>
      refine owes_plain rfl rfl fun ac_ W hC hold hdep => ?_
      obtain ⟨_, (hd5 : RuleV p (some (S 8)) _ W)⟩ := hdep 5 12 (by kernel_rfl)
      obtain ⟨_, (hd10 : RuleV (!u) (some (S 12)) _ W)⟩ := hdep 10 17 (by kernel_rfl)
      obtain ⟨_, (hd15 : RuleV (!q) (some (S 13)) _ W)⟩ := hdep 15 22 (by kernel_rfl)
      obtain ⟨rb5, rc5, re5, rp5, rq5⟩ := hd5
      obtain ⟨rb10, rc10, re10, rp10, rq10⟩ := hd10
      obtain ⟨rb15, rc15, re15, rp15, rq15⟩ := hd15
      clear hdep hold
      go_simp
      exact ⟨_, rfl, (Below.refl _ _).alloc (Nat.le_refl _) _, rules3 ⟨_, _, rfl, rp5, rq5⟩ ⟨_, _, rfl, rp10, rq10⟩ ⟨_, _, rfl, rp15, rq15⟩⟩
    | 17, _ =>
      refine owes_plain rfl rfl fun ac_ W hC hold hdep => ?_
      obtain ⟨_, (hd16 : RulesV [(p, some (S 8)), (!u, some (S 12)), (!q, some (S 13))] _ W)⟩ := hdep 16 23 (by kernel_rfl)
      have hf := first_rules _ _ W (by simp) hd16
      rw [HE.out.1] at hf
      obtain ⟨blk, k, h1e, h1r⟩ := hd16
      clear h1r
      rw [h1e] at hf
      replace hf := hide hf
      clear hdep hold
      go_simp
      refine Calls.mono hf.out ?_
      rintro e_ w_ ⟨rfl, hb_⟩
      exact ⟨_, rfl, hb_, rfl⟩
    | 18, _ =>
      refine owes_plain rfl rfl fun ac_ W hC hold hdep => ?_
      obtain ⟨_, (hd1 : _ = (.int .i64 (onlyI f 23) : Value))⟩ := hdep 1 8 (by kernel_rfl)
      obtain ⟨_, (hd17 : _ = (errV (E.map S) : Value))⟩ := hdep 17 24 (by kernel_rfl)
      clear hdep hold
      go_simp
      refine (show Calls _ _ _ _ _ from told_z S (onlyI f 23) E W (H.out.mono (hB1.trans (hC.mono hB1.size))) HE.out.2 z Hz.out).mono ?_
      rintro e_ w_ ⟨rfl, rfl⟩
      exact ⟨_, rfl, Below.refl _ _, rfl⟩
    | 19, _ =>
      refine owes_plain rfl rfl fun ac_ W hC hold hdep => ?_
      obtain ⟨_, (hd18 : _ = (.tuple #[.int .i64 z, .int .i64 (errno E)] : Value))⟩ := hdep 18 25 (by kernel_rfl)
      clear hdep hold
      go_simp
      exact ⟨_, rfl, Below.refl _ _, rfl⟩
    | 20, _ =>
      refine owes_plain rfl rfl fun ac_ W hC hold hdep => ?_
      obtain ⟨_, (hd18 : _ = (.tuple #[.int .i64 z, .int .i64 (errno E)] : Value))⟩ := hdep 18 25 (by kernel_rfl)
      clear hdep hold
      go_simp
      exact ⟨_, rfl, Below.refl _ _, rfl⟩
    | k + 21, hk => exact absurd hk (by omega)
  case' hfin_3 =>
    intro fv W hC hold hval
    have v19 : (fv 26) = (.int .i64 z : Value) := hval 19 _ (by omega) rfl
    have v20 : (fv 27) = (.int .i64 (errno E) : Value) := hval 20 _ (by omega) rfl
    clear hval hold
    simp only [List.drop_succ_cons, List.drop_zero, List.size_toArray, List.length_cons, List.length_nil, Nat.reduceAdd]
    simp only [List.range, List.range.loop]
    simp only [List.map_cons, List.map_nil]
  go_wp2_with fail
  go_ret2
  exact ⟨by simp [v19, v20], hB1.trans (hC.mono hB1.size)⟩

def markDownE (f : Int) : Option Nat := if inB f 23 = true then none else some 8
def markDownO (f : Int) (last : Bool) : Int := if last = true then bits .or .i64 (onlyI f 23) 8 else onlyI f 23
def markDownF (f : Int) (last : Bool) : Int × Int := (if (markDownE f).isSome then 0 else markDownO f last, errno (markDownE f))

def VMarkDown (S : Nat → Addr) (f o z : Int) (p : Bool) (E : Option Nat) : Nat → Value → (Nat → Value) → World → Prop
  | 0, v, _, W => v = .int .i64 o
  | 1, v, _, W => v = .agg #[.int .i64 f]
  | 2, v, _, W => v = .bool p
  | 3, v, _, W => v = errV (some (S 8))
  | 4, v, _, W => RuleV p (some (S 8)) v W
  | 5, v, _, W => RulesV [(p, some (S 8))] v W
  | 6, v, _, W => v = errV (E.map S)
  | 7, v, _, W => v = .tuple #[.int .i64 z, .int .i64 (errno E)]
  | 8, v, _, W => v = .int .i64 z
  | 9, v, _, W => v = .int .i64 (errno E)
  | _, _, _, _ => True


set_option maxRecDepth 100000 in
set_option maxHeartbeats 4000000 in
theorem markDown_calls (S : Nat → Addr) (f : Int) (last : Bool) (w : World) (h : Sents S w) : Calls Tryz.prog 262 #[.int .i64 f, .bool last] w (Rt w (.tuple #[.int .i64 (markDownF f last).1, .int .i64 (markDownF f last).2])) := by
  have g1 := (h.1 8 (by decide)).1
  obtain ⟨p, hp⟩ : ∃ p, p = inB f 23 := ⟨_, rfl⟩
  obtain ⟨E, hE⟩ : ∃ E, E = markDownE f := ⟨_, rfl⟩
  have HE := hide (show saysE S [(p, some (S 8))] E by
    rw [hE, markDownE, ← hp]
    refine ⟨?_, ?_⟩
    · cases p <;> rfl
    · cases p <;> (intro g hg; cases hg) <;> decide)
  obtain ⟨o, ho⟩ : ∃ o, o = markDownO f last := ⟨_, rfl⟩
  obtain ⟨z, hz⟩ : ∃ z, z = (markDownF f last).1 := ⟨_, rfl⟩
  have hn : (markDownF f last).2 = errno E := by rw [markDownF, hE]
  rw [← hz, hn]
  have Hz := hide (show (if E.isSome then 0 else o) = z by rw [hz, markDownF, hE, ho])
  have Hp := hide (show ∀ W, Calls Tryz.prog 185 #[.agg #[.int .i64 f], .int .i64 23] W (Rt W (.bool p)) from fun W => by rw [hp]; exact setIsIn_calls f 23 W)
  have H := hide h
  have Hoo := hide ho
  clear h hp hE hz hn ho
  go_enter Tryz.func262, Tryz.ntmps262
  go_wp2_with fail
  refine (only_calls f 23 _ (by decide) (by decide)).mono ?_
  rintro e_ w1 ⟨rfl, hb1⟩
  have hB1 : Below w.heap.size w w1 := Below.trans (by ((repeat' (first | exact Below.refl _ _ | assumption | (refine Below.drew ?_) | (refine Below.alloc ?_ ?_ _) | (refine Below.setCell ?_ ?_ _) | (refine Below.step (W := ?hW) ?hq ?_ ?_; case hq => assumption))) <;> (first | (simp; done) | (simp; omega) | (simp at *; omega)))) (hb1.mono (by simp))
  have k0 : w1.cell? ⟨w.heap.size, 0, none⟩ = some (.int .i64 f) := (hb1.cell (by simp)).trans (by simp)
  replace g1 := (hB1.cell (cellLt g1)).trans g1
  clear hb1
  have Hoo := Hoo.out
  cases last
  all_goals simp only [markDownO, if_true, if_false, Bool.false_eq_true] at Hoo
  all_goals go_wp2_with fail
  all_goals rw [← Hoo]
  all_goals clear Hoo
  · refine wp_region_pred 10 (fun W => Below w1.heap.size w1 W) (fun W W' => Below W.heap.size W W') (VMarkDown S f o z p E) (by kernel_rfl) (by kernel_rfl) (Below.refl _ _).drew
      (fun W W' h hg => h.trans (hg.mono h.size)) ?hV_4 (fun W => Below.refl _ _) ?how_4 ?hfin_4
    case hV_4 =>
      intro i_ v_ g_ W W' hg h
      match i_, h with
      | 0, h => exact h
      | 1, h => exact h
      | 2, h => exact h
      | 3, h => exact h
      | 4, h => exact RuleV.mono h hg
      | 5, h => exact RulesV.mono h hg
      | 6, h => exact h
      | 7, h => exact h
      | 8, h => exact h
      | 9, h => exact h
      | _ + 10, _ => trivial
    case how_4 =>
      intro i_ hi_
      match i_, hi_ with
      | 0, _ =>
        refine owes_plain rfl rfl fun ac_ W hC hold hdep => ?_
        have hs7 := hold 7 (by kernel_rfl)
        clear hdep hold
        go_simp
        exact ⟨_, rfl, Below.refl _ _, rfl⟩
      | 1, _ =>
        refine owes_plain rfl rfl fun ac_ W hC hold hdep => ?_
        have hs6 := hold 6 (by kernel_rfl)
        have k0 := (hC.cell (cellLt k0)).trans k0
        clear hdep hold
        go_simp
        exact ⟨_, rfl, Below.refl _ _, rfl⟩
      | 2, _ =>
        refine owes_plain rfl rfl fun ac_ W hC hold hdep => ?_
        obtain ⟨_, (hd1 : _ = (.agg #[.int .i64 f] : Value))⟩ := hdep 1 16 (by kernel_rfl)
        clear hdep hold
        go_simp
        refine (show Calls _ _ _ _ _ from Hp.out W).mono ?_
        rintro e_ w_ ⟨rfl, hb_⟩
        exact ⟨_, rfl, hb_, rfl⟩
      | 3, _ =>
        refine owes_plain rfl rfl fun ac_ W hC hold hdep => ?_
        have g1 := (hC.cell (cellLt g1)).trans g1
        clear hdep hold
        go_simp
        exact ⟨_, rfl, Below.refl _ _, rfl⟩
      | 4, _ =>
        refine owes_plain rfl rfl fun ac_ W hC hold hdep => ?_
        obtain ⟨_, (hd2 : _ = (.bool p : Value))⟩ := hdep 2 17 (by kernel_rfl)
        obtain ⟨_, (hd3 : _ = (errV (some (S 8)) : Value))⟩ := hdep 3 18 (by kernel_rfl)
        clear hdep hold
        go_simp
        refine (show Calls _ _ _ _ _ from must_rule _ _ W).mono ?_
        rintro e_ w_ ⟨v, rfl, hr_, hb_⟩
        exact ⟨_, rfl, hb_, hr_⟩
      | 5, _ =>
        refine owes_plain rfl rfl fun ac_ W hC hold hdep => ?_
        obtain ⟨_, (hd4 : RuleV p (some (S 8)) _ W)⟩ := hdep 4 19 (by kernel_rfl)
        obtain ⟨rb4, rc4, re4, rp4, rq4⟩ := hd4
        clear hdep hold
        go_simp
        exact ⟨_, rfl, (Below.refl _ _).alloc (Nat.le_refl _) _, rules1 ⟨_, _, rfl, rp4, rq4⟩⟩
      | 6, _ =>
        refine owes_plain rfl rfl fun ac_ W hC hold hdep => ?_
        obtain ⟨_, (hd5 : RulesV [(p, some (S 8))] _ W)⟩ := hdep 5 20 (by kernel_rfl)
        have hf := first_rules _ _ W (by simp) hd5
        rw [HE.out.1] at hf
        obtain ⟨blk, k, h1e, h1r⟩ := hd5
        clear h1r
        rw [h1e] at hf
        replace hf := hide hf
        clear hdep hold
        go_simp
        refine Calls.mono hf.out ?_
        rintro e_ w_ ⟨rfl, hb_⟩
        exact ⟨_, rfl, hb_, rfl⟩
      | 7, _ =>
        refine owes_plain rfl rfl fun ac_ W hC hold hdep => ?_
        obtain ⟨_, (hd0 : _ = (.int .i64 o : Value))⟩ := hdep 0 15 (by kernel_rfl)
        obtain ⟨_, (hd6 : _ = (errV (E.map S) : Value))⟩ := hdep 6 21 (by kernel_rfl)
        clear hdep hold
        go_simp
        refine (show Calls _ _ _ _ _ from told_z S o E W (H.out.mono (hB1.trans (hC.mono hB1.size))) HE.out.2 z Hz.out).mono ?_
        rintro e_ w_ ⟨rfl, rfl⟩
        exact ⟨_, rfl, Below.refl _ _, rfl⟩
      | 8, _ =>
        refine owes_plain rfl rfl fun ac_ W hC hold hdep => ?_
        obtain ⟨_, (hd7 : _ = (.tuple #[.int .i64 z, .int .i64 (errno E)] : Value))⟩ := hdep 7 22 (by kernel_rfl)
        clear hdep hold
        go_simp
        exact ⟨_, rfl, Below.refl _ _, rfl⟩
      | 9, _ =>
        refine owes_plain rfl rfl fun ac_ W hC hold hdep => ?_
        obtain ⟨_, (hd7 : _ = (.tuple #[.int .i64 z, .int .i64 (errno E)] : Value))⟩ := hdep 7 22 (by kernel_rfl)
        clear hdep hold
        go_simp
        exact ⟨_, rfl, Below.refl _ _, rfl⟩
      | k + 10, hk => exact absurd hk (by omega)
    case' hfin_4 =>
      intro fv W hC hold hval
      have v8 : (fv 23) = (.int .i64 z : Value) := hval 8 _ (by omega) rfl
      have v9 : (fv 24) = (.int .i64 (errno E) : Value) := hval 9 _ (by omega) rfl
      clear hval hold
      simp only [List.drop_succ_cons, List.drop_zero, List.size_toArray, List.length_cons, List.length_nil, Nat.reduceAdd]
      simp only [List.range, List.range.loop]
      simp only [List.map_cons, List.map_nil]
    go_wp2_with fail
    go_ret2
    exact ⟨by simp [v8, v9], hB1.trans (hC.mono hB1.size)⟩
  · refine wp_region_pred 10 (fun W => Below w1.heap.size w1 W) (fun W W' => Below W.heap.size W W') (VMarkDown S f o z p E) (by kernel_rfl) (by kernel_rfl) (Below.refl _ _).drew
      (fun W W' h hg => h.trans (hg.mono h.size)) ?hV_5 (fun W => Below.refl _ _) ?how_5 ?hfin_5
    case hV_5 =>
      intro i_ v_ g_ W W' hg h
      match i_, h with
      | 0, h => exact h
      | 1, h => exact h
      | 2, h => exact h
      | 3, h => exact h
      | 4, h => exact RuleV.mono h hg
      | 5, h => exact RulesV.mono h hg
      | 6, h => exact h
      | 7, h => exact h
      | 8, h => exact h
      | 9, h => exact h
      | _ + 10, _ => trivial
    case how_5 =>
      intro i_ hi_
      match i_, hi_ with
      | 0, _ =>
        refine owes_plain rfl rfl fun ac_ W hC hold hdep => ?_
        have hs7 := hold 7 (by kernel_rfl)
        clear hdep hold
        go_simp
        exact ⟨_, rfl, Below.refl _ _, rfl⟩
      | 1, _ =>
        refine owes_plain rfl rfl fun ac_ W hC hold hdep => ?_
        have hs6 := hold 6 (by kernel_rfl)
        have k0 := (hC.cell (cellLt k0)).trans k0
        clear hdep hold
        go_simp
        exact ⟨_, rfl, Below.refl _ _, rfl⟩
      | 2, _ =>
        refine owes_plain rfl rfl fun ac_ W hC hold hdep => ?_
        obtain ⟨_, (hd1 : _ = (.agg #[.int .i64 f] : Value))⟩ := hdep 1 16 (by kernel_rfl)
        clear hdep hold
        go_simp
        refine (show Calls _ _ _ _ _ from Hp.out W).mono ?_
        rintro e_ w_ ⟨rfl, hb_⟩
        exact ⟨_, rfl, hb_, rfl⟩
      | 3, _ =>
        refine owes_plain rfl rfl fun ac_ W hC hold hdep => ?_
        have g1 := (hC.cell (cellLt g1)).trans g1
        clear hdep hold
        go_simp
        exact ⟨_, rfl, Below.refl _ _, rfl⟩
      | 4, _ =>
        refine owes_plain rfl rfl fun ac_ W hC hold hdep => ?_
        obtain ⟨_, (hd2 : _ = (.bool p : Value))⟩ := hdep 2 17 (by kernel_rfl)
        obtain ⟨_, (hd3 : _ = (errV (some (S 8)) : Value))⟩ := hdep 3 18 (by kernel_rfl)
        clear hdep hold
        go_simp
        refine (show Calls _ _ _ _ _ from must_rule _ _ W).mono ?_
        rintro e_ w_ ⟨v, rfl, hr_, hb_⟩
        exact ⟨_, rfl, hb_, hr_⟩
      | 5, _ =>
        refine owes_plain rfl rfl fun ac_ W hC hold hdep => ?_
        obtain ⟨_, (hd4 : RuleV p (some (S 8)) _ W)⟩ := hdep 4 19 (by kernel_rfl)
        obtain ⟨rb4, rc4, re4, rp4, rq4⟩ := hd4
        clear hdep hold
        go_simp
        exact ⟨_, rfl, (Below.refl _ _).alloc (Nat.le_refl _) _, rules1 ⟨_, _, rfl, rp4, rq4⟩⟩
      | 6, _ =>
        refine owes_plain rfl rfl fun ac_ W hC hold hdep => ?_
        obtain ⟨_, (hd5 : RulesV [(p, some (S 8))] _ W)⟩ := hdep 5 20 (by kernel_rfl)
        have hf := first_rules _ _ W (by simp) hd5
        rw [HE.out.1] at hf
        obtain ⟨blk, k, h1e, h1r⟩ := hd5
        clear h1r
        rw [h1e] at hf
        replace hf := hide hf
        clear hdep hold
        go_simp
        refine Calls.mono hf.out ?_
        rintro e_ w_ ⟨rfl, hb_⟩
        exact ⟨_, rfl, hb_, rfl⟩
      | 7, _ =>
        refine owes_plain rfl rfl fun ac_ W hC hold hdep => ?_
        obtain ⟨_, (hd0 : _ = (.int .i64 o : Value))⟩ := hdep 0 15 (by kernel_rfl)
        obtain ⟨_, (hd6 : _ = (errV (E.map S) : Value))⟩ := hdep 6 21 (by kernel_rfl)
        clear hdep hold
        go_simp
        refine (show Calls _ _ _ _ _ from told_z S o E W (H.out.mono (hB1.trans (hC.mono hB1.size))) HE.out.2 z Hz.out).mono ?_
        rintro e_ w_ ⟨rfl, rfl⟩
        exact ⟨_, rfl, Below.refl _ _, rfl⟩
      | 8, _ =>
        refine owes_plain rfl rfl fun ac_ W hC hold hdep => ?_
        obtain ⟨_, (hd7 : _ = (.tuple #[.int .i64 z, .int .i64 (errno E)] : Value))⟩ := hdep 7 22 (by kernel_rfl)
        clear hdep hold
        go_simp
        exact ⟨_, rfl, Below.refl _ _, rfl⟩
      | 9, _ =>
        refine owes_plain rfl rfl fun ac_ W hC hold hdep => ?_
        obtain ⟨_, (hd7 : _ = (.tuple #[.int .i64 z, .int .i64 (errno E)] : Value))⟩ := hdep 7 22 (by kernel_rfl)
        clear hdep hold
        go_simp
        exact ⟨_, rfl, Below.refl _ _, rfl⟩
      | k + 10, hk => exact absurd hk (by omega)
    case' hfin_5 =>
      intro fv W hC hold hval
      have v8 : (fv 23) = (.int .i64 z : Value) := hval 8 _ (by omega) rfl
      have v9 : (fv 24) = (.int .i64 (errno E) : Value) := hval 9 _ (by omega) rfl
      clear hval hold
      simp only [List.drop_succ_cons, List.drop_zero, List.size_toArray, List.length_cons, List.length_nil, Nat.reduceAdd]
      simp only [List.range, List.range.loop]
      simp only [List.map_cons, List.map_nil]
    go_wp2_with fail
    go_ret2
    exact ⟨by simp [v8, v9], hB1.trans (hC.mono hB1.size)⟩
end Go.Proofs.YtllfaffbaijgfaaGreatDoor
