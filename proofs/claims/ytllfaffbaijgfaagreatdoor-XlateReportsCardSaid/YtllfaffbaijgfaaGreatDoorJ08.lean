/- signs.isSix, Up, Class, Down, MarkUp, MarkDown. A whole struct stored in one step. No program text. -/
import Derived.Test.YtllfaffbaijgfaaGreatDoorJ07
import Derived.Test.YtllfaffbaijgfaaGreatDoorJ05
import Derived.Laws.Tables
import Derived.Deep.WholeRow
set_option linter.unusedVariables false
set_option linter.unusedSimpArgs false
namespace Go.Proofs.YtllfaffbaijgfaaGreatDoor
open Go Go.RowKit Go.Shelf

theorem wp_named {P : Program} {c : Code} {Q : Exit → Act → World → Prop} {a : Act} {W : World} (h : ∀ w1, w1 = W → c.wp P Q a w1) : c.wp P Q a W := h W rfl
theorem RulesV_new {l : List (Bool × Option Addr)} {vs : List Value} {W : World} {t : TypeId} (hlen : l.length = vs.length) (h : ∀ (i : Nat) (x : Bool × Option Addr), l[i]? = some x → ∃ r, vs[i]? = some r ∧ RuleV x.1 x.2 r W) :
    RulesV l (.slice (some ⟨W.heap.size, 0, none⟩) vs.length vs.length) (W.alloc (.cells vs.toArray t)) := by
  refine ⟨W.heap.size, vs.length, rfl, hlen.symm, by simp, fun i x hx => ?_⟩
  obtain ⟨r, hr, hR⟩ := h i x hx
  exact ⟨r, by simp [hr], hR.mono ((Below.refl _ _).alloc (Nat.le_refl _) _)⟩
theorem rules1 {W : World} {t : TypeId} {p : Bool} {e : Option Addr} {a : Value} (h1 : RuleV p e a W) : RulesV [(p, e)] (.slice (some ⟨W.heap.size, 0, none⟩) 1 1) (W.alloc (.cells #[a] t)) :=
  RulesV_new (vs := [a]) rfl fun i x hx => by
    match i, hx with
    | 0, hx => cases hx; exact ⟨a, rfl, h1⟩
    | _ + 1, hx => simp at hx
theorem rules2 {W : World} {t : TypeId} {p q : Bool} {e f : Option Addr} {a b : Value} (h1 : RuleV p e a W) (h2 : RuleV q f b W) : RulesV [(p, e), (q, f)] (.slice (some ⟨W.heap.size, 0, none⟩) 2 2) (W.alloc (.cells #[a, b] t)) :=
  RulesV_new (vs := [a, b]) rfl fun i x hx => by
    match i, hx with
    | 0, hx => cases hx; exact ⟨a, rfl, h1⟩
    | 1, hx => cases hx; exact ⟨b, rfl, h2⟩
    | _ + 2, hx => simp at hx
theorem rules3 {W : World} {t : TypeId} {p q r : Bool} {e f g : Option Addr} {a b c : Value} (h1 : RuleV p e a W) (h2 : RuleV q f b W) (h3 : RuleV r g c W) : RulesV [(p, e), (q, f), (r, g)] (.slice (some ⟨W.heap.size, 0, none⟩) 3 3) (W.alloc (.cells #[a, b, c] t)) :=
  RulesV_new (vs := [a, b, c]) rfl fun i x hx => by
    match i, hx with
    | 0, hx => cases hx; exact ⟨a, rfl, h1⟩
    | 1, hx => cases hx; exact ⟨b, rfl, h2⟩
    | 2, hx => cases hx; exact ⟨c, rfl, h3⟩
    | _ + 3, hx => simp at hx
/-- what a list of rules tells, against the error that the code is said to have -/
def saysE (S : Nat → Addr) (l : List (Bool × Option Addr)) (E : Option Nat) : Prop := rulesE l = E.map S ∧ ∀ g, E = some g → g ∈ signErrs

def inB (f all : Int) : Bool := decide (0 ≤ f) && bits .andNot .i64 f all == 0
def hasB (f one : Int) : Bool := bits .and .i64 f one != 0
def prioI (f : Int) : Int := bits .and .i64 (IntKind.i64.wrap (f.tdiv 128)) 3
def isSixB (f : Int) : Bool := inB f 508351 && decide (prioI f < 3)

def VIsSix (S : Nat → Addr) (f : Int) (p q : Bool) (B : Nat) : Nat → Value → (Nat → Value) → World → Prop
  | 0, v, _, W => v = .agg #[.int .i64 f]
  | 1, v, _, W => v = .bool p
  | 2, v, _, W => v = .bool p
  | 3, v, _, W => p = true → (v = .pointer (some ⟨B, 0, none⟩))
  | 4, v, _, W => p = true → (v = .int .i64 f)
  | 5, v, _, W => p = true → (v = .int .i64 (IntKind.i64.wrap (f.tdiv 128)))
  | 6, v, _, W => p = true → (v = .int .i64 (prioI f))
  | 7, v, _, W => p = true → (v = .bool q)
  | 8, v, _, W => v = .bool (p && q)
  | 9, v, _, W => v = errV (some (S 8))
  | 10, v, _, W => RuleV (p && q) (some (S 8)) v W
  | _, _, _, _ => True


set_option maxRecDepth 100000 in
set_option maxHeartbeats 4000000 in
theorem isSix_rule (S : Nat → Addr) (f : Int) (w : World) (h : Sents S w) : Calls Tryz.prog 164 #[.agg #[.int .i64 f]] w (fun en w' => ∃ v, en = .returned v ∧ RuleV (isSixB f) (some (S 8)) v w' ∧ Below w.heap.size w w') := by
  have g1 := (h.1 8 (by decide)).1
  obtain ⟨p, hp⟩ : ∃ p, p = inB f 508351 := ⟨_, rfl⟩
  obtain ⟨q, hq⟩ : ∃ q, q = decide (prioI f < 3) := ⟨_, rfl⟩
  have hpq : isSixB f = (p && q) := by rw [isSixB, hp, hq]
  rw [hpq]
  have Hp := hide (show ∀ W, Calls Tryz.prog 185 #[.agg #[.int .i64 f], .int .i64 508351] W (Rt W (.bool p)) from fun W => by rw [hp]; exact setIsIn_calls f 508351 W)
  have Hq := hide hq
  clear h hp hq hpq
  go_enter Tryz.func164, Tryz.ntmps164
  go_wp2_with fail
  obtain ⟨w1, hw1⟩ : ∃ w1, w.alloc (.cells #[.int .i64 f] 210) = w1 := ⟨_, rfl⟩
  rw [hw1]
  have hB1 : Below w.heap.size w w1 := by rw [← hw1]; ((repeat' (first | exact Below.refl _ _ | assumption | (refine Below.drew ?_) | (refine Below.alloc ?_ ?_ _) | (refine Below.setCell ?_ ?_ _) | (refine Below.step (W := ?hW) ?hq ?_ ?_; case hq => assumption))) <;> (first | (simp; done) | (simp; omega) | (simp at *; omega)))
  have k0 : w1.cell? ⟨w.heap.size, 0, none⟩ = some (.int .i64 f) := by rw [← hw1]; simp
  replace g1 := (hB1.cell (cellLt g1)).trans g1
  clear hw1
  obtain ⟨B, hB⟩ : ∃ B, B = w.heap.size := ⟨_, rfl⟩
  rw [← hB] at k0 ⊢
  clear hB
  refine wp_region_pred 11 (fun W => Below w1.heap.size w1 W) (fun W W' => Below W.heap.size W W') (VIsSix S f p q B) (by kernel_rfl) (by kernel_rfl) (Below.refl _ _).drew
    (fun W W' h hg => h.trans (hg.mono h.size)) ?hV_1 (fun W => Below.refl _ _) ?how_1 ?hfin_1
  case hV_1 =>
    intro i_ v_ g_ W W' hg h
    match i_, h with
    | 0, h => exact h
    | 1, h => exact h
    | 2, h => exact h
    | 3, h => exact h
    | 4, h => exact h
    | 5, h => exact h
    | 6, h => exact h
    | 7, h => exact h
    | 8, h => exact h
    | 9, h => exact h
    | 10, h => exact RuleV.mono h hg
    | _ + 11, _ => trivial
  case how_1 =>
    intro i_ hi_
    match i_, hi_ with
    | 0, _ =>
      refine owes_plain rfl rfl fun ac_ W hC hold hdep => ?_
      have hs1 := hold 1 (by kernel_rfl)
      have k0 := (hC.cell (cellLt k0)).trans k0
      clear hdep hold
      go_simp
      exact ⟨_, rfl, Below.refl _ _, rfl⟩
    | 1, _ =>
      refine owes_plain rfl rfl fun ac_ W hC hold hdep => ?_
      obtain ⟨_, (hd0 : _ = (.agg #[.int .i64 f] : Value))⟩ := hdep 0 3 (by kernel_rfl)
      clear hdep hold
      go_simp
      refine (show Calls _ _ _ _ _ from Hp.out W).mono ?_
      rintro e_ w_ ⟨rfl, hb_⟩
      exact ⟨_, rfl, hb_, rfl⟩
    | 2, _ =>
      refine owes_plain rfl rfl fun ac_ W hC hold hdep => ?_
      obtain ⟨_, (hd1 : _ = (.bool p : Value))⟩ := hdep 1 4 (by kernel_rfl)
      clear hdep hold
      go_simp
      exact ⟨_, rfl, Below.refl _ _, rfl⟩
    | 3, _ =>
      cases p
      · exact owes_no (s := 5) rfl rfl (by kernel_rfl) (fun v gg w h => h) (fun gg w => fun h => by cases h)
      · refine owes_yes (s := 5) rfl rfl (by kernel_rfl) (fun v gg w h => h) fun ac_ W hC hold hdep => ?_
        have hs1 := hold 1 (by kernel_rfl)
        clear hdep hold
        go_simp
        exact ⟨_, rfl, Below.refl _ _, fun _ => rfl⟩
    | 4, _ =>
      cases p
      · exact owes_no (s := 5) rfl rfl (by kernel_rfl) (fun v gg w h => h) (fun gg w => fun h => by cases h)
      · refine owes_yes (s := 5) rfl rfl (by kernel_rfl) (fun v gg w h => h) fun ac_ W hC hold hdep => ?_
        obtain ⟨_, (hd3 : true = true → (_ = (.pointer (some ⟨B, 0, none⟩) : Value)))⟩ := hdep 3 6 (by kernel_rfl)
        replace hd3 := hd3 rfl
        have k0 := (hC.cell (cellLt k0)).trans k0
        clear hdep hold
        go_simp
        exact ⟨_, rfl, Below.refl _ _, fun _ => rfl⟩
    | 5, _ =>
      cases p
      · exact owes_no (s := 5) rfl rfl (by kernel_rfl) (fun v gg w h => h) (fun gg w => fun h => by cases h)
      · refine owes_yes (s := 5) rfl rfl (by kernel_rfl) (fun v gg w h => h) fun ac_ W hC hold hdep => ?_
        obtain ⟨_, (hd4 : true = true → (_ = (.int .i64 f : Value)))⟩ := hdep 4 7 (by kernel_rfl)
        replace hd4 := hd4 rfl
        clear hdep hold
        go_simp
        exact ⟨_, rfl, Below.refl _ _, fun _ => rfl⟩
    | 6, _ =>
      cases p
      · exact owes_no (s := 5) rfl rfl (by kernel_rfl) (fun v gg w h => h) (fun gg w => fun h => by cases h)
      · refine owes_yes (s := 5) rfl rfl (by kernel_rfl) (fun v gg w h => h) fun ac_ W hC hold hdep => ?_
        obtain ⟨_, (hd5 : true = true → (_ = (.int .i64 (IntKind.i64.wrap (f.tdiv 128)) : Value)))⟩ := hdep 5 8 (by kernel_rfl)
        replace hd5 := hd5 rfl
        clear hdep hold
        go_simp
        exact ⟨_, rfl, Below.refl _ _, fun _ => rfl⟩
    | 7, _ =>
      cases p
      · exact owes_no (s := 5) rfl rfl (by kernel_rfl) (fun v gg w h => h) (fun gg w => fun h => by cases h)
      · refine owes_yes (s := 5) rfl rfl (by kernel_rfl) (fun v gg w h => h) fun ac_ W hC hold hdep => ?_
        obtain ⟨_, (hd6 : true = true → (_ = (.int .i64 (prioI f) : Value)))⟩ := hdep 6 9 (by kernel_rfl)
        replace hd6 := hd6 rfl
        clear hdep hold
        go_simp
        refine ⟨_, rfl, Below.refl _ _, fun _ => ?_⟩
        show Value.bool _ = Value.bool q
        rw [Hq.out]
    | 8, _ =>
      cases p
      · refine owes_plain rfl rfl fun ac_ W hC hold hdep => ?_
        obtain ⟨_, (hd2 : _ = (.bool false : Value))⟩ := hdep 2 5 (by kernel_rfl)
        clear hdep hold
        go_simp
        exact ⟨_, rfl, Below.refl _ _, rfl⟩
      · refine owes_plain rfl rfl fun ac_ W hC hold hdep => ?_
        obtain ⟨_, (hd2 : _ = (.bool true : Value))⟩ := hdep 2 5 (by kernel_rfl)
        obtain ⟨_, (hd7 : true = true → (_ = (.bool q : Value)))⟩ := hdep 7 10 (by kernel_rfl)
        replace hd7 := hd7 rfl
        clear hdep hold
        go_simp
        exact ⟨_, rfl, Below.refl _ _, rfl⟩
    | 9, _ =>
      refine owes_plain rfl rfl fun ac_ W hC hold hdep => ?_
      have g1 := (hC.cell (cellLt g1)).trans g1
      clear hdep hold
      go_simp
      exact ⟨_, rfl, Below.refl _ _, rfl⟩
    | 10, _ =>
      refine owes_plain rfl rfl fun ac_ W hC hold hdep => ?_
      obtain ⟨_, (hd8 : _ = (.bool (p && q) : Value))⟩ := hdep 8 11 (by kernel_rfl)
      obtain ⟨_, (hd9 : _ = (errV (some (S 8)) : Value))⟩ := hdep 9 12 (by kernel_rfl)
      clear hdep hold
      go_simp
      refine (show Calls _ _ _ _ _ from must_rule _ _ W).mono ?_
      rintro e_ w_ ⟨v, rfl, hr_, hb_⟩
      exact ⟨_, rfl, hb_, hr_⟩
    | k + 11, hk => exact absurd hk (by omega)
  case' hfin_1 =>
    intro fv W hC hold hval
    have v10 : RuleV (p && q) (some (S 8)) (fv 13) W := hval 10 _ (by omega) rfl
    clear hval hold
    simp only [List.drop_succ_cons, List.drop_zero, List.size_toArray, List.length_cons, List.length_nil, Nat.reduceAdd]
    simp only [List.range, List.range.loop]
    simp only [List.map_cons, List.map_nil]
  obtain ⟨b1, c1, h1e, h1b, h1c⟩ := v10
  go_wp2_with fail
  go_ret
  exact ⟨_, rfl, ⟨b1, c1, h1e, h1b, h1c⟩, hB1.trans (hC.mono hB1.size)⟩

theorem told_z (S : Nat → Addr) (v : Int) (e : Option Nat) (w : World) (h : Sents S w) (he : ∀ g, e = some g → g ∈ signErrs) (z : Int) (hz : (if e.isSome then 0 else v) = z) :
    Calls Tryz.prog 109 #[.int .i64 v, errV (e.map S)] w (Pu w (.tuple #[.int .i64 z, .int .i64 (errno e)])) := hz ▸ told_calls S v e w h he

def upE (f : Int) : Option Nat := if isSixB f = true then (if hasB f 32768 = true then some 5 else if hasB f 16 = true then none else some 6) else some 8
def upO (f : Int) : Int := if hasB f 475136 = true then bits .or .i64 (onlyI f 475175) 64 else onlyI f 475175
def upF (f : Int) : Int × Int := (if (upE f).isSome then 0 else upO f, errno (upE f))

def VUp (S : Nat → Addr) (f : Int) (p u q : Bool) (E : Option Nat) : Nat → Value → (Nat → Value) → World → Prop
  | 0, v, _, W => v = .agg #[.int .i64 f]
  | 1, v, _, W => RuleV p (some (S 8)) v W
  | 2, v, _, W => v = .agg #[.int .i64 f]
  | 3, v, _, W => v = .bool u
  | 4, v, _, W => v = .bool (!u)
  | 5, v, _, W => v = errV (some (S 5))
  | 6, v, _, W => RuleV (!u) (some (S 5)) v W
  | 7, v, _, W => v = .agg #[.int .i64 f]
  | 8, v, _, W => v = .bool q
  | 9, v, _, W => v = errV (some (S 6))
  | 10, v, _, W => RuleV q (some (S 6)) v W
  | 11, v, _, W => RulesV [(p, some (S 8)), (!u, some (S 5)), (q, some (S 6))] v W
  | 12, v, _, W => v = errV (E.map S)
  | _, _, _, _ => True


set_option maxRecDepth 100000 in
set_option maxHeartbeats 4000000 in
theorem up_calls (S : Nat → Addr) (f : Int) (w : World) (h : Sents S w) : Calls Tryz.prog 102 #[.int .i64 f] w (Rt w (.tuple #[.int .i64 (upF f).1, .int .i64 (upF f).2])) := by
  have g2 := (h.1 5 (by decide)).1
  have g3 := (h.1 6 (by decide)).1
  obtain ⟨p, hp⟩ : ∃ p, p = isSixB f := ⟨_, rfl⟩
  obtain ⟨u, hu⟩ : ∃ u, u = hasB f 32768 := ⟨_, rfl⟩
  obtain ⟨q, hq⟩ : ∃ q, q = hasB f 16 := ⟨_, rfl⟩
  obtain ⟨t, ht⟩ : ∃ t, t = hasB f 475136 := ⟨_, rfl⟩
  obtain ⟨E, hE⟩ : ∃ E, E = upE f := ⟨_, rfl⟩
  have HE := hide (show saysE S [(p, some (S 8)), (!u, some (S 5)), (q, some (S 6))] E by
    rw [hE, upE, ← hp, ← hu, ← hq]
    refine ⟨?_, ?_⟩
    · cases p <;> cases u <;> cases q <;> rfl
    · cases p <;> cases u <;> cases q <;> (intro g hg; cases hg) <;> decide)
  obtain ⟨z, hz⟩ : ∃ z, z = (upF f).1 := ⟨_, rfl⟩
  have hn : (upF f).2 = errno E := by rw [upF, hE]
  rw [← hz, hn]
  have Hz := hide (show t = false → (if E.isSome then 0 else onlyI f 475175) = z from fun h => by rw [hz, upF, upO, hE, ← ht, h]; rfl)
  have Hz' := hide (show t = true → (if E.isSome then 0 else bits .or .i64 (onlyI f 475175) 64) = z from fun h => by rw [hz, upF, upO, hE, ← ht, h]; rfl)
  clear hz hn
  have Hu := hide (show ∀ W, Calls Tryz.prog 165 #[.agg #[.int .i64 f], .int .i64 32768] W (Rt W (.bool u)) from fun W => by rw [hu]; exact has_calls f 32768 W)
  have Hq := hide (show ∀ W, Calls Tryz.prog 165 #[.agg #[.int .i64 f], .int .i64 16] W (Rt W (.bool q)) from fun W => by rw [hq]; exact has_calls f 16 W)
  have Ht := hide (show ∀ W, Calls Tryz.prog 165 #[.agg #[.int .i64 f], .int .i64 475136] W (Rt W (.bool t)) from fun W => by rw [ht]; exact has_calls f 475136 W)
  have Hi := hide (show ∀ W, Below w.heap.size w W → Calls Tryz.prog 164 #[.agg #[.int .i64 f]] W (fun en w' => ∃ v, en = .returned v ∧ RuleV p (some (S 8)) v w' ∧ Below W.heap.size W w') from fun W hW => by
    rw [hp]; exact isSix_rule S f W (h.mono hW))
  have H := hide h
  clear h hp hu hq ht hE
  go_enter Tryz.func102, Tryz.ntmps102
  go_wp2_with fail
  refine wp_named fun w1 hw1 => ?_
  have hB1 : Below w.heap.size w w1 := by rw [hw1]; ((repeat' (first | exact Below.refl _ _ | assumption | (refine Below.drew ?_) | (refine Below.alloc ?_ ?_ _) | (refine Below.setCell ?_ ?_ _) | (refine Below.step (W := ?hW) ?hq ?_ ?_; case hq => assumption))) <;> (first | (simp; done) | (simp; omega) | (simp at *; omega)))
  have k0 : w1.cell? ⟨w.heap.size, 0, none⟩ = some (.int .i64 f) := by rw [hw1]; simp
  replace g2 := (hB1.cell (cellLt g2)).trans g2
  replace g3 := (hB1.cell (cellLt g3)).trans g3
  clear hw1
  refine wp_region_pred 13 (fun W => Below w1.heap.size w1 W) (fun W W' => Below W.heap.size W W') (VUp S f p u q E) (by kernel_rfl) (by kernel_rfl) (Below.refl _ _).drew
    (fun W W' h hg => h.trans (hg.mono h.size)) ?hV_2 (fun W => Below.refl _ _) ?how_2 ?hfin_2
  case hV_2 =>
    intro i_ v_ g_ W W' hg h
    match i_, h with
    | 0, h => exact h
    | 1, h => exact RuleV.mono h hg
    | 2, h => exact h
    | 3, h => exact h
    | 4, h => exact h
    | 5, h => exact h
    | 6, h => exact RuleV.mono h hg
    | 7, h => exact h
    | 8, h => exact h
    | 9, h => exact h
    | 10, h => exact RuleV.mono h hg
    | 11, h => exact RulesV.mono h hg
    | 12, h => exact h
    | _ + 13, _ => trivial
  case how_2 =>
    intro i_ hi_
    match i_, hi_ with
    | 0, _ =>
      refine owes_plain rfl rfl fun ac_ W hC hold hdep => ?_
      have hs4 := hold 4 (by kernel_rfl)
      have k0 := (hC.cell (cellLt k0)).trans k0
      clear hdep hold
      go_simp
      exact ⟨_, rfl, Below.refl _ _, rfl⟩
    | 1, _ =>
      refine owes_plain rfl rfl fun ac_ W hC hold hdep => ?_
      obtain ⟨_, (hd0 : _ = (.agg #[.int .i64 f] : Value))⟩ := hdep 0 9 (by kernel_rfl)
      clear hdep hold
      go_simp
      refine (show Calls _ _ _ _ _ from Hi.out W (hB1.trans (hC.mono hB1.size))).mono ?_
      rintro e_ w_ ⟨v, rfl, hr_, hb_⟩
      exact ⟨_, rfl, hb_, hr_⟩
    | 2, _ =>
      refine owes_plain rfl rfl fun ac_ W hC hold hdep => ?_
      have hs4 := hold 4 (by kernel_rfl)
      have k0 := (hC.cell (cellLt k0)).trans k0
      clear hdep hold
      go_simp
      exact ⟨_, rfl, Below.refl _ _, rfl⟩
    | 3, _ =>
      refine owes_plain rfl rfl fun ac_ W hC hold hdep => ?_
      obtain ⟨_, (hd2 : _ = (.agg #[.int .i64 f] : Value))⟩ := hdep 2 11 (by kernel_rfl)
      clear hdep hold
      go_simp
      refine (show Calls _ _ _ _ _ from Hu.out W).mono ?_
      rintro e_ w_ ⟨rfl, hb_⟩
      exact ⟨_, rfl, hb_, rfl⟩
    | 4, _ =>
      refine owes_plain rfl rfl fun ac_ W hC hold hdep => ?_
      obtain ⟨_, (hd3 : _ = (.bool u : Value))⟩ := hdep 3 12 (by kernel_rfl)
      clear hdep hold
      go_simp
      exact ⟨_, rfl, Below.refl _ _, rfl⟩
    | 5, _ =>
      refine owes_plain rfl rfl fun ac_ W hC hold hdep => ?_
      have g2 := (hC.cell (cellLt g2)).trans g2
      clear hdep hold
      go_simp
      exact ⟨_, rfl, Below.refl _ _, rfl⟩
    | 6, _ =>
      refine owes_plain rfl rfl fun ac_ W hC hold hdep => ?_
      obtain ⟨_, (hd4 : _ = (.bool (!u) : Value))⟩ := hdep 4 13 (by kernel_rfl)
      obtain ⟨_, (hd5 : _ = (errV (some (S 5)) : Value))⟩ := hdep 5 14 (by kernel_rfl)
      clear hdep hold
      go_simp
      refine (show Calls _ _ _ _ _ from must_rule _ _ W).mono ?_
      rintro e_ w_ ⟨v, rfl, hr_, hb_⟩
      exact ⟨_, rfl, hb_, hr_⟩
    | 7, _ =>
      refine owes_plain rfl rfl fun ac_ W hC hold hdep => ?_
      have hs4 := hold 4 (by kernel_rfl)
      have k0 := (hC.cell (cellLt k0)).trans k0
      clear hdep hold
      go_simp
      exact ⟨_, rfl, Below.refl _ _, rfl⟩
    | 8, _ =>
      refine owes_plain rfl rfl fun ac_ W hC hold hdep => ?_
      obtain ⟨_, (hd7 : _ = (.agg #[.int .i64 f] : Value))⟩ := hdep 7 16 (by kernel_rfl)
      clear hdep hold
      go_simp
      refine (show Calls _ _ _ _ _ from Hq.out W).mono ?_
      rintro e_ w_ ⟨rfl, hb_⟩
      exact ⟨_, rfl, hb_, rfl⟩
    | 9, _ =>
      refine owes_plain rfl rfl fun ac_ W hC hold hdep => ?_
      have g3 := (hC.cell (cellLt g3)).trans g3
      clear hdep hold
      go_simp
      exact ⟨_, rfl, Below.refl _ _, rfl⟩
    | 10, _ =>
      refine owes_plain rfl rfl fun ac_ W hC hold hdep => ?_
      obtain ⟨_, (hd8 : _ = (.bool q : Value))⟩ := hdep 8 17 (by kernel_rfl)
      obtain ⟨_, (hd9 : _ = (errV (some (S 6)) : Value))⟩ := hdep 9 18 (by kernel_rfl)
      clear hdep hold
      go_simp
      refine (show Calls _ _ _ _ _ from must_rule _ _ W).mono ?_
      rintro e_ w_ ⟨v, rfl, hr_, hb_⟩
      exact ⟨_, rfl, hb_, hr_⟩
    | 11, _ =>
      refine owes_plain rfl rfl fun ac_ W hC hold hdep => ?_
      obtain ⟨_, (hd1 : RuleV p (some (S 8)) _ W)⟩ := hdep 1 10 (by kernel_rfl)
      obtain ⟨_, (hd6 : RuleV (!u) (some (S 5)) _ W)⟩ := hdep 6 15 (by kernel_rfl)
      obtain ⟨_, (hd10 : RuleV q (some (S 6)) _ W)⟩ := hdep 10 19 (by kernel_rfl)
      obtain ⟨rb1, rc1, re1, rp1, rq1⟩ := hd1
      obtain ⟨rb6, rc6, re6, rp6, rq6⟩ := hd6
      obtain ⟨rb10, rc10, re10, rp10, rq10⟩ := hd10
      clear hdep hold
      go_simp
      exact ⟨_, rfl, (Below.refl _ _).alloc (Nat.le_refl _) _, rules3 ⟨_, _, rfl, rp1, rq1⟩ ⟨_, _, rfl, rp6, rq6⟩ ⟨_, _, rfl, rp10, rq10⟩⟩
    | 12, _ =>
      refine owes_plain rfl rfl fun ac_ W hC hold hdep => ?_
      obtain ⟨_, (hd11 : RulesV [(p, some (S 8)), (!u, some (S 5)), (q, some (S 6))] _ W)⟩ := hdep 11 20 (by kernel_rfl)
      have hf := first_rules _ _ W (by simp) hd11
      rw [HE.out.1] at hf
      obtain ⟨blk, k, h1e, h1r⟩ := hd11
      clear h1r
      rw [h1e] at hf
      replace hf := hide hf
      clear hdep hold
      go_simp
      refine Calls.mono hf.out ?_
      rintro e_ w_ ⟨rfl, hb_⟩
      exact ⟨_, rfl, hb_, rfl⟩
    | k + 13, hk => exact absurd hk (by omega)
  case' hfin_2 =>
    intro fv W hC hold hval
    have v12 : (fv 21) = (errV (E.map S) : Value) := hval 12 _ (by omega) rfl
    have s4 : (fv 4) = (.pointer (some ⟨w.heap.size, 0, none⟩) : Value) := hold 4 (by kernel_rfl)
    clear hval hold
    simp only [List.drop_succ_cons, List.drop_zero, List.size_toArray, List.length_cons, List.length_nil, Nat.reduceAdd]
    simp only [List.range, List.range.loop]
    simp only [List.map_cons, List.map_nil]
  have k0W := (hC.cell (cellLt k0)).trans k0
  have HW : Sents S W := H.out.mono (hB1.trans (hC.mono hB1.size))
  replace HW := hide HW
  go_wp2_with fail
  refine (only_calls f 475175 W (by decide) (by decide)).mono ?_
  rintro e_ w2 ⟨rfl, hb2⟩
  have k2 := (hb2.cell (cellLt k0W)).trans k0W
  go_wp2_with fail
  refine (show Calls _ _ _ _ _ from Ht.out w2).mono ?_
  rintro e_ w3 ⟨rfl, hb3⟩
  cases t
  · have HT := hide (told_z S (onlyI f 475175) E w3 ((HW.out.mono hb2).mono hb3) HE.out.2 z (Hz.out rfl))
    go_wp2_with fail
    refine (show Calls _ _ _ _ _ from HT.out).mono ?_
    rintro e_ w4 ⟨rfl, rfl⟩
    go_wp2_with fail
    go_ret2
    exact ⟨rfl, hB1.trans (((hC.trans (hb2.mono hC.size)).trans (hb3.mono (Nat.le_trans hC.size hb2.size))).mono hB1.size)⟩
  · have HT := hide (told_z S (bits .or .i64 (onlyI f 475175) 64) E w3 ((HW.out.mono hb2).mono hb3) HE.out.2 z (Hz'.out rfl))
    go_wp2_with fail
    refine (show Calls _ _ _ _ _ from HT.out).mono ?_
    rintro e_ w4 ⟨rfl, rfl⟩
    go_wp2_with fail
    go_ret2
    exact ⟨rfl, hB1.trans (((hC.trans (hb2.mono hC.size)).trans (hb3.mono (Nat.le_trans hC.size hb2.size))).mono hB1.size)⟩
end Go.Proofs.YtllfaffbaijgfaaGreatDoor

namespace Go.Proofs.YtllfaffbaijgfaaGreatDoor
open Go Go.RowKit

theorem storeAt_new {P : Program} {u w : World} {g n : Nat} {ty : TypeId} {c0 c : Array Value} (hw : w = u.alloc (.cells c0 ty)) (hg : g = u.heap.size) (hi : (P.info? ty).map (·.size) = some n) (hn0 : c0.size = n) (hn : c.size = n) (h1 : c.all (·.oneCell') = true) :
    (storeVar ty ⟨g, 0, none⟩ (.agg c)).run P w = .ok () (u.alloc (.cells c ty)) := by
  subst hw hg
  exact run_storeVar_new u ty c0 c (by rw [hi, hn]) (by rw [hn0, hn]) h1
theorem wpList_store_new {P : Program} {ops : Array Oper} {rest : List Oper} {op : Oper} {a : Act} {u w : World} {Q : Exit → Act → World → Prop} {ty : TypeId} {x y : Operand} {g n : Nat} {c0 c : Array Value} (hgd : op.guard = none) (ho : op.op = .store ty x y) (hd : op.dst = none)
    (hx : a.eval x = .pointer (some ⟨g, 0, none⟩)) (hw : w = u.alloc (.cells c0 ty)) (hg : g = u.heap.size) (hy : a.eval y = .agg c) (hi : (P.info? ty).map (·.size) = some n) (hn0 : c0.size = n) (hn : c.size = n) (h1 : c.all (·.oneCell') = true)
    (hgo : wpList P ops Q rest a (u.alloc (.cells c ty))) : wpList P ops Q (op :: rest) a w :=
  wpList_plain hgd fun K hK => by
    unfold Oper.wp execOp
    simp only [ho, hx, hy, Instr.storeAt, Instr.sureAddr, Sem.run_bind, Sem.run_pure, Result.andThen_ok, storeAt_new hw hg hi hn0 hn h1]
    exact (show K (a.put op.dst undef) _ from by rw [hd]; exact hK _ _ hgo)
theorem wpListIn_store_new {F : Fence} {k : Nat} {P : Program} {ops : Array Oper} {rest : List Oper} {op : Oper} {a : Act} {u w : World} {Q : Exit → Act → World → Prop} {ty : TypeId} {x y : Operand} {g n : Nat} {c0 c : Array Value} (hgd : op.guard = none) (ho : op.op = .store ty x y) (hd : op.dst = none)
    (hx : a.eval x = .pointer (some ⟨g, 0, none⟩)) (hw : w = u.alloc (.cells c0 ty)) (hg : g = u.heap.size) (hy : a.eval y = .agg c) (hi : (P.info? ty).map (·.size) = some n) (hn0 : c0.size = n) (hn : c.size = n) (h1 : c.all (·.oneCell') = true)
    (hgo : wpListIn F k P ops Q rest a (u.alloc (.cells c ty))) : wpListIn F k P ops Q (op :: rest) a w :=
  wpListIn_plain hgd fun K hK => by
    refine ⟨fun f hf => ?_, ?_⟩
    · simp [Oper.about, ho] at hf
    · have he : Oper.semAt F.round a.eval op = execOp a.eval op := by
        cases F.round with
        | none => rfl
        | some l => exact Oper.semAt_some l _ _ (by simp [ho])
      rw [he]
      unfold execOp
      simp only [ho, hx, hy, Instr.storeAt, Instr.sureAddr, Sem.run_bind, Sem.run_pure, Result.andThen_ok, storeAt_new hw hg hi hn0 hn h1]
      exact (show K (a.put op.dst undef) _ from by rw [hd]; exact hK _ _ hgo)
theorem wpList_store_at {P : Program} {ops : Array Oper} {rest : List Oper} {op : Oper} {a : Act} {w : World} {Q : Exit → Act → World → Prop} {ty t : TypeId} {x y : Operand} {g n : Nat} {c0 c : Array Value} (hgd : op.guard = none) (ho : op.op = .store ty x y) (hd : op.dst = none)
    (hx : a.eval x = .pointer (some ⟨g, 0, none⟩)) (hheap : w.heap[g]? = some (.cells c0 t (0, 0))) (hy : a.eval y = .agg c) (hi : (P.info? ty).map (·.size) = some n) (hn0 : c0.size = n) (hn : c.size = n) (h1 : c.all (·.oneCell') = true)
    (hgo : wpList P ops Q rest a (w.setRow g c)) : wpList P ops Q (op :: rest) a w :=
  wpList_store_row hgd ty x y ho g c hx hy t c0 hheap (by rw [hi, hn]) (by rw [hn0, hn]) h1 (by rw [hd]; exact hgo)
theorem wpListIn_store_at {F : Fence} {k : Nat} {P : Program} {ops : Array Oper} {rest : List Oper} {op : Oper} {a : Act} {w : World} {Q : Exit → Act → World → Prop} {ty t : TypeId} {x y : Operand} {g n : Nat} {c0 c : Array Value} (hgd : op.guard = none) (ho : op.op = .store ty x y) (hd : op.dst = none)
    (hx : a.eval x = .pointer (some ⟨g, 0, none⟩)) (hheap : w.heap[g]? = some (.cells c0 t (0, 0))) (hy : a.eval y = .agg c) (hi : (P.info? ty).map (·.size) = some n) (hn0 : c0.size = n) (hn : c.size = n) (h1 : c.all (·.oneCell') = true)
    (hgo : wpListIn F k P ops Q rest a (w.setRow g c)) : wpListIn F k P ops Q (op :: rest) a w :=
  wpListIn_plain hgd fun K hK => by
    refine ⟨fun f hf => ?_, ?_⟩
    · simp [Oper.about, ho] at hf
    · have he : Oper.semAt F.round a.eval op = execOp a.eval op := by
        cases F.round with
        | none => rfl
        | some l => exact Oper.semAt_some l _ _ (by simp [ho])
      rw [he]
      unfold execOp
      simp only [ho, hx, hy, Instr.storeAt, Instr.sureAddr, Sem.run_bind, Sem.run_pure, Result.andThen_ok, run_storeVar_row w g t ty c0 c hheap (by rw [hi, hn]) (by rw [hn0, hn]) h1]
      exact (show K (a.put op.dst undef) _ from by rw [hd]; exact hK _ _ hgo)
theorem heap_setRow_same {w : World} {g : Nat} {c0 c : Array Value} {t : TypeId} {m : Nat × Nat} (h : w.heap[g]? = some (.cells c0 t m)) : (w.setRow g c).heap[g]? = some (.cells c t m) := by
  exact setRow_heap w g c0 c t m h
theorem heap_setRow_ne {w : World} {g k : Nat} {c : Array Value} (h : k ≠ g) : (w.setRow g c).heap[k]? = w.heap[k]? := by
  exact setRow_other w g k c h
theorem Below.setRow {n : Nat} {w W : World} {g : Nat} {c : Array Value} (h : Below n w W) (hg : n ≤ g) : Below n w (W.setRow g c) :=
  h.trans ⟨rfl, rfl, rfl, by rw [setRow_size]; exact Nat.le_refl _, fun k hk => heap_setRow_ne (by omega)⟩
end Go.Proofs.YtllfaffbaijgfaaGreatDoor
