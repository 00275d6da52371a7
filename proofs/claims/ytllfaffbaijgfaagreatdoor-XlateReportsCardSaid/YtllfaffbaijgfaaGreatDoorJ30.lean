/- signs.Class, Down. signs.Down. xlate's steps up, one by one. -/
import Derived.Test.YtllfaffbaijgfaaGreatDoorJ08
import Derived.Test.YtllfaffbaijgfaaGreatDoorJ29
set_option linter.unusedVariables false
set_option linter.unusedSimpArgs false
namespace Go.Proofs.YtllfaffbaijgfaaGreatDoor
open Go Go.RowKit Go.Shelf

def classN (f : Int) : Int := if isSixB f = true then prioI f else 0
def classC (f : Int) : Bool := isSixB f && hasB f 8
def classE (f : Int) : Int := if isSixB f = true then 0 else 2

set_option maxRecDepth 100000 in
set_option maxHeartbeats 4000000 in
theorem class_calls (S : Nat → Addr) (f : Int) (w : World) (h : Sents S w) : Calls Tryz.prog 103 #[.int .i64 f] w (Rt w (.tuple #[.int .i64 (classN f), .bool (classC f), .int .i64 (classE f)])) := by
  obtain ⟨p, hp⟩ : ∃ p, p = isSixB f := ⟨_, rfl⟩
  obtain ⟨c, hc⟩ : ∃ c, c = hasB f 8 := ⟨_, rfl⟩
  have e1 : classC f = (p && c) := by rw [classC, hp, hc]
  have e2 : classN f = if p = true then prioI f else 0 := by rw [classN, hp]
  have e3 : classE f = if p = true then 0 else 2 := by rw [classE, hp]
  rw [e1, e2, e3]
  have Hc := hide (show ∀ W, Calls Tryz.prog 165 #[.agg #[.int .i64 f], .int .i64 8] W (Rt W (.bool c)) from fun W => by rw [hc]; exact has_calls f 8 W)
  have Hi := hide (show ∀ W, Below w.heap.size w W → Calls Tryz.prog 164 #[.agg #[.int .i64 f]] W (fun en w' => ∃ v, en = .returned v ∧ RuleV p (some (S 8)) v w' ∧ Below W.heap.size W w') from fun W hW => by
    rw [hp]; exact isSix_rule S f W (h.mono hW))
  have H := hide h
  clear h hp hc e1 e2 e3
  obtain ⟨n, hn⟩ : ∃ n, n = (if p = true then prioI f else 0) := ⟨_, rfl⟩
  obtain ⟨k, hk⟩ : ∃ k, k = (if p = true then (0 : Int) else 2) := ⟨_, rfl⟩
  obtain ⟨E, hE⟩ : ∃ E, E = (if p = true then none else some 8) := ⟨_, rfl⟩
  have hk0 : (k == 0) = p := by rw [hk]; cases p <;> rfl
  have HE := hide (show saysE S [(p, some (S 8))] E by
    rw [hE]
    refine ⟨?_, ?_⟩
    · cases p <;> rfl
    · cases p <;> (intro g hg; cases hg) <;> decide)
  have HT := hide (show ∀ W, Sents S W → Calls Tryz.prog 109 #[.int .i64 (prioI f), errV (E.map S)] W (Pu W (.tuple #[.int .i64 n, .int .i64 k])) from fun W hW => by
    have := told_z S (prioI f) E W hW HE.out.2 n (by rw [hn, hE]; cases p <;> rfl)
    rwa [show errno E = k by rw [hE, hk]; cases p <;> rfl] at this)
  rw [← hn, ← hk]
  have Hk0 := hide hk0
  clear hn hk hE hk0
  go_enter Tryz.func103, Tryz.ntmps103
  go_wp2_with fail
  obtain ⟨w1, hw1⟩ : ∃ w1, w1 = w.alloc (.cells #[.int .i64 f] 210) := ⟨_, rfl⟩
  rw [← hw1]
  have hB1 : Below w.heap.size w w1 := by rw [hw1]; ((repeat' (first | exact Below.refl _ _ | assumption | (refine Below.drew ?_) | (refine Below.alloc ?_ ?_ _) | (refine Below.setCell ?_ ?_ _) | (refine Below.step (W := ?hW) ?hq ?_ ?_; case hq => assumption))) <;> (first | (simp; done) | (simp; omega) | (simp at *; omega)))
  have k0 : w1.cell? ⟨w.heap.size, 0, none⟩ = some (.int .i64 f) := by rw [hw1]; simp
  clear hw1
  refine (show Calls _ _ _ _ _ from Hi.out w1 hB1).mono ?_
  rintro e_ w2 ⟨v, rfl, ⟨b1, c1, rfl, r2, r3⟩, hb2⟩
  replace k0 := (hb2.cell (cellLt k0)).trans k0
  have hB2 := hB1.trans (hb2.mono hB1.size)
  go_wp2_with fail
  obtain ⟨w3, hw3⟩ : ∃ w3, w3 = w2.alloc (.cells #[.func (.func 180) #[] #[.pointer (some ⟨b1, 0, none⟩), .pointer (some ⟨c1, 0, none⟩)]] 151) := ⟨_, rfl⟩
  rw [← hw3]
  have hb3 : Below w2.heap.size w2 w3 := by rw [hw3]; ((repeat' (first | exact Below.refl _ _ | assumption | (refine Below.drew ?_) | (refine Below.alloc ?_ ?_ _) | (refine Below.setCell ?_ ?_ _) | (refine Below.step (W := ?hW) ?hq ?_ ?_; case hq => assumption))) <;> (first | (simp; done) | (simp; omega) | (simp at *; omega)))
  have hR : RulesV [(p, some (S 8))] (.slice (some ⟨w2.heap.size, 0, none⟩) 1 1) w3 := by rw [hw3]; exact rules1 ⟨_, _, rfl, r2, r3⟩
  clear hw3 r2 r3
  replace k0 := (hb3.cell (cellLt k0)).trans k0
  have hB3 := hB2.trans (hb3.mono hB2.size)
  have hf := first_rules _ _ w3 (by simp) hR
  rw [HE.out.1] at hf
  replace hf := hide hf
  clear hR hb2 hb3 hB1 hB2
  refine (show Calls _ _ _ _ _ from hf.out).mono ?_
  rintro e_ w4 ⟨rfl, hb4⟩
  replace k0 := (hb4.cell (cellLt k0)).trans k0
  have hB4 := hB3.trans (hb4.mono hB3.size)
  clear hf hb4 hB3
  go_wp2_with fail
  have hpr : bits .and .i64 (wrap64 (f.tdiv 128)) 3 = prioI f := by rw [prioI, IntWalk.i64_left]
  rw [hpr]
  clear hpr
  refine (show Calls _ _ _ _ _ from HT.out w4 (H.out.mono hB4)).mono ?_
  rintro e_ w5 ⟨rfl, rfl⟩
  have hk0 := Hk0.out
  cases p
  · go_wp2_with fail
    go_ret3
    exact ⟨rfl, hB4⟩
  · go_wp2_with fail
    refine (show Calls _ _ _ _ _ from Hc.out _).mono ?_
    rintro e_ w6 ⟨rfl, hb6⟩
    go_wp2_with fail
    go_ret3
    exact ⟨rfl, hB4.trans (hb6.mono hB4.size)⟩
end Go.Proofs.YtllfaffbaijgfaaGreatDoor

namespace Go.Proofs.YtllfaffbaijgfaaGreatDoor
open Go Go.RowKit Go.Shelf

def downOk (f prio : Int) : Bool := inB f 475239 && decide (0 ≤ prio) && decide (prio ≤ 2)
def downE (f prio : Int) : Option Nat := if downOk f prio = true then (if (hasB f 64 == hasB f 475136) = true then none else some 9) else some 8
def downO (f prio : Int) (cust : Bool) : Int := if cust = true then bits .or .i64 (bits .or .i64 (bits .or .i64 (onlyI f 475175) 16) (wrap64 (prio * 128))) 8 else bits .or .i64 (bits .or .i64 (onlyI f 475175) 16) (wrap64 (prio * 128))
def downF (f prio : Int) (cust : Bool) : Int × Int := (if (downE f prio).isSome then 0 else downO f prio cust, errno (downE f prio))

def VDown (S : Nat → Addr) (f prio : Int) (p a1 c a2 u t : Bool) (E : Option Nat) : Nat → Value → (Nat → Value) → World → Prop
  | 0, v, _, W => v = .agg #[.int .i64 f]
  | 1, v, _, W => v = .bool p
  | 2, v, _, W => v = .bool p
  | 3, v, _, W => p = true → (v = .int .i64 prio)
  | 4, v, _, W => p = true → (v = .bool a1)
  | 5, v, _, W => v = .bool c
  | 6, v, _, W => v = .bool c
  | 7, v, _, W => c = true → (v = .int .i64 prio)
  | 8, v, _, W => c = true → (v = .bool a2)
  | 9, v, _, W => v = .bool (c && a2)
  | 10, v, _, W => v = errV (some (S 8))
  | 11, v, _, W => RuleV (c && a2) (some (S 8)) v W
  | 12, v, _, W => v = .agg #[.int .i64 f]
  | 13, v, _, W => v = .bool u
  | 14, v, _, W => v = .agg #[.int .i64 f]
  | 15, v, _, W => v = .bool t
  | 16, v, _, W => v = .bool (u == t)
  | 17, v, _, W => v = errV (some (S 9))
  | 18, v, _, W => RuleV (u == t) (some (S 9)) v W
  | 19, v, _, W => RulesV [(c && a2, some (S 8)), (u == t, some (S 9))] v W
  | 20, v, _, W => v = errV (E.map S)
  | _, _, _, _ => True


set_option maxRecDepth 100000 in
set_option maxHeartbeats 4000000 in
theorem down_calls (S : Nat → Addr) (f prio : Int) (cust : Bool) (w : World) (h : Sents S w) : Calls Tryz.prog 115 #[.int .i64 f, .int .i64 prio, .bool cust] w (Rt w (.tuple #[.int .i64 (downF f prio cust).1, .int .i64 (downF f prio cust).2])) := by
  have g1 := (h.1 8 (by decide)).1
  have g2 := (h.1 9 (by decide)).1
  obtain ⟨p, hp⟩ : ∃ p, p = inB f 475239 := ⟨_, rfl⟩
  obtain ⟨a1, ha1⟩ : ∃ a1, a1 = decide (0 ≤ prio) := ⟨_, rfl⟩
  obtain ⟨a2, ha2⟩ : ∃ a2, a2 = decide (prio ≤ 2) := ⟨_, rfl⟩
  obtain ⟨c, hc⟩ : ∃ c, c = (p && a1) := ⟨_, rfl⟩
  obtain ⟨u, hu⟩ : ∃ u, u = hasB f 64 := ⟨_, rfl⟩
  obtain ⟨t, ht⟩ : ∃ t, t = hasB f 475136 := ⟨_, rfl⟩
  obtain ⟨E, hE⟩ : ∃ E, E = downE f prio := ⟨_, rfl⟩
  have HE := hide (show saysE S [(c && a2, some (S 8)), (u == t, some (S 9))] E by
    rw [hE, downE, downOk, ← hp, ← ha1, ← ha2, ← hc, ← hu, ← ht]
    refine ⟨?_, ?_⟩
    · cases c <;> cases a2 <;> cases u <;> cases t <;> rfl
    · cases c <;> cases a2 <;> cases u <;> cases t <;> (intro g hg; cases hg) <;> decide)
  obtain ⟨o, ho⟩ : ∃ o, o = downO f prio cust := ⟨_, rfl⟩
  obtain ⟨z, hz⟩ : ∃ z, z = (downF f prio cust).1 := ⟨_, rfl⟩
  have hn : (downF f prio cust).2 = errno E := by rw [downF, hE]
  rw [← hz, hn]
  have Hz := hide (show (if E.isSome then 0 else o) = z by rw [hz, downF, hE, ho])
  have Ho := hide ho
  have Hp := hide (show ∀ W, Calls Tryz.prog 185 #[.agg #[.int .i64 f], .int .i64 475239] W (Rt W (.bool p)) from fun W => by rw [hp]; exact setIsIn_calls f 475239 W)
  have Hu := hide (show ∀ W, Calls Tryz.prog 165 #[.agg #[.int .i64 f], .int .i64 64] W (Rt W (.bool u)) from fun W => by rw [hu]; exact has_calls f 64 W)
  have Ht := hide (show ∀ W, Calls Tryz.prog 165 #[.agg #[.int .i64 f], .int .i64 475136] W (Rt W (.bool t)) from fun W => by rw [ht]; exact has_calls f 475136 W)
  have Ha1 := hide ha1
  have Ha2 := hide ha2
  have Hc := hide hc
  have H := hide h
  clear h hp hu ht hE hz hn ho ha1 ha2 hc
  go_enter Tryz.func115, Tryz.ntmps115
  go_wp2_with fail
  refine wp_named fun w1 hw1 => ?_
  have hB1 : Below w.heap.size w w1 := by rw [hw1]; ((repeat' (first | exact Below.refl _ _ | assumption | (refine Below.drew ?_) | (refine Below.alloc ?_ ?_ _) | (refine Below.setCell ?_ ?_ _) | (refine Below.step (W := ?hW) ?hq ?_ ?_; case hq => assumption))) <;> (first | (simp; done) | (simp; omega) | (simp at *; omega)))
  have k0 : w1.cell? ⟨w.heap.size, 0, none⟩ = some (.int .i64 f) := by rw [hw1]; simp
  replace g1 := (hB1.cell (cellLt g1)).trans g1
  replace g2 := (hB1.cell (cellLt g2)).trans g2
  clear hw1
  refine wp_region_pred 21 (fun W => Below w1.heap.size w1 W) (fun W W' => Below W.heap.size W W') (VDown S f prio p a1 c a2 u t E) (by kernel_rfl) (by kernel_rfl) (Below.refl _ _).drew
    (fun W W' h hg => h.trans (hg.mono h.size)) ?hV_13 (fun W => Below.refl _ _) ?how_13 ?hfin_13
  case hV_13 =>
    intro i_ v_ g_ W W' hg h
    match i_, h with
    | 0, h => exact h
    | 1, h => exact h
    | 2, h => exact h
    | 3, h => exact h
    | 4, h => exact h
    | 5, h => exact h
    | 6, h => exact h
    | 7, h => exact h
    | 8, h => exact h
    | 9, h => exact h
    | 10, h => exact h
    | 11, h => exact RuleV.mono h hg
    | 12, h => exact h
    | 13, h => exact h
    | 14, h => exact h
    | 15, h => exact h
    | 16, h => exact h
    | 17, h => exact h
    | 18, h => exact RuleV.mono h hg
    | 19, h => exact RulesV.mono h hg
    | 20, h => exact h
    | _ + 21, _ => trivial
  case how_13 =>
    intro i_ hi_
    match i_, hi_ with
    | 0, _ =>
      refine owes_plain rfl rfl fun ac_ W hC hold hdep => ?_
      have hs8 := hold 8 (by kernel_rfl)
      have k0 := (hC.cell (cellLt k0)).trans k0
      clear hdep hold
      go_simp
      exact ⟨_, rfl, Below.refl _ _, rfl⟩
    | 1, _ =>
      refine owes_plain rfl rfl fun ac_ W hC hold hdep => ?_
      obtain ⟨_, (hd0 : _ = (.agg #[.int .i64 f] : Value))⟩ := hdep 0 13 (by kernel_rfl)
      clear hdep hold
      go_simp
      refine (show Calls _ _ _ _ _ from Hp.out W).mono ?_
      rintro e_ w_ ⟨rfl, hb_⟩
      exact ⟨_, rfl, hb_, rfl⟩
    | 2, _ =>
      refine owes_plain rfl rfl fun ac_ W hC hold hdep => ?_
      obtain ⟨_, (hd1 : _ = (.bool p : Value))⟩ := hdep 1 14 (by kernel_rfl)
      clear hdep hold
      go_simp
      exact ⟨_, rfl, Below.refl _ _, rfl⟩
    | 3, _ =>
      cases p
      · exact owes_no (s := 15) rfl rfl (by kernel_rfl) (fun v gg w h => h) (fun gg w => fun h => by cases h)
      · refine owes_yes (s := 15) rfl rfl (by kernel_rfl) (fun v gg w h => h) fun ac_ W hC hold hdep => ?_
        have hs1 := hold 1 (by kernel_rfl)
        clear hdep hold
        go_simp
        exact ⟨_, rfl, Below.refl _ _, fun _ => rfl⟩
    | 4, _ =>
      cases p
      · exact owes_no (s := 15) rfl rfl (by kernel_rfl) (fun v gg w h => h) (fun gg w => fun h => by cases h)
      · refine owes_yes (s := 15) rfl rfl (by kernel_rfl) (fun v gg w h => h) fun ac_ W hC hold hdep => ?_
        obtain ⟨_, (hd3 : true = true → (_ = (.int .i64 prio : Value)))⟩ := hdep 3 16 (by kernel_rfl)
        replace hd3 := hd3 rfl
        clear hdep hold
        go_simp
        refine ⟨_, rfl, Below.refl _ _, fun _ => ?_⟩
        show Value.bool _ = Value.bool a1
        rw [Ha1.out]
    | 5, _ =>
      cases p
      · refine owes_plain rfl rfl fun ac_ W hC hold hdep => ?_
        obtain ⟨_, (hd2 : _ = (.bool false : Value))⟩ := hdep 2 15 (by kernel_rfl)
        clear hdep hold
        go_simp
        refine ⟨_, rfl, Below.refl _ _, ?_⟩
        show Value.bool _ = Value.bool c
        rw [Hc.out]
        try rfl
      · refine owes_plain rfl rfl fun ac_ W hC hold hdep => ?_
        obtain ⟨_, (hd2 : _ = (.bool true : Value))⟩ := hdep 2 15 (by kernel_rfl)
        obtain ⟨_, (hd4 : true = true → (_ = (.bool a1 : Value)))⟩ := hdep 4 17 (by kernel_rfl)
        replace hd4 := hd4 rfl
        clear hdep hold
        go_simp
        refine ⟨_, rfl, Below.refl _ _, ?_⟩
        show Value.bool _ = Value.bool c
        rw [Hc.out]
        try rfl
    | 6, _ =>
      refine owes_plain rfl rfl fun ac_ W hC hold hdep => ?_
      obtain ⟨_, (hd5 : _ = (.bool c : Value))⟩ := hdep 5 18 (by kernel_rfl)
      clear hdep hold
      go_simp
      exact ⟨_, rfl, Below.refl _ _, rfl⟩
    | 7, _ =>
      cases c
      · exact owes_no (s := 19) rfl rfl (by kernel_rfl) (fun v gg w h => h) (fun gg w => fun h => by cases h)
      · refine owes_yes (s := 19) rfl rfl (by kernel_rfl) (fun v gg w h => h) fun ac_ W hC hold hdep => ?_
        have hs1 := hold 1 (by kernel_rfl)
        clear hdep hold
        go_simp
        exact ⟨_, rfl, Below.refl _ _, fun _ => rfl⟩
    | 8, _ =>
      cases c
      · exact owes_no (s := 19) rfl rfl (by kernel_rfl) (fun v gg w h => h) (fun gg w => fun h => by cases h)
      · refine owes_yes (s := 19) rfl rfl (by kernel_rfl) (fun v gg w h => h) fun ac_ W hC hold hdep => ?_
        obtain ⟨_, (hd7 : true = true → (_ = (.int .i64 prio : Value)))⟩ := hdep 7 20 (by kernel_rfl)
        replace hd7 := hd7 rfl
        clear hdep hold
        go_simp
        refine ⟨_, rfl, Below.refl _ _, fun _ => ?_⟩
        show Value.bool _ = Value.bool a2
        rw [Ha2.out]
    | 9, _ =>
      cases c
      · refine owes_plain rfl rfl fun ac_ W hC hold hdep => ?_
        obtain ⟨_, (hd6 : _ = (.bool false : Value))⟩ := hdep 6 19 (by kernel_rfl)
        clear hdep hold
        go_simp
        exact ⟨_, rfl, Below.refl _ _, rfl⟩
      · refine owes_plain rfl rfl fun ac_ W hC hold hdep => ?_
        obtain ⟨_, (hd6 : _ = (.bool true : Value))⟩ := hdep 6 19 (by kernel_rfl)
        obtain ⟨_, (hd8 : true = true → (_ = (.bool a2 : Value)))⟩ := hdep 8 21 (by kernel_rfl)
        replace hd8 := hd8 rfl
        clear hdep hold
        go_simp
        exact ⟨_, rfl, Below.refl _ _, rfl⟩
    | 10, _ =>
      refine owes_plain rfl rfl fun ac_ W hC hold hdep => ?_
      have g1 := (hC.cell (cellLt g1)).trans g1
      clear hdep hold
      go_simp
      exact ⟨_, rfl, Below.refl _ _, rfl⟩
    | 11, _ =>
      refine owes_plain rfl rfl fun ac_ W hC hold hdep => ?_
      obtain ⟨_, (hd9 : _ = (.bool (c && a2) : Value))⟩ := hdep 9 22 (by kernel_rfl)
      obtain ⟨_, (hd10 : _ = (errV (some (S 8)) : Value))⟩ := hdep 10 23 (by kernel_rfl)
      clear hdep hold
      go_simp
      refine (show Calls _ _ _ _ _ from must_rule _ _ W).mono ?_
      rintro e_ w_ ⟨v, rfl, hr_, hb_⟩
      exact ⟨_, rfl, hb_, hr_⟩
    | 12, _ =>
      refine owes_plain rfl rfl fun ac_ W hC hold hdep => ?_
      have hs8 := hold 8 (by kernel_rfl)
      have k0 := (hC.cell (cellLt k0)).trans k0
      clear hdep hold
      go_simp
      exact ⟨_, rfl, Below.refl _ _, rfl⟩
    | 13, _ =>
      refine owes_plain rfl rfl fun ac_ W hC hold hdep => ?_
      obtain ⟨_, (hd12 : _ = (.agg #[.int .i64 f] : Value))⟩ := hdep 12 25 (by kernel_rfl)
      clear hdep hold
      go_simp
      refine (show Calls _ _ _ _ _ from Hu.out W).mono ?_
      rintro e_ w_ ⟨rfl, hb_⟩
      exact ⟨_, rfl, hb_, rfl⟩
    | 14, _ =>
      refine owes_plain rfl rfl fun ac_ W hC hold hdep => ?_
      have hs8 := hold 8 (by kernel_rfl)
      have k0 := (hC.cell (cellLt k0)).trans k0
      clear hdep hold
      go_simp
      exact ⟨_, rfl, Below.refl _ _, rfl⟩
    | 15, _ =>
      refine owes_plain rfl rfl fun ac_ W hC hold hdep => ?_
      obtain ⟨_, (hd14 : _ = (.agg #[.int .i64 f] : Value))⟩ := hdep 14 27 (by kernel_rfl)
      clear hdep hold
      go_simp
      refine (show Calls _ _ _ _ _ from Ht.out W).mono ?_
      rintro e_ w_ ⟨rfl, hb_⟩
      exact ⟨_, rfl, hb_, rfl⟩
    | 16, _ =>
      refine owes_plain rfl rfl fun ac_ W hC hold hdep => ?_
      obtain ⟨_, (hd13 : _ = (.bool u : Value))⟩ := hdep 13 26 (by kernel_rfl)
      obtain ⟨_, (hd15 : _ = (.bool t : Value))⟩ := hdep 15 28 (by kernel_rfl)
      clear hdep hold
      go_simp
      exact ⟨_, rfl, Below.refl _ _, rfl⟩
    | 17, _ =>
      refine owes_plain rfl rfl fun ac_ W hC hold hdep => ?_
      have g2 := (hC.cell (cellLt g2)).trans g2
      clear hdep hold
      go_simp
      exact ⟨_, rfl, Below.refl _ _, rfl⟩
    | 18, _ =>
      refine owes_plain rfl rfl fun ac_ W hC hold hdep => ?_
      obtain ⟨_, (hd16 : _ = (.bool (u == t) : Value))⟩ := hdep 16 29 (by kernel_rfl)
      obtain ⟨_, (hd17 : _ = (errV (some (S 9)) : Value))⟩ := hdep 17 30 (by kernel_rfl)
      clear hdep hold
      go_simp
      refine (show Calls _ _ _ _ _ from must_rule _ _ W).mono ?_
      rintro e_ w_ ⟨v, rfl, hr_, hb_⟩
      exact ⟨_, rfl, hb_, hr_⟩
    | 19, _ =>
      refine owes_plain rfl rfl fun ac_ W hC hold hdep => ?_
      obtain ⟨_, (hd11 : RuleV (c && a2) (some (S 8)) _ W)⟩ := hdep 11 24 (by kernel_rfl)
      obtain ⟨_, (hd18 : RuleV (u == t) (some (S 9)) _ W)⟩ := hdep 18 31 (by kernel_rfl)
      obtain ⟨rb11, rc11, re11, rp11, rq11⟩ := hd11
      obtain ⟨rb18, rc18, re18, rp18, rq18⟩ := hd18
      clear hdep hold
      go_simp
      exact ⟨_, rfl, (Below.refl _ _).alloc (Nat.le_refl _) _, rules2 ⟨_, _, rfl, rp11, rq11⟩ ⟨_, _, rfl, rp18, rq18⟩⟩
    | 20, _ =>
      refine owes_plain rfl rfl fun ac_ W hC hold hdep => ?_
      obtain ⟨_, (hd19 : RulesV [(c && a2, some (S 8)), (u == t, some (S 9))] _ W)⟩ := hdep 19 32 (by kernel_rfl)
      have hf := first_rules _ _ W (by simp) hd19
      rw [HE.out.1] at hf
      obtain ⟨blk, k, h1e, h1r⟩ := hd19
      clear h1r
      rw [h1e] at hf
      replace hf := hide hf
      clear hdep hold
      go_simp
      refine Calls.mono hf.out ?_
      rintro e_ w_ ⟨rfl, hb_⟩
      exact ⟨_, rfl, hb_, rfl⟩
    | k + 21, hk => exact absurd hk (by omega)
  case' hfin_13 =>
    intro fv W hC hold hval
    have v20 : (fv 33) = (errV (E.map S) : Value) := hval 20 _ (by omega) rfl
    have s8 : (fv 8) = (.pointer (some ⟨w.heap.size, 0, none⟩) : Value) := hold 8 (by kernel_rfl)
    have s1 : (fv 1) = (.int .i64 prio : Value) := hold 1 (by kernel_rfl)
    have s2 : (fv 2) = (.bool cust : Value) := hold 2 (by kernel_rfl)
    clear hval hold
    simp only [List.drop_succ_cons, List.drop_zero, List.size_toArray, List.length_cons, List.length_nil, Nat.reduceAdd]
    simp only [List.range, List.range.loop]
    simp only [List.map_cons, List.map_nil]
  have k0W := (hC.cell (cellLt k0)).trans k0
  have HW : Sents S W := H.out.mono (hB1.trans (hC.mono hB1.size))
  replace HW := hide HW
  have HB := hB1.trans (hC.mono hB1.size)
  clear hC
  go_wp2_with fail
  refine (only_calls f 475175 W (by decide) (by decide)).mono ?_
  rintro e_ w2 ⟨rfl, hb2⟩
  have HB2 := HB.trans (hb2.mono HB.size)
  have HT := hide (told_z S o E w2 (HW.out.mono hb2) HE.out.2 z Hz.out)
  cases cust
  · have Ho1 : bits .or .i64 (bits .or .i64 (onlyI f 475175) 16) (wrap64 (prio * 128)) = o := by rw [Ho.out]; rfl
    go_wp2_with fail
    clear Ho1
    refine (show Calls _ _ _ _ _ from HT.out).mono ?_
    rintro e_ w4 ⟨rfl, rfl⟩
    go_wp2_with fail
    go_ret2
    exact ⟨rfl, HB2⟩
  · have Ho1 : bits .or .i64 (bits .or .i64 (bits .or .i64 (onlyI f 475175) 16) (wrap64 (prio * 128))) 8 = o := by rw [Ho.out]; rfl
    go_wp2_with fail
    clear Ho1
    refine (show Calls _ _ _ _ _ from HT.out).mono ?_
    rintro e_ w4 ⟨rfl, rfl⟩
    go_wp2_with fail
    go_ret2
    exact ⟨rfl, HB2⟩
end Go.Proofs.YtllfaffbaijgfaaGreatDoor

namespace Go.Proofs.YtllfaffbaijgfaaGreatDoor
open Go Go.RowKit Go.Shelf

/-- what an up holds -/
abbrev upC (f : Int) (v : Value) (c : Class) (x : Six) (s : Value) : Array Value := #[.int .i64 f, v, .int .i64 c.priority, .bool c.custody, .int .i64 c.custodian.scheme, .string (bs c.custodian.node), .string (bs c.custodian.service), .int .i64 c.custodian.a, .int .i64 c.custodian.b, .int .i64 x.flags, .int .i64 x.dest.scheme, .string (bs x.dest.node), .string (bs x.dest.service), .int .i64 x.dest.a, .int .i64 x.dest.b, .int .i64 x.source.scheme, .string (bs x.source.node), .string (bs x.source.service), .int .i64 x.source.a, .int .i64 x.source.b, .int .i64 x.report.scheme, .string (bs x.report.node), .string (bs x.report.service), .int .i64 x.report.a, .int .i64 x.report.b, .int .i64 x.custodian.scheme, .string (bs x.custodian.node), .string (bs x.custodian.service), .int .i64 x.custodian.a, .int .i64 x.custodian.b, .int .i64 x.time, .int .i64 x.seq, .int .i64 x.life, .int .i64 x.off, .int .i64 x.total, s]
def UpAt (W : World) (U : Nat) (f : Int) (v : Value) (c : Class) (x : Six) (s : Value) : Prop := W.heap[U]? = some (.cells (upC f v c x s) 76 (0, 0))

set_option maxRecDepth 100000 in
set_option maxHeartbeats 4000000 in
theorem upRight_calls (U : Nat) (f : Int) (v : Value) (c : Class) (x : Six) (s : Value) (r : Bool) (w : World) (hU : UpAt w U f v c x s) (hr : Calls Tryz.prog 27 #[.agg #[.int .i64 x.flags, .int .i64 x.dest.scheme, .string (bs x.dest.node), .string (bs x.dest.service), .int .i64 x.dest.a, .int .i64 x.dest.b, .int .i64 x.source.scheme, .string (bs x.source.node), .string (bs x.source.service), .int .i64 x.source.a, .int .i64 x.source.b, .int .i64 x.report.scheme, .string (bs x.report.node), .string (bs x.report.service), .int .i64 x.report.a, .int .i64 x.report.b, .int .i64 x.custodian.scheme, .string (bs x.custodian.node), .string (bs x.custodian.service), .int .i64 x.custodian.a, .int .i64 x.custodian.b, .int .i64 x.time, .int .i64 x.seq, .int .i64 x.life, .int .i64 x.off, .int .i64 x.total, s]] w (Rt w (.bool r))) :
    Calls Tryz.prog 38 #[.pointer (some ⟨U, 0, none⟩)] w (Rt w (wrongV (if r = true then 0 else 80))) := by
  have hU := hide (show w.heap[U]? = some (.cells (upC f v c x s) 76 (0, 0)) from hU)
  have Hr := hide hr
  clear hr
  cases r
  · go_enter Tryz.func38, Tryz.ntmps38
    go_wp2_with (first | (apply wpList_load_of (ty := 32); (case hgd => exact rfl); (case ho => exact rfl); (case hx => exact rfl); (case hr => exact load_mid (n := 27) (off := 9) (c := #[.int .i64 x.flags, .int .i64 x.dest.scheme, .string (bs x.dest.node), .string (bs x.dest.service), .int .i64 x.dest.a, .int .i64 x.dest.b, .int .i64 x.source.scheme, .string (bs x.source.node), .string (bs x.source.service), .int .i64 x.source.a, .int .i64 x.source.b, .int .i64 x.report.scheme, .string (bs x.report.node), .string (bs x.report.service), .int .i64 x.report.a, .int .i64 x.report.b, .int .i64 x.custodian.scheme, .string (bs x.custodian.node), .string (bs x.custodian.service), .int .i64 x.custodian.a, .int .i64 x.custodian.b, .int .i64 x.time, .int .i64 x.seq, .int .i64 x.life, .int .i64 x.off, .int .i64 x.total, s]) hU.out Tryz.underlying32 rfl (by kernel_rfl) rfl rfl)) | (apply wpList_load_w (ty := 32); (case hgd => exact rfl); (case ho => exact rfl); (case hx => exact rfl); (case hr => exact load_mid (n := 27) (off := 9) (c := #[.int .i64 x.flags, .int .i64 x.dest.scheme, .string (bs x.dest.node), .string (bs x.dest.service), .int .i64 x.dest.a, .int .i64 x.dest.b, .int .i64 x.source.scheme, .string (bs x.source.node), .string (bs x.source.service), .int .i64 x.source.a, .int .i64 x.source.b, .int .i64 x.report.scheme, .string (bs x.report.node), .string (bs x.report.service), .int .i64 x.report.a, .int .i64 x.report.b, .int .i64 x.custodian.scheme, .string (bs x.custodian.node), .string (bs x.custodian.service), .int .i64 x.custodian.a, .int .i64 x.custodian.b, .int .i64 x.time, .int .i64 x.seq, .int .i64 x.life, .int .i64 x.off, .int .i64 x.total, s]) hU.out Tryz.underlying32 rfl (by kernel_rfl) rfl rfl)))
    refine (show Calls _ _ _ _ _ from Hr.out).mono ?_
    rintro _ w1 ⟨rfl, hb⟩
    go_wp2
    go_ret
    exact ⟨rfl, hb⟩
  · go_enter Tryz.func38, Tryz.ntmps38
    go_wp2_with (first | (apply wpList_load_of (ty := 32); (case hgd => exact rfl); (case ho => exact rfl); (case hx => exact rfl); (case hr => exact load_mid (n := 27) (off := 9) (c := #[.int .i64 x.flags, .int .i64 x.dest.scheme, .string (bs x.dest.node), .string (bs x.dest.service), .int .i64 x.dest.a, .int .i64 x.dest.b, .int .i64 x.source.scheme, .string (bs x.source.node), .string (bs x.source.service), .int .i64 x.source.a, .int .i64 x.source.b, .int .i64 x.report.scheme, .string (bs x.report.node), .string (bs x.report.service), .int .i64 x.report.a, .int .i64 x.report.b, .int .i64 x.custodian.scheme, .string (bs x.custodian.node), .string (bs x.custodian.service), .int .i64 x.custodian.a, .int .i64 x.custodian.b, .int .i64 x.time, .int .i64 x.seq, .int .i64 x.life, .int .i64 x.off, .int .i64 x.total, s]) hU.out Tryz.underlying32 rfl (by kernel_rfl) rfl rfl)) | (apply wpList_load_w (ty := 32); (case hgd => exact rfl); (case ho => exact rfl); (case hx => exact rfl); (case hr => exact load_mid (n := 27) (off := 9) (c := #[.int .i64 x.flags, .int .i64 x.dest.scheme, .string (bs x.dest.node), .string (bs x.dest.service), .int .i64 x.dest.a, .int .i64 x.dest.b, .int .i64 x.source.scheme, .string (bs x.source.node), .string (bs x.source.service), .int .i64 x.source.a, .int .i64 x.source.b, .int .i64 x.report.scheme, .string (bs x.report.node), .string (bs x.report.service), .int .i64 x.report.a, .int .i64 x.report.b, .int .i64 x.custodian.scheme, .string (bs x.custodian.node), .string (bs x.custodian.service), .int .i64 x.custodian.a, .int .i64 x.custodian.b, .int .i64 x.time, .int .i64 x.seq, .int .i64 x.life, .int .i64 x.off, .int .i64 x.total, s]) hU.out Tryz.underlying32 rfl (by kernel_rfl) rfl rfl)))
    refine (show Calls _ _ _ _ _ from Hr.out).mono ?_
    rintro _ w1 ⟨rfl, hb⟩
    go_wp2
    go_ret
    exact ⟨rfl, hb⟩

theorem turn_setCell {U i n : Nat} {w W : World} {v : Value} (h : Turn2 U none w W) : Turn2 U none w (W.setCell ⟨U, i, none⟩ v) :=
  ⟨h.os, h.tape, h.output, by rw [size_setCell]; exact h.size, fun k hk h1 h2 => (heap_setCell_ne h1).trans (h.block k hk h1 h2)⟩
theorem turn_below {U : Nat} {w a b : World} (h : Turn2 U none w a) (hb : Below a.heap.size a b) : Turn2 U none w b :=
  ⟨hb.os.trans h.os, hb.tape.trans h.tape, hb.output.trans h.output, Nat.le_trans h.size hb.size, fun k hk h1 h2 => (hb.block k (Nat.lt_of_lt_of_le hk h.size)).trans (h.block k hk h1 h2)⟩
theorem turn_setRow {U : Nat} {w W : World} {c : Array Value} (h : Turn2 U none w W) : Turn2 U none w (W.setRow U c) :=
  ⟨h.os, h.tape, h.output, by simpa using h.size, fun k hk h1 h2 => (setRow_other W U k c h1).trans (h.block k hk h1 h2)⟩
theorem Turn2.refl (U : Nat) (w : World) : Turn2 U none w w := ⟨rfl, rfl, rfl, Nat.le_refl _, fun _ _ _ _ => rfl⟩
theorem Turn2.trans {U : Nat} {a b c : World} (h : Turn2 U none a b) (k : Turn2 U none b c) : Turn2 U none a c :=
  ⟨k.os.trans h.os, k.tape.trans h.tape, k.output.trans h.output, Nat.le_trans h.size k.size, fun j hj h1 h2 => (k.block j (Nat.lt_of_lt_of_le hj h.size) h1 h2).trans (h.block j hj h1 h2)⟩
theorem Turn2.below {U : Nat} {w a b : World} (h : Turn2 U none a b) (k : Below w.heap.size w a) (hU : w.heap.size ≤ U) : Below w.heap.size w b :=
  ⟨h.os.trans k.os, h.tape.trans k.tape, h.output.trans k.output, Nat.le_trans k.size h.size, fun j hj => (h.block j (Nat.lt_of_lt_of_le hj k.size) (by omega) (by simp)).trans (k.block j hj)⟩

set_option maxRecDepth 100000 in
set_option maxHeartbeats 4000000 in
theorem upSigns_calls (U : Nat) (S : Nat → Addr) (f : Int) (v : Value) (c : Class) (x : Six) (s : Value) (w : World) (hU : UpAt w U f v c x s) (hS : ∀ W, Turn2 U none w W → Sents S W) :
    Calls Tryz.prog 39 #[.pointer (some ⟨U, 0, none⟩)] w (fun e w' => e = .returned (wrongV (upF x.flags).2) ∧ UpAt w' U (upF x.flags).1 v ⟨classN x.flags, classC x.flags, x.custodian⟩ x s ∧ Turn2 U none w w') := by
  have hU : w.heap[U]? = some (.cells (upC f v c x s) 76 (0, 0)) := hU
  have HS := hide hS
  clear hS
  obtain ⟨u, hu⟩ : ∃ u, u = upF x.flags := ⟨_, rfl⟩
  obtain ⟨n, hn⟩ : ∃ u, u = classN x.flags := ⟨_, rfl⟩
  obtain ⟨k, hk⟩ : ∃ u, u = classC x.flags := ⟨_, rfl⟩
  obtain ⟨q, hq⟩ : ∃ u, u = classE x.flags := ⟨_, rfl⟩
  have HU := hide (fun W h => up_calls S x.flags W h)
  have HC := hide (fun W h => class_calls S x.flags W h)
  rw [← hu] at HU
  rw [← hn, ← hk, ← hq] at HC
  rw [← hu, ← hn, ← hk]
  clear hu hn hk hq
  have k9 := cellsOf hU 9
  simp only [List.getElem?_toArray, List.getElem?_cons_succ, List.getElem?_cons_zero] at k9
  go_enter Tryz.func39, Tryz.ntmps39
  go_wp2_with fail
  refine (show Calls _ _ _ _ _ from HU.out w (HS.out w (Turn2.refl _ _))).mono ?_
  rintro _ w1 ⟨rfl, hb1⟩
  have t1 := turn_below (Turn2.refl U w) hb1
  have hU1 := heapKept hU hb1
  have k0 := cellsOf hU1 0
  simp only [List.getElem?_toArray, List.getElem?_cons_succ, List.getElem?_cons_zero] at k0
  have f0 : w1.frozen? ⟨U, 0, none⟩ = false := by simp [World.frozen?, hU1]
  replace k9 := (hb1.cell (cellLt k9)).trans k9
  clear hU hb1
  go_upto_region 3 with fail
  obtain ⟨w2, hw2⟩ : ∃ w2, w2 = w1.setCell ⟨U, 0, none⟩ (.int .i64 u.1) := ⟨_, rfl⟩
  rw [← hw2]
  have t2 : Turn2 U none w w2 := by rw [hw2]; exact turn_setCell (n := 0) t1
  have hU2 : w2.heap[U]? = some (.cells (upC u.1 v c x s) 76 (0, 0)) := by rw [hw2]; exact heap_setCell_same (i := 0) hU1
  clear hw2 hU1 t1 f0 k0 k9
  have k9 := cellsOf hU2 9
  simp only [List.getElem?_toArray, List.getElem?_cons_succ, List.getElem?_cons_zero] at k9
  go_wp2_with fail
  refine (show Calls _ _ _ _ _ from HC.out w2 (HS.out w2 t2)).mono ?_
  rintro _ w3 ⟨rfl, hb3⟩
  have t3 := turn_below t2 hb3
  have hU3 := heapKept hU2 hb3
  have k2 := cellsOf hU3 2
  have k3 := cellsOf hU3 3
  simp only [List.getElem?_toArray, List.getElem?_cons_succ, List.getElem?_cons_zero] at k2 k3
  have f2 : w3.frozen? ⟨U, 2, none⟩ = false := by simp [World.frozen?, hU3]
  have f3 : w3.frozen? ⟨U, 3, none⟩ = false := by simp [World.frozen?, hU3]
  have H3 := hide (And.intro t3 hU3)
  clear hU2 hb3 k9 t3 hU3 t2
  go_upto_region 4 with fail
  refine wp_named fun w4 hw4 => ?_
  have t4 : Turn2 U none w w4 := by rw [hw4]; exact turn_setCell (n := 0) (turn_setCell (n := 0) H3.out.1)
  have hU4 : w4.heap[U]? = some (.cells (upC u.1 v ⟨n, k, c.custodian⟩ x s) 76 (0, 0)) := by
    rw [hw4]; exact heap_setCell_same (i := 3) (heap_setCell_same (i := 2) H3.out.2)
  clear hw4 k2 k3 f2 f3
  go_wp2_with (first | (first | (apply wpList_load_of (ty := 29); (case hgd => exact rfl); (case ho => exact rfl); (case hx => exact rfl); (case hr => exact load_mid (n := 5) (off := 25) (c := #[.int .i64 x.custodian.scheme, .string (bs x.custodian.node), .string (bs x.custodian.service), .int .i64 x.custodian.a, .int .i64 x.custodian.b]) hU4 Tryz.underlying29 rfl (by kernel_rfl) rfl rfl)) | (apply wpList_load_w (ty := 29); (case hgd => exact rfl); (case ho => exact rfl); (case hx => exact rfl); (case hr => exact load_mid (n := 5) (off := 25) (c := #[.int .i64 x.custodian.scheme, .string (bs x.custodian.node), .string (bs x.custodian.service), .int .i64 x.custodian.a, .int .i64 x.custodian.b]) hU4 Tryz.underlying29 rfl (by kernel_rfl) rfl rfl))) | (apply wpList_store_midrow (ty := 29) (n := 5) (off := 4); (case hgd => exact rfl); (case ho => exact rfl); (case hd => exact rfl); (case hx => exact rfl); (case hheap => exact hU4); (case hy => exact rfl); (case hi => kernel_rfl); (case hn => exact rfl); (case hfit => exact of_decide_eq_true rfl); (case h1 => first | exact rfl | assumption | (simp [Value.oneCell', *]; done) | (simp [*]; done))))
  refine (show Calls _ _ _ _ _ from unless_calls u.2 _).mono ?_
  rintro _ w5 ⟨rfl, rfl⟩
  have hU5 : (w4.setRow U (midRow (upC u.1 v ⟨n, k, c.custodian⟩ x s) #[.int .i64 x.custodian.scheme, .string (bs x.custodian.node), .string (bs x.custodian.service), .int .i64 x.custodian.a, .int .i64 x.custodian.b] 4)).heap[U]? = some (.cells (upC u.1 v ⟨n, k, x.custodian⟩ x s) 76 (0, 0)) := heap_setRow_same hU4
  have H5 := hide (And.intro hU5 (turn_setRow (c := midRow (upC u.1 v ⟨n, k, c.custodian⟩ x s) #[.int .i64 x.custodian.scheme, .string (bs x.custodian.node), .string (bs x.custodian.service), .int .i64 x.custodian.a, .int .i64 x.custodian.b] 4) t4))
  clear hU5 hU4 t4
  go_wp2_with fail
  go_ret
  exact ⟨rfl, H5.out.1, H5.out.2⟩
end Go.Proofs.YtllfaffbaijgfaaGreatDoor
