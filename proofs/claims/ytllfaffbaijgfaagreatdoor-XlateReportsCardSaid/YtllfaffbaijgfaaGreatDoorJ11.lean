/- crc.Size, seven.isSum, seven.isBlock. Lists of numbers in memory. adm6: numbers within a bound, a report's record, its bits one by one, their count. -/
import Derived.Test.YtllfaffbaijgfaaGreatDoorJ10
import Derived.Test.YtllfaffbaijgfaaGreatDoorJ07
import Derived.Test.YtllfaffbaijgfaaGreatDoorJ08
set_option linter.unusedVariables false
set_option linter.unusedSimpArgs false
namespace Go.Proofs.YtllfaffbaijgfaaGreatDoor
open Go Go.RowKit Go.Shelf

/-- the variables of the program's text, as they are laid -/
structure Laid (w : World) : Prop where
  kinds : ∀ i, w.cell? ⟨10, i, none⟩ = (#[.int .i64 0, .int .i64 0, .int .i64 1, .int .i64 2, .int .i64 2, .int .i64 4] : Array Value)[i]?
  big : 10 < w.heap.size
theorem Laid.mono {w w' : World} (h : Laid w) (hb : Below w.heap.size w w') : Laid w' := ⟨fun i => (hb.cell (p := ⟨10, i, none⟩) h.big).trans (h.kinds i), Nat.lt_of_lt_of_le h.big hb.size⟩

def crcSize (n : Int) : Int := if n = 0 then 0 else if n = 1 then 2 else if n = 2 then 4 else 0

def kindsV : Value := .agg #[.int .i64 0, .int .i64 0, .int .i64 1, .int .i64 2, .int .i64 2, .int .i64 4]
theorem kinds_at0 (W : World) : (Instr.index 271 kindsV (.int .i64 0)).run Tryz.prog W = .ok (.agg #[.int .i64 0, .int .i64 0]) W := by kernel_rfl
theorem kinds_at1 (W : World) : (Instr.index 271 kindsV (.int .i64 1)).run Tryz.prog W = .ok (.agg #[.int .i64 1, .int .i64 2]) W := by kernel_rfl
theorem kinds_at2 (W : World) : (Instr.index 271 kindsV (.int .i64 2)).run Tryz.prog W = .ok (.agg #[.int .i64 2, .int .i64 4]) W := by kernel_rfl

set_option maxRecDepth 100000 in
theorem crcSize_calls (n : Int) (w : World) (h : Laid w) : Calls Tryz.prog 144 #[.int .i64 n] w (Rt w (.int .i64 (crcSize n))) := by
  have q0 := h.kinds 0
  have q1 := h.kinds 1
  have q2 := h.kinds 2
  have q3 := h.kinds 3
  have q4 := h.kinds 4
  have q5 := h.kinds 5
  simp only [List.getElem?_toArray, List.getElem?_cons_succ, List.getElem?_cons_zero] at q0 q1 q2 q3 q4 q5
  clear h
  go_enter Tryz.func144, Tryz.ntmps144
  go_wp2
  go_loopw [6] (fun k wr => ∃ i : Nat, i ≤ 3 ∧ k = .int .i64 i ∧ (∀ j : Nat, j < i → n ≠ j) ∧ Below w.heap.size w wr) (fun k _ => 3 - (intOf k).toNat)
  case atStart => exact ⟨0, Nat.zero_le _, rfl, fun j h => absurd h (Nat.not_lt_zero _), Below.refl _ _⟩
  case round =>
    obtain ⟨i, hi, rfl, hj, hB⟩ := hrel
    have h4 : i = 0 ∨ i = 1 ∨ i = 2 ∨ i = 3 := by omega
    have x0 := kinds_at0
    have x1 := kinds_at1
    have x2 := kinds_at2
    unfold kindsV at x0 x1 x2
    rcases h4 with rfl | rfl | rfl | rfl
    · have Hj := hide hj
      clear hj
      by_cases hn : n = 0
      · subst hn
        go_wp2
        go_ret
        exact ⟨rfl, hB.alloc hB.size _⟩
      · have hn' : ¬ (0 : Int) = n := fun e => hn e.symm
        go_wp2
        go_roundw
        case rel => exact ⟨1, by omega, by go_num, fun j h => by
          rcases Nat.lt_succ_iff_lt_or_eq.1 h with h | rfl
          · exact Hj.out j h
          · exact hn, hB.alloc hB.size _⟩
        case measure => simp [intOf]
    · have Hj := hide hj
      clear hj
      by_cases hn : n = 1
      · subst hn
        go_wp2
        go_ret
        exact ⟨rfl, hB.alloc hB.size _⟩
      · have hn' : ¬ (1 : Int) = n := fun e => hn e.symm
        go_wp2
        go_roundw
        case rel => exact ⟨2, by omega, by go_num, fun j h => by
          rcases Nat.lt_succ_iff_lt_or_eq.1 h with h | rfl
          · exact Hj.out j h
          · exact hn, hB.alloc hB.size _⟩
        case measure => simp [intOf]
    · have Hj := hide hj
      clear hj
      by_cases hn : n = 2
      · subst hn
        go_wp2
        go_ret
        exact ⟨rfl, hB.alloc hB.size _⟩
      · have hn' : ¬ (2 : Int) = n := fun e => hn e.symm
        go_wp2
        go_roundw
        case rel => exact ⟨3, by omega, by go_num, fun j h => by
          rcases Nat.lt_succ_iff_lt_or_eq.1 h with h | rfl
          · exact Hj.out j h
          · exact hn, hB.alloc hB.size _⟩
        case measure => simp [intOf]
    · have n0 : n ≠ 0 := hj 0 (by omega)
      have n1 : n ≠ 1 := hj 1 (by omega)
      have n2 : n ≠ 2 := hj 2 (by omega)
      clear hj
      go_wp2
      go_ret
      exact ⟨by simp [crcSize, n0, n1, n2], hB⟩

def isSumR (n : Int) : Bool := decide (n = 0) || decide (0 < crcSize n)

theorem isSum_calls (n : Int) (w : World) (h : Laid w) : Calls Tryz.prog 80 #[.int .i64 n] w (Rt w (.bool (isSumR n))) := by
  have H := hide (crcSize_calls n w h)
  clear h
  obtain ⟨k, hk⟩ : ∃ k, k = crcSize n := ⟨_, rfl⟩
  rw [isSumR, ← hk]
  rw [← hk] at H
  clear hk
  by_cases hn : n = 0
  · subst hn
    go_enter Tryz.func80, Tryz.ntmps80
    go_wp2_with fail
    go_ret
    exact ⟨rfl, Below.refl _ _⟩
  · go_enter Tryz.func80, Tryz.ntmps80
    go_wp2_with fail
    refine (show Calls _ _ _ _ _ from H.out).mono ?_
    rintro e_ w1 ⟨rfl, hb⟩
    go_wp2_with fail
    go_ret
    exact ⟨by simp [hn], hb⟩

/-! a block of version 7 -/
def block71 (x : Block) (last : Bool) : Bool := decide (1 ≤ x.type) && decide (x.type ≤ 255) && (decide (x.type = 1) == last)
def block72 (x : Block) (last : Bool) : Bool := decide (1 ≤ x.num) && decide (x.num ≤ 255) && (decide (x.num = 1) == last)
def block73 (x : Block) : Bool := decide (0 ≤ x.flags) && (bits .andNot .i64 x.flags 23 == 0) && isSumR x.sum
def block74 (x : Block) : Bool := decide (x.refs.length = 0) && decide (x.data.length ≤ 600)
def block7 (x : Block) (last : Bool) : Bool := block71 x last && block72 x last && block73 x && block74 x

theorem block71_calls (x : Block) (last : Bool) (B C : Nat) (w : World) (h0 : w.cell? ⟨B, 0, none⟩ = some (.int .i64 x.type)) (h1 : w.cell? ⟨C, 0, none⟩ = some (.bool last)) :
    Calls Tryz.prog 216 #[.pointer (some ⟨B, 0, none⟩), .pointer (some ⟨C, 0, none⟩)] w (Pu w (.bool (block71 x last))) := by
  go_enter Tryz.func216, Tryz.ntmps216
  cases last
  all_goals go_wp2
  all_goals (go_ret; refine ⟨?_, rfl⟩)
  all_goals simp [block71, *]
  all_goals first | done | rfl | omega

theorem block72_calls (x : Block) (last : Bool) (B C : Nat) (w : World) (h0 : w.cell? ⟨B, 1, none⟩ = some (.int .i64 x.num)) (h1 : w.cell? ⟨C, 0, none⟩ = some (.bool last)) :
    Calls Tryz.prog 217 #[.pointer (some ⟨B, 0, none⟩), .pointer (some ⟨C, 0, none⟩)] w (Pu w (.bool (block72 x last))) := by
  go_enter Tryz.func217, Tryz.ntmps217
  cases last
  all_goals go_wp2
  all_goals (go_ret; refine ⟨?_, rfl⟩)
  all_goals simp [block72, *]
  all_goals first | done | rfl | omega

theorem block73_calls (x : Block) (B : Nat) (w : World) (hl : Laid w) (h0 : w.cell? ⟨B, 2, none⟩ = some (.int .i64 x.flags)) (h1 : w.cell? ⟨B, 3, none⟩ = some (.int .i64 x.sum)) :
    Calls Tryz.prog 218 #[.pointer (some ⟨B, 0, none⟩)] w (Rt w (.bool (block73 x))) := by
  have H := hide (isSum_calls x.sum w hl)
  clear hl
  obtain ⟨k, hk⟩ : ∃ k, k = isSumR x.sum := ⟨_, rfl⟩
  rw [block73, ← hk]
  rw [← hk] at H
  clear hk
  go_enter Tryz.func218, Tryz.ntmps218
  go_wp2_with (refine (show Calls _ _ _ _ _ from H.out).mono ?_; rintro e_ w1 ⟨rfl, hb⟩)
  all_goals go_ret
  all_goals refine ⟨?_, by first | exact hb | exact Below.refl _ _⟩
  all_goals simp [*]
  all_goals omega

theorem block74_calls (x : Block) (B : Nat) (rv : Value) (w : World) (h2 : w.cell? ⟨B, 4, none⟩ = some rv) (hv : EidsV w x.refs rv) (h1 : w.cell? ⟨B, 5, none⟩ = some (.string (bs x.data))) (hlen : x.refs.length ≤ 9000000000000000000) :
    Calls Tryz.prog 219 #[.pointer (some ⟨B, 0, none⟩)] w (Pu w (.bool (block74 x))) := by
  obtain ⟨a, cap, rfl, _⟩ := hv
  go_enter Tryz.func219, Tryz.ntmps219
  go_wp2
  all_goals (go_ret; refine ⟨?_, rfl⟩)
  all_goals simp_all [block74, bs_size]
  all_goals first | done | omega

set_option maxRecDepth 100000 in
theorem sevIsBlock_calls (x : Block) (last : Bool) (rv : Value) (w : World) (hl : Laid w) (hv : EidsV w x.refs rv) (hfit : blockFit x) :
    Calls Tryz.prog 146 #[.agg #[.int .i64 x.type, .int .i64 x.num, .int .i64 x.flags, .int .i64 x.sum, rv, .string (bs x.data)], .bool last] w (Rt w (.bool (block7 x last))) := by
  have Hfit := hide hfit
  have Hv := hide hv
  have Hl := hide hl
  have hst := fun (a : Addr) (w : World) => run_store Tryz.prog w a rv .plain hv.oneCell
  clear hfit hv hl
  go_enter Tryz.func146, Tryz.ntmps146
  go_wp2_with fail
  obtain ⟨W3, hW3⟩ : ∃ W3, ((w.alloc (.cells #[.int .i64 x.type, .int .i64 x.num, .int .i64 x.flags, .int .i64 x.sum, rv, .string (bs x.data)] 57)).alloc (.cells #[.bool last] 4)).alloc (.cells #[.func (.func 216) #[] #[.pointer (some ⟨w.heap.size, 0, none⟩), .pointer (some ⟨w.heap.size + 1, 0, none⟩)], .func (.func 217) #[] #[.pointer (some ⟨w.heap.size, 0, none⟩), .pointer (some ⟨w.heap.size + 1, 0, none⟩)], .func (.func 218) #[] #[.pointer (some ⟨w.heap.size, 0, none⟩)], .func (.func 219) #[] #[.pointer (some ⟨w.heap.size, 0, none⟩)]] 22) = W3 := ⟨_, rfl⟩
  rw [hW3]
  have hB3 : Below w.heap.size w W3 := by rw [← hW3]; ((repeat' (first | exact Below.refl _ _ | assumption | (refine Below.drew ?_) | (refine Below.alloc ?_ ?_ _) | (refine Below.setCell ?_ ?_ _) | (refine Below.step (W := ?hW) ?hq ?_ ?_; case hq => assumption))) <;> (first | (simp; done) | (simp; omega) | (simp at *; omega)))
  have hz3 : W3.heap.size = w.heap.size + 3 := by rw [← hW3]; simp
  have hX : BlockAt W3 w.heap.size 0 x rv := by
    have q : ∀ i, W3.cell? ⟨w.heap.size, i, none⟩ = (#[.int .i64 x.type, .int .i64 x.num, .int .i64 x.flags, .int .i64 x.sum, rv, .string (bs x.data)] : Array Value)[i]? := fun i => cellOf (t := 57) (by rw [← hW3]; ((repeat' (first | exact Below.refl _ _ | assumption | (refine Below.drew ?_) | (refine Below.alloc ?_ ?_ _) | (refine Below.setCell ?_ ?_ _) | (refine Below.step (W := ?hW) ?hq ?_ ?_; case hq => assumption))) <;> (first | (simp; done) | (simp; omega) | (simp at *; omega)))) rfl
    exact ⟨q 0, q 1, q 2, q 3, q 4, q 5⟩
  have hL : W3.cell? ⟨w.heap.size + 1, 0, none⟩ = some (.bool last) := by rw [← hW3]; (simp [World.cell?_alloc_at, World.cell?_alloc_past]; done)
  have fq := cellsOf (heapNew (W := W3) (o := .cells #[.func (.func 216) #[] #[.pointer (some ⟨w.heap.size, 0, none⟩), .pointer (some ⟨w.heap.size + 1, 0, none⟩)], .func (.func 217) #[] #[.pointer (some ⟨w.heap.size, 0, none⟩), .pointer (some ⟨w.heap.size + 1, 0, none⟩)], .func (.func 218) #[] #[.pointer (some ⟨w.heap.size, 0, none⟩)], .func (.func 219) #[] #[.pointer (some ⟨w.heap.size, 0, none⟩)]] 22) (u := (w.alloc (.cells #[.int .i64 x.type, .int .i64 x.num, .int .i64 x.flags, .int .i64 x.sum, rv, .string (bs x.data)] 57)).alloc (.cells #[.bool last] 4)) (n := w.heap.size + 1 + 1) (by rw [← hW3]; exact Below.refl _ _) (by simp))
  have f1 : W3.cell? ⟨w.heap.size + 1 + 1, 0 + 0, none⟩ = some (.func (.func 216) #[] #[.pointer (some ⟨w.heap.size, 0, none⟩), .pointer (some ⟨w.heap.size + 1, 0, none⟩)]) := fq 0
  have f2 : W3.cell? ⟨w.heap.size + 1 + 1, 0 + (0 + 1), none⟩ = some (.func (.func 217) #[] #[.pointer (some ⟨w.heap.size, 0, none⟩), .pointer (some ⟨w.heap.size + 1, 0, none⟩)]) := fq 1
  have f3 : W3.cell? ⟨w.heap.size + 1 + 1, 0 + (0 + 1 + 1), none⟩ = some (.func (.func 218) #[] #[.pointer (some ⟨w.heap.size, 0, none⟩)]) := fq 2
  have f4 : W3.cell? ⟨w.heap.size + 1 + 1, 0 + (0 + 1 + 1 + 1), none⟩ = some (.func (.func 219) #[] #[.pointer (some ⟨w.heap.size, 0, none⟩)]) := fq 3
  clear hW3 fq
  have hV3 := Hv.out.mono hB3
  have hLd := Hl.out.mono hB3
  have key : ∀ W, Below W3.heap.size W3 W → BlockAt W w.heap.size 0 x rv ∧ W.cell? ⟨w.heap.size + 1, 0, none⟩ = some (.bool last) ∧ EidsV W x.refs rv ∧ Laid W := fun W h =>
    ⟨hX.mono h (by omega), (h.cell (p := ⟨w.heap.size + 1, 0, none⟩) (show w.heap.size + 1 < W3.heap.size by omega)).trans hL, hV3.mono h, hLd.mono h⟩
  refine (seven_areAll [(216, #[.pointer (some ⟨w.heap.size, 0, none⟩), .pointer (some ⟨w.heap.size + 1, 0, none⟩)], block71 x last), (217, #[.pointer (some ⟨w.heap.size, 0, none⟩), .pointer (some ⟨w.heap.size + 1, 0, none⟩)], block72 x last), (218, #[.pointer (some ⟨w.heap.size, 0, none⟩)], block73 x), (219, #[.pointer (some ⟨w.heap.size, 0, none⟩)], block74 x)]
    (w.heap.size + 1 + 1) 0 4 4 W3 (by omega) rfl (by simp) ?h2).mono ?h3
  case h2 =>
    refine ⟨f1, enters_of Tryz.func216 (by kernel_rfl) rfl, fun W h => Pu.rt (block71_calls x last _ _ W (key W h).1.c0 (key W h).2.1), fun _ => ?_⟩
    refine ⟨f2, enters_of Tryz.func217 (by kernel_rfl) rfl, fun W h => Pu.rt (block72_calls x last _ _ W (key W h).1.c1 (key W h).2.1), fun _ => ?_⟩
    refine ⟨f3, enters_of Tryz.func218 (by kernel_rfl) rfl, fun W h => block73_calls x _ W (key W h).2.2.2 (key W h).1.c2 (key W h).1.c3, fun _ => ?_⟩
    exact ⟨f4, enters_of Tryz.func219 (by kernel_rfl) rfl, fun W h => Pu.rt (block74_calls x _ rv W (key W h).1.c4 (key W h).2.2.1 (key W h).1.c5 Hfit.out.1), fun _ => trivial⟩
  case h3 =>
    rintro e w1 ⟨rfl, hb⟩
    clear key
    go_wp2_with fail
    go_ret
    exact ⟨by simp [block7, Bool.and_assoc], hB3.trans (hb.mono (by omega))⟩
end Go.Proofs.YtllfaffbaijgfaaGreatDoor

namespace Go.Proofs.YtllfaffbaijgfaaGreatDoor
open Go Go.RowKit Go.Shelf

def IntsAt (w : World) (l : List Int) (b o : Nat) : Prop := b < w.heap.size ∧ ∀ i n, l[i]? = some n → w.cell? ⟨b, o + i, none⟩ = some (.int .i64 n)
theorem IntsAt.mono {n : Nat} {w w' : World} {l : List Int} {b o : Nat} (h : IntsAt w l b o) (hb : Below n w w') (hn : b < n) : IntsAt w' l b o := ⟨Nat.lt_of_lt_of_le h.1 hb.size, fun i e he => (hb.cell (p := ⟨b, _, none⟩) hn).trans (h.2 i e he)⟩
def IntsV (w : World) (l : List Int) (v : Value) : Prop := Sl l.length (IntsAt w l) v
theorem IntsV.mono {w w' : World} {l : List Int} {v : Value} (h : IntsV w l v) (hb : Below w.heap.size w w') : IntsV w' l v := h.imp fun b o h => h.mono hb h.1

set_option maxRecDepth 100000 in
/-- slices.IndexFunc over numbers -/
theorem indexInt_calls (l : List Int) (g : FuncId) (c : Array Value) (p : Int → Bool) (v : Value) (w : World) (hlen : l.length ≤ 9000000000000000000) (hv : IntsV w l v)
    (hg : ∀ args W, (callFunc g args).run Tryz.prog W = .ok (.enter g args) W)
    (hp : ∀ e ∈ l, ∀ W, Below w.heap.size w W → Calls Tryz.prog g (#[.int .i64 e] ++ c) W (Rt W (.bool (p e)))) :
    Calls Tryz.prog 220 #[v, .func (.func g) #[] c] w (fun e w' => ∃ k : Int, e = .returned (.int .i64 k) ∧ decide (0 ≤ k) = l.any p ∧ Below w.heap.size w w') := by
  have Hp := hide hp
  clear hp
  obtain ⟨a, cap, rfl, hat⟩ := hv
  have H := hide hat
  clear hat
  obtain ⟨n, hn⟩ : ∃ n, n = l.length := ⟨_, rfl⟩
  rw [← hn]
  rw [← hn] at hlen
  have Hn := hide hn
  clear hn
  go_enter Tryz.func220, Tryz.ntmps220
  go_wp2
  go_loopw [8] (fun k wr => ∃ i : Nat, i ≤ n ∧ k = .int .i64 i ∧ (∀ j, j < i → ∀ x, l[j]? = some x → p x = false) ∧ Below w.heap.size w wr) (fun k _ => n - (intOf k).toNat)
  case atStart => exact ⟨0, Nat.zero_le _, rfl, fun j h => absurd h (Nat.not_lt_zero _), Below.refl _ _⟩
  case round =>
    obtain ⟨i, hi, rfl, hj, hB⟩ := hrel
    by_cases hlt : i < n
    · obtain ⟨b, o, rfl, hat⟩ := H.out (by rw [← Hn.out]; omega)
      obtain ⟨e, hx⟩ : ∃ x, l[i]? = some x := ⟨_, List.getElem?_eq_getElem (by rw [← Hn.out]; exact hlt)⟩
      have k0 := (hB.cell (p := ⟨b, o + i, none⟩) hat.1).trans (hat.2 i e hx)
      have Hc := hide (Hp.out e (List.mem_of_getElem? hx) wr hB)
      have Hx := hide hx
      have Hj := hide hj
      clear hx hj hat
      go_wp2_with fail
      refine (show Calls _ _ _ _ _ from Hc.out).mono ?_
      rintro e1 w1 ⟨rfl, hb⟩
      have hB1 := hB.trans (hb.mono hB.size)
      clear hb k0
      obtain ⟨q, hq⟩ : ∃ q, q = p e := ⟨_, rfl⟩
      rw [← hq]
      have Hq := hide hq
      clear hq
      cases q
      · go_wp2
        go_roundw
        case rel => exact ⟨i + 1, by omega, by go_num, fun j h => by
          rcases Nat.lt_succ_iff_lt_or_eq.1 h with h | rfl
          · exact Hj.out j h
          · intro x hx
            rw [Hx.out] at hx; cases hx; exact Hq.out.symm, hB1⟩
        case measure => simp [intOf]; omega
      · go_wp2
        go_ret
        refine ⟨i, rfl, ?_, hB1⟩
        rw [List.any_eq_true.2 ⟨e, List.mem_of_getElem? Hx.out, Hq.out.symm⟩]
        simp
    · have Hj := hide hj
      clear hj
      go_wp2
      go_ret
      refine ⟨-1, rfl, ?_, hB⟩
      rw [List.any_eq_false.2 fun x hx => by
        obtain ⟨j, hj, rfl⟩ := List.mem_iff_getElem.1 hx
        simpa using Hj.out j (by rw [← Hn.out] at hj; omega) _ (List.getElem?_eq_getElem hj)]
      rfl

/-- slices.ContainsFunc over numbers -/
theorem containsInt_calls (l : List Int) (g : FuncId) (c : Array Value) (p : Int → Bool) (v : Value) (w : World) (hlen : l.length ≤ 9000000000000000000) (hv : IntsV w l v)
    (hg : ∀ args W, (callFunc g args).run Tryz.prog W = .ok (.enter g args) W)
    (hp : ∀ e ∈ l, ∀ W, Below w.heap.size w W → Calls Tryz.prog g (#[.int .i64 e] ++ c) W (Rt W (.bool (p e)))) :
    Calls Tryz.prog 148 #[v, .func (.func g) #[] c] w (Rt w (.bool (l.any p))) := by
  have H := hide (indexInt_calls l g c p v w hlen hv hg hp)
  clear hp hv hg
  go_enter Tryz.func148, Tryz.ntmps148
  go_wp2_with fail
  refine (show Calls _ _ _ _ _ from H.out).mono ?_
  rintro e w1 ⟨k, rfl, hk, hb⟩
  rw [← hk]
  go_wp2_with fail
  go_ret
  exact ⟨rfl, hb⟩

end Go.Proofs.YtllfaffbaijgfaaGreatDoor

namespace Go.Proofs.YtllfaffbaijgfaaGreatDoor
open Go Go.RowKit Go.Shelf
attribute [local go_sem] Oper.semAt_some

def within (most : Int) (l : List Int) : Bool := l.all fun n => decide (0 ≤ n) && decide (n ≤ most)

set_option maxRecDepth 100000 in
theorem within_calls (most : Int) (l : List Int) (v : Value) (w : World) (hlen : l.length ≤ 9000000000000000000) (hv : IntsV w l v) :
    Calls Tryz.prog 57 #[.int .i64 most, v] w (Pu w (.bool (within most l))) := by
  obtain ⟨a, cap, rfl, hat⟩ := hv
  have H := hide hat
  clear hat
  obtain ⟨n, hn⟩ : ∃ n, n = l.length := ⟨_, rfl⟩
  rw [← hn]
  rw [← hn] at hlen
  have Hn := hide hn
  clear hn
  obtain ⟨r, hr⟩ : ∃ r, r = within most l := ⟨_, rfl⟩
  rw [← hr]
  have Hr := hide hr
  clear hr
  go_enter Tryz.func57, Tryz.ntmps57
  go_wp2
  go_loopw [9] (fun k wr => ∃ i : Nat, i ≤ n ∧ k = .int .i64 i ∧ (∀ j, j < i → ∀ x, l[j]? = some x → (decide (0 ≤ x) && decide (x ≤ most)) = true) ∧ wr = w) (fun k _ => n - (intOf k).toNat)
  case atStart => exact ⟨0, Nat.zero_le _, rfl, fun j h => absurd h (Nat.not_lt_zero _), rfl⟩
  case round =>
    obtain ⟨i, hi, rfl, hj, rfl⟩ := hrel
    by_cases hlt : i < n
    · obtain ⟨b, o, rfl, hat⟩ := H.out (by rw [← Hn.out]; omega)
      obtain ⟨e, hx⟩ : ∃ x, l[i]? = some x := ⟨_, List.getElem?_eq_getElem (by rw [← Hn.out]; exact hlt)⟩
      have k0 := hat.2 i e hx
      have Hx := hide hx
      have Hj := hide hj
      clear hx hj hat
      by_cases h1 : e < 0
      · go_wp2
        go_ret
        refine ⟨?_, rfl⟩
        have : r = false := by
          rw [Hr.out, within, List.all_eq_false]
          exact ⟨e, List.mem_of_getElem? Hx.out, by simp; omega⟩
        rw [this]; rfl
      · by_cases h2 : most < e
        · go_wp2
          go_ret
          refine ⟨?_, rfl⟩
          have : r = false := by
            rw [Hr.out, within, List.all_eq_false]
            exact ⟨e, List.mem_of_getElem? Hx.out, by simp; omega⟩
          rw [this]; rfl
        · go_wp2
          go_roundw
          case rel => exact ⟨i + 1, by omega, by go_num, fun j h => by
            rcases Nat.lt_succ_iff_lt_or_eq.1 h with h | rfl
            · exact Hj.out j h
            · intro x hx
              rw [Hx.out] at hx; cases hx; simp; omega, trivial⟩
          case measure => simp [intOf]; omega
    · have hin : i = n := by omega
      subst hin
      have Hj := hide hj
      clear hj
      go_wp2
      go_ret
      refine ⟨?_, rfl⟩
      have : r = true := by
        rw [Hr.out, within, List.all_eq_true]
        intro x hx
        obtain ⟨j, hj⟩ := List.getElem?_of_mem hx
        exact Hj.out j (by rw [Hn.out]; exact (List.getElem?_eq_some_iff.1 hj).1) x hj
      rw [this]; rfl

set_option maxRecDepth 100000 in
theorem ofReport_calls (x : Report) (a : Option Addr) (n cap : Nat) (w : World) : Calls Tryz.prog 55 #[.agg #[.int .i64 x.bits, .slice a n cap, .int .i64 x.reason, .int .i64 x.source.scheme, .string (bs x.source.node), .string (bs x.source.service), .int .i64 x.source.a, .int .i64 x.source.b, .int .i64 x.time, .int .i64 x.seq, .bool x.part, .int .i64 x.off, .int .i64 x.len]] w (Rt w (.agg #[.int .i64 x.source.scheme, .string (bs x.source.node), .string (bs x.source.service), .int .i64 x.source.a, .int .i64 x.source.b, .int .i64 x.time, .int .i64 x.seq, .bool x.part, .int .i64 x.off, .int .i64 x.len, .int .i64 x.bits, .slice a n cap, .int .i64 x.reason, .int .i64 x.source.scheme, .string (bs x.source.node), .string (bs x.source.service), .int .i64 x.source.a, .int .i64 x.source.b, .int .i64 x.time, .int .i64 x.seq, .bool x.part, .int .i64 x.off, .int .i64 x.len])) := by
  go_enter Tryz.func55, Tryz.ntmps55
  go_wp2_with (first | (apply wpList_store_new (ty := 99) (n := 23); (case hgd => exact rfl); (case ho => exact rfl); (case hd => exact rfl); (case hx => exact rfl); (case hw => exact rfl); (case hg => first | exact rfl | (simp; done)); (case hy => exact rfl); (case hi => kernel_rfl); (case hn0 => exact rfl); (case hn => exact rfl); (case h1 => first | exact rfl | assumption | (simp [Value.oneCell', *]; done) | (simp [*]; done))) | (first | (apply wpList_load_of (ty := 47); (case hgd => exact rfl); (case ho => exact rfl); (case hx => exact rfl); (case hr => apply load_row (n := 13); (case hheap => apply heapNew (u := w); (case hbel => ((repeat' (first | exact Below.refl _ _ | assumption | (refine Below.drew ?_) | (refine Below.alloc ?_ ?_ _) | (refine Below.setCell ?_ ?_ _) | (refine Below.step (W := ?hW) ?hq ?_ ?_; case hq => assumption))) <;> (first | (simp; done) | (simp; omega) | (simp at *; omega)))); (case hnew => exact rfl)); (case hu => exact Tryz.underlying47); (case hd => exact rfl); (case hi => kernel_rfl); (case hc => exact rfl))) | (apply wpList_load_w (ty := 47); (case hgd => exact rfl); (case ho => exact rfl); (case hx => exact rfl); (case hr => apply load_row (n := 13); (case hheap => apply heapNew (u := w); (case hbel => ((repeat' (first | exact Below.refl _ _ | assumption | (refine Below.drew ?_) | (refine Below.alloc ?_ ?_ _) | (refine Below.setCell ?_ ?_ _) | (refine Below.step (W := ?hW) ?hq ?_ ?_; case hq => assumption))) <;> (first | (simp; done) | (simp; omega) | (simp at *; omega)))); (case hnew => exact rfl)); (case hu => exact Tryz.underlying47); (case hd => exact rfl); (case hi => kernel_rfl); (case hc => exact rfl)))))
  (refine bodyPost_ret (results_cell1 rfl rfl (load_row (n := 23) (hheap := heapNew (u := w.alloc _) (by ((repeat' (first | exact Below.refl _ _ | assumption | (refine Below.drew ?_) | (refine Below.alloc ?_ ?_ _) | (refine Below.setCell ?_ ?_ _) | (refine Below.step (W := ?hW) ?hq ?_ ?_; case hq => assumption))) <;> (first | (simp; done) | (simp; omega) | (simp at *; omega)))) (by simp)) (hu := Tryz.underlying99) (hd := rfl) (hi := by kernel_rfl) (hc := rfl))) rfl ?_)
  exact ⟨rfl, by ((repeat' (first | exact Below.refl _ _ | assumption | (refine Below.drew ?_) | (refine Below.alloc ?_ ?_ _) | (refine Below.setCell ?_ ?_ _) | (refine Below.step (W := ?hW) ?hq ?_ ?_; case hq => assumption))) <;> (first | (simp; done) | (simp; omega) | (simp at *; omega)))⟩

/-! the bits that are among some -/
def bitIs (f : Int) (i : Nat) : Bool := bits .and .i64 (f / 2 ^ i) 1 == 1
def bitsTo (f : Int) (k : Nat) : List Int := ((List.range k).filter (bitIs f)).map fun j => ((2 ^ j : Nat) : Int)
def happenedL (f : Int) : List Int := bitsTo f 5
theorem bitsTo_succ (f : Int) (k : Nat) : bitsTo f (k + 1) = bitsTo f k ++ if bitIs f k then [((2 ^ k : Nat) : Int)] else [] := by
  unfold bitsTo
  rw [List.range_succ, List.filter_append, List.map_append]
  by_cases h : bitIs f k <;> simp [h]
theorem bitsTo_len {f : Int} {k j : Nat} (h : k ≤ j) : ∃ t, bitsTo f j = bitsTo f k ++ t := by
  induction j with
  | zero => exact ⟨[], by rw [show k = 0 by omega]; simp⟩
  | succ j ih =>
    by_cases e : k = j + 1
    · subst e; exact ⟨[], by simp⟩
    · obtain ⟨t, ht⟩ := ih (by omega)
      exact ⟨_, by rw [bitsTo_succ, ht, List.append_assoc]⟩
theorem bitsTo_at {f : Int} {k j : Nat} (h : k < j) (hk : bitIs f k = true) : (bitsTo f j)[(bitsTo f k).length]? = some ((2 ^ k : Nat) : Int) := by
  obtain ⟨t, ht⟩ := bitsTo_len (f := f) (show k + 1 ≤ j by omega)
  rw [ht, bitsTo_succ, if_pos hk, List.append_assoc, List.getElem?_append_right (by omega)]
  simp

set_option maxRecDepth 100000 in
theorem happenedIter (f : Int) (A : Nat) (R : Nat → Prop) (w : World) (hA : w.cell? ⟨A, 0, none⟩ = some (.int .i64 f)) (hRA : R A) (hRlt : ∀ k, R k → k < w.heap.size) :
    Iter Tryz.prog 188 #[.pointer (some ⟨A, 0, none⟩)] (fun one => #[.int .i64 one]) (happenedL f) R (fun _ => False) w := by
  intro lp J Jx W hW hJ hJx hY hj0
  have HY := hide hY
  have kA := (hW.cell (p := ⟨A, 0, none⟩) hRA).trans hA
  have HA := hide hRA
  clear hY hA hRA
  refine callsIn_of_wp Tryz.func188 rfl trivial ?_ rfl
  simp only [Tryz.ntmps188, List.size_toArray, List.length_cons, List.length_nil, Nat.reduceAdd, Nat.reduceSub, Array.replicate_succ, Array.replicate_zero, List.push_toArray, List.append_toArray, List.nil_append, List.cons_append]
  refine wpIn_scope_wide ?_
  gi_wp2
  refine wpIn_label ?_
  gi_wp2
  gi_loopw [4] (fun k wr => ∃ j : Nat, j ≤ 5 ∧ k = .int .i64 (j : Int) ∧ J (bitsTo f j).length wr ∧ Keep R W wr) (fun k _ => 5 - (intOf k).toNat)
  case atStart => exact ⟨0, Nat.zero_le _, rfl, hj0, Keep.refl _ _⟩
  case round =>
    obtain ⟨j, hj, rfl, hJi, hK⟩ := hrel
    replace kA := (hK.cell (p := ⟨A, 0, none⟩) HA.out).trans kA
    by_cases hle : j < 5
    · have hp : wrap64 ((2 : Int) ^ j) = ((2 ^ j : Nat) : Int) := by
        have : j = 0 ∨ j = 1 ∨ j = 2 ∨ j = 3 ∨ j = 4 := by omega
        rcases this with rfl | rfl | rfl | rfl | rfl <;> simp [wrap64]
      obtain ⟨r, hr⟩ : ∃ r, r = bitIs f j := ⟨_, rfl⟩
      have hr' : (bits .and .i64 (f / 2 ^ j) 1 == 1) = r := by rw [hr]; rfl
      have Hr := hide hr
      clear hr
      have hshr : wrap64 ((j : Int) + 1) = ((j + 1 : Nat) : Int) := by unfold wrap64; omega
      cases r
      · gi_wp2
        refine ⟨(by intro _ h; cases h), ?_⟩
        gi_wp2
        go_roundw
        case rel =>
          refine ⟨j + 1, by omega, by first | rfl | go_num, ?_, hK⟩
          rw [bitsTo_succ, ← Hr.out]
          simpa using hJi
        case measure => simp [intOf]; omega
      · have hx : (happenedL f)[(bitsTo f j).length]? = some ((2 ^ j : Nat) : Int) := bitsTo_at (by omega) Hr.out.symm
        obtain ⟨fn, tmps, assign, body, hy, hR⟩ := HY.out _ _ wr hx hJi
        clear hx
        rw [← hp] at hy
        have Hp := hide hp
        clear hp
        gi_wp2
        refine ⟨rfl, hR.mono ?_⟩
        rintro e W' (⟨rfl, hJ', hk⟩ | ⟨rfl, hJx'⟩)
        · clear hy hR kA
          gi_wp2
          go_roundw
          case rel =>
            refine ⟨j + 1, by omega, by first | rfl | go_num, ?_, hK.trans hk⟩
            rw [bitsTo_succ, ← Hr.out]
            simpa using hJ'
          case measure => simp [intOf]; omega
        · clear hy hR kA
          gi_wp2
          simp only [Exit.noGoto]
          go_end0
          exact ⟨⟨_, rfl⟩, .inr hJx'⟩
    · have : j = 5 := by omega
      subst this
      gi_wp2
      simp only [Exit.noGoto]
      go_end0
      exact ⟨⟨_, rfl⟩, .inl hJi⟩

theorem happened_calls (f : Int) (w : World) : Calls Tryz.prog 119 #[.int .i64 f] w (fun e w' => e = .returned (.func (.func 188) #[] #[.pointer (some ⟨w.heap.size, 0, none⟩)]) ∧ w' = w.alloc (.cells #[.int .i64 f] 3)) := by
  go_enter Tryz.func119, Tryz.ntmps119
  go_wp2
  go_ret
  exact ⟨rfl, rfl⟩

def countI (f : Int) : Int := (happenedL f).length
theorem countI_le (f : Int) : (happenedL f).length ≤ 5 := by
  unfold happenedL bitsTo
  rw [List.length_map]
  exact Nat.le_trans (List.length_filter_le _ _) (by simp)

set_option maxRecDepth 100000 in
theorem count_calls (f : Int) (w : World) : Calls Tryz.prog 58 #[.int .i64 f] w (Rt w (.int .i64 (countI f))) := by
  refine (callsIn_wide (n := 0)).1 ?_
  refine callsIn_of_wp_marks Tryz.func58 rfl trivial ?_ rfl
  simp only [Tryz.ntmps58, List.size_toArray, List.length_cons, List.length_nil, Nat.reduceAdd, Nat.reduceSub, Array.replicate_succ, Array.replicate_zero, List.push_toArray, List.append_toArray, List.nil_append, List.cons_append]
  gi_wp2
  refine ⟨trivial, rfl, ?_⟩
  refine (callsIn_wide.2 (happened_calls f _)).mono ?_
  rintro e_ w_ ⟨rfl, hw_⟩
  have hz : (w.alloc (.cells #[.int .i64 0] 3)).heap.size = w.heap.size + 1 := by simp
  have hB : Below w.heap.size w w_ := by rw [hw_]; ((repeat' (first | exact Below.refl _ _ | assumption | (refine Below.drew ?_) | (refine Below.alloc ?_ ?_ _) | (refine Below.setCell ?_ ?_ _) | (refine Below.step (W := ?hW) ?hq ?_ ?_; case hq => assumption))) <;> (first | (simp; done) | (simp; omega) | (simp at *; omega)))
  have hzw : w_.heap.size = w.heap.size + 2 := by rw [hw_]; simp
  have hO : w_.cell? ⟨w.heap.size, 0, none⟩ = some (.int .i64 0) := by
    rw [hw_]; exact cellOf (i := 0) (u := w) (c := #[.int .i64 0]) (t := 3) (by ((repeat' (first | exact Below.refl _ _ | assumption | (refine Below.drew ?_) | (refine Below.alloc ?_ ?_ _) | (refine Below.setCell ?_ ?_ _) | (refine Below.step (W := ?hW) ?hq ?_ ?_; case hq => assumption))) <;> (first | (simp; done) | (simp; omega) | (simp at *; omega)))) (by simp)
  have hOf : w_.frozen? ⟨w.heap.size, 0, none⟩ = false := by
    rw [hw_]; simp [World.frozen?_alloc_at, World.frozen?_alloc_past]
  have hA : w_.cell? ⟨w.heap.size + 1, 0, none⟩ = some (.int .i64 f) := by
    rw [hw_]; exact cellOf (i := 0) (u := w.alloc (.cells #[.int .i64 0] 3)) (c := #[.int .i64 f]) (t := 3) (by ((repeat' (first | exact Below.refl _ _ | assumption | (refine Below.drew ?_) | (refine Below.alloc ?_ ?_ _) | (refine Below.setCell ?_ ?_ _) | (refine Below.step (W := ?hW) ?hq ?_ ?_; case hq => assumption))) <;> (first | (simp; done) | (simp; omega) | (simp at *; omega)))) (by simp)
  rw [hz]
  clear hw_ hz
  have hlb : ∀ k, (k = w.heap.size + 1) → k < w_.heap.size := fun k hk => by omega
  have Hit := hide (happenedIter f (w.heap.size + 1) (fun k => k = w.heap.size + 1) w_ hA rfl hlb)
  gi_wp2
  refine wp_range (gf := 188) (lb := #[.pointer (some ⟨w.heap.size + 1, 0, none⟩)]) rfl (enters_of Tryz.func188 (by kernel_rfl) rfl) Hit.out (fun _ => rfl) hlb (fun _ h => h.elim)
    (fun i W => W.cell? ⟨w.heap.size, 0, none⟩ = some (.int .i64 (i : Int)) ∧ W.frozen? ⟨w.heap.size, 0, none⟩ = false ∧ Below w.heap.size w W)
    (fun c W => False)
    (fun i A B h hs => by
      obtain ⟨h2, h3, h4⟩ := h
      exact ⟨hs.cell h2 id, (hs.frozen h2 id).trans h3, hs.below h4 (by omega) h4.size (fun _ h => h.elim)⟩)
    (fun c A B h hs => h.elim)
    ⟨hO, hOf, hB⟩ ?round ?done ?stop
  case stop => exact fun _ _ _ _ h => h.elim
  case round =>
    intro l i y W hl hy hi hrec
    obtain ⟨hcr, hfr, hBW⟩ := hi
    have hW : w_.heap.size < W.heap.size := by obtain ⟨r, hr⟩ := hrec; have := (Array.getElem?_eq_some_iff.1 hr).1; omega
    have hi5 : i < 5 := Nat.lt_of_lt_of_le (List.getElem?_eq_some_iff.1 hy).1 (countI_le f)
    have hw1 : wrap64 ((i : Int) + 1) = ((i + 1 : Nat) : Int) := by unfold wrap64; omega
    clear hy Hit hrec
    gi_wp2
    refine ⟨KeepsFrom.refl _ _, Keep.refl _ _, fun W₂ hs hk hkr hsz hc hf => ?_⟩
    have hcr2 := (hc _).trans hcr
    have hfr2 := (hf _).trans hfr
    have hBW2 : Below w.heap.size w W₂ := hs.below hBW (by omega) hBW.size (fun _ h => h.elim)
    clear hs hkr hc hf hcr hfr
    gi_wp2
    refine ⟨(KeepsOthers.setCell _ _ _).from _, ?_, ?_, ?_, ?_⟩
    · exact ⟨by rw [size_setCell]; exact Nat.le_refl _, fun k hk => heap_setCell_ne (by omega)⟩
    · exact World.cell?_setCell_same' _ _ _ (by rw [hcr2]; rfl)
    · rw [World.frozen?_setCell]; exact hfr2
    · exact hBW2.setCell (p := ⟨w.heap.size, 0, none⟩) (Nat.le_refl _) _
  case done =>
    rintro D W hD ⟨hcr, hfr, hBW⟩ hK
    clear Hit
    have hcr : W.cell? ⟨w.heap.size, 0, none⟩ = some (.int .i64 (countI f)) := hcr
    gi_wp2
    refine ⟨by simp, .inl ⟨_, _, rfl, run_takeDeferred hK, ?_⟩⟩
    refine ⟨_, results_tmp1 rfl rfl, rfl, ?_⟩
    exact below_putObj hBW (by omega) _
end Go.Proofs.YtllfaffbaijgfaaGreatDoor
