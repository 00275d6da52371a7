/- errors.Is at a sentinel (after the kit's worked text of the same name). The letters of a name's parts: hasRune, isPart, areAll of package eid. A region that draws its order: its first operations yield fixed values in whatever world of a class; the last ones come in one forced order. After the library's own two laws (a class of worlds; a forced tail), joined. No program text. Maps whose keys are numbers, written out in the heap: a store, a look-up. No program text. -/
import Derived.Test.YtllfaffbaijgfaaGreatDoorJ01
import Derived.LaidEql
import Derived.Stop.Asserts
import Derived.RowKitTokens
import Derived.Lib.OthersKept
import Derived.WalkSmall
import Derived.Deep.Light
import Derived.StillTail
import Derived.Deep.QuietTactic
import Derived.BigQuiet
set_option linter.unusedVariables false
set_option linter.unusedSimpArgs false
namespace Go.Proofs.YtllfaffbaijgfaaGreatDoor
open Go Go.RowKit Go.Extern.Stop Go.Stop Go.Extern

/-- reflectlite's Comparable -/
def cmpMethod : Array Value → Sem Value := Extern.ReflectliteType.method fun t => do Rtype.noPackHeld "Comparable" t; pure (.bool (← typeInfo t).comparable)

/-! ### CLOSED FACTS: what 'reflectlite.TypeOf(target).Comparable()' gives at such a target -/
theorem isTypeOf (v : Value) (w : World) : (Extern.ReflectliteType.typeOf #[.iface 526 v]).run Tryz.prog w = .ok (.iface 335 (.agg #[.pointer (some ⟨33, 526, none⟩)])) w := by kernel_rfl
theorem isComparable (w : World) : (cmpMethod #[.agg #[.pointer (some ⟨33, 526, none⟩)]]).run Tryz.prog w = .ok (.bool true) w := by kernel_rfl
theorem isMethodComparable (v : Value) (w : World) : (Go.method 656 335 v "Comparable").run Tryz.prog w = .ok (421, v) w := by kernel_rfl
theorem isComp : (Tryz.prog.info? 526).map (·.comparable) = some true := by kernel_rfl
theorem isSize : (Tryz.prog.info? 528).map (·.size) = some 1 := by kernel_rfl

/-! ### CLOSED FACTS ON THE METHOD SETS: what errors.is's assertions find -/
theorem noIsE (v : Value) (xT : TypeId) (w : World) : (Instr.typeAssert (.iface 526 v) xT 359 true).run Tryz.prog w = .ok (.tuple #[.nilIface, .bool false]) w := run_typeAssert_lacksB Tryz.underlying359 (by kernel_rfl) (by kernel_rfl) v xT w
theorem noUnwrapE (v : Value) (xT : TypeId) (w : World) : (Instr.typeAssert (.iface 526 v) xT 342 true).run Tryz.prog w = .ok (.tuple #[.nilIface, .bool false]) w := run_typeAssert_lacksB Tryz.underlying342 (by kernel_rfl) (by kernel_rfl) v xT w
theorem noUnwrapsE (v : Value) (xT : TypeId) (w : World) : (Instr.typeAssert (.iface 526 v) xT 343 true).run Tryz.prog w = .ok (.tuple #[.nilIface, .bool false]) w := run_typeAssert_lacksB Tryz.underlying343 (by kernel_rfl) (by kernel_rfl) v xT w

set_option maxRecDepth 100000 in
/-- errors.Is(x, x), x a pointer to an errors.errorString. -/
theorem is_same (a : Addr) (w : World) :
    Calls Tryz.prog 120 #[.iface 526 (.pointer (some a)), .iface 526 (.pointer (some a))] w fun e w' => e = .returned (.bool true) ∧ w' = w := by
  obtain ⟨i, hi, hcmp⟩ := Option.map_eq_some_iff.1 isComp
  obtain ⟨j, hj, hjs⟩ := Option.map_eq_some_iff.1 isSize
  have h8 := @run_callFunc_extern Tryz.prog 189 _ Extern.ReflectliteType.typeOf Tryz.func189 (by kernel_rfl) (by kernel_rfl) (by kernel_rfl) (by kernel_rfl)
  have h32 := @run_callFunc_extern Tryz.prog 421 _ cmpMethod Tryz.func421 (by kernel_rfl) (by kernel_rfl) (by kernel_rfl) (by kernel_rfl)
  have tT := isTypeOf
  have cT := isComparable
  have mR := isMethodComparable
  have heq := run_eql_iface_ptr_same (P := Tryz.prog) w a Tryz.underlying78 Tryz.underlying526 hi hcmp hj
  go_enter Tryz.func120, Tryz.ntmps120
  go_wp2
  refine wp_loop_rounds 1 ?_
  rw [rounds_succ]
  go_wp2
  go_ret
  exact ⟨rfl, rfl⟩

set_option maxRecDepth 100000 in
/-- errors.Is(nil, x). -/
theorem is_nil (b : Addr) (w : World) :
    Calls Tryz.prog 120 #[.nilIface, .iface 526 (.pointer (some b))] w fun e w' => e = .returned (.bool false) ∧ w' = w := by
  have hn := run_eql_iface_nil_left (P := Tryz.prog) w 526 (.pointer (some b)) Tryz.underlying78
  go_enter Tryz.func120, Tryz.ntmps120
  go_wp2
  go_ret
  exact ⟨rfl, rfl⟩

set_option maxRecDepth 100000 in
/-- errors.Is(x, y), two different pointers to errors.errorString: neither has Is nor Unwrap: false. -/
theorem is_other (a b : Addr) (ca cb : Array Value) (ta tb : TypeId) (w : World) (hne : a ≠ b) (ha : w.heap[a.block]? = some (.cells ca ta (0, 0))) (hb : w.heap[b.block]? = some (.cells cb tb (0, 0))) :
    Calls Tryz.prog 120 #[.iface 526 (.pointer (some a)), .iface 526 (.pointer (some b))] w fun e w' => e = .returned (.bool false) ∧ w' = w := by
  obtain ⟨i, hi, hcmp⟩ := Option.map_eq_some_iff.1 isComp
  obtain ⟨j, hj, hjs⟩ := Option.map_eq_some_iff.1 isSize
  have h8 := @run_callFunc_extern Tryz.prog 189 _ Extern.ReflectliteType.typeOf Tryz.func189 (by kernel_rfl) (by kernel_rfl) (by kernel_rfl) (by kernel_rfl)
  have h32 := @run_callFunc_extern Tryz.prog 421 _ cmpMethod Tryz.func421 (by kernel_rfl) (by kernel_rfl) (by kernel_rfl) (by kernel_rfl)
  have tT := isTypeOf
  have cT := isComparable
  have mR := isMethodComparable
  have nE := noIsE
  have uE := noUnwrapE
  have vE := noUnwrapsE
  have heq := run_eql_iface_ptr_other (P := Tryz.prog) w Tryz.underlying78 Tryz.underlying526 hi hcmp hj (by rw [hjs]; decide) hne ha hb
  go_enter Tryz.func120, Tryz.ntmps120
  go_wp2
  refine wp_loop_rounds 1 ?_
  rw [rounds_succ]
  go_wp2
  go_ret
  exact ⟨rfl, rfl⟩

end Go.Proofs.YtllfaffbaijgfaaGreatDoor

namespace Go.Proofs.YtllfaffbaijgfaaGreatDoor
open Go Go.RowKit Go.Shelf

theorem bs_get (l : List UInt8) (i : Nat) (h : i < (bs l).size) {c : UInt8} (hc : l[i]? = some c) : (bs l)[i]'h = c := by
  obtain ⟨h1, h2⟩ := List.getElem?_eq_some_iff.1 hc
  show (bs l).data[i]'_ = c
  rw [← h2]
  rfl

theorem next_ascii {P : Program} (w : World) (k : Nat) (l : List UInt8) (pos : Nat) (ty : TypeId) (c : UInt8) (hk : w.heap[k]? = some (.stringIter (bs l) pos)) (hc : l[pos]? = some c) (ha : c.toNat < 128) :
    (Instr.next (.pointer (some ⟨k, 0, none⟩)) true ty).run P w = .ok (.tuple #[.bool true, .int .i64 pos, .int .i32 c.toNat]) (w.iterAt k (bs l) (pos + 1)) := by
  have h : pos < (bs l).size := by rw [bs_size]; exact (List.getElem?_eq_some_iff.1 hc).1
  have e := bs_get l pos h hc
  rw [Lib.run_next_ascii_at w k (bs l) pos ty hk h (by rw [e]; exact ha), e]

theorem next_end {P : Program} (w : World) (k : Nat) (l : List UInt8) (pos : Nat) (ty : TypeId) (hk : w.heap[k]? = some (.stringIter (bs l) pos)) (hp : l.length ≤ pos) :
    (Instr.next (.pointer (some ⟨k, 0, none⟩)) true ty).run P w = .ok (.tuple #[.bool false]) w :=
  Lib.run_next_end_at w k (bs l) pos ty hk (by rw [bs_size]; omega)

theorem any_true {α : Type} {p : α → Bool} {l : List α} {k : Nat} {x : α} (h : l[k]? = some x) (hp : p x = true) : l.any p = true := List.any_eq_true.2 ⟨x, List.mem_of_getElem? h, hp⟩
theorem any_false_of {α : Type} {p : α → Bool} {l : List α} (h : ∀ (j : Nat) (x : α), l[j]? = some x → p x = false) : l.any p = false := by
  rw [List.any_eq_false]
  intro x hx
  obtain ⟨j, hj⟩ := List.mem_iff_getElem?.1 hx
  simp [h j x hj]

def hasRune (l : List UInt8) (r : Int) : Bool := l.any fun c => (c.toNat : Int) == r

set_option maxHeartbeats 400000 in
theorem hasRune_calls (l : List UInt8) (r : Int) (w : World) (hl : ∀ (i : Nat) (c : UInt8), l[i]? = some c → c.toNat < 128) :
    Calls Tryz.prog 327 #[.string (bs l), .int .i32 r] w (Rt w (.bool (hasRune l r))) := by
  have Hl := hide hl
  clear hl
  go_enter Tryz.func327, Tryz.ntmps327
  go_wp2
  go_loopw [] (fun wr => ∃ pos : Nat, wr.heap[w.heap.size]? = some (.stringIter (bs l) pos) ∧ pos ≤ l.length ∧ Below w.heap.size w wr ∧ Hid (∀ j x, j < pos → l[j]? = some x → ((x.toNat : Int) == r) = false)) (fun wr => l.length - wr.iterPos w.heap.size)
  case atStart => exact ⟨0, World.iter_heap w (bs l) 0, Nat.zero_le _, (Below.refl _ w).alloc (Nat.le_refl _) _, hide (fun j x h => absurd h (Nat.not_lt_zero _))⟩
  case round =>
    obtain ⟨pos, hit, hp, hB, hj⟩ := hrel
    have hsz : w.heap.size < wr.heap.size := (Array.getElem?_eq_some_iff.1 hit).1
    by_cases hlt : pos < l.length
    · obtain ⟨c, hc⟩ : ∃ c, l[pos]? = some c := ⟨_, List.getElem?_eq_getElem hlt⟩
      have hnx := fun ty => next_ascii (P := Tryz.prog) wr w.heap.size l pos ty c hit hc (Hl.out _ _ hc)
      have hit2 := Lib.iterAt_heap wr w.heap.size (bs l) pos (pos + 1) hit
      have hB2 := Lib.below_iterAt hB (k := w.heap.size) (Nat.le_refl _) (bs l) (pos + 1)
      have Hc := hide hc
      clear hc
      cases hcr : ((c.toNat : Int) == r)
      · go_wp2
        go_roundw
        case rel =>
          refine ⟨pos + 1, hit2, by omega, hB2, hide ?_⟩
          intro j x hlt hx
          rcases Nat.lt_succ_iff_lt_or_eq.1 hlt with h | rfl
          · exact hj.out j x h hx
          · rw [Hc.out] at hx; cases hx; exact hcr
        case measure => rw [iterPos_of hit2, iterPos_of hit]; omega
      · go_wp2
        go_ret
        exact ⟨by rw [show hasRune l r = true from any_true Hc.out hcr]; rfl, hB2⟩
    · have hne := fun ty => next_end (P := Tryz.prog) wr w.heap.size l pos ty hit (by omega)
      go_wp2
      go_ret
      exact ⟨by rw [show hasRune l r = false from any_false_of (fun j x hx => hj.out j x (by have := (List.getElem?_eq_some_iff.1 hx).1; omega) hx)]; rfl, hB⟩

theorem decode_high (l : List UInt8) (pos : Nat) (c : UInt8) (hc : l[pos]? = some c) (h : 128 ≤ c.toNat) : 128 ≤ (Utf8.decode (bs l) pos).1 := by
  have hp : pos < (bs l).size := by rw [bs_size]; exact (List.getElem?_eq_some_iff.1 hc).1
  have e : (bs l).get! (pos + 0) = c := by
    show (bs l).get! pos = c
    have := bs_get l pos hp hc
    rw [← this]
    simp [ByteArray.get!, getElem!_pos, hp]
    rfl
  unfold Utf8.decode
  simp only [e]
  rw [if_neg (by omega)]
  have he : 128 ≤ Utf8.runeError := by decide
  repeat' split
  all_goals first | exact he | (simp only [Bool.and_eq_true, decide_eq_true_eq, ge_iff_le] at *; omega)

def okSign (signs : List UInt8) (c : UInt8) : Bool := lower c || digit c || signs.contains c

theorem hasRune_eq (signs : List UInt8) (c : UInt8) : hasRune signs (c.toNat : Int) = signs.contains c := by
  unfold hasRune
  rw [Bool.eq_iff_iff, List.any_eq_true]
  simp only [List.contains_iff_mem]
  constructor
  · rintro ⟨x, hx, h⟩
    have h1 : (x.toNat : Int) = c.toNat := by simpa using h
    have : x = c := UInt8.toNat_inj.1 (by omega)
    exact this ▸ hx
  · intro h
    exact ⟨c, h, by simp⟩
theorem hasRune_high (signs : List UInt8) (r : Int) (hs : ∀ (i : Nat) (c : UInt8), signs[i]? = some c → c.toNat < 128) (hr : 128 ≤ r) : hasRune signs r = false :=
  any_false_of fun j x hx => by have := hs j x hx; simp; omega
theorem ok_lower (signs : List UInt8) (c : UInt8) (h1 : 97 ≤ (c.toNat : Int)) (h2 : (c.toNat : Int) ≤ 122) : okSign signs c = true := by
  unfold okSign lower
  simp [UInt8.le_iff_toNat_le]
  omega
theorem ok_digit (signs : List UInt8) (c : UInt8) (h1 : 48 ≤ (c.toNat : Int)) (h2 : (c.toNat : Int) ≤ 57) : okSign signs c = true := by
  unfold okSign digit
  simp [UInt8.le_iff_toNat_le]
  omega
theorem ok_sign (signs : List UInt8) (c : UInt8) (h : ¬ (97 ≤ (c.toNat : Int) ∧ (c.toNat : Int) ≤ 122)) (h' : ¬ (48 ≤ (c.toNat : Int) ∧ (c.toNat : Int) ≤ 57)) : okSign signs c = hasRune signs (c.toNat : Int) := by
  rw [hasRune_eq]
  have e1 : lower c = false := by
    unfold lower
    simp [UInt8.le_iff_toNat_le, UInt8.lt_iff_toNat_lt]
    omega
  have e2 : digit c = false := by
    unfold digit
    simp [UInt8.le_iff_toNat_le, UInt8.lt_iff_toNat_lt]
    omega
  simp [okSign, e1, e2]
theorem okSign_high (signs : List UInt8) (c : UInt8) (hs : ∀ (i : Nat) (c : UInt8), signs[i]? = some c → c.toNat < 128) (hr : 128 ≤ c.toNat) : okSign signs c = false := by
  rw [ok_sign signs c (by omega) (by omega)]
  exact hasRune_high signs _ hs (by omega)
theorem isPart_eq (signs l : List UInt8) : isPart signs l = (l.all (okSign signs) && decide (l.length ≤ 20)) := rfl

theorem isPart_calls (signs l : List UInt8) (w : World) (hs : ∀ (i : Nat) (c : UInt8), signs[i]? = some c → c.toNat < 128) (hlen : l.length ≤ 9000000000000000000) :
    Calls Tryz.prog 281 #[.string (bs l), .string (bs signs)] w (Rt w (.bool (isPart signs l))) := by
  have Hs := hide hs
  clear hs
  have hbz := bs_size l
  go_enter Tryz.func281, Tryz.ntmps281
  go_wp2
  go_loopw [] (fun wr => ∃ pos : Nat, wr.heap[w.heap.size]? = some (.stringIter (bs l) pos) ∧ pos ≤ l.length ∧ Below w.heap.size w wr ∧ Hid (∀ (j : Nat) (x : UInt8), j < pos → l[j]? = some x → okSign signs x = true)) (fun wr => l.length - wr.iterPos w.heap.size)
  case atStart => exact ⟨0, World.iter_heap w (bs l) 0, Nat.zero_le _, (Below.refl _ w).alloc (Nat.le_refl _) _, hide (fun j x h => absurd h (Nat.not_lt_zero _))⟩
  case round =>
    obtain ⟨pos, hit, hp, hB, hj⟩ := hrel
    have hsz : w.heap.size < wr.heap.size := (Array.getElem?_eq_some_iff.1 hit).1
    by_cases hlt : pos < l.length
    · obtain ⟨c, hc⟩ : ∃ c, l[pos]? = some c := ⟨_, List.getElem?_eq_getElem hlt⟩
      have Hc := hide hc
      by_cases hasc : c.toNat < 128
      · have hnx := fun ty => next_ascii (P := Tryz.prog) wr w.heap.size l pos ty c hit hc hasc
        have hit2 := Lib.iterAt_heap wr w.heap.size (bs l) pos (pos + 1) hit
        have hB2 := Lib.below_iterAt hB (k := w.heap.size) (Nat.le_refl _) (bs l) (pos + 1)
        have hsz2 : w.heap.size < (wr.iterAt w.heap.size (bs l) (pos + 1)).heap.size := by rw [Lib.iterAt_size]; exact hsz
        have key : okSign signs c = true → Hid (∀ (j : Nat) (x : UInt8), j < pos + 1 → l[j]? = some x → okSign signs x = true) := fun hok => hide (by
          intro j x hlt hx
          rcases Nat.lt_succ_iff_lt_or_eq.1 hlt with h | rfl
          · exact hj.out j x h hx
          · rw [Hc.out] at hx; cases hx; exact hok)
        have Key := hide key
        clear key hc
        cases hok : hasRune signs (c.toNat : Int)
        all_goals
          have Hok := hide hok
          clear hok
          go_wp2_with (go_at_call 327; refine (hasRune_calls signs _ _ Hs.out).mono ?_; rw [Hok.out]; rintro e_ w_ ⟨rfl, hb_⟩; have hit3 := (hb_.block _ hsz2).trans hit2; have hB3 := hB2.trans (hb_.mono (by omega)); clear hb_)
          all_goals first
            | (go_ret
               refine ⟨?_, by assumption⟩
               rw [isPart_eq, all_false Hc.out ((ok_sign signs c (by omega) (by omega)).trans Hok.out)]
               rfl)
            | (go_roundw
               case rel =>
                 refine ⟨pos + 1, ?_, by omega, ?_, Key.out ?_⟩
                 · first | exact hit3 | exact hit2
                 · first | exact hB3 | exact hB2
                 · by_cases h1 : 97 ≤ (c.toNat : Int) ∧ (c.toNat : Int) ≤ 122
                   · exact ok_lower signs c h1.1 h1.2
                   · by_cases h2 : 48 ≤ (c.toNat : Int) ∧ (c.toNat : Int) ≤ 57
                     · exact ok_digit signs c h2.1 h2.2
                     · refine (ok_sign signs c h1 h2).trans ?_
                       first | exact Hok.out | (exfalso; omega) | (exfalso; simp only [Bool.not_eq_false', decide_eq_true_eq] at *; omega)
               case measure => first | (rw [iterPos_of hit3, iterPos_of hit]; omega) | (rw [iterPos_of hit2, iterPos_of hit]; omega))
      · have hd := decode_high l pos c hc (by omega)
        have hr0 := hasRune_high signs (Utf8.decode (bs l) pos).1 Hs.out (by omega)
        have Hr := hide hr0
        have Hf := hide (okSign_high signs c Hs.out (by omega))
        have hnx := fun ty => Lib.run_next_any_at (P := Tryz.prog) wr w.heap.size (bs l) pos ty hit (by rw [bs_size]; exact hlt)
        have hit2 := Lib.iterAt_heap wr w.heap.size (bs l) pos (pos + (Utf8.decode (bs l) pos).2) hit
        have hB2 := Lib.below_iterAt hB (k := w.heap.size) (Nat.le_refl _) (bs l) (pos + (Utf8.decode (bs l) pos).2)
        have hsz2 : w.heap.size < (wr.iterAt w.heap.size (bs l) (pos + (Utf8.decode (bs l) pos).2)).heap.size := by rw [Lib.iterAt_size]; exact hsz
        clear hc hr0
        go_wp2_with (go_at_call 327; refine (hasRune_calls signs _ _ Hs.out).mono ?_; rw [Hr.out]; rintro e_ w_ ⟨rfl, hb_⟩; have hB3 := hB2.trans (hb_.mono (by omega)); clear hb_)
        all_goals
          first
            | (go_ret
               refine ⟨?_, by assumption⟩
               rw [isPart_eq, all_false Hc.out Hf.out]
               rfl)
            | (exfalso; omega)
            | (exfalso; simp only [Bool.not_eq_false', decide_eq_true_eq] at *; omega)
    · have hne := fun ty => next_end (P := Tryz.prog) wr w.heap.size l pos ty hit (by omega)
      have hall : l.all (okSign signs) = true := all_true_of (fun j hj' x hx => hj.out j x (by omega) hx)
      have Hall := hide hall
      clear hall
      go_wp2
      all_goals
        go_ret
        refine ⟨?_, hB⟩
        rw [isPart_eq, Hall.out]
        have e20 : decide ((l.length : Int) ≤ 20) = decide (l.length ≤ 20) := by simp; omega
        simp [hbz, e20]

end Go.Proofs.YtllfaffbaijgfaaGreatDoor

namespace Go.Proofs.YtllfaffbaijgfaaGreatDoor
open Go Go.RowKit

section
variable {P : Program} {ops : Array Oper} {md : Region.Mode} {C : World → Prop}

def wpAnyC (P : Program) (md : Region.Mode) (ops : Array Oper) (C : World → Prop) (n : Nat) (L : Array Bool → Act → Prop) : Nat → Array Bool → Act → Prop
  | 0, listed, a => L listed a
  | f + 1, listed, a =>
    Region.ready md ops listed ≠ [] ∧ ∀ i ∈ Region.ready md ops listed, i < n ∧ qOp P ops C i (wpAnyC P md ops C n L f (listed.setIfInBounds i true)) a

theorem wpAny_of_headC {n g : Nat} {L : Array Bool → Act → Prop} {Q' : Exit → Act → World → Prop} (hL : ∀ listed a w, C w → L listed a → wpAny P md ops Q' g listed a w) :
    ∀ (f : Nat) (listed : Array Bool) (a : Act) (w : World), C w → wpAnyC P md ops C n L f listed a → wpAny P md ops Q' (f + g) listed a w
  | 0, listed, a, w, hw, h => by rw [Nat.zero_add]; exact hL _ _ _ hw h
  | f + 1, listed, a, w, hw, h => by
    rw [show f + 1 + g = (f + g) + 1 by omega]
    exact ⟨fun h0 => absurd h0 h.1, fun i hi => wpOp_of_qOp hw (fun a' w' hw' h' => wpAny_of_headC hL f _ a' w' hw' h') (h.2 i hi).2⟩

theorem wpAnyC_first {n i : Nat} {oi : Oper} {v : Value} {L : Array Bool → Act → Prop} (hi : ops[i]? = some oi) (hsel : ∀ (j : Nat) (o : Oper) cs b, ops[j]? = some o → o.op ≠ .select cs b)
    (hs : Region.sinkB md ops n = true) (hc : Region.chainB md ops n = true) (hn : n < ops.size) (hin : i < n)
    (hdone : ∀ listed a, L listed a → ∀ j ∈ Region.ready md ops listed, n ≤ j) :
    ∀ (f : Nat) (listed : Array Bool) (a : Act), HeadInv md ops n listed →
      (∀ j oj, ops[j]? = some oj → j ≠ i → listed.getD j true = false → (∀ e ∈ oj.after, Region.binds md e = true → e.on ≠ i) → oi.apart ops oj = true) →
      i ∈ Region.ready md ops listed → YieldsIn P ops C oi v a →
      wpAnyC P md ops C n L f (listed.setIfInBounds i true) (a.put oi.dst v) → wpAnyC P md ops C n L (f + 1) listed a := by
  intro f
  induction f with
  | zero =>
    intro listed a inv _ hr hy H
    have hun := (mem_ready.1 hr).1
    refine ⟨fun h => (by rw [h] at hr; cases hr), fun j hj => ?_⟩
    have hjn : j < n := by
      rcases Nat.lt_or_ge j n with h | h
      · exact h
      · exact absurd hj (tail_waits hs hc hn inv _ i rfl hin hun j h)
    refine ⟨hjn, ?_⟩
    by_cases hji : j = i
    · subst hji; exact hy.qOp hi H
    · have := hdone _ _ H j (ready_mono hj hji)
      omega
  | succ f ih =>
    intro listed a inv hfree hr hy H
    have hun := (mem_ready.1 hr).1
    refine ⟨fun h => (by rw [h] at hr; cases hr), fun j hj => ?_⟩
    have hjn : j < n := by
      rcases Nat.lt_or_ge j n with h | h
      · exact h
      · exact absurd hj (tail_waits hs hc hn inv _ i rfl hin hun j h)
    refine ⟨hjn, ?_⟩
    by_cases hji : j = i
    · subst hji; exact hy.qOp hi H
    · have h1 := (H.2 j (ready_mono hj hji)).2
      obtain ⟨hjun, oj, hoj, hall⟩ := mem_ready.1 hj
      have hnot : ∀ e ∈ oj.after, Region.binds md e = true → e.on ≠ i := fun e he hb heq => by
        have h1 := hall e he hb
        rw [heq, getD_both hun] at h1
        cases h1
      have h2 := qOp_put hoj (hfree j oj hoj hji hjun hnot) (fun cs b => hsel i oi cs b hi) (fun cs b => hsel j oj cs b hoj) hy h1
      have hfree' : ∀ k ok, ops[k]? = some ok → k ≠ i → (listed.setIfInBounds j true).getD k true = false →
          (∀ e ∈ ok.after, Region.binds md e = true → e.on ≠ i) → oi.apart ops ok = true := fun k ok hk hki hun hno => by
        refine hfree k ok hk hki ?_ hno
        by_cases hjk : j = k
        · subst hjk; exact hjun
        · rw [getD_set_ne true hjk] at hun; exact hun
      refine qOp_mono (fun a' h3 => ih (listed.setIfInBounds j true) a' (inv.set hj hjn) hfree' (ready_mono hr (Ne.symm hji)) h3.1 ?_) h2
      rw [Array.setIfInBounds_comm _ _ hji]
      exact h3.2

theorem wpAnyC_lex {n g : Nat} {Lq : Act → Prop} (hsel : Region.noSelect ops = true) (hs : Region.sinkB md ops n = true) (hc : Region.chainB md ops n = true) (hn : n < ops.size) :
    ∀ (l : List Oper) (k : Nat) (listed : Array Bool) (a : Act), (∀ j, j < l.length → l[j]? = ops[k + j]?) → k + l.length = n → HeadInv md ops n listed →
    Region.lexHead md ops g l.length k listed = true → wpQuiet P ops C Lq l a →
    wpAnyC P md ops C n (fun listed' a' => Region.seqB md ops g n listed' = true ∧ Lq a') l.length listed a
  | [], k, listed, a, _, hk, _, hB, h => by
    have : k = n := by simpa using hk
    subst this
    exact ⟨by simpa [Region.lexHead] using hB, h⟩
  | o :: l, k, listed, a, hl, hk, inv, hB, h => by
    have h0 : ops[k]? = some o := by simpa using (hl 0 (by simp)).symm
    simp only [List.length_cons, Region.lexHead, Bool.and_eq_true] at hB
    obtain ⟨⟨hr, hf⟩, hB'⟩ := hB
    have hkn : k < n := by simp only [List.length_cons] at hk; omega
    have hr' : k ∈ Region.ready md ops listed := by simpa using hr
    have hst : qOp P ops C k (wpQuiet P ops C Lq l) a := by unfold qOp; simp only [h0]; exact h
    obtain ⟨v, hy, hK⟩ := yieldsIn_of_qOp h0 hst
    exact wpAnyC_first h0 (Region.noSelect_spec hsel) hs hc hn hkn (fun listed' a' hL => seqB_ready hL.1) l.length listed a inv (Region.free_spec h0 hf) hr' hy
      (wpAnyC_lex hsel hs hc hn l (k + 1) _ _ (fun j hj => by have := hl (j + 1) (by simp; omega); simpa [Nat.add_assoc, Nat.add_comm 1 j] using this) (by simp only [List.length_cons] at hk; omega) (inv.set hr' hkn) hB' hK)

/-- **The first n operations walked once, in the text's order, each in whatever world of the class; then the others, in some world of the class.** -/
theorem wp_region_tail {id : Nat} {Q : Exit → Act → World → Prop} {a : Act} {w : World} {l : List Oper} (n : Nat) (hm : P.follows .mixedOrders = true) (hB : Region.lexTailB .any l.toArray n = true) (hC : C { w with drawn := w.drawn + 1 })
    (h : wpQuiet P l.toArray C (fun a' => ∀ w', C w' → wpList P l.toArray Q (l.drop n) a' w') (l.take n) a) : (Code.region id l.toArray true).wp P Q a w := by
  simp only [Region.lexTailB, Bool.and_eq_true, decide_eq_true_eq] at hB
  obtain ⟨⟨⟨⟨hsel, hn⟩, hs⟩, hc⟩, hlex⟩ := hB
  have hn' : n < l.length := by simpa using hn
  have htl : (l.take n).length = n := by simp; omega
  have hdl : (l.drop n).length = l.toArray.size - n := by simp
  have inv0 : HeadInv .any l.toArray n (Array.replicate l.toArray.size false) :=
    ⟨by simp, fun j oj _ hl => (by rw [getD_replicate_false] at hl; cases hl), fun t _ ht => getD_in (by simpa using ht) (getD_replicate_false _ _)⟩
  have H := wpAnyC_lex (md := .any) (g := l.toArray.size - n) hsel hs hc hn (l.take n) 0 _ a (fun j hj => by
    have hj' : j < n := by rw [htl] at hj; exact hj
    simp [hj']) (by simpa using htl) inv0 (by rw [htl]; exact hlex) h
  refine wp_region_any hm ?_
  have := wpAny_of_headC (Q' := Q) (g := l.toArray.size - n) (fun listed a' w' hw' hL => by
    have := wpAny_of_seq (md := .any) (Q' := Q) (l.drop n) n listed a' w' (fun j => by simp [List.getElem?_drop]) (by rw [hdl]; exact hL.1) (hL.2 w' hw')
    rwa [hdl] at this) _ _ _ _ hC H
  rw [htl, show n + (l.toArray.size - n) = l.toArray.size by omega] at this
  exact this
end

/-- the worlds in which all that lay in w below n lies as it lay -/
def Ext (n : Nat) (w : World) : Type := { W : World // Below n w W }
instance (n : Nat) (w : World) : Nonempty (Ext n w) := ⟨⟨w, Below.refl _ _⟩⟩
def InExt (n : Nat) (w : World) (W : World) : Prop := ∃ x : Ext n w, W = x.1
theorem inExt_drew (n : Nat) (w : World) : InExt n w { w with drawn := w.drawn + 1 } := ⟨⟨w.drew, (Below.refl n w).drew⟩, rfl⟩
theorem Ext.cell {n : Nat} {w : World} {b o : Nat} {v : Value} (hb : b < n) (h : w.cell? ⟨b, o, none⟩ = some v) (x : Ext n w) : x.1.cell? ⟨b, o, none⟩ = some v := (x.2.cell (p := ⟨b, o, none⟩) hb).trans h
theorem Ext.call {P : Program} {f : FuncId} {args : Array Value} {n : Nat} {w : World} {v : Value} (x : Ext n w) (hn : n ≤ w.heap.size) (h : Calls P f args x.1 (Rt x.1 v)) :
    Calls P f args x.1 fun e w'' => e = .returned v ∧ ∃ y : Ext n w, w'' = y.1 :=
  h.mono fun _ w'' ⟨he, hb⟩ => ⟨he, ⟨w'', x.2.trans (hb.mono (Nat.le_trans hn x.2.size))⟩, rfl⟩

end Go.Proofs.YtllfaffbaijgfaaGreatDoor

namespace Go.Proofs.YtllfaffbaijgfaaGreatDoor
open Go Go.RowKit

theorem run_getObj_map {P : Program} {w : World} {r : Nat} {es : Array MapEntry} {c : Nat} (h : w.heap[r]? = some (.map es c)) : (getObj r).run P w = .ok (.map es c) w := by simp [getObj, Sem.run, h]
theorem run_setObj_map {P : Program} {w : World} {r : Nat} {es : Array MapEntry} {c : Nat} (o : Obj) (h : w.heap[r]? = some (.map es c)) : (setObj r o).run P w = .ok () (w.putObj r o) := by simp [setObj, Sem.run, h, World.putObj]

def intKey (n : Int) : Value := .int .i64 n
/-- what a list of entries, keyed by numbers, says of n -/
def findInt (n : Int) : List MapEntry → Nat → Option (Nat × Value)
  | [], _ => none
  | e :: es, i => if n == intOf e.key then some (i, e.val) else findInt n es (i + 1)

/-- all keys are numbers -/
def IntKeys (es : List MapEntry) : Prop := ∀ e ∈ es, ∃ n, e.key = intKey n

theorem findNow_int (n : Int) : ∀ (es : List MapEntry) (i : Nat), IntKeys es → Instr.findNow (.int .i64) (intKey n) es i = some (findInt n es i)
  | [], _, _ => rfl
  | e :: es, i, h => by
    obtain ⟨m, hm⟩ := h e (by simp)
    have ih := findNow_int n es (i + 1) (fun x hx => h x (by simp [hx]))
    simp only [Instr.findNow, findInt, hm, intKey, Instr.sameNow, if_true, intOf]
    cases e' : (n == m)
    · simpa [intKey] using ih
    · rfl

theorem run_checkKey_int {P : Program} {w : World} {k : TypeId} (hk : P.underlying k = some (.int .i64)) (b : Bool) (n : Int) : (Instr.checkKey b 10000 k (intKey n)).run P w = .ok () w := by
  show (Instr.checkKey b (9999 + 1) k (intKey n)).run P w = .ok () w
  unfold Instr.checkKey
  simp [intKey, run_underlying hk, Sem.run_bind, Result.andThen]

theorem run_findKey_int {P : Program} {w : World} {k : TypeId} (hk : P.underlying k = some (.int .i64)) (n : Int) (es : List MapEntry) (h : IntKeys es) : (Instr.findKey k (intKey n) es).run P w = .ok (findInt n es 0) w := by
  simp [Instr.findKey, Sem.run_bind, run_underlying hk, Result.andThen, findNow_int n es 0 h]

theorem run_mapUpdate_new {P : Program} {w : World} {r c : Nat} {es : Array MapEntry} {t k e : TypeId} (ht : P.underlying t = some (.map k e)) (hk : P.underlying k = some (.int .i64)) (h : w.heap[r]? = some (.map es c)) (n : Int) (v : Value)
    (hi : IntKeys es.toList) (hn : findInt n es.toList 0 = none) :
    (Instr.mapUpdate t (.map (some r)) (.int .i64 n) v).run P w = .ok () (w.putObj r (.map (es.push { key := intKey n, val := v, born := c }) (c + 1))) := by
  have e1 := run_checkKey_int (P := P) (w := w) hk false n
  have e2 := run_findKey_int (P := P) (w := w) hk n es.toList hi
  rw [hn] at e2
  rw [show Value.int .i64 n = intKey n from rfl]
  simp only [Instr.mapUpdate, Sem.run_bind, run_underlying ht, Result.andThen, run_getObj_map h, e1, e2, run_setObj_map _ h]

theorem run_mapUpdate_old {P : Program} {w : World} {r c i : Nat} {es : Array MapEntry} {old : Value} {t k e : TypeId} (ht : P.underlying t = some (.map k e)) (hk : P.underlying k = some (.int .i64)) (h : w.heap[r]? = some (.map es c)) (n : Int) (v : Value)
    (hi : IntKeys es.toList) (hn : findInt n es.toList 0 = some (i, old)) (hkey : ((es[i]?).map (·.key)).getD (intKey n) = intKey n) :
    (Instr.mapUpdate t (.map (some r)) (.int .i64 n) v).run P w = .ok () (w.putObj r (.map (es.modify i fun e => { e with key := intKey n, val := v }) c)) := by
  have e1 := run_checkKey_int (P := P) (w := w) hk false n
  have e2 := run_findKey_int (P := P) (w := w) hk n es.toList hi
  rw [hn] at e2
  rw [show Value.int .i64 n = intKey n from rfl]
  have e3 : (Instr.keyThatStays (intKey n) (intKey n)).run P w = .ok (intKey n) w := by
    have : Instr.sameBits (9999 + 1) (intKey n) (intKey n) = true := by simp [Instr.sameBits, intKey]
    have h' : Instr.sameBits 10000 (intKey n) (intKey n) = true := this
    unfold Instr.keyThatStays
    rw [h']
    rfl
  simp only [Instr.mapUpdate, Sem.run_bind, run_underlying ht, Result.andThen, run_getObj_map h, e1, e2, hkey, e3, run_setObj_map _ h]

theorem run_lookup_hit {P : Program} {w : World} {r c i : Nat} {es : Array MapEntry} {v : Value} {t k e : TypeId} (ht : P.underlying t = some (.map k e)) (hk : P.underlying k = some (.int .i64)) (h : w.heap[r]? = some (.map es c)) (n : Int) (ok : Bool)
    (hi : IntKeys es.toList) (hn : findInt n es.toList 0 = some (i, v)) :
    (Instr.lookup t (.map (some r)) (.int .i64 n) ok).run P w = .ok (if ok then .tuple #[v, .bool true] else v) w := by
  have e1 := run_checkKey_int (P := P) (w := w) hk es.isEmpty n
  have e2 := run_findKey_int (P := P) (w := w) hk n es.toList hi
  rw [hn] at e2
  rw [show Value.int .i64 n = intKey n from rfl]
  simp only [Instr.lookup, Sem.run_bind, run_underlying ht, Result.andThen, run_getObj_map h, Sem.run_pure, e1, e2]

theorem run_lookup_miss {P : Program} {w : World} {r c : Nat} {es : Array MapEntry} {z : Value} {t k e : TypeId} (ht : P.underlying t = some (.map k e)) (hk : P.underlying k = some (.int .i64)) (hz : ∀ W, (zeroValue e).run P W = .ok z W) (h : w.heap[r]? = some (.map es c)) (n : Int) (ok : Bool)
    (hi : IntKeys es.toList) (hn : findInt n es.toList 0 = none) :
    (Instr.lookup t (.map (some r)) (.int .i64 n) ok).run P w = .ok (if ok then .tuple #[z, .bool false] else z) w := by
  have e1 := run_checkKey_int (P := P) (w := w) hk es.isEmpty n
  have e2 := run_findKey_int (P := P) (w := w) hk n es.toList hi
  rw [hn] at e2
  rw [show Value.int .i64 n = intKey n from rfl]
  simp only [Instr.lookup, Sem.run_bind, run_underlying ht, Result.andThen, run_getObj_map h, Sem.run_pure, e1, e2, hz]

theorem below_putObj {n : Nat} {a w : World} (h : Below n a w) {r : Nat} (hr : n ≤ r) (o : Obj) : Below n a (w.putObj r o) :=
  h.trans ⟨rfl, rfl, rfl, by simp, fun k hk => World.putObj_heap_other (by omega)⟩

end Go.Proofs.YtllfaffbaijgfaaGreatDoor
