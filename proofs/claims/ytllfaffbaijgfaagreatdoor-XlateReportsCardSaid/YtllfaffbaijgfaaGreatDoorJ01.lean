/- Plain laws on worlds and a law on 'range over a function', for the walks of this seat. No program text. The plain functions that the walks of this seat come to: numbers, names, items, records, bundles. No program text, no memory. The small functions of numbers, flags and lists: each call comes to the plain function. signs: rules, the first error. -/
import Derived.RangeFuncNested
import Derived.RangeFuncBound
import Derived.RangeFuncLeaves
import Derived.WalkKit
import Derived.WalkSpells
import Derived.WalkLawsBesides
import Derived.OwnWalkIn
import Derived.TacticsInMore
import Derived.LoopNIn
import Derived.LoopIn
import Derived.Test.YtllfaffbaijgfaaGreatDoorProg
import Derived.Deep.QuietTactic
import Derived.BigQuiet
import Derived.Outline
import Derived.Shelf.Abstract
set_option linter.unusedVariables false
set_option linter.unusedSimpArgs false
namespace Go.Proofs.YtllfaffbaijgfaaGreatDoor
open Go Go.RowKit

theorem hide {p : Prop} (h : p) : Hid p := h

/-- returned v, and of what lay nothing has turned -/
def Rt (w : World) (v : Value) (e : Ending) (w' : World) : Prop := e = .returned v ∧ Below w.heap.size w w'

theorem Rt.mk {w w' : World} {v : Value} (h : Below w.heap.size w w') : Rt w v (.returned v) w' := ⟨rfl, h⟩

/-- The blocks of R lie as they lay. -/
structure Keep (R : Nat → Prop) (A B : World) : Prop where
  size : A.heap.size ≤ B.heap.size
  block : ∀ k, R k → B.heap[k]? = A.heap[k]?

theorem Keep.refl (R : Nat → Prop) (A : World) : Keep R A A := ⟨Nat.le_refl _, fun _ _ => rfl⟩
theorem Keep.trans {R : Nat → Prop} {A B C : World} (h : Keep R A B) (k : Keep R B C) : Keep R A C :=
  ⟨Nat.le_trans h.size k.size, fun i hi => (k.block i hi).trans (h.block i hi)⟩
theorem Keep.cell {R : Nat → Prop} {A B : World} (h : Keep R A B) {p : Addr} (hp : R p.block) : B.cell? p = A.cell? p := World.cell?_of_block (w := A) (h.block p.block hp)
theorem Keep.frozen {R : Nat → Prop} {A B : World} (h : Keep R A B) {p : Addr} (hp : R p.block) : B.frozen? p = A.frozen? p := World.frozen?_of_block (w := A) (h.block p.block hp)
theorem Keep.of_below {R : Nat → Prop} {n : Nat} {A B : World} (h : Below n A B) (hR : ∀ k, R k → k < n) : Keep R A B := ⟨h.size, fun k hk => h.block k (hR k hk)⟩
theorem Keep.mono {R R' : Nat → Prop} {A B : World} (h : Keep R A B) (hR : ∀ k, R' k → R k) : Keep R' A B := ⟨h.size, fun k hk => h.block k (hR k hk)⟩

/-- An iterator's own step: new blocks, and the blocks of M. -/
structure Own1 (M : Nat → Prop) (A B : World) : Prop where
  os : B.os = A.os
  tape : B.tape = A.tape
  output : B.output = A.output
  size : A.heap.size ≤ B.heap.size
  block : ∀ k, k < A.heap.size → ¬ M k → B.heap[k]? = A.heap[k]?

theorem Own1.of_below {M : Nat → Prop} {A B : World} (h : Below A.heap.size A B) : Own1 M A B := ⟨h.os, h.tape, h.output, h.size, fun k hk _ => h.block k hk⟩

/-- A step that the caller's invariant abides: blocks of no cells from B0 on, the blocks of M, new blocks. -/
structure Stp (B0 : Nat) (M : Nat → Prop) (A B : World) : Prop where
  os : B.os = A.os
  tape : B.tape = A.tape
  output : B.output = A.output
  size : A.heap.size ≤ B.heap.size
  low : ∀ k, k < A.heap.size → k < B0 → ¬ M k → B.heap[k]? = A.heap[k]?
  cells : ∀ k o, A.heap[k]? = some o → o.isCells = true → ¬ M k → B.heap[k]? = some o

theorem Stp.of_own1 {B0 : Nat} {M : Nat → Prop} {A B : World} (h : Own1 M A B) : Stp B0 M A B :=
  ⟨h.os, h.tape, h.output, h.size, fun k hk _ hM => h.block k hk hM, fun k o hk _ hM => (h.block k (Array.getElem?_eq_some_iff.1 hk).1 hM).trans hk⟩
theorem Stp.putObj {B0 : Nat} {M : Nat → Prop} {A : World} {l : Nat} {o o' : Obj} (hl : A.heap[l]? = some o) (ho : o.isCells = false) (hB : B0 ≤ l) : Stp B0 M A (A.putObj l o') :=
  ⟨rfl, rfl, rfl, by simp, fun k _ hk _ => World.putObj_heap_other (by omega), fun k x hk hx _ => by
    refine (World.putObj_heap_other ?_).trans hk
    rintro rfl
    rw [hl] at hk; cases hk; rw [ho] at hx; cases hx⟩
theorem Stp.alloc {B0 : Nat} {M : Nat → Prop} (A : World) (o : Obj) : Stp B0 M A (A.alloc o) := Stp.of_own1 (Own1.of_below ((Below.refl _ A).alloc (Nat.le_refl _) o))
theorem Stp.cell {B0 : Nat} {M : Nat → Prop} {A B : World} (h : Stp B0 M A B) {p : Addr} {v : Value} (hp : A.cell? p = some v) (hM : ¬ M p.block) : B.cell? p = some v := by
  obtain ⟨o, ho, hc⟩ := cells_of_cell hp
  exact (World.cell?_of_block ((h.cells _ _ ho hc hM).trans ho.symm)).trans hp
theorem Stp.frozen {B0 : Nat} {M : Nat → Prop} {A B : World} (h : Stp B0 M A B) {p : Addr} {v : Value} (hp : A.cell? p = some v) (hM : ¬ M p.block) : B.frozen? p = A.frozen? p := by
  obtain ⟨o, ho, hc⟩ := cells_of_cell hp
  exact World.frozen?_of_block ((h.cells _ _ ho hc hM).trans ho.symm)
theorem Stp.below {B0 n : Nat} {M : Nat → Prop} {w A B : World} (h : Stp B0 M A B) (hb : Below n w A) (hn : n ≤ B0) (hA : n ≤ A.heap.size) (hM : ∀ k, M k → n ≤ k) : Below n w B :=
  hb.trans ⟨h.os, h.tape, h.output, h.size, fun k hk => h.low k (by omega) (by omega) (fun hm => by have := hM k hm; omega)⟩
theorem Stp.keep {B0 : Nat} {M R : Nat → Prop} {w A B : World} (h : Stp B0 M A B) (hb : Keep R w A) (hR : ∀ k, R k → k < B0 ∧ k < w.heap.size ∧ ¬ M k) : Keep R w B :=
  hb.trans ⟨h.size, fun k hk => by obtain ⟨h1, h2, h3⟩ := hR k hk; exact h.low k (Nat.lt_of_lt_of_le h2 hb.size) h1 h3⟩

/-- **An iterator's contract**: the function g, on yield and on what it has captured (lb), hands xs on one by one, and keeps what the round keeps. R: what a round must keep. M: what the iterator itself writes. -/
def Iter {α : Type} (P : Program) (g : FuncId) (lb : Array Value) (enc : α → Array Value) (xs : List α) (R M : Nat → Prop) (w : World) : Prop :=
  ∀ (l : Nat) (J : Nat → World → Prop) (Jx : World → Prop) (W : World), Keep R w W →
    (∀ i A B, J i A → Own1 M A B → J i B) → (∀ A B, Jx A → Own1 M A B → Jx B) →
    (∀ i x W1, xs[i]? = some x → J i W1 → YieldAt Fence.wide 0 P l (enc x) W1 fun e W' =>
      (e = .returned (.bool true) ∧ J (i + 1) W' ∧ Keep R W1 W') ∨ (e = .returned (.bool false) ∧ Jx W')) →
    J 0 W →
    CallsIn Fence.wide 0 P g (#[.func (.yield l) #[] #[]] ++ lb) W fun e W' => (∃ v, e = .returned v) ∧ (J xs.length W' ∨ Jx W')

/-- How a round's body may be left. -/
def rdPost (B0 : Nat) (R : Nat → Prop) (I : World → Prop) (Ix : Code → World → Prop) (W : World) : Exit → Act → World → Prop
  | .normal, _, W' => KeepsFrom B0 W W' ∧ Keep R W W' ∧ I W'
  | .ret, _, W' => KeepsFrom B0 W W' ∧ Ix .ret W'
  | .exit id, _, W' => KeepsFrom B0 W W' ∧ Ix (.exit id) W'
  | .goto t, _, W' => KeepsFrom B0 W W' ∧ Ix (.goto t) W'
  | .panic _, _, _ => False
  | .outgrown, _, _ => False

/-- A store of another record into a loop's block turns no cell. -/
theorem cell_putObj {W : World} {l : Nat} {o o' : Obj} (hl : W.heap[l]? = some o) (ho : o.isCells = false) (ho' : o'.isCells = false) (p : Addr) : (W.putObj l o').cell? p = W.cell? p := by
  by_cases e : p.block = l
  · have h1 : (W.putObj l o').heap[p.block]? = some o' := by rw [e]; exact World.putObj_heap_same (Array.getElem?_eq_some_iff.1 hl).1
    have h2 : W.heap[p.block]? = some o := by rw [e]; exact hl
    unfold World.cell?
    rw [h1, h2]
    cases o <;> cases o' <;> first | rfl | (simp [Obj.isCells] at ho ho')
  · exact World.cell?_of_block (World.putObj_heap_other e)

theorem frozen_putObj {W : World} {l : Nat} {o o' : Obj} (hl : W.heap[l]? = some o) (ho : o.isCells = false) (ho' : o'.isCells = false) (p : Addr) : (W.putObj l o').frozen? p = W.frozen? p := by
  by_cases e : p.block = l
  · have h1 : (W.putObj l o').heap[p.block]? = some o' := by rw [e]; exact World.putObj_heap_same (Array.getElem?_eq_some_iff.1 hl).1
    have h2 : W.heap[p.block]? = some o := by rw [e]; exact hl
    unfold World.frozen?
    rw [h1, h2]
    cases o <;> cases o' <;> first | rfl | (simp [Obj.isCells] at ho ho')
  · exact World.frozen?_of_block (World.putObj_heap_other e)

/-- **The statement 'for .. := range g { body }'.** -/
theorem wp_range {α : Type} {P : Program} {g : Operand} {ps : Array Tmp} {assign body : Code} {Q : Exit → Act → World → Prop} {a : Act} {w : World}
    {gf : FuncId} {lb : Array Value} (hg : a.eval g = .func (.func gf) #[] lb) (eg : ∀ args w, (callFunc gf args).run P w = .ok (.enter gf args) w)
    {enc : α → Array Value} {xs : List α} {R M : Nat → Prop} (hit : Iter P gf lb enc xs R M w) (hsz : ∀ x, (enc x).size = ps.size) (hR : ∀ k, R k → k < w.heap.size) (hM : ∀ k, M k → k < w.heap.size)
    (I : Nat → World → Prop) (Ix : Code → World → Prop)
    (hI : ∀ i A B, I i A → Stp w.heap.size M A B → I i B) (hIx : ∀ c A B, Ix c A → Stp w.heap.size M A B → Ix c B) (h0 : I 0 w)
    (hround : ∀ (l i : Nat) (x : α) (W : World), w.heap.size < l → xs[i]? = some x → I i W → (∃ r, W.heap[l]? = some (.loop r)) →
      assign.wpIn (Fence.wide.inRound l) 0 P (Exit.then (fun a₁ W₁ => KeepsFrom w.heap.size W W₁ ∧ Keep R W W₁ ∧
          ∀ W₂, Stp w.heap.size (fun _ => False) W₁ W₂ → KeepsFrom w.heap.size W₂ W₂ → Keep R W₁ W₂ → W₂.heap.size = W₁.heap.size → (∀ p, W₂.cell? p = W₁.cell? p) → (∀ p, W₂.frozen? p = W₁.frozen? p) → body.wpIn (Fence.wide.inRound l) 0 P (rdPost w.heap.size R (I (i + 1)) Ix W₂) a₁ W₂)
        (fun _ _ _ => False)) { tmps := (ps.zip (enc x)).foldl (fun t (p, v) => t.setIfInBounds p v) a.tmps, defers := [] } W)
    (hdone : ∀ (D : Nat) (W : World), w.heap.size ≤ D → I xs.length W → W.heap[D]? = some (.deferred (some [])) → Q .normal { a with defers := { target := .collected D, args := #[] } :: a.defers } W)
    (hstop : ∀ (D : Nat) (c : Code) (W : World), w.heap.size ≤ D → Ix c W → W.heap[D]? = some (.deferred (some [])) → c.wpIn Fence.wide 0 P Q { a with defers := { target := .collected D, args := #[] } :: a.defers } W) :
    (Code.rangeFunc g ps assign body).wpIn Fence.wide 0 P Q a w := by
  refine wpIn_rangeFunc ?_
  intro fn _
  obtain ⟨rec, hrec⟩ : ∃ rec : LoopState → Option Code → Loop, rec = fun st pe => { state := st, pending := pe, fn, tmps := a.tmps, params := ps, assign, body, defers := w.heap.size } := ⟨_, rfl⟩
  obtain ⟨W1, hW1⟩ : ∃ W1, (w.alloc (.deferred (some []))).alloc (.loop (rec .ready none)) = W1 := ⟨_, rfl⟩
  have hL1 : W1.heap[w.heap.size + 1]? = some (.loop (rec .ready none)) := by
    rw [← hW1]; have := World.alloc_heap_new (w.alloc (.deferred (some []))) (.loop (rec .ready none)); rwa [World.size_alloc] at this
  have hK1 : W1.heap[w.heap.size]? = some (.deferred (some [])) := by
    rw [← hW1]; exact (Below.heap_alloc _ _ _ (by simp)).trans (World.alloc_heap_new w _)
  have hI1 : I 0 W1 := by rw [← hW1]; exact hI _ _ _ (hI _ _ _ h0 (Stp.alloc _ _)) (Stp.alloc _ _)
  have hb1 : Below w.heap.size w W1 := by
    rw [← hW1]; exact ((Below.refl _ w).alloc (Nat.le_refl _) _).alloc (by simp) _
  refine ⟨w.heap.size + 1, [{ target := .collected w.heap.size, args := #[] }], W1, { target := .fn (.func gf) lb, args := #[.func (.yield (w.heap.size + 1)) #[] #[]] }, W1, gf,
    #[.func (.yield (w.heap.size + 1)) #[] #[]] ++ lb, W1, ?_, ?_, ?_, ?_, fun h => (by simp [Fence.wide] at h), ?_⟩
  · rw [← hW1, hrec]; exact run_enterLoop_outer _ _ _ _ _
  · simp only [resolve, hg]
    simp [go_sem]
  · intro f' _; trivial
  · simp [invoke, go_sem, eg]
  · have bk : ∀ {A B : World} {k : Nat} {o : Obj}, A.heap[k]? = some o → w.heap.size ≤ k → Own1 M A B → B.heap[k]? = some o := fun {A B k o} hk hle hab =>
      (hab.block k (Array.getElem?_eq_some_iff.1 hk).1 (fun hm => by have := hM k hm; omega)).trans hk
    refine (hit (w.heap.size + 1)
      (fun i W => I i W ∧ W.heap[w.heap.size + 1]? = some (.loop (rec .ready none)) ∧ W.heap[w.heap.size]? = some (.deferred (some [])))
      (fun W => ∃ c, Ix c W ∧ W.heap[w.heap.size + 1]? = some (.loop (rec .done (some c))) ∧ W.heap[w.heap.size]? = some (.deferred (some [])))
      W1 (Keep.of_below hb1 hR)
      (fun i A B hs hab => ⟨hI i A B hs.1 (Stp.of_own1 hab), bk hs.2.1 (by omega) hab, bk hs.2.2 (Nat.le_refl _) hab⟩)
      (fun A B hs hab => by
        obtain ⟨c, hc, hl, hk⟩ := hs
        exact ⟨c, hIx c A B hc (Stp.of_own1 hab), bk hl (by omega) hab, bk hk (Nat.le_refl _) hab⟩)
      ?_ ⟨hI1, hL1, hK1⟩).mono ?_
    · rintro i x W hx ⟨hi, hl, hk⟩
      have hlt : w.heap.size + 1 < W.heap.size := (Array.getElem?_eq_some_iff.1 hl).1
      have hy := run_yield (P := P) (args := enc x) hl (by rw [hrec]; exact hsz x)
      rw [hrec] at hy
      refine ⟨fn, _, assign, body, hy, roundIn_of_wpIn trivial (wpIn_mono (hround (w.heap.size + 1) i x W (by omega) hx hi ⟨_, hl⟩) ?_)⟩
      clear hy
      intro e a' Wa hpost
      cases e <;> try exact hpost.elim
      obtain ⟨hkfa, hkpa, hbody⟩ := hpost
      have hla := hkfa.same _ _ (by omega) hl rfl
      have hka := hkfa.same _ _ (Nat.le_refl _) hk rfl
      have hlta : w.heap.size + 1 < Wa.heap.size := (Array.getElem?_eq_some_iff.1 hla).1
      refine ⟨_, run_beginRound hla (by rw [hrec]), ?_⟩
      obtain ⟨r2, hr2⟩ : ∃ r2 : Loop, r2 = { rec .ready none with state := .busy } := ⟨_, rfl⟩
      rw [← hr2]
      have hl2 : (Wa.putObj (w.heap.size + 1) (.loop r2)).heap[w.heap.size + 1]? = some (.loop r2) := World.putObj_heap_same hlta
      have hk2 : (Wa.putObj (w.heap.size + 1) (.loop r2)).heap[w.heap.size]? = some (.deferred (some [])) := (World.putObj_heap_other (by omega)).trans hka
      have hKp : ∀ (W : World) (o : Obj), w.heap.size + 1 < W.heap.size → Keep R W (W.putObj (w.heap.size + 1) o) := fun W o _ =>
        ⟨by simp, fun k hk => World.putObj_heap_other (by have := hR k hk; omega)⟩
      refine wpIn_mono (hbody _ (Stp.putObj hla rfl (by omega)) (KeepsFrom.refl _ _) (hKp _ _ hlta) (by simp) (cell_putObj hla rfl rfl) (frozen_putObj hla rfl rfl)) ?_
      have fin : ∀ (jump : Option Code) (W3 : World), KeepsFrom w.heap.size (Wa.putObj (w.heap.size + 1) (.loop r2)) W3 →
          (Instr.endRound (w.heap.size + 1) jump).run P W3 = .ok (.bool jump.isNone) (W3.putObj (w.heap.size + 1) (.loop (rec (if jump.isNone then .ready else .done) jump))) ∧
          W3.heap[w.heap.size + 1]? = some (.loop r2) ∧
          (W3.putObj (w.heap.size + 1) (.loop (rec (if jump.isNone then .ready else .done) jump))).heap[w.heap.size + 1]? = some (.loop (rec (if jump.isNone then .ready else .done) jump)) ∧
          (W3.putObj (w.heap.size + 1) (.loop (rec (if jump.isNone then .ready else .done) jump))).heap[w.heap.size]? = some (.deferred (some [])) := fun jump W3 hk3 => by
        have hl3 := hk3.same _ _ (by omega) hl2 rfl
        have := run_endRound (P := P) jump hl3
        rw [hr2, hrec] at this
        rw [hrec]
        exact ⟨this, hl3, World.putObj_heap_same (Array.getElem?_eq_some_iff.1 hl3).1, (World.putObj_heap_other (by omega)).trans (hk3.same _ _ (Nat.le_refl _) hk2 rfl)⟩
      rintro e a3 W3 hp
      cases e with
      | normal =>
        obtain ⟨hk3, hkp3, hi3⟩ := hp
        obtain ⟨hr, hl3, hl4, hk4⟩ := fin none W3 hk3
        exact ⟨_, _, hr, .inl ⟨rfl, ⟨hI _ _ _ hi3 (Stp.putObj hl3 rfl (by omega)), hl4, hk4⟩, ((hkpa.trans (hKp _ _ hlta)).trans hkp3).trans (hKp _ _ (Array.getElem?_eq_some_iff.1 hl3).1)⟩⟩
      | ret =>
        obtain ⟨hk3, hi3⟩ := hp
        obtain ⟨hr, hl3, hl4, hk4⟩ := fin (some .ret) W3 hk3
        exact ⟨_, _, hr, .inr ⟨rfl, .ret, hIx _ _ _ hi3 (Stp.putObj hl3 rfl (by omega)), hl4, hk4⟩⟩
      | exit id =>
        obtain ⟨hk3, hi3⟩ := hp
        obtain ⟨hr, hl3, hl4, hk4⟩ := fin (some (.exit id)) W3 hk3
        exact ⟨_, _, hr, .inr ⟨rfl, .exit id, hIx _ _ _ hi3 (Stp.putObj hl3 rfl (by omega)), hl4, hk4⟩⟩
      | goto t =>
        obtain ⟨hk3, hi3⟩ := hp
        obtain ⟨hr, hl3, hl4, hk4⟩ := fin (some (.goto t)) W3 hk3
        exact ⟨_, _, hr, .inr ⟨rfl, .goto t, hIx _ _ _ hi3 (Stp.putObj hl3 rfl (by omega)), hl4, hk4⟩⟩
      | panic ch => exact hp.elim
      | outgrown => exact hp.elim
    · rintro e W2 ⟨⟨v, rfl⟩, (⟨hi, hl, hk⟩ | ⟨c, hi, hl, hk⟩)⟩
      · exact ⟨none, _, by have := run_endLoop (P := P) hl (by rw [hrec]; simp); rw [hrec] at this; exact this, hdone _ _ (Nat.le_refl _) (hI _ _ _ hi (Stp.putObj hl rfl (by omega))) ((World.putObj_heap_other (by omega)).trans hk)⟩
      · exact ⟨some c, _, by have := run_endLoop (P := P) hl (by rw [hrec]; simp); rw [hrec] at this; exact this, hstop _ c _ (Nat.le_refl _) (hIx _ _ _ hi (Stp.putObj hl rfl (by omega))) ((World.putObj_heap_other (by omega)).trans hk)⟩

end Go.Proofs.YtllfaffbaijgfaaGreatDoor

namespace Go.Proofs.YtllfaffbaijgfaaGreatDoor

/-- a text out of bytes -/
def bs (l : List UInt8) : ByteArray := ⟨l.toArray⟩
theorem bs_surj (s : ByteArray) : ∃ l, s = bs l := ⟨s.data.toList, by cases s; simp [bs]⟩
theorem bs_data (l : List UInt8) : (bs l).data = l.toArray := rfl
theorem bs_size (l : List UInt8) : (bs l).size = l.length := by simp [bs, ByteArray.size]
theorem bs_toList (l : List UInt8) : (bs l).data.toList = l := by simp [bs]
theorem bs_inj {a b : List UInt8} : bs a = bs b ↔ a = b := ⟨fun h => by have := congrArg (fun s : ByteArray => s.data.toList) h; simpa [bs] using this, fun h => by rw [h]⟩
theorem bs_append (a b : List UInt8) : bs a ++ bs b = bs (a ++ b) := by
  apply ByteArray.ext
  simp [bs]

structure Eid where
  scheme : Int
  node : List UInt8
  service : List UInt8
  a : Int
  b : Int
deriving DecidableEq

def noEid : Eid := ⟨0, [], [], 0, 0⟩

structure Block where
  type : Int
  num : Int
  flags : Int
  sum : Int
  refs : List Eid
  data : List UInt8
deriving DecidableEq

structure Six where
  flags : Int
  dest : Eid
  source : Eid
  report : Eid
  custodian : Eid
  time : Int
  seq : Int
  life : Int
  off : Int
  total : Int
  blocks : List Block
deriving DecidableEq

structure Seven where
  flags : Int
  sum : Int
  dest : Eid
  source : Eid
  report : Eid
  time : Int
  seq : Int
  life : Int
  off : Int
  total : Int
  blocks : List Block
deriving DecidableEq

structure Report where
  bits : Int
  times : List Int
  reason : Int
  source : Eid
  time : Int
  seq : Int
  part : Bool
  off : Int
  len : Int
deriving DecidableEq

structure Class where
  priority : Int
  custody : Bool
  custodian : Eid
deriving DecidableEq

/-- a number of chapter 1 -/
def numR (n : Int) : Bool := decide (0 ≤ n) && decide (n ≤ 281474976710655)
def isIn (n least most : Int) : Bool := decide (least ≤ n) && decide (n ≤ most)

/-! names -/
def lower (c : UInt8) : Bool := decide (97 ≤ c) && decide (c ≤ 122)
def digit (c : UInt8) : Bool := decide (48 ≤ c) && decide (c ≤ 57)
def isPart (signs : List UInt8) (s : List UInt8) : Bool := s.all (fun c => lower c || digit c || signs.contains c) && decide (s.length ≤ 20)
def eidR (e : Eid) : Bool :=
  if e.scheme = 0 then decide (e = noEid)
  else if e.scheme = 1 then decide (e.node ≠ []) && isPart [45, 46] e.node && isPart [45, 46, 47] e.service && decide (e.a = 0) && decide (e.b = 0)
  else if e.scheme = 2 then decide (e.node = []) && decide (e.service = []) && decide (1 ≤ e.a) && decide (e.a ≤ 999999999) && decide (0 ≤ e.b) && decide (e.b ≤ 999999999)
  else false

end Go.Proofs.YtllfaffbaijgfaaGreatDoor

namespace Go.Proofs.YtllfaffbaijgfaaGreatDoor
open Go Go.RowKit Go.Shelf

/-- returned v, the world as it was -/
def Pu (w : World) (v : Value) (e : Ending) (w' : World) : Prop := e = .returned v ∧ w = w'

theorem bcell {W w1 : World} (hb : Below W.heap.size W w1) : (∀ b o, b < W.heap.size → w1.cell? ⟨b, o, none⟩ = W.cell? ⟨b, o, none⟩) ∧ (∀ b o, b < W.heap.size → w1.frozen? ⟨b, o, none⟩ = W.frozen? ⟨b, o, none⟩) :=
  ⟨fun b o h => hb.cell (p := ⟨b, o, none⟩) h, fun b o h => hb.frozen (p := ⟨b, o, none⟩) h⟩
theorem Below.step {n : Nat} {w W w1 : World} (h : Below W.heap.size W w1) (k : Below n w W) (hn : n ≤ W.heap.size) : Below n w w1 := k.trans (h.mono hn)

theorem isIn_calls (n a b : Int) (w : World) : Calls Tryz.prog 72 #[.int .i64 n, .int .i64 a, .int .i64 b] w (Pu w (.bool (isIn n a b))) := by
  go_enter Tryz.func72, Tryz.ntmps72
  go_wp2
  all_goals (go_ret; refine ⟨?_, rfl⟩)
  all_goals first | rfl | (simp [isIn, *]; done) | (simp [isIn, *]; omega) | (simp_all [isIn]; done) | (simp_all [isIn]; omega)

theorem numR_calls (n : Int) (w : World) : Calls Tryz.prog 73 #[.int .i64 n] w (Pu w (.bool (numR n))) := by
  go_enter Tryz.func73, Tryz.ntmps73
  go_wp2
  all_goals (go_ret; refine ⟨?_, rfl⟩)
  all_goals first | rfl | (simp [numR, *]; done) | (simp [numR, *]; omega) | (simp_all [numR]; done) | (simp_all [numR]; omega)

theorem has_calls (s one : Int) (w : World) : Calls Tryz.prog 165 #[.agg #[.int .i64 s], .int .i64 one] w (Rt w (.bool (bits .and .i64 s one != 0))) := by
  go_enter Tryz.func165, Tryz.ntmps165
  go_wp2
  go_ret
  exact ⟨rfl, (Below.refl _ _).alloc (Nat.le_refl _) _⟩

theorem setIsIn_calls (s all : Int) (w : World) : Calls Tryz.prog 185 #[.agg #[.int .i64 s], .int .i64 all] w (Rt w (.bool (decide (0 ≤ s) && bits .andNot .i64 s all == 0))) := by
  go_enter Tryz.func185, Tryz.ntmps185
  go_wp2
  all_goals go_ret
  all_goals (refine ⟨?_, by ((repeat' (first | exact Below.refl _ _ | assumption | (refine Below.drew ?_) | (refine Below.alloc ?_ ?_ _) | (refine Below.setCell ?_ ?_ _) | (refine Below.step (W := ?hW) ?hq ?_ ?_; case hq => assumption))) <;> (first | (simp; done) | (simp; omega) | (simp at *; omega)))⟩)
  all_goals first | rfl | (simp [*]; done) | (simp [*]; omega)

theorem isPlain_calls (p : Int) (c : Bool) (e : Eid) (w : World) : Calls Tryz.prog 168 #[.agg #[.int .i64 p, .bool c, .int .i64 e.scheme, .string (bs e.node), .string (bs e.service), .int .i64 e.a, .int .i64 e.b]] w (Rt w (.bool (decide (p = 0) && !c))) := by
  go_enter Tryz.func168, Tryz.ntmps168
  go_wp2
  all_goals go_ret
  all_goals (refine ⟨?_, by ((repeat' (first | exact Below.refl _ _ | assumption | (refine Below.drew ?_) | (refine Below.alloc ?_ ?_ _) | (refine Below.setCell ?_ ?_ _) | (refine Below.step (W := ?hW) ?hq ?_ ?_; case hq => assumption))) <;> (first | (simp; done) | (simp; omega) | (simp at *; omega)))⟩)
  all_goals first | rfl | (simp [*]; done) | (simp [*]; omega)

/-! a list of closures, asked one by one -/
def AllC (P : Program) (w : World) (blk off : Nat) : Nat → List (FuncId × Array Value × Bool) → Prop
  | _, [] => True
  | i, (f, c, b) :: l => w.cell? ⟨blk, off + i, none⟩ = some (.func (.func f) #[] c) ∧ (∀ args W, (callFunc f args).run P W = .ok (.enter f args) W) ∧
      (∀ W, Below w.heap.size w W → Calls P f c W (Rt W (.bool b))) ∧ (b = true → AllC P w blk off (i + 1) l)

theorem AllC.at {P : Program} {w : World} {blk off : Nat} : ∀ {l : List (FuncId × Array Value × Bool)} {i k : Nat} {f : FuncId} {c : Array Value} {b : Bool}, AllC P w blk off i l → l[k]? = some (f, c, b) → (∀ j, j < k → ∀ x, l[j]? = some x → x.2.2 = true) →
    w.cell? ⟨blk, off + (i + k), none⟩ = some (.func (.func f) #[] c) ∧ (∀ args W, (callFunc f args).run P W = .ok (.enter f args) W) ∧ (∀ W, Below w.heap.size w W → Calls P f c W (Rt W (.bool b)))
  | [], _, k, _, _, _, _, hk, _ => by simp at hk
  | (f, c, b) :: l, i, 0, _, _, _, h, hk, _ => by
    simp at hk
    obtain ⟨rfl, rfl, rfl⟩ := hk
    exact ⟨h.1, h.2.1, h.2.2.1⟩
  | (f, c, b) :: l, i, k + 1, _, _, _, h, hk, hb => by
    have h1 := h.2.2.2 (hb 0 (by omega) _ rfl)
    have := h1.at (k := k) (by simpa using hk) (fun j hj x hx => hb (j + 1) (by omega) x (by simpa using hx))
    rw [show i + (k + 1) = i + 1 + k by omega]
    exact this

theorem all_false {α : Type} {p : α → Bool} {l : List α} {k : Nat} {x : α} (h : l[k]? = some x) (hp : p x = false) : l.all p = false := by
  rw [List.all_eq_false]
  exact ⟨x, List.mem_of_getElem? h, by simp [hp]⟩
theorem all_true_of {α : Type} {p : α → Bool} {l : List α} (h : ∀ j, j < l.length → ∀ x, l[j]? = some x → p x = true) : l.all p = true := by
  rw [List.all_eq_true]
  intro x hx
  obtain ⟨j, hj, rfl⟩ := List.mem_iff_getElem.1 hx
  exact h j hj _ (List.getElem?_eq_getElem hj)

set_option maxRecDepth 100000 in
theorem six_areAll (l : List (FuncId × Array Value × Bool)) (blk off cap n : Nat) (w : World) (hblk : blk < w.heap.size) (hn : n = l.length) (hlen : l.length ≤ 1000) (h : AllC Tryz.prog w blk off 0 l) :
    Calls Tryz.prog 65 #[.slice (some ⟨blk, off, none⟩) n cap] w (Rt w (.bool (l.all (·.2.2)))) := by
  have Hn := hide hn
  have hn' : n ≤ 1000 := by omega
  clear hn hlen
  have H := hide h
  clear h
  go_enter Tryz.func65, Tryz.ntmps65
  go_wp2
  go_loopw [7] (fun k wr => ∃ i : Nat, i ≤ n ∧ k = .int .i64 i ∧ (∀ j, j < i → ∀ x, l[j]? = some x → x.2.2 = true) ∧ Below w.heap.size w wr) (fun k _ => n - (intOf k).toNat)
  case atStart => exact ⟨0, Nat.zero_le _, rfl, fun j h => absurd h (Nat.not_lt_zero _), Below.refl _ _⟩
  case round =>
    obtain ⟨i, hi, rfl, hj, hB⟩ := hrel
    by_cases hlt : i < n
    · obtain ⟨⟨f, c, b⟩, hx⟩ : ∃ x, l[i]? = some x := ⟨_, List.getElem?_eq_getElem (by rw [← Hn.out]; exact hlt)⟩
      obtain ⟨h0, h2, h3⟩ := H.out.at hx hj
      rw [Nat.zero_add] at h0
      have h1 := (hB.cell (p := ⟨blk, off + i, none⟩) hblk).trans h0
      replace h3 := hide (h3 wr hB)
      have Hx := hide hx
      have Hj := hide hj
      clear hx hj h0
      go_wp2
      refine (show Calls _ _ _ _ _ from h3.out).mono ?_
      rintro e w1 ⟨rfl, hb⟩
      have hB1 := hB.trans (hb.mono hB.size)
      clear hb
      cases b
      · go_wp2
        go_ret
        exact ⟨by rw [all_false Hx.out rfl]; rfl, hB1⟩
      · go_wp2
        go_roundw
        case rel => exact ⟨i + 1, by omega, by go_num, fun j h => by
          rcases Nat.lt_succ_iff_lt_or_eq.1 h with h | rfl
          · exact Hj.out j h
          · intro x hx
            rw [Hx.out] at hx; cases hx; rfl, hB1⟩
        case measure => simp [intOf]; omega
    · have Hj := hide hj
      clear hj
      go_wp2
      go_ret
      exact ⟨by rw [all_true_of (fun j hj x hx => Hj.out j (by rw [← Hn.out] at hj; omega) x hx)]; rfl, hB⟩
set_option maxRecDepth 100000 in
theorem seven_areAll (l : List (FuncId × Array Value × Bool)) (blk off cap n : Nat) (w : World) (hblk : blk < w.heap.size) (hn : n = l.length) (hlen : l.length ≤ 1000) (h : AllC Tryz.prog w blk off 0 l) :
    Calls Tryz.prog 78 #[.slice (some ⟨blk, off, none⟩) n cap] w (Rt w (.bool (l.all (·.2.2)))) := by
  have Hn := hide hn
  have hn' : n ≤ 1000 := by omega
  clear hn hlen
  have H := hide h
  clear h
  go_enter Tryz.func78, Tryz.ntmps78
  go_wp2
  go_loopw [7] (fun k wr => ∃ i : Nat, i ≤ n ∧ k = .int .i64 i ∧ (∀ j, j < i → ∀ x, l[j]? = some x → x.2.2 = true) ∧ Below w.heap.size w wr) (fun k _ => n - (intOf k).toNat)
  case atStart => exact ⟨0, Nat.zero_le _, rfl, fun j h => absurd h (Nat.not_lt_zero _), Below.refl _ _⟩
  case round =>
    obtain ⟨i, hi, rfl, hj, hB⟩ := hrel
    by_cases hlt : i < n
    · obtain ⟨⟨f, c, b⟩, hx⟩ : ∃ x, l[i]? = some x := ⟨_, List.getElem?_eq_getElem (by rw [← Hn.out]; exact hlt)⟩
      obtain ⟨h0, h2, h3⟩ := H.out.at hx hj
      rw [Nat.zero_add] at h0
      have h1 := (hB.cell (p := ⟨blk, off + i, none⟩) hblk).trans h0
      replace h3 := hide (h3 wr hB)
      have Hx := hide hx
      have Hj := hide hj
      clear hx hj h0
      go_wp2
      refine (show Calls _ _ _ _ _ from h3.out).mono ?_
      rintro e w1 ⟨rfl, hb⟩
      have hB1 := hB.trans (hb.mono hB.size)
      clear hb
      cases b
      · go_wp2
        go_ret
        exact ⟨by rw [all_false Hx.out rfl]; rfl, hB1⟩
      · go_wp2
        go_roundw
        case rel => exact ⟨i + 1, by omega, by go_num, fun j h => by
          rcases Nat.lt_succ_iff_lt_or_eq.1 h with h | rfl
          · exact Hj.out j h
          · intro x hx
            rw [Hx.out] at hx; cases hx; rfl, hB1⟩
        case measure => simp [intOf]; omega
    · have Hj := hide hj
      clear hj
      go_wp2
      go_ret
      exact ⟨by rw [all_true_of (fun j hj x hx => Hj.out j (by rw [← Hn.out] at hj; omega) x hx)]; rfl, hB⟩

/-- the values l lie in block blk from off on -/
def CellsAt (w : World) (blk : Nat) : Nat → List Value → Prop
  | _, [] => True
  | off, v :: l => w.cell? ⟨blk, off, none⟩ = some v ∧ CellsAt w blk (off + 1) l
theorem CellsAt.at {w : World} {blk : Nat} : ∀ {l : List Value} {off : Nat}, CellsAt w blk off l → ∀ (i : Nat) (v : Value), l[i]? = some v → w.cell? ⟨blk, off + i, none⟩ = some v
  | [], _, _, i, v, h => by simp at h
  | x :: l, off, hc, 0, v, h => by
    have : x = v := by simpa using h
    exact this ▸ hc.1
  | x :: l, off, hc, i + 1, v, h => by
    have := CellsAt.at hc.2 i v (by simpa using h)
    rw [show off + (i + 1) = off + 1 + i by omega]
    exact this
theorem CellsAt.map {α : Type} {f : α → Value} {w : World} {blk off : Nat} {l : List α} (h : CellsAt w blk off (l.map f)) (i : Nat) (x : α) (hx : l[i]? = some x) : w.cell? ⟨blk, off + i, none⟩ = some (f x) :=
  h.at i (f x) (by simp [hx])
theorem ascii_of {l : List UInt8} (h : ∀ c ∈ l, c.toNat < 128) (i : Nat) (c : UInt8) (hc : l[i]? = some c) : c.toNat < 128 := h c (List.mem_of_getElem? hc)

theorem Pu.rt {P : Program} {f : FuncId} {args : Array Value} {w : World} {v : Value} (h : Calls P f args w (Pu w v)) : Calls P f args w (Rt w v) := h.mono fun _ _ ⟨he, hw⟩ => ⟨he, hw ▸ Below.refl _ _⟩

end Go.Proofs.YtllfaffbaijgfaaGreatDoor

namespace Go.Proofs.YtllfaffbaijgfaaGreatDoor
open Go Go.RowKit Go.Shelf

/-- an error: none, or the text's place -/
def errV : Option Addr → Value
  | none => .nilIface
  | some b => .iface 526 (.pointer (some b))
theorem errV_one (e : Option Addr) : (errV e).oneCell' = true := by cases e <;> rfl

theorem must_calls (h : Bool) (e : Option Addr) (w : World) : Calls Tryz.prog 111 #[.bool h, errV e] w (fun en w' => en = .returned (.func (.func 180) #[] #[.pointer (some ⟨w.heap.size, 0, none⟩), .pointer (some ⟨w.heap.size + 1, 0, none⟩)]) ∧ w' = (w.alloc (.cells #[.bool h] 4)).alloc (.cells #[errV e] 78)) := by
  have hst := fun (a : Addr) (w : World) => run_store Tryz.prog w a (errV e) .plain (errV_one e)
  cases e
  all_goals unfold errV at *
  all_goals go_enter Tryz.func111, Tryz.ntmps111
  all_goals go_wp2
  all_goals go_ret
  all_goals exact ⟨rfl, rfl⟩

theorem must1_calls (h : Bool) (e : Option Addr) (B C : Nat) (w : World) (h0 : w.cell? ⟨B, 0, none⟩ = some (.bool h)) (h1 : w.cell? ⟨C, 0, none⟩ = some (errV e)) :
    Calls Tryz.prog 180 #[.pointer (some ⟨B, 0, none⟩), .pointer (some ⟨C, 0, none⟩)] w (Pu w (errV (if h then none else e))) := by
  cases h
  all_goals go_enter Tryz.func180, Tryz.ntmps180
  all_goals go_wp2
  all_goals go_ret
  all_goals exact ⟨rfl, rfl⟩

/-! a list of rules, asked one by one -/
def AllR (P : Program) (w : World) (blk off : Nat) : Nat → List (FuncId × Array Value × Option Addr) → Prop
  | _, [] => True
  | i, (f, c, b) :: l => w.cell? ⟨blk, off + i, none⟩ = some (.func (.func f) #[] c) ∧ (∀ args W, (callFunc f args).run P W = .ok (.enter f args) W) ∧
      (∀ W, Below w.heap.size w W → Calls P f c W (Rt W (errV b))) ∧ (b = none → AllR P w blk off (i + 1) l)

theorem AllR.at {P : Program} {w : World} {blk off : Nat} : ∀ {l : List (FuncId × Array Value × Option Addr)} {i k : Nat} {f : FuncId} {c : Array Value} {b : Option Addr}, AllR P w blk off i l → l[k]? = some (f, c, b) → (∀ j, j < k → ∀ x, l[j]? = some x → x.2.2 = none) →
    w.cell? ⟨blk, off + (i + k), none⟩ = some (.func (.func f) #[] c) ∧ (∀ args W, (callFunc f args).run P W = .ok (.enter f args) W) ∧ (∀ W, Below w.heap.size w W → Calls P f c W (Rt W (errV b)))
  | [], _, k, _, _, _, _, hk, _ => by simp at hk
  | (f, c, b) :: l, i, 0, _, _, _, h, hk, _ => by
    simp at hk
    obtain ⟨rfl, rfl, rfl⟩ := hk
    exact ⟨h.1, h.2.1, h.2.2.1⟩
  | (f, c, b) :: l, i, k + 1, _, _, _, h, hk, hb => by
    have h1 := h.2.2.2 (hb 0 (by omega) _ rfl)
    have := h1.at (k := k) (by simpa using hk) (fun j hj x hx => hb (j + 1) (by omega) x (by simpa using hx))
    rw [show i + (k + 1) = i + 1 + k by omega]
    exact this

def firstE (l : List (FuncId × Array Value × Option Addr)) : Option Addr := l.findSome? (·.2.2)
theorem firstE_some : ∀ {l : List (FuncId × Array Value × Option Addr)} {k : Nat} {x : FuncId × Array Value × Option Addr} {b : Addr}, l[k]? = some x → x.2.2 = some b → (∀ j, j < k → ∀ x, l[j]? = some x → x.2.2 = none) → firstE l = some b
  | [], k, _, _, h, _, _ => by simp at h
  | y :: l, 0, x, b, h, hx, _ => by
    simp at h; subst h
    simp [firstE, hx]
  | y :: l, k + 1, x, b, h, hx, hj => by
    have h0 : y.2.2 = none := hj 0 (by omega) y rfl
    have := firstE_some (l := l) (k := k) (by simpa using h) hx (fun j hl x hx => hj (j + 1) (by omega) x (by simpa using hx))
    simpa [firstE, h0] using this
theorem firstE_none {l : List (FuncId × Array Value × Option Addr)} (h : ∀ j, j < l.length → ∀ x, l[j]? = some x → x.2.2 = none) : firstE l = none := by
  unfold firstE
  rw [List.findSome?_eq_none_iff]
  intro x hx
  obtain ⟨j, hj, rfl⟩ := List.mem_iff_getElem.1 hx
  exact h j hj _ (List.getElem?_eq_getElem hj)

set_option maxRecDepth 100000 in
theorem first_calls (l : List (FuncId × Array Value × Option Addr)) (blk off cap n : Nat) (w : World) (hblk : blk < w.heap.size) (hn : n = l.length) (hlen : l.length ≤ 1000) (h : AllR Tryz.prog w blk off 0 l) :
    Calls Tryz.prog 110 #[.slice (some ⟨blk, off, none⟩) n cap] w (Rt w (errV (firstE l))) := by
  have Hn := hide hn
  have hn' : n ≤ 1000 := by omega
  clear hn hlen
  have H := hide h
  clear h
  go_enter Tryz.func110, Tryz.ntmps110
  go_wp2
  go_loopw [8] (fun k wr => ∃ i : Nat, i ≤ n ∧ k = .int .i64 i ∧ (∀ j, j < i → ∀ x, l[j]? = some x → x.2.2 = none) ∧ Below w.heap.size w wr) (fun k _ => n - (intOf k).toNat)
  case atStart => exact ⟨0, Nat.zero_le _, rfl, fun j h => absurd h (Nat.not_lt_zero _), Below.refl _ _⟩
  case round =>
    obtain ⟨i, hi, rfl, hj, hB⟩ := hrel
    by_cases hlt : i < n
    · obtain ⟨⟨f, c, b⟩, hx⟩ : ∃ x, l[i]? = some x := ⟨_, List.getElem?_eq_getElem (by rw [← Hn.out]; exact hlt)⟩
      obtain ⟨h0, h2, h3⟩ := H.out.at hx hj
      rw [Nat.zero_add] at h0
      have h1 := (hB.cell (p := ⟨blk, off + i, none⟩) hblk).trans h0
      replace h3 := hide (h3 wr hB)
      have Hx := hide hx
      have Hj := hide hj
      clear hx hj h0
      go_wp2_with fail
      refine (show Calls _ _ _ _ _ from h3.out).mono ?_
      rintro e w1 ⟨rfl, hb⟩
      have hB1 := hB.trans (hb.mono hB.size)
      clear hb
      cases b
      · simp only [errV]
        go_wp2
        go_roundw
        case rel => exact ⟨i + 1, by omega, by go_num, fun j h => by
          rcases Nat.lt_succ_iff_lt_or_eq.1 h with h | rfl
          · exact Hj.out j h
          · intro x hx
            rw [Hx.out] at hx; cases hx; rfl, hB1⟩
        case measure => simp [intOf]; omega
      · simp only [errV]
        go_wp2
        go_ret
        exact ⟨by rw [firstE_some Hx.out rfl Hj.out]; rfl, hB1⟩
    · have Hj := hide hj
      clear hj
      go_wp2
      go_ret
      exact ⟨by rw [firstE_none (fun j hj x hx => Hj.out j (by rw [← Hn.out] at hj; omega) x hx)]; rfl, hB⟩
end Go.Proofs.YtllfaffbaijgfaaGreatDoor
