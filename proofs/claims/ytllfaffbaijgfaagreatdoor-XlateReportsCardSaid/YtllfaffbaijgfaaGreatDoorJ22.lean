/- An iterator that owns blocks of its own and turns them between its rounds: its contract, and the statement that ranges over it. No program text. Items of CBOR in memory, as trees; a list of them, gone through from behind. Items gone through, each ahead of those in it: the plain lists; a loop whose rounds are counted from outside; a frame that leaves with marks alone. -/
import Derived.Test.YtllfaffbaijgfaaGreatDoorJ01
import Derived.Test.YtllfaffbaijgfaaGreatDoorJ21
import Derived.Test.YtllfaffbaijgfaaGreatDoorJ08
import Derived.Maps.OwnIn
import Derived.WalkSmall
set_option linter.unusedVariables false
set_option linter.unusedSimpArgs false
namespace Go.Proofs.YtllfaffbaijgfaaGreatDoor
open Go Go.RowKit

/-- A step of an iterator that owns the blocks O, all made since a world of N blocks: they may turn; new ones may be made, and owned. -/
structure OwnG (N : Nat) (O O' : Nat → Prop) (A B : World) : Prop where
  own : Own1 O A B
  sub : ∀ k, O k → O' k
  new : ∀ k, O' k → O k ∨ A.heap.size ≤ k
  lt : ∀ k, O' k → N ≤ k ∧ k < B.heap.size

/-- What the caller's invariant abides. -/
structure StpO (N : Nat) (O O' : Nat → Prop) (A B : World) : Prop where
  stp : Stp N O A B
  new : ∀ k, O' k → O k ∨ A.heap.size ≤ k
  lt : ∀ k, O' k → N ≤ k ∧ k < B.heap.size

theorem Stp.weaken {B0 : Nat} {O : Nat → Prop} {A B : World} (h : Stp B0 (fun _ => False) A B) : Stp B0 O A B :=
  ⟨h.os, h.tape, h.output, h.size, fun k h1 h2 _ => h.low k h1 h2 id, fun k o h1 h2 _ => h.cells k o h1 h2 id⟩
theorem StpO.of {N : Nat} {O : Nat → Prop} {A B : World} (h : Stp N (fun _ => False) A B) (hO : ∀ k, O k → False) : StpO N O O A B :=
  ⟨h.weaken, fun _ h => .inl h, fun k hk => (hO k hk).elim⟩
theorem StpO.of_ownG {N n : Nat} {O O' : Nat → Prop} {A B : World} (h : OwnG N O O' A B) (hn : n ≤ N) : StpO n O O' A B :=
  ⟨Stp.of_own1 h.own, h.new, fun k hk => by have := h.lt k hk; omega⟩

/-- **The contract of an iterator that owns blocks.** -/
def IterO {α : Type} (P : Program) (g : FuncId) (lb : Array Value) (enc : α → Array Value) (xs : List α) (R : Nat → Prop) (w : World) : Prop :=
  ∀ (l : Nat) (J : (Nat → Prop) → Nat → World → Prop) (Jx : (Nat → Prop) → World → Prop) (W : World), Keep R w W →
    (∀ O O' i A B, J O i A → OwnG W.heap.size O O' A B → J O' i B) → (∀ O O' A B, Jx O A → OwnG W.heap.size O O' A B → Jx O' B) →
    (∀ O i x W1, xs[i]? = some x → (∀ k, O k → W.heap.size ≤ k ∧ k < W1.heap.size) → J O i W1 → YieldAt Fence.wide 0 P l (enc x) W1 fun e W' =>
      (e = .returned (.bool true) ∧ J O (i + 1) W' ∧ Keep (fun k => R k ∨ O k) W1 W') ∨ (e = .returned (.bool false) ∧ Jx O W' ∧ KeepsFrom W.heap.size W1 W')) →
    J (fun _ => False) 0 W →
    CallsIn Fence.wide 0 P g (#[.func (.yield l) #[] #[]] ++ lb) W fun e W' => (∃ v, e = .returned v) ∧ ((∃ O, J O xs.length W') ∨ ∃ O, Jx O W')

/-- **The statement 'for .. := range g { body }' over such an iterator.** -/
theorem wp_rangeO {α : Type} {P : Program} {g : Operand} {ps : Array Tmp} {assign body : Code} {Q : Exit → Act → World → Prop} {a : Act} {w : World}
    {gf : FuncId} {lb : Array Value} (hg : a.eval g = .func (.func gf) #[] lb) (eg : ∀ args w, (callFunc gf args).run P w = .ok (.enter gf args) w)
    {enc : α → Array Value} {xs : List α} {R : Nat → Prop} (hit : IterO P gf lb enc xs R w) (hsz : ∀ x, (enc x).size = ps.size) (hR : ∀ k, R k → k < w.heap.size)
    (I : (Nat → Prop) → Nat → World → Prop) (Ix : (Nat → Prop) → Code → World → Prop)
    (hI : ∀ O O' i A B, I O i A → StpO w.heap.size O O' A B → I O' i B) (hIx : ∀ O O' c A B, Ix O c A → StpO w.heap.size O O' A B → Ix O' c B) (h0 : I (fun _ => False) 0 w)
    (hround : ∀ (O : Nat → Prop) (l i : Nat) (x : α) (W : World), w.heap.size < l → xs[i]? = some x → (∀ k, O k → l < k ∧ k < W.heap.size) → I O i W → (∃ r, W.heap[l]? = some (.loop r)) →
      assign.wpIn (Fence.wide.inRound l) 0 P (Exit.then (fun a₁ W₁ => KeepsFrom w.heap.size W W₁ ∧ Keep (fun k => R k ∨ O k) W W₁ ∧
          ∀ W₂, Stp w.heap.size (fun _ => False) W₁ W₂ → KeepsFrom w.heap.size W₂ W₂ → Keep (fun k => R k ∨ O k) W₁ W₂ → W₂.heap.size = W₁.heap.size → (∀ p, W₂.cell? p = W₁.cell? p) → (∀ p, W₂.frozen? p = W₁.frozen? p) → body.wpIn (Fence.wide.inRound l) 0 P (rdPost w.heap.size (fun k => R k ∨ O k) (I O (i + 1)) (Ix O) W₂) a₁ W₂)
        (fun _ _ _ => False)) { tmps := (ps.zip (enc x)).foldl (fun t (p, v) => t.setIfInBounds p v) a.tmps, defers := [] } W)
    (hdone : ∀ (O : Nat → Prop) (D : Nat) (W : World), w.heap.size ≤ D → I O xs.length W → W.heap[D]? = some (.deferred (some [])) → Q .normal { a with defers := { target := .collected D, args := #[] } :: a.defers } W)
    (hstop : ∀ (O : Nat → Prop) (D : Nat) (c : Code) (W : World), w.heap.size ≤ D → Ix O c W → W.heap[D]? = some (.deferred (some [])) → c.wpIn Fence.wide 0 P Q { a with defers := { target := .collected D, args := #[] } :: a.defers } W) :
    (Code.rangeFunc g ps assign body).wpIn Fence.wide 0 P Q a w := by
  refine wpIn_rangeFunc ?_
  intro fn _
  obtain ⟨rec, hrec⟩ : ∃ rec : LoopState → Option Code → Loop, rec = fun st pe => { state := st, pending := pe, fn, tmps := a.tmps, params := ps, assign, body, defers := w.heap.size } := ⟨_, rfl⟩
  obtain ⟨W1, hW1⟩ : ∃ W1, (w.alloc (.deferred (some []))).alloc (.loop (rec .ready none)) = W1 := ⟨_, rfl⟩
  have hL1 : W1.heap[w.heap.size + 1]? = some (.loop (rec .ready none)) := by
    rw [← hW1]; have := World.alloc_heap_new (w.alloc (.deferred (some []))) (.loop (rec .ready none)); rwa [World.size_alloc] at this
  have hK1 : W1.heap[w.heap.size]? = some (.deferred (some [])) := by
    rw [← hW1]; exact (Below.heap_alloc _ _ _ (by simp)).trans (World.alloc_heap_new w _)
  have hI1 : I (fun _ => False) 0 W1 := by rw [← hW1]; exact hI _ _ _ _ _ (hI _ _ _ _ _ h0 (StpO.of (Stp.alloc _ _) (fun _ h => h.elim))) (StpO.of (Stp.alloc _ _) (fun _ h => h.elim))
  have hb1 : Below w.heap.size w W1 := by
    rw [← hW1]; exact ((Below.refl _ w).alloc (Nat.le_refl _) _).alloc (by simp) _
  refine ⟨w.heap.size + 1, [{ target := .collected w.heap.size, args := #[] }], W1, { target := .fn (.func gf) lb, args := #[.func (.yield (w.heap.size + 1)) #[] #[]] }, W1, gf,
    #[.func (.yield (w.heap.size + 1)) #[] #[]] ++ lb, W1, ?_, ?_, ?_, ?_, fun h => (by simp [Fence.wide] at h), ?_⟩
  · rw [← hW1, hrec]; exact run_enterLoop_outer _ _ _ _ _
  · simp only [resolve, hg]
    simp [go_sem]
  · intro f' _; trivial
  · simp [invoke, go_sem, eg]
  · have hz1 : W1.heap.size = w.heap.size + 2 := by rw [← hW1]; simp
    have bk : ∀ {O O' : Nat → Prop} {A B : World} {k : Nat} {o : Obj}, A.heap[k]? = some o → k < w.heap.size + 2 → OwnG W1.heap.size O O' A B → B.heap[k]? = some o := fun {O O' A B k o} hk hle hab =>
      (hab.own.block k (Array.getElem?_eq_some_iff.1 hk).1 (fun hm => by have := hab.lt k (hab.sub k hm); omega)).trans hk
    refine (hit (w.heap.size + 1)
      (fun O i W => I O i W ∧ W.heap[w.heap.size + 1]? = some (.loop (rec .ready none)) ∧ W.heap[w.heap.size]? = some (.deferred (some [])))
      (fun O W => ∃ c, Ix O c W ∧ W.heap[w.heap.size + 1]? = some (.loop (rec .done (some c))) ∧ W.heap[w.heap.size]? = some (.deferred (some [])))
      W1 (Keep.of_below hb1 hR)
      (fun O O' i A B hs hab => ⟨hI O O' i A B hs.1 (StpO.of_ownG hab (by omega)), bk hs.2.1 (by omega) hab, bk hs.2.2 (by omega) hab⟩)
      (fun O O' A B hs hab => by
        obtain ⟨c, hc, hl, hk⟩ := hs
        exact ⟨c, hIx O O' c A B hc (StpO.of_ownG hab (by omega)), bk hl (by omega) hab, bk hk (by omega) hab⟩)
      ?_ ⟨hI1, hL1, hK1⟩).mono ?_
    · rintro O i x W hx hO ⟨hi, hl, hk⟩
      have hOl : ∀ k, O k → w.heap.size + 1 < k ∧ k < W.heap.size := fun k hk => by have := hO k hk; omega
      have hlt : w.heap.size + 1 < W.heap.size := (Array.getElem?_eq_some_iff.1 hl).1
      have hy := run_yield (P := P) (args := enc x) hl (by rw [hrec]; exact hsz x)
      rw [hrec] at hy
      refine ⟨fn, _, assign, body, hy, roundIn_of_wpIn trivial (wpIn_mono (hround O (w.heap.size + 1) i x W (by omega) hx hOl hi ⟨_, hl⟩) ?_)⟩
      clear hy
      intro e a' Wa hpost
      cases e <;> try exact hpost.elim
      obtain ⟨hkfa, hkpa, hbody⟩ := hpost
      have hla := hkfa.same _ _ (by omega) hl rfl
      have hka := hkfa.same _ _ (Nat.le_refl _) hk rfl
      have hlta : w.heap.size + 1 < Wa.heap.size := (Array.getElem?_eq_some_iff.1 hla).1
      refine ⟨_, run_beginRound hla (by rw [hrec]), ?_⟩
      obtain ⟨r2, hr2⟩ : ∃ r2 : Loop, r2 = { rec .ready none with state := .busy } := ⟨_, rfl⟩
      rw [← hr2]
      have hl2 : (Wa.putObj (w.heap.size + 1) (.loop r2)).heap[w.heap.size + 1]? = some (.loop r2) := World.putObj_heap_same hlta
      have hk2 : (Wa.putObj (w.heap.size + 1) (.loop r2)).heap[w.heap.size]? = some (.deferred (some [])) := (World.putObj_heap_other (by omega)).trans hka
      have hKp : ∀ (W : World) (o : Obj), w.heap.size + 1 < W.heap.size → Keep (fun k => R k ∨ O k) W (W.putObj (w.heap.size + 1) o) := fun W o _ =>
        ⟨by simp, fun k hk => World.putObj_heap_other (by rcases hk with hk | hk; · have := hR k hk; omega
                                                          · have := hOl k hk; omega)⟩
      have hKf : ∀ (W : World) (o : Obj), KeepsFrom W1.heap.size W (W.putObj (w.heap.size + 1) o) := fun W o =>
        ⟨by simp, fun k o' h1 hk h2 => (World.putObj_heap_other (by omega)).trans hk⟩
      have hKm : ∀ {A B : World}, KeepsFrom w.heap.size A B → KeepsFrom W1.heap.size A B := fun h => ⟨h.size, fun k o h1 hk h2 => h.same k o (by omega) hk h2⟩
      have hStp : ∀ {A B : World}, Stp w.heap.size (fun _ => False) A B → A.heap.size = B.heap.size → (∀ k, O k → w.heap.size + 1 < k ∧ k < A.heap.size) → StpO w.heap.size O O A B := fun h hs ho =>
        ⟨h.weaken, fun _ h => .inl h, fun k hk => by have := ho k hk; omega⟩
      refine wpIn_mono (hbody _ (Stp.putObj hla rfl (by omega)) (KeepsFrom.refl _ _) (hKp _ _ hlta) (by simp) (cell_putObj hla rfl rfl) (frozen_putObj hla rfl rfl)) ?_
      have fin : ∀ (jump : Option Code) (W3 : World), KeepsFrom w.heap.size (Wa.putObj (w.heap.size + 1) (.loop r2)) W3 →
          (Instr.endRound (w.heap.size + 1) jump).run P W3 = .ok (.bool jump.isNone) (W3.putObj (w.heap.size + 1) (.loop (rec (if jump.isNone then .ready else .done) jump))) ∧
          W3.heap[w.heap.size + 1]? = some (.loop r2) ∧
          (W3.putObj (w.heap.size + 1) (.loop (rec (if jump.isNone then .ready else .done) jump))).heap[w.heap.size + 1]? = some (.loop (rec (if jump.isNone then .ready else .done) jump)) ∧
          (W3.putObj (w.heap.size + 1) (.loop (rec (if jump.isNone then .ready else .done) jump))).heap[w.heap.size]? = some (.deferred (some [])) := fun jump W3 hk3 => by
        have hl3 := hk3.same _ _ (by omega) hl2 rfl
        have := run_endRound (P := P) jump hl3
        rw [hr2, hrec] at this
        rw [hrec]
        exact ⟨this, hl3, World.putObj_heap_same (Array.getElem?_eq_some_iff.1 hl3).1, (World.putObj_heap_other (by omega)).trans (hk3.same _ _ (Nat.le_refl _) hk2 rfl)⟩
      have hle : ∀ {W3 : World}, KeepsFrom w.heap.size (Wa.putObj (w.heap.size + 1) (.loop r2)) W3 → W.heap.size ≤ W3.heap.size := fun h => by
        have h1 := h.size
        have h2 := hkfa.size
        simp at h1
        omega
      have hO3 : ∀ {W3 : World}, KeepsFrom w.heap.size (Wa.putObj (w.heap.size + 1) (.loop r2)) W3 → ∀ k, O k → w.heap.size + 1 < k ∧ k < W3.heap.size := fun h k hk => by
        have h1 := hle h
        have h2 := hOl k hk
        omega
      rintro e a3 W3 hp
      cases e with
      | normal =>
        obtain ⟨hk3, hkp3, hi3⟩ := hp
        obtain ⟨hr, hl3, hl4, hk4⟩ := fin none W3 hk3
        exact ⟨_, _, hr, .inl ⟨rfl, ⟨hI O O _ _ _ hi3 (hStp (Stp.putObj hl3 rfl (by omega)) (by simp) (hO3 hk3)), hl4, hk4⟩, ((hkpa.trans (hKp _ _ hlta)).trans hkp3).trans (hKp _ _ (Array.getElem?_eq_some_iff.1 hl3).1)⟩⟩
      | ret =>
        obtain ⟨hk3, hi3⟩ := hp
        obtain ⟨hr, hl3, hl4, hk4⟩ := fin (some (.ret)) W3 hk3
        exact ⟨_, _, hr, .inr ⟨rfl, ⟨.ret, hIx O O _ _ _ hi3 (hStp (Stp.putObj hl3 rfl (by omega)) (by simp) (hO3 hk3)), hl4, hk4⟩, ((hKm hkfa).trans (hKf _ _)).trans ((hKm hk3).trans (hKf _ _))⟩⟩
      | exit id =>
        obtain ⟨hk3, hi3⟩ := hp
        obtain ⟨hr, hl3, hl4, hk4⟩ := fin (some (.exit id)) W3 hk3
        exact ⟨_, _, hr, .inr ⟨rfl, ⟨.exit id, hIx O O _ _ _ hi3 (hStp (Stp.putObj hl3 rfl (by omega)) (by simp) (hO3 hk3)), hl4, hk4⟩, ((hKm hkfa).trans (hKf _ _)).trans ((hKm hk3).trans (hKf _ _))⟩⟩
      | goto t =>
        obtain ⟨hk3, hi3⟩ := hp
        obtain ⟨hr, hl3, hl4, hk4⟩ := fin (some (.goto t)) W3 hk3
        exact ⟨_, _, hr, .inr ⟨rfl, ⟨.goto t, hIx O O _ _ _ hi3 (hStp (Stp.putObj hl3 rfl (by omega)) (by simp) (hO3 hk3)), hl4, hk4⟩, ((hKm hkfa).trans (hKf _ _)).trans ((hKm hk3).trans (hKf _ _))⟩⟩
      | panic ch => exact hp.elim
      | outgrown => exact hp.elim
    · rintro e W2 ⟨⟨v, rfl⟩, (⟨O, hi, hl, hk⟩ | ⟨O, c, hi, hl, hk⟩)⟩
      · exact ⟨none, _, by have := run_endLoop (P := P) hl (by rw [hrec]; simp); rw [hrec] at this; exact this, hdone _ _ _ (Nat.le_refl _) (hI O (fun _ => False) _ _ _ hi ⟨(Stp.putObj hl rfl (by omega)).weaken, fun _ h => h.elim, fun _ h => h.elim⟩) ((World.putObj_heap_other (by omega)).trans hk)⟩
      · exact ⟨some c, _, by have := run_endLoop (P := P) hl (by rw [hrec]; simp); rw [hrec] at this; exact this, hstop _ _ c _ (Nat.le_refl _) (hIx O (fun _ => False) _ _ _ hi ⟨(Stp.putObj hl rfl (by omega)).weaken, fun _ h => h.elim, fun _ h => h.elim⟩) ((World.putObj_heap_other (by omega)).trans hk)⟩


end Go.Proofs.YtllfaffbaijgfaaGreatDoor

namespace Go.Proofs.YtllfaffbaijgfaaGreatDoor
open Go Go.RowKit Go.Shelf
attribute [local go_sem] Oper.semAt_some

/-- an item: its kind, number, text, the slice of those in it, those -/
inductive Itv where
  | mk (kind n : Int) (s : List UInt8) (v : Value) (l : List Itv)
def Itv.kind : Itv → Int | .mk k _ _ _ _ => k
def Itv.n : Itv → Int | .mk _ n _ _ _ => n
def Itv.s : Itv → List UInt8 | .mk _ _ s _ _ => s
def Itv.v : Itv → Value | .mk _ _ _ v _ => v
def Itv.l : Itv → List Itv | .mk _ _ _ _ l => l
abbrev itC (x : Itv) : Array Value := #[.int .i64 x.kind, .int .i64 x.n, .string (bs x.s), x.v]

/-- the items l lie in block b from o on -/
def ItemsAt (w : World) (l : List Itv) (b o : Nat) : Prop := ∀ i x, l[i]? = some x → w.cell? ⟨b, o + i * 4, none⟩ = some (.int .i64 x.kind) ∧ w.cell? ⟨b, o + i * 4 + 1, none⟩ = some (.int .i64 x.n) ∧ w.cell? ⟨b, o + i * 4 + 2, none⟩ = some (.string (bs x.s)) ∧ w.cell? ⟨b, o + i * 4 + 3, none⟩ = some x.v
theorem ItemsAt.keep {R : Nat → Prop} {w w' : World} {l : List Itv} {b o : Nat} (h : ItemsAt w l b o) (hk : Keep R w w') (hb : R b) : ItemsAt w' l b o := fun i x hx => by
  obtain ⟨h1, h2, h3, h4⟩ := h i x hx
  exact ⟨(hk.cell (p := ⟨b, _, none⟩) hb).trans h1, (hk.cell (p := ⟨b, _, none⟩) hb).trans h2, (hk.cell (p := ⟨b, _, none⟩) hb).trans h3, (hk.cell (p := ⟨b, _, none⟩) hb).trans h4⟩

/-- the items from behind, each with its place -/
def backL (l : List Itv) : List (Nat × Itv) := (l.mapIdx fun i x => (i, x)).reverse
def backEnc (y : Nat × Itv) : Array Value := #[.int .i64 y.1, .agg (itC y.2)]
theorem backL_length (l : List Itv) : (backL l).length = l.length := by simp [backL]
theorem backL_at {l : List Itv} {i : Nat} {x : Itv} (h : l[i]? = some x) : (backL l)[l.length - 1 - i]? = some (i, x) := by
  have hi := (List.getElem?_eq_some_iff.1 h).1
  unfold backL
  rw [List.getElem?_reverse (by simp; omega)]
  simp only [List.length_mapIdx, List.getElem?_mapIdx]
  rw [show l.length - 1 - (l.length - 1 - i) = i by omega, h]
  rfl

theorem backL_get {l : List Itv} {i : Nat} {z : Nat × Itv} (h : (backL l)[i]? = some z) : l.reverse[i]? = some z.2 ∧ z.2 ∈ l := by
  have hi := (List.getElem?_eq_some_iff.1 h).1
  rw [backL_length] at hi
  have h2 := backL_at (l := l) (i := l.length - 1 - i) (x := l[l.length - 1 - i]'(by omega)) (List.getElem?_eq_getElem (by omega))
  rw [show l.length - 1 - (l.length - 1 - i) = i by omega, h] at h2
  cases h2
  refine ⟨?_, List.getElem_mem _⟩
  rw [List.getElem?_reverse (by omega), List.getElem?_eq_getElem]
theorem backward_calls (v : Value) (w : World) (hv : v.oneCell' = true) : Calls Tryz.prog 298 #[v] w (fun e w' => e = .returned (.func (.func 338) #[] #[.pointer (some ⟨w.heap.size, 0, none⟩)]) ∧ w' = w.alloc (.cells #[v] 109)) := by
  have hst := fun (a : Addr) (w : World) => run_store Tryz.prog w a v .plain hv
  go_enter Tryz.func298, Tryz.ntmps298
  go_wp2
  go_ret
  exact ⟨rfl, rfl⟩

set_option maxRecDepth 100000 in
set_option maxHeartbeats 4000000 in
theorem backIter (l : List Itv) (a : Option Addr) (cap B : Nat) (R : Nat → Prop) (w : World) (hlen : l.length ≤ 9000000000000000000) (hB : w.cell? ⟨B, 0, none⟩ = some (.slice a l.length cap)) (hRB : R B)
    (hat : 0 < l.length → ∃ b o, a = some ⟨b, o, none⟩ ∧ R b ∧ ItemsAt w l b o) (hone : ∀ x ∈ l, x.v.oneCell' = true) (hRlt : ∀ k, R k → k < w.heap.size) :
    Iter Tryz.prog 338 #[.pointer (some ⟨B, 0, none⟩)] backEnc (backL l) R (fun _ => False) w := by
  intro lp J Jx W hW hJ hJx hY h0
  have Hat := hide hat
  have HY := hide hY
  have Hone := hide hone
  clear hat hY hone
  obtain ⟨n, hn⟩ : ∃ n, n = l.length := ⟨_, rfl⟩
  rw [← hn] at hB hlen
  have Hn := hide hn
  clear hn
  have HB := hide (And.intro hB hRB)
  clear hB hRB
  have kb := (hW.cell (p := ⟨B, 0, none⟩) HB.out.2).trans HB.out.1
  refine callsIn_of_wp Tryz.func338 rfl trivial ?_ rfl
  simp only [Tryz.ntmps338, List.size_toArray, List.length_cons, List.length_nil, Nat.reduceAdd, Nat.reduceSub, Array.replicate_succ, Array.replicate_zero, List.push_toArray, List.append_toArray, List.nil_append, List.cons_append]
  have hw0 : wrap64 ((n : Int) - 1) = n - 1 := by unfold wrap64; omega
  gi_wp2
  clear hw0
  gi_loopw [3] (fun k wr => ∃ i : Nat, i ≤ n ∧ k = .int .i64 ((i : Int) - 1) ∧ J (n - i) wr ∧ Keep R W wr) (fun k _ => ((intOf k) + 1).toNat)
  case atStart => exact ⟨n, Nat.le_refl _, rfl, by rw [Nat.sub_self]; exact h0, Keep.refl _ _⟩
  case round =>
    obtain ⟨i, hi, rfl, hJi, hK⟩ := hrel
    replace kb := (hK.cell (p := ⟨B, 0, none⟩) HB.out.2).trans kb
    by_cases hlt : 0 < i
    · obtain ⟨j, rfl⟩ : ∃ j, i = j + 1 := ⟨i - 1, by omega⟩
      have hj1 : ((j + 1 : Nat) : Int) - 1 = (j : Int) := by omega
      rw [hj1]
      obtain ⟨b, o, rfl, hRb, hat⟩ := Hat.out (by rw [← Hn.out]; omega)
      obtain ⟨x, hx⟩ : ∃ x, l[j]? = some x := ⟨_, List.getElem?_eq_getElem (by rw [← Hn.out]; omega)⟩
      have hKw : Keep R w wr := hW.trans hK
      obtain ⟨k0, k1, k2, k3⟩ := (hat.keep hKw hRb) j x hx
      have hb := backL_at hx
      rw [← Hn.out] at hb
      have hst := fun (a : Addr) (w : World) => run_store Tryz.prog w a x.v .plain (Hone.out x (List.mem_of_getElem? hx))
      have Hx := hide hx
      clear hx hat hKw
      obtain ⟨fn, tmps, assign, body, hy, hR⟩ := HY.out (n - 1 - j) _ _ hb (by rw [show n - 1 - j = n - (j + 1) by omega]; exact hJi)
      simp only [backEnc] at hy
      clear hb
      have hjn : j + 1 ≤ n := hi
      have hwj : wrap64 ((j : Int) - 1) = j - 1 := by unfold wrap64; omega
      gi_wp2_with fail
      refine ⟨rfl, hR.mono ?_⟩
      rintro e W' (⟨rfl, hJ', hk⟩ | ⟨rfl, hJx'⟩)
      · clear k0 k1 k2 k3 kb hy hst hR
        gi_wp2
        go_roundw
        case rel => exact ⟨j, by omega, rfl, by rw [show n - j = n - 1 - j + 1 by omega]; exact hJ', hK.trans hk⟩
        case measure => simp [intOf] <;> omega
      · clear k0 k1 k2 k3 kb hy hst hR
        gi_wp2
        refine bodyPost_ret (results_none rfl _ _ _) rfl ?_
        exact ⟨⟨_, rfl⟩, .inr hJx'⟩
    · obtain rfl : i = 0 := by omega
      gi_wp2
      go_end0
      exact ⟨⟨_, rfl⟩, .inl (by rw [backL_length, ← Hn.out]; exact hJi)⟩
end Go.Proofs.YtllfaffbaijgfaaGreatDoor

namespace Go.Proofs.YtllfaffbaijgfaaGreatDoor
open Go Go.RowKit Go.Shelf

mutual
def Itv.count : Itv → Nat
  | .mk _ _ _ _ l => 1 + countL l
def countL : List Itv → Nat
  | [] => 0
  | x :: r => x.count + countL r
end
mutual
def preT : Nat → Itv → List (Nat × Itv)
  | d, .mk k n s v l => (d, .mk k n s v l) :: preL (d + 1) l
def preL : Nat → List Itv → List (Nat × Itv)
  | _, [] => []
  | d, x :: r => preT d x ++ preL d r
end
theorem preL_flat (d : Nat) : ∀ l : List Itv, preL d l = l.flatMap (preT d)
  | [] => by rw [preL]; rfl
  | x :: r => by rw [preL, List.flatMap_cons, preL_flat d r]
theorem preT_eq (d : Nat) (x : Itv) : preT d x = (d, x) :: preL (d + 1) x.l := by
  cases x; rw [preT]; rfl
theorem count_eq (x : Itv) : x.count = 1 + countL x.l := by
  cases x; rw [Itv.count]; rfl
theorem count_le : ∀ {l : List Itv} {x : Itv}, x ∈ l → x.count ≤ countL l
  | [], _, h => by cases h
  | y :: r, x, h => by
    rw [countL]
    rcases List.mem_cons.1 h with rfl | h
    · omega
    · have := count_le h; omega
theorem countL_append : ∀ (l r : List Itv), countL (l ++ r) = countL l + countL r
  | [], r => by rw [List.nil_append, countL]; omega
  | x :: l, r => by rw [List.cons_append, countL, countL, countL_append l r]; omega
theorem countL_reverse (l : List Itv) : countL l.reverse = countL l := by
  induction l with
  | nil => rfl
  | cons x l ih => rw [List.reverse_cons, countL_append, ih, countL, countL, countL]; omega
theorem length_le_countL : ∀ l : List Itv, l.length ≤ countL l
  | [] => Nat.le_refl _
  | x :: r => by
    have h1 := length_le_countL r
    have h2 := count_eq x
    rw [countL, List.length_cons]; omega

/-- what a stack (its top is last) will hand on yet -/
abbrev Stk := List (Nat × Itv)
def outS (st : Stk) : List (Nat × Itv) := st.reverse.flatMap fun p => preT p.1 p.2
theorem outS_pop (st : Stk) (d : Nat) (x : Itv) : outS (st ++ [(d, x)]) = (d, x) :: outS (st ++ x.l.reverse.map fun y => (d + 1, y)) := by
  unfold outS
  simp only [List.reverse_append, List.reverse_cons, List.reverse_nil, List.nil_append, List.singleton_append, List.flatMap_cons, List.flatMap_append, List.cons_append]
  rw [preT_eq, preL_flat, ← List.map_reverse, List.reverse_reverse, List.flatMap_map]
  rfl
def countS (st : Stk) : Nat := countL (st.map (·.2))
theorem countS_pop (st : Stk) (d : Nat) (x : Itv) : countS (st ++ x.l.reverse.map fun y => (d + 1, y)) + 1 = countS (st ++ [(d, x)]) := by
  unfold countS
  simp only [List.map_append, List.map_map, List.map_cons, List.map_nil, countL_append]
  rw [show (x.l.reverse.map ((fun p : Nat × Itv => p.2) ∘ fun y => (d + 1, y))) = x.l.reverse from by simp [Function.comp_def]]
  rw [countL_reverse, countL, countL, count_eq]; omega
def flatS (st : Stk) : List Value := st.flatMap fun p => [.int .i64 p.2.kind, .int .i64 p.2.n, .string (bs p.2.s), p.2.v, .int .i64 p.1]
theorem flatS_append (a b : Stk) : flatS (a ++ b) = flatS a ++ flatS b := by simp [flatS]
theorem flatS_length (st : Stk) : (flatS st).length = st.length * 5 := by
  induction st with
  | nil => rfl
  | cons p st ih => simp [flatS] at *; omega

/-- an item lies in memory with all that is in it, in blocks of R -/
inductive ItvAt (R : Nat → Prop) (w : World) : Itv → Prop
  | mk (k n : Int) (s : List UInt8) (a : Option Addr) (cap : Nat) (l : List Itv) (h : 0 < l.length → ∃ b o, a = some ⟨b, o, none⟩ ∧ R b ∧ ItemsAt w l b o) (hs : ∀ x ∈ l, ItvAt R w x) : ItvAt R w (.mk k n s (.slice a l.length cap) l)
theorem ItvAt.keep {R : Nat → Prop} {w w' : World} (hk : Keep R w w') {x : Itv} (h : ItvAt R w x) : ItvAt R w' x := by
  induction h with
  | mk k n s a cap l h hs ih =>
    exact .mk k n s a cap l (fun hl => by obtain ⟨b, o, h1, h2, h3⟩ := h hl; exact ⟨b, o, h1, h2, h3.keep hk h2⟩) ih
theorem ItvAt.more {R R' : Nat → Prop} {w : World} (hR : ∀ k, R k → R' k) {x : Itv} (h : ItvAt R w x) : ItvAt R' w x := by
  induction h with
  | mk k n s a cap l h hs ih =>
    exact .mk k n s a cap l (fun hl => by obtain ⟨b, o, h1, h2, h3⟩ := h hl; exact ⟨b, o, h1, hR b h2, h3⟩) ih
theorem ItvAt.slice {R : Nat → Prop} {w : World} {x : Itv} (h : ItvAt R w x) : ∃ a cap, x.v = .slice a x.l.length cap ∧ (0 < x.l.length → ∃ b o, a = some ⟨b, o, none⟩ ∧ R b ∧ ItemsAt w x.l b o) ∧ ∀ y ∈ x.l, ItvAt R w y := by
  cases h with
  | mk k n s a cap l h hs => exact ⟨a, cap, rfl, h, hs⟩
theorem ItvAt.oneCell {R : Nat → Prop} {w : World} {x : Itv} (h : ItvAt R w x) : x.v.oneCell' = true := by
  obtain ⟨a, cap, e, _⟩ := h.slice
  rw [e]; rfl

theorem least_of {p : Nat → Prop} : ∀ m, p m → ∃ k, p k ∧ ∀ j, p j → k ≤ j := by
  intro m
  induction m using Nat.strongRecOn with
  | _ m ih =>
    intro hm
    by_cases h : ∃ j, p j ∧ j < m
    · obtain ⟨j, hj, hlt⟩ := h
      exact ih j hlt hj
    · exact ⟨m, hm, fun j hj => Nat.le_of_not_lt fun hlt => h ⟨j, hj, hlt⟩⟩
open Classical in
/-- a loop whose rounds are counted from outside -/
theorem wpIn_loop_idx {F : Fence} {n : Nat} {P : Program} {Q : Exit → Act → World → Prop} {a : Act} {w : World} {c : Code} (I : Nat → Act → World → Prop) (m : Nat) (h0 : I m a w)
    (round : ∀ m a w, I m a w → c.wpIn F n P (Exit.then (fun a' w' => ∃ m', m' < m ∧ I m' a' w') Q) a w) : (Code.loop c).wpIn F n P Q a w := by
  have hex : ∀ a w, (∃ m, I m a w) → ∃ k, I k a w ∧ ∀ j, I j a w → k ≤ j := fun a w ⟨m, h⟩ => least_of m h
  refine wpIn_loop (fun a w => ∃ m, I m a w) (fun a w => if h : ∃ m, I m a w then (hex a w h).choose else 0) ⟨m, h0⟩ ?_
  intro a w h
  refine wpIn_mono (round _ a w (hex a w h).choose_spec.1) ?_
  intro e a' w' hq
  cases e with
  | normal =>
    obtain ⟨m', hlt, hI⟩ := hq
    refine ⟨⟨m', hI⟩, ?_⟩
    rw [dif_pos h, dif_pos ⟨m', hI⟩]
    exact Nat.lt_of_le_of_lt ((hex a' w' ⟨m', hI⟩).choose_spec.2 m' hI) hlt
  | _ => exact hq

/-- the deferred calls are marks of loops that are over, each in a block of its own -/
inductive Marks (O : Nat → Prop) (W : World) : List Deferred → Nat → Prop
  | nil (N : Nat) : Marks O W [] N
  | cons (D N : Nat) (ds : List Deferred) (hD : D < N) (hO : O D) (hk : W.heap[D]? = some (.deferred (some []))) (h : Marks O W ds D) : Marks O W ({ target := .collected D, args := #[] } :: ds) N
theorem Marks.keep {O O' : Nat → Prop} {W W' : World} {ds : List Deferred} {N M : Nat} (h : Marks O W ds N) (hO : ∀ k, O k → O' k) (hNM : N ≤ M) (hk : ∀ k, O k → k < N → W.heap[k]? = some (.deferred (some [])) → W'.heap[k]? = some (.deferred (some []))) : Marks O' W' ds M := by
  induction h generalizing M with
  | nil N => exact .nil M
  | cons D N ds hD hOD hkD h ih => exact .cons D M ds (by omega) (hO D hOD) (hk D hOD hD hkD) (ih (Nat.le_refl _) (fun k hO' hk' => hk k hO' (by omega)))

theorem marks_leave {n : Nat} {P : Program} {fn : Func} {tmps : Array Value} {Q : Ending → World → Prop} {O : Nat → Prop} (T : World → Prop)
    (hT : ∀ A B, T A → (∀ k, k < A.heap.size → ¬ O k → B.heap[k]? = A.heap[k]?) → B.os = A.os → B.tape = A.tape → B.output = A.output → A.heap.size = B.heap.size → T B) (hfn : fn.results = #[]) (hQ : ∀ v W, T W → Q (.returned v) W) :
    ∀ {ds : List Deferred} {N : Nat} {W : World}, Marks O W ds N → T W → LeavesInM Fence.wide n P fn tmps Q ds .returning W := by
  intro ds
  induction ds with
  | nil =>
    intro N W _ h
    exact ⟨_, results_none hfn _ _ _, hQ _ _ h⟩
  | cons d ds ih =>
    intro N W hm h
    cases hm with
    | cons D _ _ hD hO hk hms =>
      refine ⟨by simp, .inl ⟨D, _, rfl, run_takeDeferred hk, ?_⟩⟩
      refine ih (hms.keep (fun _ h => h) (Nat.le_refl _) fun k _ hk1 hk2 => (World.putObj_heap_other (by omega)).trans hk2) (hT W _ h (fun k _ hk' => World.putObj_heap_other (by rintro rfl; exact hk' hO)) rfl rfl rfl (by simp))
end Go.Proofs.YtllfaffbaijgfaaGreatDoor
