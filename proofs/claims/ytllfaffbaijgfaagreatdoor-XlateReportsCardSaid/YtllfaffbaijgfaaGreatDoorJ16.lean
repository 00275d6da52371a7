/- ext.walk: something done with each block, up to the first error. adm6: is a bundle right to be told of. -/
import Derived.Test.YtllfaffbaijgfaaGreatDoorJ15
import Derived.Test.YtllfaffbaijgfaaGreatDoorJ11
import Derived.Test.YtllfaffbaijgfaaGreatDoorJ04
import Derived.Deep.CutRange
import Derived.Test.YtllfaffbaijgfaaGreatDoorJ08
import Derived.Test.YtllfaffbaijgfaaGreatDoorJ09
set_option linter.unusedVariables false
set_option linter.unusedSimpArgs false
namespace Go.Proofs.YtllfaffbaijgfaaGreatDoor
open Go Go.RowKit Go.Shelf
attribute [local go_sem] Oper.semAt_some

/-- the blocks one by one, up to the first error -/
def walkF {σ : Type} (step : σ → Bool → Block → Int × σ) : σ → List Blk → Int × σ
  | s, [] => (0, s)
  | s, y :: r => if (step s y.1 y.2.1).1 = 0 then walkF step (step s y.1 y.2.1).2 r else step s y.1 y.2.1
theorem walkF_at {σ : Type} {step : σ → Bool → Block → Int × σ} {s : σ} {l : List Blk} {i : Nat} {y : Blk} (h : l[i]? = some y) :
    walkF step s (l.drop i) = if (step s y.1 y.2.1).1 = 0 then walkF step (step s y.1 y.2.1).2 (l.drop (i + 1)) else step s y.1 y.2.1 := by
  obtain ⟨hi, rfl⟩ := List.getElem?_eq_some_iff.1 h
  rw [List.drop_eq_getElem_cons hi]
  rfl

theorem WStep.stp {base P M B0 : Nat} {w A B : World} (h : WStep base P M w A) (hs : Stp B0 (fun _ => False) A B) (hb : w.heap.size ≤ B0) (hbase : base ≤ w.heap.size) : WStep base P M w B :=
  ⟨hs.os.trans h.os, hs.tape.trans h.tape, hs.output.trans h.output, Nat.le_trans h.size hs.size, fun k hk => (hs.low k (by have := h.size; omega) (by omega) id).trans (h.low k hk), fun k o h1 h2 h3 h4 => by
    have hk := (Array.getElem?_eq_some_iff.1 h1).1
    exact (hs.low k (by have := h.size; omega) (by omega) id).trans (h.far k o h1 h2 h3 h4)⟩

set_option maxRecDepth 100000 in
set_option maxHeartbeats 40000000 in
theorem walk_calls {σ : Type} (step : σ → Bool → Block → Int × σ) (Inv : Nat → σ → World → Prop) (base P M : Nat) (l : List Block) (rv : Nat → Value) (a : Option Addr) (cap : Nat) (g : FuncId) (fs cs : Array Value) (s0 : σ) (w : World)
    (hlen : l.length ≤ 9000000000000000000) (hat : 0 < l.length → ∃ b o, a = some ⟨b, o, none⟩ ∧ b < base ∧ BlocksAt w l rv b o) (hone : ∀ i x, l[i]? = some x → (rv i).oneCell' = true)
    (hbase : base ≤ w.heap.size) (hP : P < w.heap.size) (hM : M < w.heap.size) (hg : ∀ args W, (callFunc g args).run Tryz.prog W = .ok (.enter g args) W) (h0 : Inv 0 s0 w)
    (hInv : ∀ i s A B, w.heap.size ≤ A.heap.size → Inv i s A → (∀ k : Nat, k < w.heap.size → B.heap[k]? = A.heap[k]?) → (∀ (k : Nat) (c : Array Value) (m : Nat × Nat), A.heap[k]? = some (.cells c 57 m) → B.heap[k]? = some (.cells c 57 m)) → A.heap.size ≤ B.heap.size → Inv i s B)
    (hdo : ∀ i x s W, l[i]? = some x → Inv i s W → w.heap.size ≤ W.heap.size → Calls Tryz.prog g (fs ++ #[.bool (decide (i + 1 = l.length)), .agg #[.int .i64 x.type, .int .i64 x.num, .int .i64 x.flags, .int .i64 x.sum, rv i, .string (bs x.data)]] ++ cs) W (fun e w' => e = .returned (.int .i64 (step s (decide (i + 1 = l.length)) x).1) ∧ Inv (i + 1) (step s (decide (i + 1 = l.length)) x).2 w' ∧ WStep base P M W w')) :
    Calls Tryz.prog 170 #[.slice a l.length cap, .func (.func g) fs cs] w (fun e w' => e = .returned (.int .i64 (walkF step s0 (blkItems l rv)).1) ∧ (∃ i, Inv i (walkF step s0 (blkItems l rv)).2 w') ∧ WStep base P M w w') := by
  have Hdo := hide hdo
  have HInv := hide hInv
  have Hat := hide hat
  have Hone := hide hone
  have Hg := hide hg
  obtain ⟨n, hn⟩ : ∃ n, n = l.length := ⟨_, rfl⟩
  rw [← hn]
  rw [← hn] at hlen
  have Hn := hide hn
  obtain ⟨Z, hZ⟩ : ∃ Z, Z = walkF step s0 (blkItems l rv) := ⟨_, rfl⟩
  rw [← hZ]
  have HZ := hide hZ
  clear hdo hInv hat hone hn hZ
  refine (callsIn_wide (n := 0)).1 ?_
  refine callsIn_of_wp_marks Tryz.func170 rfl trivial ?_ rfl
  simp only [Tryz.ntmps170, List.size_toArray, List.length_cons, List.length_nil, Nat.reduceAdd, Nat.reduceSub, Array.replicate_succ, Array.replicate_zero, List.push_toArray, List.append_toArray, List.nil_append, List.cons_append]
  gi_wp2
  refine ⟨trivial, rfl, ?_⟩
  refine (callsIn_wide.2 (extBlocks_calls (.slice a n cap) _ rfl)).mono ?_
  rintro e_ w_ ⟨rfl, hw_⟩
  have hz : ((w.alloc (.cells #[.func (.func g) fs cs] 222)).alloc (.cells #[.int .i64 0] 24)).heap.size = w.heap.size + 2 := by simp
  have hB : Below w.heap.size w w_ := by rw [hw_]; ((repeat' (first | exact Below.refl _ _ | assumption | (refine Below.drew ?_) | (refine Below.alloc ?_ ?_ _) | (refine Below.setCell ?_ ?_ _) | (refine Below.step (W := ?hW) ?hq ?_ ?_; case hq => assumption))) <;> (first | (simp; done) | (simp; omega) | (simp at *; omega)))
  have hzw : w_.heap.size = w.heap.size + 3 := by rw [hw_]; simp
  have xF : w_.heap[w.heap.size]? = some (.cells #[.func (.func g) fs cs] 222 (0, 0)) := by rw [hw_]; exact heapNew (u := w) (by ((repeat' (first | exact Below.refl _ _ | assumption | (refine Below.drew ?_) | (refine Below.alloc ?_ ?_ _) | (refine Below.setCell ?_ ?_ _) | (refine Below.step (W := ?hW) ?hq ?_ ?_; case hq => assumption))) <;> (first | (simp; done) | (simp; omega) | (simp at *; omega)))) rfl
  have xE : w_.heap[w.heap.size + 1]? = some (.cells #[.int .i64 0] 24 (0, 0)) := by rw [hw_]; exact heapNew (u := w.alloc _) (by ((repeat' (first | exact Below.refl _ _ | assumption | (refine Below.drew ?_) | (refine Below.alloc ?_ ?_ _) | (refine Below.setCell ?_ ?_ _) | (refine Below.step (W := ?hW) ?hq ?_ ?_; case hq => assumption))) <;> (first | (simp; done) | (simp; omega) | (simp at *; omega)))) (by simp)
  have xD : w_.heap[w.heap.size + 2]? = some (.cells #[.slice a n cap] 30 (0, 0)) := by rw [hw_]; exact heapNew (u := (w.alloc _).alloc _) (by ((repeat' (first | exact Below.refl _ _ | assumption | (refine Below.drew ?_) | (refine Below.alloc ?_ ?_ _) | (refine Below.setCell ?_ ?_ _) | (refine Below.step (W := ?hW) ?hq ?_ ?_; case hq => assumption))) <;> (first | (simp; done) | (simp; omega) | (simp at *; omega)))) (by simp)
  rw [hz]
  clear hw_ hz
  have hlb : ∀ k, (k < base ∨ k = w.heap.size + 2) → k < w_.heap.size := fun k hk => by omega
  have Hit : Iter Tryz.prog 310 #[.pointer (some ⟨w.heap.size + 2, 0, none⟩)] blkEnc (blkItems l rv) (fun k => k < base ∨ k = w.heap.size + 2) (fun _ => False) w_ :=
    extIter l rv a cap (w.heap.size + 2) _ w_ (by rw [← Hn.out]; exact hlen) (by rw [← Hn.out]; exact cellsOf xD 0) (.inr rfl)
      (fun h => by obtain ⟨b, o, e, h1, h2⟩ := Hat.out h; exact ⟨b, o, e, .inl h1, h2.mono hB (by omega)⟩) Hone.out hlb
  have Hit := hide Hit
  have i0 : Inv 0 s0 w_ := HInv.out 0 s0 w w_ (Nat.le_refl _) h0 (fun k hk => hB.block k hk) (fun k c m hk => (hB.block k (Array.getElem?_eq_some_iff.1 hk).1).trans hk) hB.size
  have ws0 : WStep base P M w w_ := WStep.of_below hB hbase
  clear h0
  gi_wp2
  refine wp_range (gf := 310) (lb := #[.pointer (some ⟨w.heap.size + 2, 0, none⟩)]) rfl (enters_of Tryz.func310 (by kernel_rfl) rfl) Hit.out (fun _ => rfl) hlb (fun _ h => h.elim)
    (fun i W => (∃ s, Z = walkF step s ((blkItems l rv).drop i) ∧ Inv i s W) ∧ W.heap[w.heap.size]? = some (.cells #[.func (.func g) fs cs] 222 (0, 0)) ∧ W.heap[w.heap.size + 1]? = some (.cells #[.int .i64 0] 24 (0, 0)) ∧ W.heap[w.heap.size + 2]? = some (.cells #[.slice a n cap] 30 (0, 0)) ∧ WStep base P M w W)
    (fun c W => c = .ret ∧ (∃ i, Inv i Z.2 W) ∧ W.heap[w.heap.size + 1]? = some (.cells #[.int .i64 Z.1] 24 (0, 0)) ∧ WStep base P M w W)
    (fun i A B h hs => by
      obtain ⟨⟨s, h1, h2⟩, h3, h4, h5, h6⟩ := h
      exact ⟨⟨s, h1, HInv.out i s A B h6.size h2 (fun k hk => hs.low k (by have := h6.size; omega) (by omega) id) (fun k c m hk => hs.cells k _ hk rfl id) hs.size⟩, hs.heap h3, hs.heap h4, hs.heap h5, h6.stp hs (by omega) hbase⟩)
    (fun c A B h hs => by
      obtain ⟨h1, ⟨j, h2⟩, h3, h4⟩ := h
      exact ⟨h1, ⟨j, HInv.out j _ A B h4.size h2 (fun k hk => hs.low k (by have := h4.size; omega) (by omega) id) (fun k c m hk => hs.cells k _ hk rfl id) hs.size⟩, hs.heap h3, h4.stp hs (by omega) hbase⟩)
    ⟨⟨s0, HZ.out, i0⟩, xF, xE, xD, ws0⟩ ?round ?done ?stop
  case round =>
    intro lp i y W hl hy hi hrec
    obtain ⟨⟨s, hs0, hs1⟩, hF, hE, hD, hW⟩ := hi
    have hlt : w_.heap.size < W.heap.size := by obtain ⟨r, hr⟩ := hrec; have := (Array.getElem?_eq_some_iff.1 hr).1; omega
    obtain ⟨x, hx, rfl⟩ := blkItems_at hy
    rw [walkF_at hy] at hs0
    have hst := fun (a : Addr) (w : World) => run_store Tryz.prog w a (rv i) .plain (Hone.out i x hx)
    have Hs0 := hide hs0
    have Hs1 := hide hs1
    have Hx := hide hx
    obtain ⟨q, hq⟩ : ∃ q, q = decide (i + 1 = l.length) := ⟨_, rfl⟩
    have HC := hide (fun W hI hz => Hdo.out i x s W hx hI hz)
    rw [← hq] at HC Hs0 ⊢
    have hg := Hg.out
    clear hs0 hs1 hx hq hy Hit hrec
    simp only [blkEnc]
    gi_wp2
    refine ⟨(KeepsOthers.alloc _ _).from _, Keep.of_below ((Below.refl _ W).alloc (Nat.le_refl _) _) (fun k hk => by have := hlb k hk; omega), fun W₂ hs hk hkr hsz hc hf => ?_⟩
    have hBn : Below W.heap.size W (W.alloc (.cells #[.int .i64 x.type, .int .i64 x.num, .int .i64 x.flags, .int .i64 x.sum, rv i, .string (bs x.data)] 57)) := (Below.refl _ W).alloc (Nat.le_refl _) _
    replace hF := hs.heap (heapKept hF hBn)
    replace hE := hs.heap (heapKept hE hBn)
    replace hD := hs.heap (heapKept hD hBn)
    have hI2 : Inv i s W₂ := HInv.out i s W W₂ hW.size Hs1.out (fun k hk => (hs.low k (by have := hBn.size; have := hW.size; omega) (by omega) id).trans (hBn.block k (by have := hW.size; omega)))
      (fun k c m hk => hs.cells k _ ((hBn.block k (Array.getElem?_eq_some_iff.1 hk).1).trans hk) rfl id) (Nat.le_trans hBn.size hs.size)
    have hW2 : WStep base P M w W₂ := (hW.trans (WStep.of_below hBn (by have := hW.size; omega))).stp hs (by omega) hbase
    have b0 : W₂.cell? ⟨W.heap.size, 0, none⟩ = some (.int .i64 x.type) := (hc _).trans (by simp)
    have b1 : W₂.cell? ⟨W.heap.size, 1, none⟩ = some (.int .i64 x.num) := (hc _).trans (by simp)
    have b2 : W₂.cell? ⟨W.heap.size, 2, none⟩ = some (.int .i64 x.flags) := (hc _).trans (by simp)
    have b3 : W₂.cell? ⟨W.heap.size, 3, none⟩ = some (.int .i64 x.sum) := (hc _).trans (by simp)
    have b4 : W₂.cell? ⟨W.heap.size, 4, none⟩ = some (rv i) := (hc _).trans (by simp)
    have b5 : W₂.cell? ⟨W.heap.size, 5, none⟩ = some (.string (bs x.data)) := (hc _).trans (by simp)
    have f0 := cellsOf hF 0
    simp only [List.getElem?_toArray, List.getElem?_cons_zero] at f0
    try simp at hsz
    have hC1 := HC.out W₂ hI2 hW2.size
    rw [Array.append_assoc] at hC1
    have hC2 := hide hC1
    clear hC1
    clear hs hk hkr hc hf hBn HC hI2
    gi_wp2_with fail
    refine ⟨trivial, rfl, (CallsIn.inRound lp (callsIn_wide.2 hC2.out)).mono ?_⟩
    rintro e_ W3 ⟨rfl, hI3, hW3⟩
    obtain ⟨s', hs'⟩ : ∃ s', s' = step s q x := ⟨_, rfl⟩
    rw [← hs'] at hI3 Hs0 ⊢
    have hF3 := hW3.far _ _ hF (by omega) (by omega) (by intro c m h; cases h)
    have hE3 := hW3.far _ _ hE (by omega) (by omega) (by intro c m h; cases h)
    have hD3 := hW3.far _ _ hD (by omega) (by omega) (by intro c m h; cases h)
    have hkeep : Keep (fun k => k < base ∨ k = w.heap.size + 2) W₂ W3 := ⟨hW3.size, fun k hk => by
      rcases hk with hk | rfl
      · exact hW3.low k hk
      · exact hD3.trans hD.symm⟩
    have hkf : KeepsFrom (w.heap.size + 3) W₂ W3 := ⟨hW3.size, fun k o hk h1 h2 => hW3.far k o h1 (by omega) (by omega) (by rintro c m rfl; cases h2)⟩
    have hWW := hW2.trans hW3
    clear b0 b1 b2 b3 b4 b5 f0 hC2 hs' hF hE hD hst
    by_cases h1 : s'.1 = 0
    · have hZ' : Z = walkF step s'.2 ((blkItems l rv).drop (i + 1)) := by rw [Hs0.out, if_pos h1]
      have HZ' := hide hZ'
      clear hZ'
      gi_wp2
      exact ⟨hkf, hkeep, ⟨s'.2, HZ'.out, hI3⟩, hF3, hE3, hD3, hWW⟩
    · have hZ' : Z = s' := by rw [Hs0.out, if_neg h1]
      have HZ' := hide hZ'
      clear hZ'
      have e0 := cellsOf hE3 0
      simp only [List.getElem?_toArray, List.getElem?_cons_zero] at e0
      have ef : W3.frozen? ⟨w.heap.size + 1, 0, none⟩ = false := by simp [World.frozen?, hE3]
      gi_wp2
      refine ⟨hkf.trans ((KeepsOthers.setCell _ _ _).from _), rfl, ?_, ?_, ?_⟩
      · rw [HZ'.out]
        refine ⟨i + 1, ?_⟩
        exact HInv.out (i + 1) s'.2 W3 _ (Nat.le_trans hW2.size hW3.size) hI3 (fun k hk => heap_setCell_ne (by omega)) (fun k c m hk => (heap_setCell_ne (by rintro rfl; rw [hE3] at hk; cases hk)).trans hk) (by rw [size_setCell]; exact Nat.le_refl _)
      · rw [HZ'.out]; exact heap_setCell_same hE3
      · exact ⟨hWW.os, hWW.tape, hWW.output, by rw [size_setCell]; exact hWW.size, fun k hk => (heap_setCell_ne (by omega)).trans (hWW.low k hk), fun k o h1 h2 h3 h4 => by
          have := (Array.getElem?_eq_some_iff.1 h1).1
          exact (heap_setCell_ne (by omega)).trans (hWW.far k o h1 h2 h3 h4)⟩
  case done =>
    rintro D W hDD ⟨⟨s, hs0, hs1⟩, hF, hE, hD, hW⟩ hK
    rw [blkItems_length, ← Hn.out] at hs0
    have hZ' : Z = (0, s) := by
      rw [hs0, List.drop_eq_nil_of_le (by rw [blkItems_length, ← Hn.out]; exact Nat.le_refl _)]
      rfl
    have HZ' := hide hZ'
    clear Hit hs0 hZ'
    have e0 := cellsOf hE 0
    simp only [List.getElem?_toArray, List.getElem?_cons_zero] at e0
    have ef : W.frozen? ⟨w.heap.size + 1, 0, none⟩ = false := by simp [World.frozen?, hE]
    gi_wp2
    have kK := (KeepsOthers.setCell W ⟨w.heap.size + 1, 0, none⟩ (.int .i64 0)).same D _ hK rfl
    refine ⟨by simp, .inl ⟨_, _, rfl, run_takeDeferred kK, ?_⟩⟩
    refine ⟨_, results_cell1 rfl rfl (load_plain Tryz.underlying24 rfl (v := .int .i64 0) ?_), by rw [HZ'.out], ?_, ?_⟩
    · rw [cell_putObj kK rfl rfl]
      exact World.cell?_setCell_same' _ _ _ (by rw [e0]; rfl)
    · rw [HZ'.out]
      refine ⟨_, HInv.out _ s W _ hW.size hs1 (fun k hk => (World.putObj_heap_other (by omega)).trans (heap_setCell_ne (by omega))) (fun k c m hk => (World.putObj_heap_other (by rintro rfl; rw [hK] at hk; cases hk)).trans ((heap_setCell_ne (by rintro rfl; rw [hE] at hk; cases hk)).trans hk)) (by simp [size_setCell])⟩
    · exact ⟨hW.os, hW.tape, hW.output, by simp [size_setCell]; exact hW.size, fun k hk => (World.putObj_heap_other (by omega)).trans ((heap_setCell_ne (by omega)).trans (hW.low k hk)), fun k o h1 h2 h3 h4 => by
        have := (Array.getElem?_eq_some_iff.1 h1).1
        exact (World.putObj_heap_other (by omega)).trans ((heap_setCell_ne (by omega)).trans (hW.far k o h1 h2 h3 h4))⟩
  case stop =>
    rintro D c W hDD ⟨rfl, ⟨jI, hI⟩, hE, hW⟩ hK
    clear Hit
    gi_wp2
    refine ⟨by simp, .inl ⟨_, _, rfl, run_takeDeferred hK, ?_⟩⟩
    refine ⟨_, results_cell1 rfl rfl (load_plain Tryz.underlying24 rfl (v := .int .i64 Z.1) ?_), rfl, ?_, ?_⟩
    · rw [cell_putObj hK rfl rfl]
      exact cellsOf hE 0
    · exact ⟨jI, HInv.out jI _ W _ hW.size hI (fun k hk => World.putObj_heap_other (by omega)) (fun k c m hk => (World.putObj_heap_other (by rintro rfl; rw [hK] at hk; cases hk)).trans hk) (by simp)⟩
    · exact ⟨hW.os, hW.tape, hW.output, by simp; exact hW.size, fun k hk => (World.putObj_heap_other (by omega)).trans (hW.low k hk), fun k o h1 h2 h3 h4 => by
        have := (Array.getElem?_eq_some_iff.1 h1).1
        exact (World.putObj_heap_other (by omega)).trans (hW.far k o h1 h2 h3 h4)⟩
end Go.Proofs.YtllfaffbaijgfaaGreatDoor

namespace Go.Proofs.YtllfaffbaijgfaaGreatDoor
open Go Go.RowKit Go.Shelf

theorem intsNew (f : Int) (t : TypeId) (W : World) : IntsV (W.alloc (.cells #[.int .i64 f] t)) [f] (.slice (some ⟨W.heap.size, 0, none⟩) 1 1) :=
  Sl.mk ⟨by simp, fun i n hx => by
    match i, hx with
    | 0, hx => cases hx; simp
    | _ + 1, hx => simp at hx⟩

def partOk (x : Report) : Bool := if x.part = true then numR x.off && numR x.len && numR (wrap64 (x.off + x.len)) else decide (x.off = 0) && decide (x.len = 0)
def bundleR (x : Report) (most : Int) : Bool := partOk x && eidR x.source && within most [x.time] && numR x.seq

set_option maxRecDepth 100000 in
set_option maxHeartbeats 40000000 in
theorem bundleRight_calls (x : Report) (most : Int) (w : World) (hfit : eidFit x.source) : Calls Tryz.prog 59 #[.agg #[.int .i64 x.source.scheme, .string (bs x.source.node), .string (bs x.source.service), .int .i64 x.source.a, .int .i64 x.source.b, .int .i64 x.time, .int .i64 x.seq, .bool x.part, .int .i64 x.off, .int .i64 x.len], .int .i64 most] w (Rt w (.bool (bundleR x most))) := by
  obtain ⟨q3, hq3⟩ : ∃ q, q = wrap64 (x.off + x.len) := ⟨_, rfl⟩
  obtain ⟨r1, hr1⟩ : ∃ r, r = numR x.off := ⟨_, rfl⟩
  obtain ⟨r2, hr2⟩ : ∃ r, r = numR x.len := ⟨_, rfl⟩
  obtain ⟨r3, hr3⟩ : ∃ r, r = numR q3 := ⟨_, rfl⟩
  obtain ⟨e, he⟩ : ∃ r, r = eidR x.source := ⟨_, rfl⟩
  obtain ⟨t, ht⟩ : ∃ r, r = within most [x.time] := ⟨_, rfl⟩
  obtain ⟨s, hs⟩ : ∃ r, r = numR x.seq := ⟨_, rfl⟩
  obtain ⟨part, hpart⟩ : ∃ r, r = x.part := ⟨_, rfl⟩
  obtain ⟨P, hP⟩ : ∃ r, r = partOk x := ⟨_, rfl⟩
  have H1 := hide (show ∀ W, Calls Tryz.prog 73 #[.int .i64 x.off] W (Pu W (.bool r1)) from fun W => by rw [hr1]; exact numR_calls _ W)
  have H2 := hide (show ∀ W, Calls Tryz.prog 73 #[.int .i64 x.len] W (Pu W (.bool r2)) from fun W => by rw [hr2]; exact numR_calls _ W)
  have H3 := hide (show ∀ W, Calls Tryz.prog 73 #[.int .i64 q3] W (Pu W (.bool r3)) from fun W => by rw [hr3]; exact numR_calls _ W)
  have He := hide (show ∀ W, Calls Tryz.prog 84 #[.agg #[.int .i64 x.source.scheme, .string (bs x.source.node), .string (bs x.source.service), .int .i64 x.source.a, .int .i64 x.source.b]] W (Rt W (.bool e)) from fun W => by rw [he]; exact eidRight_calls x.source W hfit.1 hfit.2)
  have Ht := hide (show ∀ W : World, Calls Tryz.prog 57 #[.int .i64 most, .slice (some ⟨W.heap.size, 0, none⟩) 1 1] (W.alloc (.cells #[.int .i64 x.time] 3)) (Pu (W.alloc (.cells #[.int .i64 x.time] 3)) (.bool t)) from fun W => by rw [ht]; exact within_calls most [x.time] _ _ (by simp) (intsNew x.time 3 W))
  have Hs := hide (show ∀ W, Calls Tryz.prog 73 #[.int .i64 x.seq] W (Pu W (.bool s)) from fun W => by rw [hs]; exact numR_calls _ W)
  have hz : bundleR x most = (P && e && t && s) := by rw [bundleR, ← hP, ← he, ← ht, ← hs]
  rw [hz]
  have HP := hide (show P = if part = true then r1 && r2 && r3 else decide (x.off = 0) && decide (x.len = 0) by rw [hP, partOk, ← hpart, ← hr1, ← hr2, ← hq3, ← hr3])
  rw [← hpart]
  have HQ := hide hq3.symm
  clear hr1 hr2 hr3 he ht hs hz hpart hP hq3 hfit
  go_enter Tryz.func59, Tryz.ntmps59
  go_upto_region 1 with fail
  go_cut [5] from 6 to 13 (fun s5 wc => s5 = .bool (decide (x.off = 0) && decide (x.len = 0)) ∧ wc = w.alloc (.cells #[.int .i64 x.source.scheme, .string (bs x.source.node), .string (bs x.source.service), .int .i64 x.source.a, .int .i64 x.source.b, .int .i64 x.time, .int .i64 x.seq, .bool part, .int .i64 x.off, .int .i64 x.len] 97))
  case first =>
    by_cases o1 : x.off = 0
    · by_cases o2 : x.len = 0
      all_goals go_wp2_with fail
      all_goals go_meet
      all_goals refine ⟨?_, by simp [o1, o2]⟩
      all_goals simp [o1, o2]
    · go_wp2_with fail
      go_meet
      refine ⟨?_, by simp [o1]⟩
      simp [o1]
  case rest =>
    obtain ⟨rfl, rfl⟩ := hcut
    go_upto_if 15 with fail
    have hq3 := HQ.out
    go_cut [5] from 16 to 31 (fun s5 wc => s5 = .bool P ∧ wc = w.alloc (.cells #[.int .i64 x.source.scheme, .string (bs x.source.node), .string (bs x.source.service), .int .i64 x.source.a, .int .i64 x.source.b, .int .i64 x.time, .int .i64 x.seq, .bool part, .int .i64 x.off, .int .i64 x.len] 97))
    case first =>
      cases part
      · go_wp2_with fail
        go_meet
        exact ⟨by rw [HP.out]; simp, rfl⟩
      · cases r1
        · go_wp2_with (go_at_call 73; refine (H1.out _).mono ?_; rintro e_ w_ ⟨rfl, rfl⟩)
          go_meet
          exact ⟨by rw [HP.out]; simp, rfl⟩
        · cases r2
          · go_wp2_with (first | (go_at_call 73; refine (H1.out _).mono ?_; rintro e_ w_ ⟨rfl, rfl⟩) | (go_at_call 73; refine (H2.out _).mono ?_; rintro e_ w_ ⟨rfl, rfl⟩))
            go_meet
            exact ⟨by rw [HP.out]; simp, rfl⟩
          · go_wp2_with (first | (go_at_call 73; refine (H1.out _).mono ?_; rintro e_ w_ ⟨rfl, rfl⟩) | (go_at_call 73; refine (H2.out _).mono ?_; rintro e_ w_ ⟨rfl, rfl⟩) | (go_at_call 73; refine (H3.out _).mono ?_; rintro e_ w_ ⟨rfl, rfl⟩))
            go_meet
            exact ⟨by rw [HP.out]; simp, rfl⟩
    case rest =>
      obtain ⟨rfl, rfl⟩ := hcut
      clear hq3
      go_upto_region 4 with fail
      refine wp_named fun w1 hw1 => ?_
      have hB1 : Below w.heap.size w w1 := by rw [hw1]; ((repeat' (first | exact Below.refl _ _ | assumption | (refine Below.drew ?_) | (refine Below.alloc ?_ ?_ _) | (refine Below.setCell ?_ ?_ _) | (refine Below.step (W := ?hW) ?hq ?_ ?_; case hq => assumption))) <;> (first | (simp; done) | (simp; omega) | (simp at *; omega)))
      have hs1 : w1.heap.size = w.heap.size + 1 := by rw [hw1]; simp
      have hx : w1.heap[w.heap.size]? = some (.cells #[.int .i64 x.source.scheme, .string (bs x.source.node), .string (bs x.source.service), .int .i64 x.source.a, .int .i64 x.source.b, .int .i64 x.time, .int .i64 x.seq, .bool part, .int .i64 x.off, .int .i64 x.len] 97 (0, 0)) := by rw [hw1]; exact heapNew (u := w) (by ((repeat' (first | exact Below.refl _ _ | assumption | (refine Below.drew ?_) | (refine Below.alloc ?_ ?_ _) | (refine Below.setCell ?_ ?_ _) | (refine Below.step (W := ?hW) ?hq ?_ ?_; case hq => assumption))) <;> (first | (simp; done) | (simp; omega) | (simp at *; omega)))) rfl
      have k0 := cellsOf hx 0
      simp only [List.getElem?_toArray, List.getElem?_cons_succ, List.getElem?_cons_zero] at k0
      have k1 := cellsOf hx 1
      simp only [List.getElem?_toArray, List.getElem?_cons_succ, List.getElem?_cons_zero] at k1
      have k2 := cellsOf hx 2
      simp only [List.getElem?_toArray, List.getElem?_cons_succ, List.getElem?_cons_zero] at k2
      have k3 := cellsOf hx 3
      simp only [List.getElem?_toArray, List.getElem?_cons_succ, List.getElem?_cons_zero] at k3
      have k4 := cellsOf hx 4
      simp only [List.getElem?_toArray, List.getElem?_cons_succ, List.getElem?_cons_zero] at k4
      have k5 := cellsOf hx 5
      simp only [List.getElem?_toArray, List.getElem?_cons_succ, List.getElem?_cons_zero] at k5
      have k6 := cellsOf hx 6
      simp only [List.getElem?_toArray, List.getElem?_cons_succ, List.getElem?_cons_zero] at k6
      clear hw1 hx
      cases P
      · go_wp2_with fail
        go_ret
        exact ⟨by simp, hB1⟩
      · go_wp2_with fail
        refine (show Calls _ _ _ _ _ from He.out w1).mono ?_
        rintro e_ w2 ⟨rfl, hb2⟩
        have hB2 := hB1.trans (hb2.mono (by omega))
        replace k5 := (hb2.cell (cellLt k5)).trans k5
        replace k6 := (hb2.cell (cellLt k6)).trans k6
        clear k0 k1 k2 k3 k4 hb2
        cases e
        · go_wp2_with fail
          go_ret
          exact ⟨by simp, hB2⟩
        · go_wp2_with fail
          refine (show Calls _ _ _ _ _ from Ht.out w2).mono ?_
          rintro e_ w3 ⟨rfl, hw3⟩
          have hb3 : Below w2.heap.size w2 w3 := by rw [← hw3]; ((repeat' (first | exact Below.refl _ _ | assumption | (refine Below.drew ?_) | (refine Below.alloc ?_ ?_ _) | (refine Below.setCell ?_ ?_ _) | (refine Below.step (W := ?hW) ?hq ?_ ?_; case hq => assumption))) <;> (first | (simp; done) | (simp; omega) | (simp at *; omega)))
          have hB3 := hB2.trans (hb3.mono hB2.size)
          replace k6 := (hb3.cell (cellLt k6)).trans k6
          clear hw3 hb3 k5
          cases t
          · go_wp2_with fail
            go_ret
            exact ⟨by simp, hB3⟩
          · go_wp2_with (go_at_call 73; refine (Hs.out _).mono ?_; rintro e_ w_ ⟨rfl, rfl⟩)
            go_ret
            exact ⟨by simp, hB3⟩
end Go.Proofs.YtllfaffbaijgfaaGreatDoor
