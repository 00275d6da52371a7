/- six.Right's sixth rule: all blocks may be. signs: an error's number. signs: a value, or none, and why; seconds and thousandths. -/
import Derived.Test.YtllfaffbaijgfaaGreatDoorJ05
import Derived.Test.YtllfaffbaijgfaaGreatDoorJ02
import Derived.Test.YtllfaffbaijgfaaGreatDoorJ04
set_option linter.unusedVariables false
set_option linter.unusedSimpArgs false
namespace Go.Proofs.YtllfaffbaijgfaaGreatDoor
open Go Go.RowKit Go.Shelf
attribute [local go_sem] Oper.semAt_some

theorem keepsFrom_of_below {B0 : Nat} {W W' : World} (h : Below W.heap.size W W') : KeepsFrom B0 W W' := ⟨h.size, fun k o _ hk _ => (h.block k (Array.getElem?_eq_some_iff.1 hk).1).trans hk⟩
theorem keep_of_below {R : Nat → Prop} {W W' : World} (h : Below W.heap.size W W') (hR : ∀ k, R k → k < W.heap.size) : Keep R W W' := Keep.of_below h hR

def blocks6 (l : List Block) : Bool := (l.mapIdx fun i x => block6 x (decide (i + 1 = l.length))).all id
theorem blocks6_false {l : List Block} {i : Nat} {x : Block} (h : l[i]? = some x) (hb : block6 x (decide (i + 1 = l.length)) = false) : blocks6 l = false := by
  unfold blocks6
  rw [List.all_eq_false]
  exact ⟨false, List.mem_of_getElem? (i := i) (by simp [List.getElem?_mapIdx, h, hb]), by simp⟩
theorem blocks6_true {l : List Block} (h : ∀ i x, l[i]? = some x → block6 x (decide (i + 1 = l.length)) = true) : blocks6 l = true := by
  unfold blocks6
  rw [List.all_eq_true]
  intro b hb
  obtain ⟨i, hi⟩ := List.mem_iff_getElem?.1 hb
  simp only [List.getElem?_mapIdx, Option.map_eq_some_iff] at hi
  obtain ⟨x, hx, rfl⟩ := hi
  exact h i x hx

set_option maxRecDepth 100000 in
theorem sixRight6_calls (x : Six) (rv : Nat → Value) (a : Option Addr) (cap B : Nat) (w : World) (h : Lies w x.blocks rv a) (hfit : ∀ z ∈ x.blocks, blockFit z) (hx : w.heap[B]? = some (.cells #[.int .i64 x.flags, .int .i64 x.dest.scheme, .string (bs x.dest.node), .string (bs x.dest.service), .int .i64 x.dest.a, .int .i64 x.dest.b, .int .i64 x.source.scheme, .string (bs x.source.node), .string (bs x.source.service), .int .i64 x.source.a, .int .i64 x.source.b, .int .i64 x.report.scheme, .string (bs x.report.node), .string (bs x.report.service), .int .i64 x.report.a, .int .i64 x.report.b, .int .i64 x.custodian.scheme, .string (bs x.custodian.node), .string (bs x.custodian.service), .int .i64 x.custodian.a, .int .i64 x.custodian.b, .int .i64 x.time, .int .i64 x.seq, .int .i64 x.life, .int .i64 x.off, .int .i64 x.total, .slice a x.blocks.length cap] 32 (0, 0))) :
    Calls Tryz.prog 75 #[.pointer (some ⟨B, 0, none⟩)] w (Rt w (.bool (blocks6 x.blocks))) := by
  have H := hide h
  have Hfit := hide hfit
  clear h hfit
  obtain ⟨n, hn⟩ : ∃ n, n = x.blocks.length := ⟨_, rfl⟩
  rw [← hn] at hx
  have hlen : n ≤ 9000000000000000000 := by rw [hn]; exact H.out.len
  have Hn := hide hn
  clear hn
  have Hx := hide (fun o => ((Below.refl w.heap.size w).alloc (Nat.le_refl _) o).block B (Array.getElem?_eq_some_iff.1 hx).1 |>.trans hx)
  clear hx
  refine (callsIn_wide (n := 0)).1 ?_
  refine callsIn_of_wp_marks Tryz.func75 rfl trivial ?_ rfl
  simp only [Tryz.ntmps75, List.size_toArray, List.length_cons, List.length_nil, Nat.reduceAdd, Nat.reduceSub, Array.replicate_succ, Array.replicate_zero, List.push_toArray, List.append_toArray, List.nil_append, List.cons_append]
  gi_wp2_with (first | (apply wpListIn_load_of (ty := 32); (case hgd => exact rfl); (case ho => exact rfl); (case hx => exact rfl); (case hr => apply load_row (n := 27); (case hheap => exact Hx.out _); (case hu => exact Tryz.underlying32); (case hd => exact rfl); (case hi => kernel_rfl); (case hc => exact rfl))) | (apply wpIn_load_of (ty := 32); (case ho => exact rfl); (case hx => exact rfl); (case hr => apply load_row (n := 27); (case hheap => exact Hx.out _); (case hu => exact Tryz.underlying32); (case hd => exact rfl); (case hi => kernel_rfl); (case hc => exact rfl))))
  refine ⟨trivial, rfl, ?_⟩
  refine (callsIn_wide.2 (sixBlocks_calls x (.slice a n cap) _ rfl)).mono ?_
  rintro e_ w_ ⟨rfl, hw_⟩
  obtain ⟨W0, hW0⟩ : ∃ W0, (w.alloc (.cells #[.bool false] 4)) = W0 := ⟨_, rfl⟩
  rw [hW0] at hw_ ⊢
  have hB0 : Below w.heap.size w W0 := by rw [← hW0]; ((repeat' (first | exact Below.refl _ _ | assumption | (refine Below.drew ?_) | (refine Below.alloc ?_ ?_ _) | (refine Below.setCell ?_ ?_ _) | (refine Below.step (W := ?hW) ?hq ?_ ?_; case hq => assumption))) <;> (first | (simp; done) | (simp; omega) | (simp at *; omega)))
  have hz0 : W0.heap.size = w.heap.size + 1 := by rw [← hW0]; simp
  have hr0 : W0.cell? ⟨w.heap.size, 0, none⟩ = some (.bool false) := by rw [← hW0]; simp
  have hf0 : W0.frozen? ⟨w.heap.size, 0, none⟩ = false := by rw [← hW0]; simp [World.frozen?_alloc_at]
  clear hW0
  have hB1 : Below W0.heap.size W0 w_ := by rw [hw_]; ((repeat' (first | exact Below.refl _ _ | assumption | (refine Below.drew ?_) | (refine Below.alloc ?_ ?_ _) | (refine Below.setCell ?_ ?_ _) | (refine Below.step (W := ?hW) ?hq ?_ ?_; case hq => assumption))) <;> (first | (simp; done) | (simp; omega) | (simp at *; omega)))
  have hz1 : w_.heap.size = w.heap.size + 2 := by rw [hw_]; simp [hz0]
  have hbox : w_.cell? ⟨W0.heap.size, 26, none⟩ = some (.slice a n cap) := by rw [hw_]; simp
  have hr1 := (hB1.cell (p := ⟨w.heap.size, 0, none⟩) (show w.heap.size < W0.heap.size by omega)).trans hr0
  have hf1 := (hB1.frozen (p := ⟨w.heap.size, 0, none⟩) (show w.heap.size < W0.heap.size by omega)).trans hf0
  have hBw : Below w.heap.size w w_ := hB0.trans (hB1.mono (by omega))
  clear hw_ hr0 hf0
  have HL := hide (H.out.mono hBw)
  rw [hz0] at hbox
  have hlb : ∀ k, k < w.heap.size ∨ k = w.heap.size + 1 → k < w_.heap.size := fun k hk => by omega
  have hbase : ∀ b o, a = some ⟨b, o, none⟩ → 0 < x.blocks.length → b < w.heap.size := fun b o e hn => by
    obtain ⟨b', o', e', h⟩ := H.out.there hn
    rw [e'] at e; cases e; exact h.1
  have hit : Iter Tryz.prog 113 #[.pointer (some ⟨w.heap.size + 1, 0, none⟩)] blkEnc (blkItems x.blocks rv) (fun k => k < w.heap.size ∨ k = w.heap.size + 1) (fun _ => False) w_ :=
    sixIter x.blocks rv a cap (w.heap.size + 1) _ w_ HL.out.len (by rw [← Hn.out]; exact hbox) (.inr rfl)
      (fun hn => by obtain ⟨b, o, e, h⟩ := HL.out.there hn; exact ⟨b, o, e, .inl (hbase b o e hn), h⟩)
      (fun i y hy => (HL.out.refs i y hy).oneCell) hlb
  have Hit := hide hit
  clear hit hbase
  gi_wp2
  refine wp_range (gf := 113) (lb := #[.pointer (some ⟨w.heap.size + 1, 0, none⟩)]) rfl (enters_of Tryz.func113 (by kernel_rfl) rfl) Hit.out (fun _ => rfl) hlb (fun _ h => h.elim)
    (fun i W => (∀ j z, j < i → x.blocks[j]? = some z → block6 z (decide (j + 1 = x.blocks.length)) = true) ∧ (∃ s, W.cell? ⟨w.heap.size, 0, none⟩ = some (.bool s)) ∧ W.frozen? ⟨w.heap.size, 0, none⟩ = false ∧ Below w.heap.size w W)
    (fun c W => c = .ret ∧ W.cell? ⟨w.heap.size, 0, none⟩ = some (.bool false) ∧ (∃ j z, x.blocks[j]? = some z ∧ block6 z (decide (j + 1 = x.blocks.length)) = false) ∧ Below w.heap.size w W)
    (fun i A B h hs => by
      obtain ⟨h1, ⟨s, h2⟩, h3, h4⟩ := h
      exact ⟨h1, ⟨s, hs.cell h2 id⟩, (hs.frozen h2 id).trans h3, hs.below h4 (by omega) h4.size (fun _ h => h.elim)⟩)
    (fun c A B h hs => ⟨h.1, hs.cell h.2.1 id, h.2.2.1, hs.below h.2.2.2 (by omega) h.2.2.2.size (fun _ h => h.elim)⟩)
    ⟨fun j z h => absurd h (Nat.not_lt_zero _), ⟨_, hr1⟩, hf1, hBw⟩ ?round ?done ?stop
  case round =>
    intro l i y W hl hy hi hrec
    obtain ⟨z, hz, rfl⟩ := blkItems_at hy
    have hone := (HL.out.refs i z hz).oneCell
    have hst := fun (a : Addr) (w : World) => run_store Tryz.prog w a (rv i) .plain hone
    obtain ⟨hin, ⟨s, hcr⟩, hfr, hBW⟩ := hi
    have hW : w_.heap.size < W.heap.size := by obtain ⟨r, hr⟩ := hrec; have := (Array.getElem?_eq_some_iff.1 hr).1; omega
    have hBn : ∀ o, Below W.heap.size W (W.alloc o) := fun o => (Below.refl _ W).alloc (Nat.le_refl _) o
    obtain ⟨q, hq⟩ : ∃ q, q = decide (i + 1 = x.blocks.length) := ⟨_, rfl⟩
    rw [← hq]
    have Hq := hide hq
    have Hz := hide hz
    have Hin := hide hin
    clear hq hz hy Hit hrec hin
    simp only [blkEnc]
    gi_wp2
    refine ⟨(KeepsOthers.alloc _ _).from _, Keep.of_below (hBn _) (fun k hk => by have := hlb k hk; omega), fun W₂ hs hk hkr hsz hc hf => ?_⟩
    have b0 : W₂.cell? ⟨W.heap.size, 0, none⟩ = some (.int .i64 z.type) := (hc _).trans (by simp)
    have b1 : W₂.cell? ⟨W.heap.size, 1, none⟩ = some (.int .i64 z.num) := (hc _).trans (by simp)
    have b2 : W₂.cell? ⟨W.heap.size, 2, none⟩ = some (.int .i64 z.flags) := (hc _).trans (by simp)
    have b3 : W₂.cell? ⟨W.heap.size, 3, none⟩ = some (.int .i64 z.sum) := (hc _).trans (by simp)
    have b4 : W₂.cell? ⟨W.heap.size, 4, none⟩ = some (rv i) := (hc _).trans (by simp)
    have b5 : W₂.cell? ⟨W.heap.size, 5, none⟩ = some (.string (bs z.data)) := (hc _).trans (by simp)
    have hcr2 : W₂.cell? ⟨w.heap.size, 0, none⟩ = some (.bool s) := (hc _).trans (((hBn _).cell (p := ⟨w.heap.size, 0, none⟩) (show w.heap.size < W.heap.size by omega)).trans hcr)
    have hfr2 : W₂.frozen? ⟨w.heap.size, 0, none⟩ = false := (hf _).trans (((hBn _).frozen (p := ⟨w.heap.size, 0, none⟩) (show w.heap.size < W.heap.size by omega)).trans hfr)
    have hBW2 : Below w.heap.size w W₂ := hs.below (hBW.alloc hBW.size _) (by omega) (Nat.le_trans hBW.size (hBn _).size) (fun _ h => h.elim)
    simp at hsz
    have Hc := hide (sixIsBlock_calls z q (rv i) W₂ ((H.out.refs i z Hz.out).mono hBW2) (Hfit.out z (List.mem_of_getElem? Hz.out)))
    clear hs hkr hc hf hcr hfr
    gi_wp2_with fail
    refine ⟨trivial, rfl, (CallsIn.inRound l (callsIn_wide.2 Hc.out)).mono ?_⟩
    rintro e_ w1 ⟨rfl, hb⟩
    obtain ⟨u, hu⟩ : ∃ u, u = block6 z q := ⟨_, rfl⟩
    rw [← hu]
    have Hu := hide hu
    have hcr3 := (hb.cell (p := ⟨w.heap.size, 0, none⟩) (cell_lt hcr2)).trans hcr2
    have hfr3 := (hb.frozen (p := ⟨w.heap.size, 0, none⟩) (cell_lt hcr2)).trans hfr2
    have hBW3 : Below w.heap.size w w1 := hBW2.trans (hb.mono hBW2.size)
    have hkk : KeepsFrom w_.heap.size W₂ w1 := keepsFrom_of_below hb
    have hkr3 : Keep (fun k => k < w.heap.size ∨ k = w.heap.size + 1) W₂ w1 := keep_of_below hb (fun k hk => by have := hlb k hk; omega)
    clear hu hb b0 b1 b2 b3 b4 b5 hcr2 hfr2 Hc
    cases u
    · gi_wp2
      refine ⟨hkk.trans ((KeepsOthers.setCell _ _ _).from _), rfl, World.cell?_setCell_same' _ _ _ (by rw [hcr3]; rfl), ⟨i, z, Hz.out, ?_⟩, hBW3.setCell (p := ⟨w.heap.size, 0, none⟩) (Nat.le_refl _) _⟩
      rw [← Hq.out]; exact Hu.out.symm
    · gi_wp2
      refine ⟨hkk, hkr3, fun j y hj hy => ?_, ⟨s, hcr3⟩, hfr3, hBW3⟩
      rcases Nat.lt_succ_iff_lt_or_eq.1 hj with hj | rfl
      · exact Hin.out j y hj hy
      · rw [Hz.out] at hy; cases hy
        rw [← Hq.out]; exact Hu.out.symm
  case done =>
    rintro D W hD ⟨hin, ⟨s, hcr⟩, hfr, hBW⟩ hK
    rw [blkItems_length] at hin
    clear Hit
    gi_wp2
    refine ⟨by simp, .inl ⟨_, _, rfl, run_takeDeferred ((KeepsOthers.setCell _ _ _).same D _ hK rfl), ?_⟩⟩
    have hK' := (KeepsOthers.setCell W ⟨w.heap.size, 0, none⟩ (.bool true)).same D _ hK rfl
    refine ⟨_, results_cell1 rfl rfl (load_plain Tryz.underlying4 rfl (v := .bool true) ?_), ?_, ?_⟩
    · rw [cell_putObj hK' rfl rfl]
      exact World.cell?_setCell_same' _ _ _ (by rw [hcr]; rfl)
    · rw [blocks6_true fun i z hz => hin i z (List.getElem?_eq_some_iff.1 hz).1 hz]
    · exact below_putObj (hBW.setCell (p := ⟨w.heap.size, 0, none⟩) (Nat.le_refl _) _) (by omega) _
  case stop =>
    rintro D c W hD ⟨rfl, hcr, ⟨j, z, hz, hb⟩, hBW⟩ hK
    clear Hit
    gi_wp2
    refine ⟨by simp, .inl ⟨_, _, rfl, run_takeDeferred hK, ?_⟩⟩
    refine ⟨_, results_cell1 rfl rfl (load_plain Tryz.underlying4 rfl (v := .bool false) ?_), ?_, ?_⟩
    · rw [cell_putObj hK rfl rfl]
      exact hcr
    · rw [blocks6_false hz hb]
    · exact below_putObj hBW (by omega) _
end Go.Proofs.YtllfaffbaijgfaaGreatDoor

namespace Go.Proofs.YtllfaffbaijgfaaGreatDoor
open Go Go.RowKit Go.Shelf

/-- the variables that hold an error of signs -/
def signErrs : List Nat := [8, 1, 5, 6, 9, 12, 13, 2]
/-- S says of each of them where its text lies -/
def Sents (S : Nat → Addr) (w : World) : Prop :=
  (∀ g ∈ signErrs, w.cell? ⟨g, 0, none⟩ = some (errV (some (S g))) ∧ ∃ c t, w.heap[(S g).block]? = some (.cells c t (0, 0))) ∧ (∀ g ∈ signErrs, ∀ h ∈ signErrs, S g = S h → g = h)
theorem Sents.mono {S : Nat → Addr} {w w' : World} (h : Sents S w) (hb : Below w.heap.size w w') : Sents S w' :=
  ⟨fun g hg => by
    obtain ⟨h1, c, t, h2⟩ := h.1 g hg
    exact ⟨(hb.cell (p := ⟨g, 0, none⟩) (by
      unfold World.cell? at h1
      cases hc : w.heap[g]? with
      | none => simp [hc] at h1
      | some x => exact (Array.getElem?_eq_some_iff.1 hc).1)).trans h1, c, t, (hb.block _ (Array.getElem?_eq_some_iff.1 h2).1).trans h2⟩, h.2⟩

theorem isE_calls {S : Nat → Addr} {w : World} (H : Sents S w) {g h : Nat} (hg : g ∈ signErrs) (hh : h ∈ signErrs) :
    Calls Tryz.prog 120 #[.iface 526 (.pointer (some (S g))), .iface 526 (.pointer (some (S h)))] w (Pu w (.bool (decide (g = h)))) := by
  by_cases e : g = h
  · subst e
    refine (is_same (S g) w).mono ?_
    rintro en w' ⟨rfl, rfl⟩
    exact ⟨by simp, rfl⟩
  · obtain ⟨_, ca, ta, ha⟩ := H.1 g hg
    obtain ⟨_, cb, tb, hb⟩ := H.1 h hh
    refine (is_other (S g) (S h) ca cb ta tb w (fun q => e (H.2 g hg h hh (by simpa using q))) ha hb).mono ?_
    rintro en w' ⟨rfl, rfl⟩
    exact ⟨by simp [e], rfl⟩

set_option maxRecDepth 100000 in
theorem number_errArg (S : Nat → Addr) (w : World) (h : Sents S w) : Calls Tryz.prog 179 #[.iface 526 (.pointer (some (S 8)))] w (Pu w (.int .i64 2)) := by
  have H := hide h
  have g0 := (h.1 8 (by decide)).1
  have g1 := (h.1 1 (by decide)).1
  have g2 := (h.1 5 (by decide)).1
  have g3 := (h.1 6 (by decide)).1
  have g4 := (h.1 9 (by decide)).1
  have g5 := (h.1 12 (by decide)).1
  have g6 := (h.1 13 (by decide)).1
  simp only [errV] at g0 g1 g2 g3 g4 g5 g6
  clear h
  go_enter Tryz.func179, Tryz.ntmps179
  go_wp2_with fail
  refine (isE_calls H.out (g := 8) (h := 8) (by decide) (by decide)).mono ?_
  rintro e_ w_ ⟨rfl, rfl⟩
  go_wp2_with fail
  go_ret
  exact ⟨rfl, rfl⟩

set_option maxRecDepth 100000 in
theorem number_errNum (S : Nat → Addr) (w : World) (h : Sents S w) : Calls Tryz.prog 179 #[.iface 526 (.pointer (some (S 1)))] w (Pu w (.int .i64 10)) := by
  have H := hide h
  have g0 := (h.1 8 (by decide)).1
  have g1 := (h.1 1 (by decide)).1
  have g2 := (h.1 5 (by decide)).1
  have g3 := (h.1 6 (by decide)).1
  have g4 := (h.1 9 (by decide)).1
  have g5 := (h.1 12 (by decide)).1
  have g6 := (h.1 13 (by decide)).1
  simp only [errV] at g0 g1 g2 g3 g4 g5 g6
  clear h
  go_enter Tryz.func179, Tryz.ntmps179
  go_wp2_with fail
  refine (isE_calls H.out (g := 1) (h := 8) (by decide) (by decide)).mono ?_
  rintro e_ w_ ⟨rfl, rfl⟩
  go_wp2_with fail
  refine (isE_calls H.out (g := 1) (h := 1) (by decide) (by decide)).mono ?_
  rintro e_ w_ ⟨rfl, rfl⟩
  go_wp2_with fail
  go_ret
  exact ⟨rfl, rfl⟩

set_option maxRecDepth 100000 in
theorem number_errAccepted (S : Nat → Addr) (w : World) (h : Sents S w) : Calls Tryz.prog 179 #[.iface 526 (.pointer (some (S 5)))] w (Pu w (.int .i64 131)) := by
  have H := hide h
  have g0 := (h.1 8 (by decide)).1
  have g1 := (h.1 1 (by decide)).1
  have g2 := (h.1 5 (by decide)).1
  have g3 := (h.1 6 (by decide)).1
  have g4 := (h.1 9 (by decide)).1
  have g5 := (h.1 12 (by decide)).1
  have g6 := (h.1 13 (by decide)).1
  simp only [errV] at g0 g1 g2 g3 g4 g5 g6
  clear h
  go_enter Tryz.func179, Tryz.ntmps179
  go_wp2_with fail
  refine (isE_calls H.out (g := 5) (h := 8) (by decide) (by decide)).mono ?_
  rintro e_ w_ ⟨rfl, rfl⟩
  go_wp2_with fail
  refine (isE_calls H.out (g := 5) (h := 1) (by decide) (by decide)).mono ?_
  rintro e_ w_ ⟨rfl, rfl⟩
  go_wp2_with fail
  refine (isE_calls H.out (g := 5) (h := 5) (by decide) (by decide)).mono ?_
  rintro e_ w_ ⟨rfl, rfl⟩
  go_wp2_with fail
  go_ret
  exact ⟨rfl, rfl⟩

set_option maxRecDepth 100000 in
theorem number_errSingle (S : Nat → Addr) (w : World) (h : Sents S w) : Calls Tryz.prog 179 #[.iface 526 (.pointer (some (S 6)))] w (Pu w (.int .i64 132)) := by
  have H := hide h
  have g0 := (h.1 8 (by decide)).1
  have g1 := (h.1 1 (by decide)).1
  have g2 := (h.1 5 (by decide)).1
  have g3 := (h.1 6 (by decide)).1
  have g4 := (h.1 9 (by decide)).1
  have g5 := (h.1 12 (by decide)).1
  have g6 := (h.1 13 (by decide)).1
  simp only [errV] at g0 g1 g2 g3 g4 g5 g6
  clear h
  go_enter Tryz.func179, Tryz.ntmps179
  go_wp2_with fail
  refine (isE_calls H.out (g := 6) (h := 8) (by decide) (by decide)).mono ?_
  rintro e_ w_ ⟨rfl, rfl⟩
  go_wp2_with fail
  refine (isE_calls H.out (g := 6) (h := 1) (by decide) (by decide)).mono ?_
  rintro e_ w_ ⟨rfl, rfl⟩
  go_wp2_with fail
  refine (isE_calls H.out (g := 6) (h := 5) (by decide) (by decide)).mono ?_
  rintro e_ w_ ⟨rfl, rfl⟩
  go_wp2_with fail
  refine (isE_calls H.out (g := 6) (h := 6) (by decide) (by decide)).mono ?_
  rintro e_ w_ ⟨rfl, rfl⟩
  go_wp2_with fail
  go_ret
  exact ⟨rfl, rfl⟩

set_option maxRecDepth 100000 in
theorem number_errTimed (S : Nat → Addr) (w : World) (h : Sents S w) : Calls Tryz.prog 179 #[.iface 526 (.pointer (some (S 9)))] w (Pu w (.int .i64 133)) := by
  have H := hide h
  have g0 := (h.1 8 (by decide)).1
  have g1 := (h.1 1 (by decide)).1
  have g2 := (h.1 5 (by decide)).1
  have g3 := (h.1 6 (by decide)).1
  have g4 := (h.1 9 (by decide)).1
  have g5 := (h.1 12 (by decide)).1
  have g6 := (h.1 13 (by decide)).1
  simp only [errV] at g0 g1 g2 g3 g4 g5 g6
  clear h
  go_enter Tryz.func179, Tryz.ntmps179
  go_wp2_with fail
  refine (isE_calls H.out (g := 9) (h := 8) (by decide) (by decide)).mono ?_
  rintro e_ w_ ⟨rfl, rfl⟩
  go_wp2_with fail
  refine (isE_calls H.out (g := 9) (h := 1) (by decide) (by decide)).mono ?_
  rintro e_ w_ ⟨rfl, rfl⟩
  go_wp2_with fail
  refine (isE_calls H.out (g := 9) (h := 5) (by decide) (by decide)).mono ?_
  rintro e_ w_ ⟨rfl, rfl⟩
  go_wp2_with fail
  refine (isE_calls H.out (g := 9) (h := 6) (by decide) (by decide)).mono ?_
  rintro e_ w_ ⟨rfl, rfl⟩
  go_wp2_with fail
  refine (isE_calls H.out (g := 9) (h := 9) (by decide) (by decide)).mono ?_
  rintro e_ w_ ⟨rfl, rfl⟩
  go_wp2_with fail
  go_ret
  exact ⟨rfl, rfl⟩

set_option maxRecDepth 100000 in
theorem number_errPassed (S : Nat → Addr) (w : World) (h : Sents S w) : Calls Tryz.prog 179 #[.iface 526 (.pointer (some (S 12)))] w (Pu w (.int .i64 134)) := by
  have H := hide h
  have g0 := (h.1 8 (by decide)).1
  have g1 := (h.1 1 (by decide)).1
  have g2 := (h.1 5 (by decide)).1
  have g3 := (h.1 6 (by decide)).1
  have g4 := (h.1 9 (by decide)).1
  have g5 := (h.1 12 (by decide)).1
  have g6 := (h.1 13 (by decide)).1
  simp only [errV] at g0 g1 g2 g3 g4 g5 g6
  clear h
  go_enter Tryz.func179, Tryz.ntmps179
  go_wp2_with fail
  refine (isE_calls H.out (g := 12) (h := 8) (by decide) (by decide)).mono ?_
  rintro e_ w_ ⟨rfl, rfl⟩
  go_wp2_with fail
  refine (isE_calls H.out (g := 12) (h := 1) (by decide) (by decide)).mono ?_
  rintro e_ w_ ⟨rfl, rfl⟩
  go_wp2_with fail
  refine (isE_calls H.out (g := 12) (h := 5) (by decide) (by decide)).mono ?_
  rintro e_ w_ ⟨rfl, rfl⟩
  go_wp2_with fail
  refine (isE_calls H.out (g := 12) (h := 6) (by decide) (by decide)).mono ?_
  rintro e_ w_ ⟨rfl, rfl⟩
  go_wp2_with fail
  refine (isE_calls H.out (g := 12) (h := 9) (by decide) (by decide)).mono ?_
  rintro e_ w_ ⟨rfl, rfl⟩
  go_wp2_with fail
  refine (isE_calls H.out (g := 12) (h := 12) (by decide) (by decide)).mono ?_
  rintro e_ w_ ⟨rfl, rfl⟩
  go_wp2_with fail
  go_ret
  exact ⟨rfl, rfl⟩

set_option maxRecDepth 100000 in
theorem number_errNamed (S : Nat → Addr) (w : World) (h : Sents S w) : Calls Tryz.prog 179 #[.iface 526 (.pointer (some (S 13)))] w (Pu w (.int .i64 135)) := by
  have H := hide h
  have g0 := (h.1 8 (by decide)).1
  have g1 := (h.1 1 (by decide)).1
  have g2 := (h.1 5 (by decide)).1
  have g3 := (h.1 6 (by decide)).1
  have g4 := (h.1 9 (by decide)).1
  have g5 := (h.1 12 (by decide)).1
  have g6 := (h.1 13 (by decide)).1
  simp only [errV] at g0 g1 g2 g3 g4 g5 g6
  clear h
  go_enter Tryz.func179, Tryz.ntmps179
  go_wp2_with fail
  refine (isE_calls H.out (g := 13) (h := 8) (by decide) (by decide)).mono ?_
  rintro e_ w_ ⟨rfl, rfl⟩
  go_wp2_with fail
  refine (isE_calls H.out (g := 13) (h := 1) (by decide) (by decide)).mono ?_
  rintro e_ w_ ⟨rfl, rfl⟩
  go_wp2_with fail
  refine (isE_calls H.out (g := 13) (h := 5) (by decide) (by decide)).mono ?_
  rintro e_ w_ ⟨rfl, rfl⟩
  go_wp2_with fail
  refine (isE_calls H.out (g := 13) (h := 6) (by decide) (by decide)).mono ?_
  rintro e_ w_ ⟨rfl, rfl⟩
  go_wp2_with fail
  refine (isE_calls H.out (g := 13) (h := 9) (by decide) (by decide)).mono ?_
  rintro e_ w_ ⟨rfl, rfl⟩
  go_wp2_with fail
  refine (isE_calls H.out (g := 13) (h := 12) (by decide) (by decide)).mono ?_
  rintro e_ w_ ⟨rfl, rfl⟩
  go_wp2_with fail
  refine (isE_calls H.out (g := 13) (h := 13) (by decide) (by decide)).mono ?_
  rintro e_ w_ ⟨rfl, rfl⟩
  go_wp2_with fail
  go_ret
  exact ⟨rfl, rfl⟩

set_option maxRecDepth 100000 in
theorem number_errTime (S : Nat → Addr) (w : World) (h : Sents S w) : Calls Tryz.prog 179 #[.iface 526 (.pointer (some (S 2)))] w (Pu w (.int .i64 136)) := by
  have H := hide h
  have g0 := (h.1 8 (by decide)).1
  have g1 := (h.1 1 (by decide)).1
  have g2 := (h.1 5 (by decide)).1
  have g3 := (h.1 6 (by decide)).1
  have g4 := (h.1 9 (by decide)).1
  have g5 := (h.1 12 (by decide)).1
  have g6 := (h.1 13 (by decide)).1
  simp only [errV] at g0 g1 g2 g3 g4 g5 g6
  clear h
  go_enter Tryz.func179, Tryz.ntmps179
  go_wp2_with fail
  refine (isE_calls H.out (g := 2) (h := 8) (by decide) (by decide)).mono ?_
  rintro e_ w_ ⟨rfl, rfl⟩
  go_wp2_with fail
  refine (isE_calls H.out (g := 2) (h := 1) (by decide) (by decide)).mono ?_
  rintro e_ w_ ⟨rfl, rfl⟩
  go_wp2_with fail
  refine (isE_calls H.out (g := 2) (h := 5) (by decide) (by decide)).mono ?_
  rintro e_ w_ ⟨rfl, rfl⟩
  go_wp2_with fail
  refine (isE_calls H.out (g := 2) (h := 6) (by decide) (by decide)).mono ?_
  rintro e_ w_ ⟨rfl, rfl⟩
  go_wp2_with fail
  refine (isE_calls H.out (g := 2) (h := 9) (by decide) (by decide)).mono ?_
  rintro e_ w_ ⟨rfl, rfl⟩
  go_wp2_with fail
  refine (isE_calls H.out (g := 2) (h := 12) (by decide) (by decide)).mono ?_
  rintro e_ w_ ⟨rfl, rfl⟩
  go_wp2_with fail
  refine (isE_calls H.out (g := 2) (h := 13) (by decide) (by decide)).mono ?_
  rintro e_ w_ ⟨rfl, rfl⟩
  go_wp2_with fail
  go_ret
  exact ⟨rfl, rfl⟩

end Go.Proofs.YtllfaffbaijgfaaGreatDoor

namespace Go.Proofs.YtllfaffbaijgfaaGreatDoor
open Go Go.RowKit Go.Shelf

def numberOf (g : Nat) : Int := if g = 8 then 2 else if g = 1 then 10 else if g = 5 then 131 else if g = 6 then 132 else if g = 9 then 133 else if g = 12 then 134 else if g = 13 then 135 else 136
def errno : Option Nat → Int
  | none => 0
  | some g => numberOf g
theorem number_calls (S : Nat → Addr) (w : World) (h : Sents S w) (g : Nat) (hg : g ∈ signErrs) : Calls Tryz.prog 179 #[.iface 526 (.pointer (some (S g)))] w (Pu w (.int .i64 (numberOf g))) := by
  simp only [signErrs, List.mem_cons, List.not_mem_nil, or_false] at hg
  rcases hg with rfl | rfl | rfl | rfl | rfl | rfl | rfl | rfl
  · exact number_errArg S w h
  · exact number_errNum S w h
  · exact number_errAccepted S w h
  · exact number_errSingle S w h
  · exact number_errTimed S w h
  · exact number_errPassed S w h
  · exact number_errNamed S w h
  · exact number_errTime S w h

theorem told_calls (S : Nat → Addr) (v : Int) (e : Option Nat) (w : World) (h : Sents S w) (he : ∀ g, e = some g → g ∈ signErrs) :
    Calls Tryz.prog 109 #[.int .i64 v, errV (e.map S)] w (Pu w (.tuple #[.int .i64 (if e.isSome then 0 else v), .int .i64 (errno e)])) := by
  cases e with
  | none =>
    simp only [Option.map_none, errV]
    go_enter Tryz.func109, Tryz.ntmps109
    go_wp2
    go_ret2
    exact ⟨rfl, rfl⟩
  | some g =>
    have H := hide (number_calls S w h g (he g rfl))
    clear h he
    simp only [Option.map_some, errV]
    go_enter Tryz.func109, Tryz.ntmps109
    go_wp2_with fail
    refine (show Calls _ _ _ _ _ from H.out).mono ?_
    rintro e_ w_ ⟨rfl, rfl⟩
    go_wp2_with fail
    go_ret2
    exact ⟨rfl, rfl⟩

/-- one rule alone -/
theorem one_rule (hold : Bool) (e : Option Addr) (w W : World) (hW : ((w.alloc (.cells #[.bool hold] 4)).alloc (.cells #[errV e] 78)).alloc (.cells #[.func (.func 180) #[] #[.pointer (some ⟨w.heap.size, 0, none⟩), .pointer (some ⟨w.heap.size + 1, 0, none⟩)]] 151) = W) :
    Below w.heap.size w W ∧ Calls Tryz.prog 110 #[.slice (some ⟨w.heap.size + 1 + 1, 0, none⟩) 1 1] W (Rt W (errV (if hold then none else e))) := by
  have hB : Below w.heap.size w W := by rw [← hW]; ((repeat' (first | exact Below.refl _ _ | assumption | (refine Below.drew ?_) | (refine Below.alloc ?_ ?_ _) | (refine Below.setCell ?_ ?_ _) | (refine Below.step (W := ?hW) ?hq ?_ ?_; case hq => assumption))) <;> (first | (simp; done) | (simp; omega) | (simp at *; omega)))
  have hz : W.heap.size = w.heap.size + 3 := by rw [← hW]; simp
  have c0 : W.cell? ⟨w.heap.size, 0, none⟩ = some (.bool hold) := by rw [← hW]; exact cellOf (i := 0) (u := w) (c := #[.bool hold]) (t := 4) (by ((repeat' (first | exact Below.refl _ _ | assumption | (refine Below.drew ?_) | (refine Below.alloc ?_ ?_ _) | (refine Below.setCell ?_ ?_ _) | (refine Below.step (W := ?hW) ?hq ?_ ?_; case hq => assumption))) <;> (first | (simp; done) | (simp; omega) | (simp at *; omega)))) rfl
  have c1 : W.cell? ⟨w.heap.size + 1, 0, none⟩ = some (errV e) := by rw [← hW]; exact cellOf (i := 0) (u := w.alloc (.cells #[.bool hold] 4)) (c := #[errV e]) (t := 78) (by ((repeat' (first | exact Below.refl _ _ | assumption | (refine Below.drew ?_) | (refine Below.alloc ?_ ?_ _) | (refine Below.setCell ?_ ?_ _) | (refine Below.step (W := ?hW) ?hq ?_ ?_; case hq => assumption))) <;> (first | (simp; done) | (simp; omega) | (simp at *; omega)))) (by simp)
  have c2 : W.cell? ⟨w.heap.size + 1 + 1, 0 + 0, none⟩ = some (.func (.func 180) #[] #[.pointer (some ⟨w.heap.size, 0, none⟩), .pointer (some ⟨w.heap.size + 1, 0, none⟩)]) := by rw [← hW]; exact cellOf (i := 0) (u := (w.alloc (.cells #[.bool hold] 4)).alloc (.cells #[errV e] 78)) (c := #[.func (.func 180) #[] #[.pointer (some ⟨w.heap.size, 0, none⟩), .pointer (some ⟨w.heap.size + 1, 0, none⟩)]]) (t := 151) (by ((repeat' (first | exact Below.refl _ _ | assumption | (refine Below.drew ?_) | (refine Below.alloc ?_ ?_ _) | (refine Below.setCell ?_ ?_ _) | (refine Below.step (W := ?hW) ?hq ?_ ?_; case hq => assumption))) <;> (first | (simp; done) | (simp; omega) | (simp at *; omega)))) (by simp)
  refine ⟨hB, ?_⟩
  have := first_calls [(180, #[.pointer (some ⟨w.heap.size, 0, none⟩), .pointer (some ⟨w.heap.size + 1, 0, none⟩)], if hold then none else e)] (w.heap.size + 1 + 1) 0 1 1 W (by omega) rfl (by simp)
    ⟨c2, enters_of Tryz.func180 (by kernel_rfl) rfl, fun W2 h2 => Pu.rt (must1_calls hold e _ _ W2 ((h2.cell (p := ⟨w.heap.size, 0, none⟩) (show w.heap.size < W.heap.size by omega)).trans c0) ((h2.cell (p := ⟨w.heap.size + 1, 0, none⟩) (show w.heap.size + 1 < W.heap.size by omega)).trans c1)), fun _ => trivial⟩
  have hf : firstE [(180, (#[.pointer (some ⟨w.heap.size, 0, none⟩), .pointer (some ⟨w.heap.size + 1, 0, none⟩)] : Array Value), if hold then none else e)] = if hold then none else e := by
    cases hold <;> cases e <;> rfl
  rwa [hf] at this

def millis (n : Int) : Int × Int := if 0 ≤ n ∧ n ≤ 281474976710 then (n * 1000, 0) else (0, 10)

set_option maxRecDepth 100000 in
theorem millis_calls (S : Nat → Addr) (n : Int) (w : World) (h : Sents S w) : Calls Tryz.prog 43 #[.int .i64 n] w (Rt w (.tuple #[.int .i64 (millis n).1, .int .i64 (millis n).2])) := by
  have g1 := (h.1 1 (by decide)).1
  have H := hide h
  clear h
  by_cases h0 : 0 ≤ n
  · by_cases h1 : n ≤ 281474976710
    · have hv : wrap64 (n * 1000) = n * 1000 := by unfold wrap64; omega
      go_enter Tryz.func43, Tryz.ntmps43
      go_wp2_with fail
      refine (must_calls true (some (S 1)) w).mono ?_
      rintro e_ w_ ⟨rfl, rfl⟩
      clear g1
      go_wp2_with fail
      obtain ⟨W, hW⟩ := (⟨_, rfl⟩ : ∃ W, ((w.alloc (.cells #[.bool true] 4)).alloc (.cells #[errV (some (S 1))] 78)).alloc (.cells #[.func (.func 180) #[] #[.pointer (some ⟨w.heap.size, 0, none⟩), .pointer (some ⟨w.heap.size + 1, 0, none⟩)]] 151) = W)
      obtain ⟨hB, hf⟩ := one_rule true (some (S 1)) w W hW
      rw [hW]
      replace hf := hide hf
      clear hW
      refine (show Calls _ _ _ _ _ from hf.out).mono ?_
      rintro e_ w1 ⟨rfl, hb⟩
      have hB1 := hB.trans (hb.mono hB.size)
      have Ht := hide (told_calls S (n * 1000) none w1 (H.out.mono hB1) (by simp))
      simp only [if_true, Option.map_none] at Ht ⊢
      go_wp2_with fail
      refine (show Calls _ _ _ _ _ from Ht.out).mono ?_
      rintro e_ w2 ⟨rfl, rfl⟩
      go_wp2_with fail
      go_ret2
      exact ⟨by simp [millis, h0, h1, errno], hB1⟩
    · have h1' : 281474976710 < n := by omega
      go_enter Tryz.func43, Tryz.ntmps43
      go_wp2_with fail
      refine (must_calls false (some (S 1)) w).mono ?_
      rintro e_ w_ ⟨rfl, rfl⟩
      clear g1
      go_wp2_with fail
      obtain ⟨W, hW⟩ := (⟨_, rfl⟩ : ∃ W, ((w.alloc (.cells #[.bool false] 4)).alloc (.cells #[errV (some (S 1))] 78)).alloc (.cells #[.func (.func 180) #[] #[.pointer (some ⟨w.heap.size, 0, none⟩), .pointer (some ⟨w.heap.size + 1, 0, none⟩)]] 151) = W)
      obtain ⟨hB, hf⟩ := one_rule false (some (S 1)) w W hW
      rw [hW]
      replace hf := hide hf
      clear hW
      refine (show Calls _ _ _ _ _ from hf.out).mono ?_
      rintro e_ w1 ⟨rfl, hb⟩
      have hB1 := hB.trans (hb.mono hB.size)
      have Ht := hide (told_calls S (wrap64 (n * 1000)) (some 1) w1 (H.out.mono hB1) (by intro g hg; cases hg; decide))
      simp only [Bool.false_eq_true, if_false, Option.map_some] at Ht ⊢
      go_wp2_with fail
      refine (show Calls _ _ _ _ _ from Ht.out).mono ?_
      rintro e_ w2 ⟨rfl, rfl⟩
      go_wp2_with fail
      go_ret2
      exact ⟨by simp [show millis n = (0, 10) from if_neg (by omega), errno, numberOf], hB1⟩
  · have h0' : n < 0 := by omega
    go_enter Tryz.func43, Tryz.ntmps43
    go_wp2_with fail
    refine (must_calls false (some (S 1)) w).mono ?_
    rintro e_ w_ ⟨rfl, rfl⟩
    clear g1
    go_wp2_with fail
    obtain ⟨W, hW⟩ := (⟨_, rfl⟩ : ∃ W, ((w.alloc (.cells #[.bool false] 4)).alloc (.cells #[errV (some (S 1))] 78)).alloc (.cells #[.func (.func 180) #[] #[.pointer (some ⟨w.heap.size, 0, none⟩), .pointer (some ⟨w.heap.size + 1, 0, none⟩)]] 151) = W)
    obtain ⟨hB, hf⟩ := one_rule false (some (S 1)) w W hW
    rw [hW]
    replace hf := hide hf
    clear hW
    refine (show Calls _ _ _ _ _ from hf.out).mono ?_
    rintro e_ w1 ⟨rfl, hb⟩
    have hB1 := hB.trans (hb.mono hB.size)
    have Ht := hide (told_calls S (wrap64 (n * 1000)) (some 1) w1 (H.out.mono hB1) (by intro g hg; cases hg; decide))
    simp only [Bool.false_eq_true, if_false, Option.map_some] at Ht ⊢
    go_wp2_with fail
    refine (show Calls _ _ _ _ _ from Ht.out).mono ?_
    rintro e_ w2 ⟨rfl, rfl⟩
    go_wp2_with fail
    go_ret2
    exact ⟨by simp [show millis n = (0, 10) from if_neg (by omega), errno, numberOf], hB1⟩
end Go.Proofs.YtllfaffbaijgfaaGreatDoor
