/- The law's own bundle: the calls of Up and Down. The law's shown. -/
import Derived.Test.YtllfaffbaijgfaaGreatDoorJ39
set_option linter.unusedVariables false
set_option linter.unusedSimpArgs false
namespace Go.Proofs.YtllfaffbaijgfaaGreatDoor
open Go Go.RowKit Go.Shelf

theorem Lies.slices {w : World} {l : List Block} {rv : Nat → Value} {a : Option Addr} (h : Lies w l rv a) : ∀ i x, l[i]? = some x → ∃ a' cap', rv i = .slice a' x.refs.length cap' := fun i x hx => by
  obtain ⟨a', cap', e, _⟩ := h.refs i x hx
  exact ⟨a', cap', e⟩
theorem walk_sb (rv : Nat → Value) : (walkF upStep noWS (blkItems [sb] rv)).1 = 0 ∧ (walkF upStep noWS (blkItems [sb] rv)).2.out = [ub] := ⟨by kernel_rfl, by kernel_rfl⟩
theorem walk_ub (rv : Nat → Value) : (walkF dStep noWS (blkItems [ub] rv)).1 = 0 ∧ (walkF dStep noWS (blkItems [ub] rv)).2.out = [sb] := ⟨by kernel_rfl, by kernel_rfl⟩
theorem refs_sb : ∀ x ∈ [sb], x.refs = [] := fun x hx => by
  simp only [List.mem_cons, List.not_mem_nil, or_false] at hx
  subst hx; rfl
theorem refs_ub : ∀ x ∈ [ub], x.refs = [] := fun x hx => by
  simp only [List.mem_cons, List.not_mem_nil, or_false] at hx
  subst hx; rfl

theorem shown_up (S T N : Nat → Addr) (rv : Nat → Value) (a : Option Addr) (cap : Nat) (w : World) (hL : Lay S T N w) (hb : Lies w [sb] rv a) :
    Calls Tryz.prog 14 #[.agg #[.int .i64 sx.flags, .int .i64 sx.dest.scheme, .string (bs sx.dest.node), .string (bs sx.dest.service), .int .i64 sx.dest.a, .int .i64 sx.dest.b, .int .i64 sx.source.scheme, .string (bs sx.source.node), .string (bs sx.source.service), .int .i64 sx.source.a, .int .i64 sx.source.b, .int .i64 sx.report.scheme, .string (bs sx.report.node), .string (bs sx.report.service), .int .i64 sx.report.a, .int .i64 sx.report.b, .int .i64 sx.custodian.scheme, .string (bs sx.custodian.node), .string (bs sx.custodian.service), .int .i64 sx.custodian.a, .int .i64 sx.custodian.b, .int .i64 sx.time, .int .i64 sx.seq, .int .i64 sx.life, .int .i64 sx.off, .int .i64 sx.total, .slice a 1 cap]] w (fun e w' => ∃ v, e = .returned (.tuple #[.agg #[.int .i64 uy.flags, .int .i64 uy.sum, .int .i64 uy.dest.scheme, .string (bs uy.dest.node), .string (bs uy.dest.service), .int .i64 uy.dest.a, .int .i64 uy.dest.b, .int .i64 uy.source.scheme, .string (bs uy.source.node), .string (bs uy.source.service), .int .i64 uy.source.a, .int .i64 uy.source.b, .int .i64 uy.report.scheme, .string (bs uy.report.node), .string (bs uy.report.service), .int .i64 uy.report.a, .int .i64 uy.report.b, .int .i64 uy.time, .int .i64 uy.seq, .int .i64 uy.life, .int .i64 uy.off, .int .i64 uy.total, v], .int .i64 0]) ∧ RowV w.heap.size 1 (blocksFlat [ub]) v w' ∧ Below w.heap.size w w') := by
  refine xup_ok S w.heap.size 1 (blocksFlat [ub]) [104, 105] sx a 1 cap w ⟨fun W hB => ?_, hL.sents⟩ (by kernel_rfl) (by kernel_rfl) (fun W hB => ?_) (fun W hB => ?_)
  · have := sixRight_calls sx rv a cap W (hb.mono hB) fit_sb fit_names
    rw [right_sx] at this
    exact this
  · have hbW := hb.mono hB
    have hlW := hL.mono hB
    refine (extUp0_calls S T [sb] rv a cap W hlW.sents hlW.head hlW.pairs (by decide) (by decide) (by obtain ⟨b, o, h1, h2⟩ := hbW.there (by decide); exact ⟨b, o, h1, h2, h2.1⟩) hbW.slices (fun x hx => by rw [refs_sb x hx]; decide)).mono ?_
    rintro e w' ⟨v, rfl, h2, h3⟩
    rw [(walk_sb rv).2] at h3
    refine ⟨_, rfl, ⟨v, by rw [(walk_sb rv).1]; rfl, RowV.less h3 hB.size⟩, h2⟩
  · exact sixLoad_calls sx rv a cap W (hb.mono hB)

theorem shown_up0 (S T N : Nat → Addr) (rv : Nat → Value) (a : Option Addr) (cap : Nat) (w : World) (hL : Lay S T N w) (hb : Lies w [sb] rv a) :
    Calls Tryz.prog 14 #[.agg #[.int .i64 sx0.flags, .int .i64 sx0.dest.scheme, .string (bs sx0.dest.node), .string (bs sx0.dest.service), .int .i64 sx0.dest.a, .int .i64 sx0.dest.b, .int .i64 sx0.source.scheme, .string (bs sx0.source.node), .string (bs sx0.source.service), .int .i64 sx0.source.a, .int .i64 sx0.source.b, .int .i64 sx0.report.scheme, .string (bs sx0.report.node), .string (bs sx0.report.service), .int .i64 sx0.report.a, .int .i64 sx0.report.b, .int .i64 sx0.custodian.scheme, .string (bs sx0.custodian.node), .string (bs sx0.custodian.service), .int .i64 sx0.custodian.a, .int .i64 sx0.custodian.b, .int .i64 sx0.time, .int .i64 sx0.seq, .int .i64 sx0.life, .int .i64 sx0.off, .int .i64 sx0.total, .slice a 1 cap]] w (Rt w (.tuple #[.agg zeroSeven, .int .i64 132])) := by
  refine xup_err S sx0 a 1 cap w ⟨fun W hB => ?_, hL.sents⟩ hL.err (by decide)
  have := sixRight_calls sx0 rv a cap W (hb.mono hB) fit_sb fit_names
  rw [right_sx0] at this
  exact this

theorem shown_down (S T N : Nat → Addr) (rv : Nat → Value) (a : Option Addr) (cap : Nat) (w : World) (hL : Lay S T N w) (hb : Lies w [ub] rv a) :
    Calls Tryz.prog 18 #[.agg #[.int .i64 uy.flags, .int .i64 uy.sum, .int .i64 uy.dest.scheme, .string (bs uy.dest.node), .string (bs uy.dest.service), .int .i64 uy.dest.a, .int .i64 uy.dest.b, .int .i64 uy.source.scheme, .string (bs uy.source.node), .string (bs uy.source.service), .int .i64 uy.source.a, .int .i64 uy.source.b, .int .i64 uy.report.scheme, .string (bs uy.report.node), .string (bs uy.report.service), .int .i64 uy.report.a, .int .i64 uy.report.b, .int .i64 uy.time, .int .i64 uy.seq, .int .i64 uy.life, .int .i64 uy.off, .int .i64 uy.total, .slice a 1 cap]] w (fun e w' => ∃ v, e = .returned (.tuple #[.agg #[.int .i64 dz.flags, .int .i64 dz.dest.scheme, .string (bs dz.dest.node), .string (bs dz.dest.service), .int .i64 dz.dest.a, .int .i64 dz.dest.b, .int .i64 dz.source.scheme, .string (bs dz.source.node), .string (bs dz.source.service), .int .i64 dz.source.a, .int .i64 dz.source.b, .int .i64 dz.report.scheme, .string (bs dz.report.node), .string (bs dz.report.service), .int .i64 dz.report.a, .int .i64 dz.report.b, .int .i64 dz.custodian.scheme, .string (bs dz.custodian.node), .string (bs dz.custodian.service), .int .i64 dz.custodian.a, .int .i64 dz.custodian.b, .int .i64 dz.time, .int .i64 dz.seq, .int .i64 dz.life, .int .i64 dz.off, .int .i64 dz.total, v], .int .i64 0]) ∧ RowV w.heap.size 1 (blocksFlat [sb]) v w' ∧ Below w.heap.size w w') := by
  refine xdown_ok S w.heap.size 1 (blocksFlat [sb]) [104, 105] uy a 1 cap w ⟨fun W hB => ?_, rfl, hL.sents⟩ (by kernel_rfl) (by kernel_rfl) (by kernel_rfl) (by kernel_rfl) (fun W hB => ?_) (fun W hB => ?_) (fun W a' m' cap' hB hr => ?_)
  · have := sevRight_calls uy rv a cap W (hL.laid.mono hB) (hb.mono hB) fit_ub fit_names3
    rw [right_uy] at this
    exact this
  · have hbW := hb.mono hB
    have hlW := hL.mono hB
    refine (extDown0_calls S [ub] rv a cap W hlW.sents hlW.pairs (by decide) (by decide) (by obtain ⟨b, o, h1, h2⟩ := hbW.there (by decide); exact ⟨b, o, h1, h2, h2.1⟩) hbW.slices (fun x hx => by rw [refs_ub x hx]; decide) (fun i x hx hi => ?_) (walk_ub rv).1).mono ?_
    · exact absurd (List.getElem?_eq_some_iff.1 hx).1 (by have : i + 1 ≠ 1 := hi; show ¬ i < 1; omega)
    rintro e w' ⟨v, rfl, h2, h3⟩
    rw [(walk_ub rv).2] at h3
    exact ⟨_, rfl, ⟨v, rfl, RowV.less h3 hB.size⟩, h2⟩
  · exact sevLoad_calls uy rv a cap W (hb.mono hB)
  · obtain ⟨a2, cap2, e2, hl, _⟩ := lies_of_row (l := [sb]) hr refs_sb (by decide) (by decide)
    cases e2
    have := sixRight_calls dz nilV a' cap' W hl fit_sb fit_names
    rw [right_dz] at this
    exact this

theorem shown_down0 (S T N : Nat → Addr) (rv : Nat → Value) (a : Option Addr) (cap : Nat) (w : World) (hL : Lay S T N w) (hb : Lies w [ub] rv a) :
    Calls Tryz.prog 18 #[.agg #[.int .i64 uy1.flags, .int .i64 uy1.sum, .int .i64 uy1.dest.scheme, .string (bs uy1.dest.node), .string (bs uy1.dest.service), .int .i64 uy1.dest.a, .int .i64 uy1.dest.b, .int .i64 uy1.source.scheme, .string (bs uy1.source.node), .string (bs uy1.source.service), .int .i64 uy1.source.a, .int .i64 uy1.source.b, .int .i64 uy1.report.scheme, .string (bs uy1.report.node), .string (bs uy1.report.service), .int .i64 uy1.report.a, .int .i64 uy1.report.b, .int .i64 uy1.time, .int .i64 uy1.seq, .int .i64 uy1.life, .int .i64 uy1.off, .int .i64 uy1.total, .slice a 1 cap]] w (Rt w (.tuple #[.agg zeroSix, .int .i64 136])) := by
  refine xdown_err S uy1 a 1 cap w ⟨fun W hB => ?_, rfl, hL.sents⟩ hL.err (by decide)
  have := sevRight_calls uy1 rv a cap W (hL.laid.mono hB) (hb.mono hB) fit_ub fit_names3
  rw [right_uyt] at this
  exact this
end Go.Proofs.YtllfaffbaijgfaaGreatDoor

namespace Go.Proofs.YtllfaffbaijgfaaGreatDoor
open Go Go.RowKit Go.Shelf

theorem Lies.turned {w w' : World} {l : List Block} {a : Option Addr} (h : Lies w l nilV a) (hr : ∀ x ∈ l, x.refs = []) (hk : ∀ b o, a = some ⟨b, o, none⟩ → w'.heap[b]? = w.heap[b]?) : Lies w' l nilV a :=
  ⟨h.len, fun hn => by
    obtain ⟨b, o, e, h1, h2⟩ := h.there hn
    have hb := hk b o e
    have hc : ∀ i, w'.cell? ⟨b, i, none⟩ = w.cell? ⟨b, i, none⟩ := fun i => World.cell?_of_block (w := w) hb
    refine ⟨b, o, e, ?_, fun i x hx => ?_⟩
    · obtain ⟨ob, ho⟩ : ∃ ob, w.heap[b]? = some ob := ⟨_, Array.getElem?_eq_getElem h1⟩
      exact (Array.getElem?_eq_some_iff.1 (hb.trans ho)).1
    · obtain ⟨c0, c1, c2, c3, c4, c5⟩ := h2 i x hx
      exact ⟨(hc _).trans c0, (hc _).trans c1, (hc _).trans c2, (hc _).trans c3, (hc _).trans c4, (hc _).trans c5⟩, fun i x hx => by
    rw [hr x (List.mem_of_getElem? hx)]
    exact ⟨none, 0, rfl, fun h => absurd h (Nat.lt_irrefl _)⟩⟩
theorem Lies.lt {w : World} {l : List Block} {rv : Nat → Value} {a : Option Addr} (h : Lies w l rv a) (hn : 0 < l.length) : ∀ b o, a = some ⟨b, o, none⟩ → b < w.heap.size := fun b o e => by
  obtain ⟨b', o', e', h1, _⟩ := h.there hn
  rw [e] at e'; cases e'
  exact h1

set_option maxRecDepth 100000 in
set_option maxHeartbeats 40000000 in
theorem shown_calls (S T N : Nat → Addr) (w : World) (hL : Lay S T N w) : Calls Tryz.prog 10 #[] w (Rt w (.bool true)) := by
  have HL := hide (fun W (hb : Below w.heap.size w W) => hL.mono hb)
  clear hL
  go_enter Tryz.func10, Tryz.ntmps10
  go_upto_region 2 with (apply wpList_store_new (ty := 32) (n := 27); (case hgd => exact rfl); (case ho => exact rfl); (case hd => exact rfl); (case hx => exact rfl); (case hw => exact rfl); (case hg => first | exact rfl | (simp; done)); (case hy => exact rfl); (case hi => kernel_rfl); (case hn0 => exact rfl); (case hn => exact rfl); (case h1 => first | exact rfl | assumption | (simp [Value.oneCell', *]; done) | (simp [*]; done)))
  refine wp_named fun w1 hw1 => ?_
  have hB1 : Below w.heap.size w w1 := by rw [hw1]; ((repeat' (first | exact Below.refl _ _ | assumption | (refine Below.drew ?_) | (refine Below.alloc ?_ ?_ _) | (refine Below.setCell ?_ ?_ _) | (refine Below.step (W := ?hW) ?hq ?_ ?_; case hq => assumption))) <;> (first | (simp; done) | (simp; omega) | (simp at *; omega)))
  have hrow : w1.heap[w.heap.size]? = some (.cells (bcells sb).toArray 57 (0, 0)) := by rw [hw1]; exact heapNew (u := w) (by ((repeat' (first | exact Below.refl _ _ | assumption | (refine Below.drew ?_) | (refine Below.alloc ?_ ?_ _) | (refine Below.setCell ?_ ?_ _) | (refine Below.step (W := ?hW) ?hq ?_ ?_; case hq => assumption))) <;> (first | (simp; done) | (simp; omega) | (simp at *; omega)))) rfl
  have hx1 : w1.heap[w.heap.size + 1]? = some (.cells #[.int .i64 sx.flags, .int .i64 sx.dest.scheme, .string (bs sx.dest.node), .string (bs sx.dest.service), .int .i64 sx.dest.a, .int .i64 sx.dest.b, .int .i64 sx.source.scheme, .string (bs sx.source.node), .string (bs sx.source.service), .int .i64 sx.source.a, .int .i64 sx.source.b, .int .i64 sx.report.scheme, .string (bs sx.report.node), .string (bs sx.report.service), .int .i64 sx.report.a, .int .i64 sx.report.b, .int .i64 sx.custodian.scheme, .string (bs sx.custodian.node), .string (bs sx.custodian.service), .int .i64 sx.custodian.a, .int .i64 sx.custodian.b, .int .i64 sx.time, .int .i64 sx.seq, .int .i64 sx.life, .int .i64 sx.off, .int .i64 sx.total, .slice (some ⟨w.heap.size, 0, none⟩) 1 1] 32 (0, 0)) := by rw [hw1]; exact heapNew (u := w.alloc _) (by ((repeat' (first | exact Below.refl _ _ | assumption | (refine Below.drew ?_) | (refine Below.alloc ?_ ?_ _) | (refine Below.setCell ?_ ?_ _) | (refine Below.step (W := ?hW) ?hq ?_ ?_; case hq => assumption))) <;> (first | (simp; done) | (simp; omega) | (simp at *; omega)))) (by simp)
  clear hw1
  have hs1 : Lies w1 [sb] nilV (some ⟨w.heap.size, 0, none⟩) := ⟨by decide, fun _ => ⟨w.heap.size, 0, rfl, (Array.getElem?_eq_some_iff.1 hrow).1, fun i x hx => by
    rcases i with _ | i
    · cases hx
      exact ⟨cellsOf hrow 0, cellsOf hrow 1, cellsOf hrow 2, cellsOf hrow 3, cellsOf hrow 4, cellsOf hrow 5⟩
    · cases hx⟩, fun i x hx => by
    rw [refs_sb x (List.mem_of_getElem? hx)]
    exact ⟨none, 0, rfl, fun h => absurd h (Nat.lt_irrefl _)⟩⟩
  obtain ⟨A, hA⟩ : ∃ A, A = w.heap.size := ⟨_, rfl⟩
  obtain ⟨X, hX⟩ : ∃ X, X = w.heap.size + 1 := ⟨_, rfl⟩
  rw [← hX] at hx1 ⊢
  rw [← hA] at hx1 hs1
  have qX : w.heap.size ≤ X := by omega
  have qAX : A < X := by omega
  clear hA hX hrow
  go_wp2_with (first | (apply wpList_load_of (ty := 32); (case hgd => exact rfl); (case ho => exact rfl); (case hx => exact rfl); (case hr => apply load_row (n := 27); (case hheap => exact hx1); (case hu => exact Tryz.underlying32); (case hd => exact rfl); (case hi => kernel_rfl); (case hc => exact rfl))) | (apply wpList_load_w (ty := 32); (case hgd => exact rfl); (case ho => exact rfl); (case hx => exact rfl); (case hr => apply load_row (n := 27); (case hheap => exact hx1); (case hu => exact Tryz.underlying32); (case hd => exact rfl); (case hi => kernel_rfl); (case hc => exact rfl))))
  refine (show Calls _ _ _ _ _ from shown_up S T N nilV (some ⟨A, 0, none⟩) 1 w1 (HL.out w1 hB1) hs1).mono ?_
  rintro _ w2 ⟨v, rfl, hR2, hb2⟩
  have hx2 := heapKept hx1 hb2
  have hs2 := hs1.mono hb2
  have hB2 := hB1.trans (hb2.mono hB1.size)
  obtain ⟨a2, cap2, rfl, hl2, _⟩ := lies_of_row (l := [ub]) hR2 refs_ub (by decide) (by decide)
  clear hx1 hs1 hR2 hb2 hB1
  go_upto_region 3 with (apply wpList_store_new (ty := 35) (n := 23); (case hgd => exact rfl); (case ho => exact rfl); (case hd => exact rfl); (case hx => exact rfl); (case hw => exact rfl); (case hg => first | exact rfl | (simp; done)); (case hy => exact rfl); (case hi => kernel_rfl); (case hn0 => exact rfl); (case hn => exact rfl); (case h1 => first | exact rfl | assumption | (simp [Value.oneCell', *]; done) | (simp [*]; done)))
  refine wp_named fun w3 hw3 => ?_
  have hb3 : Below w2.heap.size w2 w3 := by rw [hw3]; ((repeat' (first | exact Below.refl _ _ | assumption | (refine Below.drew ?_) | (refine Below.alloc ?_ ?_ _) | (refine Below.setCell ?_ ?_ _) | (refine Below.step (W := ?hW) ?hq ?_ ?_; case hq => assumption))) <;> (first | (simp; done) | (simp; omega) | (simp at *; omega)))
  have hy3 : w3.heap[w2.heap.size]? = some (.cells #[.int .i64 uy.flags, .int .i64 uy.sum, .int .i64 uy.dest.scheme, .string (bs uy.dest.node), .string (bs uy.dest.service), .int .i64 uy.dest.a, .int .i64 uy.dest.b, .int .i64 uy.source.scheme, .string (bs uy.source.node), .string (bs uy.source.service), .int .i64 uy.source.a, .int .i64 uy.source.b, .int .i64 uy.report.scheme, .string (bs uy.report.node), .string (bs uy.report.service), .int .i64 uy.report.a, .int .i64 uy.report.b, .int .i64 uy.time, .int .i64 uy.seq, .int .i64 uy.life, .int .i64 uy.off, .int .i64 uy.total, .slice a2 1 cap2] 35 (0, 0)) := by rw [hw3]; exact heapNew (u := w2) (by ((repeat' (first | exact Below.refl _ _ | assumption | (refine Below.drew ?_) | (refine Below.alloc ?_ ?_ _) | (refine Below.setCell ?_ ?_ _) | (refine Below.step (W := ?hW) ?hq ?_ ?_; case hq => assumption))) <;> (first | (simp; done) | (simp; omega) | (simp at *; omega)))) rfl
  have hx3 := heapKept hx2 hb3
  have hs3 := hs2.mono hb3
  have hl3 := hl2.mono hb3
  have hB3 := hB2.trans (hb3.mono hB2.size)
  obtain ⟨Y, hY⟩ : ∃ Y, Y = w2.heap.size := ⟨_, rfl⟩
  have haY : ∀ b o, a2 = some ⟨b, o, none⟩ → b < Y := by rw [hY]; exact hl2.lt (by decide)
  rw [← hY] at hy3 ⊢
  have qXY : X < Y := by rw [hY]; exact (Array.getElem?_eq_some_iff.1 hx2).1
  clear hw3 hb3 hx2 hs2 hl2 hY hB2
  go_wp2_with (first | (apply wpList_load_of (ty := 35); (case hgd => exact rfl); (case ho => exact rfl); (case hx => exact rfl); (case hr => apply load_row (n := 23); (case hheap => exact hy3); (case hu => exact Tryz.underlying35); (case hd => exact rfl); (case hi => kernel_rfl); (case hc => exact rfl))) | (apply wpList_load_w (ty := 35); (case hgd => exact rfl); (case ho => exact rfl); (case hx => exact rfl); (case hr => apply load_row (n := 23); (case hheap => exact hy3); (case hu => exact Tryz.underlying35); (case hd => exact rfl); (case hi => kernel_rfl); (case hc => exact rfl))))
  refine (show Calls _ _ _ _ _ from shown_down S T N nilV a2 cap2 w3 (HL.out w3 hB3) hl3).mono ?_
  rintro _ w4 ⟨v, rfl, hR4, hb4⟩
  obtain ⟨a4, cap4, rfl, hz4, hg4⟩ := lies_of_row (l := [sb]) hR4 refs_sb (by decide) (by decide)
  have Hg4 : Hid (∀ b o, a4 = some ⟨b, o, none⟩ → Y < b) := hide (fun b o e => by have := hg4 b o e; have := (Array.getElem?_eq_some_iff.1 hy3).1; omega)
  clear hg4
  have hx4 := heapKept hx3 hb4
  have hy4 := heapKept hy3 hb4
  have hs4 := hs3.mono hb4
  have hl4 := hl3.mono hb4
  have hB4 := hB3.trans (hb4.mono hB3.size)
  clear hx3 hy3 hs3 hl3 hb4 hB3 hR4
  go_upto_region 4 with (apply wpList_store_new (ty := 32) (n := 27); (case hgd => exact rfl); (case ho => exact rfl); (case hd => exact rfl); (case hx => exact rfl); (case hw => exact rfl); (case hg => first | exact rfl | (simp; done)); (case hy => exact rfl); (case hi => kernel_rfl); (case hn0 => exact rfl); (case hn => exact rfl); (case h1 => first | exact rfl | assumption | (simp [Value.oneCell', *]; done) | (simp [*]; done)))
  refine wp_named fun w5 hw5 => ?_
  have hb5 : Below w4.heap.size w4 w5 := by rw [hw5]; ((repeat' (first | exact Below.refl _ _ | assumption | (refine Below.drew ?_) | (refine Below.alloc ?_ ?_ _) | (refine Below.setCell ?_ ?_ _) | (refine Below.step (W := ?hW) ?hq ?_ ?_; case hq => assumption))) <;> (first | (simp; done) | (simp; omega) | (simp at *; omega)))
  have hz5 : w5.heap[w4.heap.size]? = some (.cells #[.int .i64 dz.flags, .int .i64 dz.dest.scheme, .string (bs dz.dest.node), .string (bs dz.dest.service), .int .i64 dz.dest.a, .int .i64 dz.dest.b, .int .i64 dz.source.scheme, .string (bs dz.source.node), .string (bs dz.source.service), .int .i64 dz.source.a, .int .i64 dz.source.b, .int .i64 dz.report.scheme, .string (bs dz.report.node), .string (bs dz.report.service), .int .i64 dz.report.a, .int .i64 dz.report.b, .int .i64 dz.custodian.scheme, .string (bs dz.custodian.node), .string (bs dz.custodian.service), .int .i64 dz.custodian.a, .int .i64 dz.custodian.b, .int .i64 dz.time, .int .i64 dz.seq, .int .i64 dz.life, .int .i64 dz.off, .int .i64 dz.total, .slice a4 1 cap4] 32 (0, 0)) := by rw [hw5]; exact heapNew (u := w4) (by ((repeat' (first | exact Below.refl _ _ | assumption | (refine Below.drew ?_) | (refine Below.alloc ?_ ?_ _) | (refine Below.setCell ?_ ?_ _) | (refine Below.step (W := ?hW) ?hq ?_ ?_; case hq => assumption))) <;> (first | (simp; done) | (simp; omega) | (simp at *; omega)))) rfl
  have hx5 := heapKept hx4 hb5
  have hy5 := heapKept hy4 hb5
  have hs5 := hs4.mono hb5
  have hl5 := hl4.mono hb5
  have hzl5 := hz4.mono hb5
  have hB5 := hB4.trans (hb5.mono hB4.size)
  obtain ⟨Z, hZ⟩ : ∃ Z, Z = w4.heap.size := ⟨_, rfl⟩
  rw [← hZ] at hz5 ⊢
  have qYZ : Y < Z := by rw [hZ]; exact (Array.getElem?_eq_some_iff.1 hy4).1
  clear hw5 hb5 hx4 hy4 hs4 hl4 hz4 hZ hB4
  have k17 : w5.cell? ⟨Y, 17, none⟩ = some (.int .i64 uy.time) := cellsOf hy5 17
  have f17 : w5.frozen? ⟨Y, 17, none⟩ = false := by simp [World.frozen?, hy5]
  have HaY := hide haY
  clear haY
  go_upto_region 5 with fail
  clear k17 f17
  obtain ⟨w6, hw6⟩ : ∃ w6, w6 = w5.setCell ⟨Y, 17, none⟩ (.int .i64 5001) := ⟨_, rfl⟩
  rw [← hw6]
  have hy6 : w6.heap[Y]? = some (.cells #[.int .i64 uy1.flags, .int .i64 uy1.sum, .int .i64 uy1.dest.scheme, .string (bs uy1.dest.node), .string (bs uy1.dest.service), .int .i64 uy1.dest.a, .int .i64 uy1.dest.b, .int .i64 uy1.source.scheme, .string (bs uy1.source.node), .string (bs uy1.source.service), .int .i64 uy1.source.a, .int .i64 uy1.source.b, .int .i64 uy1.report.scheme, .string (bs uy1.report.node), .string (bs uy1.report.service), .int .i64 uy1.report.a, .int .i64 uy1.report.b, .int .i64 uy1.time, .int .i64 uy1.seq, .int .i64 uy1.life, .int .i64 uy1.off, .int .i64 uy1.total, .slice a2 1 cap2] 35 (0, 0)) := by rw [hw6]; exact heap_setCell_same (i := 17) hy5
  have hx6 : w6.heap[X]? = some (.cells #[.int .i64 sx.flags, .int .i64 sx.dest.scheme, .string (bs sx.dest.node), .string (bs sx.dest.service), .int .i64 sx.dest.a, .int .i64 sx.dest.b, .int .i64 sx.source.scheme, .string (bs sx.source.node), .string (bs sx.source.service), .int .i64 sx.source.a, .int .i64 sx.source.b, .int .i64 sx.report.scheme, .string (bs sx.report.node), .string (bs sx.report.service), .int .i64 sx.report.a, .int .i64 sx.report.b, .int .i64 sx.custodian.scheme, .string (bs sx.custodian.node), .string (bs sx.custodian.service), .int .i64 sx.custodian.a, .int .i64 sx.custodian.b, .int .i64 sx.time, .int .i64 sx.seq, .int .i64 sx.life, .int .i64 sx.off, .int .i64 sx.total, .slice (some ⟨A, 0, none⟩) 1 1] 32 (0, 0)) := by rw [hw6]; exact (heap_setCell_ne (by omega)).trans hx5
  have hz6 : w6.heap[Z]? = some (.cells #[.int .i64 dz.flags, .int .i64 dz.dest.scheme, .string (bs dz.dest.node), .string (bs dz.dest.service), .int .i64 dz.dest.a, .int .i64 dz.dest.b, .int .i64 dz.source.scheme, .string (bs dz.source.node), .string (bs dz.source.service), .int .i64 dz.source.a, .int .i64 dz.source.b, .int .i64 dz.report.scheme, .string (bs dz.report.node), .string (bs dz.report.service), .int .i64 dz.report.a, .int .i64 dz.report.b, .int .i64 dz.custodian.scheme, .string (bs dz.custodian.node), .string (bs dz.custodian.service), .int .i64 dz.custodian.a, .int .i64 dz.custodian.b, .int .i64 dz.time, .int .i64 dz.seq, .int .i64 dz.life, .int .i64 dz.off, .int .i64 dz.total, .slice a4 1 cap4] 32 (0, 0)) := by rw [hw6]; exact (heap_setCell_ne (by omega)).trans hz5
  have hs6 : Lies w6 [sb] nilV (some ⟨A, 0, none⟩) := hs5.turned refs_sb (fun b o e => by cases e; rw [hw6]; exact heap_setCell_ne (by omega))
  have hl6 : Lies w6 [ub] nilV a2 := hl5.turned refs_ub (fun b o e => by have := HaY.out b o e; rw [hw6]; exact heap_setCell_ne (by omega))
  have hzl6 : Lies w6 [sb] nilV a4 := hzl5.turned refs_sb (fun b o e => by have := Hg4.out b o e; rw [hw6]; exact heap_setCell_ne (by omega))
  have hB6 : Below w.heap.size w w6 := by rw [hw6]; exact hB5.setCell (p := ⟨Y, 17, none⟩) (by show w.heap.size ≤ Y; omega) _
  clear hw6 hy5 hx5 hz5 hs5 hl5 hB5
  go_wp2_with (first | (apply wpList_load_of (ty := 35); (case hgd => exact rfl); (case ho => exact rfl); (case hx => exact rfl); (case hr => apply load_row (n := 23); (case hheap => exact hy6); (case hu => exact Tryz.underlying35); (case hd => exact rfl); (case hi => kernel_rfl); (case hc => exact rfl))) | (apply wpList_load_w (ty := 35); (case hgd => exact rfl); (case ho => exact rfl); (case hx => exact rfl); (case hr => apply load_row (n := 23); (case hheap => exact hy6); (case hu => exact Tryz.underlying35); (case hd => exact rfl); (case hi => kernel_rfl); (case hc => exact rfl))))
  refine (show Calls _ _ _ _ _ from shown_down0 S T N nilV a2 cap2 w6 (HL.out w6 hB6) hl6).mono ?_
  rintro _ w7 ⟨rfl, hb7⟩
  have hx7 := heapKept hx6 hb7
  have hy7 := heapKept hy6 hb7
  have hz7 := heapKept hz6 hb7
  have hs7 := hs6.mono hb7
  have hzl7 := hzl6.mono hb7
  have hB7 := hB6.trans (hb7.mono hB6.size)
  clear hx6 hy6 hz6 hs6 hl6 hb7 hB6 hzl5 hzl6
  go_upto_region 6 with (apply wpList_store_new (ty := 32) (n := 27); (case hgd => exact rfl); (case ho => exact rfl); (case hd => exact rfl); (case hx => exact rfl); (case hw => exact rfl); (case hg => first | exact rfl | (simp; done)); (case hy => exact rfl); (case hi => kernel_rfl); (case hn0 => exact rfl); (case hn => exact rfl); (case h1 => first | exact rfl | assumption | (simp [Value.oneCell', *]; done) | (simp [*]; done)))
  refine wp_named fun w8 hw8 => ?_
  have hb8 : Below w7.heap.size w7 w8 := by rw [hw8]; ((repeat' (first | exact Below.refl _ _ | assumption | (refine Below.drew ?_) | (refine Below.alloc ?_ ?_ _) | (refine Below.setCell ?_ ?_ _) | (refine Below.step (W := ?hW) ?hq ?_ ?_; case hq => assumption))) <;> (first | (simp; done) | (simp; omega) | (simp at *; omega)))
  have hx8 := heapKept hx7 hb8
  have hy8 := heapKept hy7 hb8
  have hz8 := heapKept hz7 hb8
  have hs8 := hs7.mono hb8
  have hzl8 := hzl7.mono hb8
  have hB8 := hB7.trans (hb8.mono hB7.size)
  clear hw8 hb8 hx7 hy7 hz7 hs7 hB7 hzl7
  have k0 : w8.cell? ⟨X, 0, none⟩ = some (.int .i64 sx.flags) := cellsOf hx8 0
  have f0 : w8.frozen? ⟨X, 0, none⟩ = false := by simp [World.frozen?, hx8]
  go_upto_region 7 with fail
  clear k0 f0
  obtain ⟨w9, hw9⟩ : ∃ w9, w9 = w8.setCell ⟨X, 0, none⟩ (.int .i64 0) := ⟨_, rfl⟩
  rw [← hw9]
  have hx9 : w9.heap[X]? = some (.cells #[.int .i64 sx0.flags, .int .i64 sx0.dest.scheme, .string (bs sx0.dest.node), .string (bs sx0.dest.service), .int .i64 sx0.dest.a, .int .i64 sx0.dest.b, .int .i64 sx0.source.scheme, .string (bs sx0.source.node), .string (bs sx0.source.service), .int .i64 sx0.source.a, .int .i64 sx0.source.b, .int .i64 sx0.report.scheme, .string (bs sx0.report.node), .string (bs sx0.report.service), .int .i64 sx0.report.a, .int .i64 sx0.report.b, .int .i64 sx0.custodian.scheme, .string (bs sx0.custodian.node), .string (bs sx0.custodian.service), .int .i64 sx0.custodian.a, .int .i64 sx0.custodian.b, .int .i64 sx0.time, .int .i64 sx0.seq, .int .i64 sx0.life, .int .i64 sx0.off, .int .i64 sx0.total, .slice (some ⟨A, 0, none⟩) 1 1] 32 (0, 0)) := by rw [hw9]; exact heap_setCell_same (i := 0) hx8
  have hy9 : w9.heap[Y]? = some (.cells #[.int .i64 uy1.flags, .int .i64 uy1.sum, .int .i64 uy1.dest.scheme, .string (bs uy1.dest.node), .string (bs uy1.dest.service), .int .i64 uy1.dest.a, .int .i64 uy1.dest.b, .int .i64 uy1.source.scheme, .string (bs uy1.source.node), .string (bs uy1.source.service), .int .i64 uy1.source.a, .int .i64 uy1.source.b, .int .i64 uy1.report.scheme, .string (bs uy1.report.node), .string (bs uy1.report.service), .int .i64 uy1.report.a, .int .i64 uy1.report.b, .int .i64 uy1.time, .int .i64 uy1.seq, .int .i64 uy1.life, .int .i64 uy1.off, .int .i64 uy1.total, .slice a2 1 cap2] 35 (0, 0)) := by rw [hw9]; exact (heap_setCell_ne (by omega)).trans hy8
  have hz9 : w9.heap[Z]? = some (.cells #[.int .i64 dz.flags, .int .i64 dz.dest.scheme, .string (bs dz.dest.node), .string (bs dz.dest.service), .int .i64 dz.dest.a, .int .i64 dz.dest.b, .int .i64 dz.source.scheme, .string (bs dz.source.node), .string (bs dz.source.service), .int .i64 dz.source.a, .int .i64 dz.source.b, .int .i64 dz.report.scheme, .string (bs dz.report.node), .string (bs dz.report.service), .int .i64 dz.report.a, .int .i64 dz.report.b, .int .i64 dz.custodian.scheme, .string (bs dz.custodian.node), .string (bs dz.custodian.service), .int .i64 dz.custodian.a, .int .i64 dz.custodian.b, .int .i64 dz.time, .int .i64 dz.seq, .int .i64 dz.life, .int .i64 dz.off, .int .i64 dz.total, .slice a4 1 cap4] 32 (0, 0)) := by rw [hw9]; exact (heap_setCell_ne (by omega)).trans hz8
  have hs9 : Lies w9 [sb] nilV (some ⟨A, 0, none⟩) := hs8.turned refs_sb (fun b o e => by cases e; rw [hw9]; exact heap_setCell_ne (by omega))
  have hzl9 : Lies w9 [sb] nilV a4 := hzl8.turned refs_sb (fun b o e => by have := Hg4.out b o e; rw [hw9]; exact heap_setCell_ne (by omega))
  have hB9 : Below w.heap.size w w9 := by rw [hw9]; exact hB8.setCell (p := ⟨X, 0, none⟩) qX _
  clear hw9 hx8 hy8 hz8 hs8 hB8 hzl8
  go_wp2_with (first | (apply wpList_load_of (ty := 32); (case hgd => exact rfl); (case ho => exact rfl); (case hx => exact rfl); (case hr => apply load_row (n := 27); (case hheap => exact hx9); (case hu => exact Tryz.underlying32); (case hd => exact rfl); (case hi => kernel_rfl); (case hc => exact rfl))) | (apply wpList_load_w (ty := 32); (case hgd => exact rfl); (case ho => exact rfl); (case hx => exact rfl); (case hr => apply load_row (n := 27); (case hheap => exact hx9); (case hu => exact Tryz.underlying32); (case hd => exact rfl); (case hi => kernel_rfl); (case hc => exact rfl))))
  refine (show Calls _ _ _ _ _ from shown_up0 S T N nilV (some ⟨A, 0, none⟩) 1 w9 (HL.out w9 hB9) hs9).mono ?_
  rintro _ w10 ⟨rfl, hb10⟩
  have hy10 := heapKept hy9 hb10
  have hz10 := heapKept hz9 hb10
  have hzl10 := hzl9.mono hb10
  have hB10 := hB9.trans (hb10.mono hB9.size)
  clear hx9 hy9 hz9 hs9 hzl9 hb10 hB9
  go_upto_region 8 with (apply wpList_store_new (ty := 35) (n := 23); (case hgd => exact rfl); (case ho => exact rfl); (case hd => exact rfl); (case hx => exact rfl); (case hw => exact rfl); (case hg => first | exact rfl | (simp; done)); (case hy => exact rfl); (case hi => kernel_rfl); (case hn0 => exact rfl); (case hn => exact rfl); (case h1 => first | exact rfl | assumption | (simp [Value.oneCell', *]; done) | (simp [*]; done)))
  refine wp_named fun w11 hw11 => ?_
  have hb11 : Below w10.heap.size w10 w11 := by rw [hw11]; ((repeat' (first | exact Below.refl _ _ | assumption | (refine Below.drew ?_) | (refine Below.alloc ?_ ?_ _) | (refine Below.setCell ?_ ?_ _) | (refine Below.step (W := ?hW) ?hq ?_ ?_; case hq => assumption))) <;> (first | (simp; done) | (simp; omega) | (simp at *; omega)))
  have hy11 := heapKept hy10 hb11
  have hz11 := heapKept hz10 hb11
  have hzl11 := hzl10.mono hb11
  have hB11 := hB10.trans (hb11.mono hB10.size)
  clear hw11 hb11 hy10 hz10 hzl10 hB10
  go_wp2_with fail
  refine (show Calls _ _ _ _ _ from over5 w11).mono ?_
  rintro _ w12 ⟨rfl, hb12⟩
  have hy12 := heapKept hy11 hb12
  have hz12 := heapKept hz11 hb12
  have hzl12 := hzl11.mono hb12
  have hB12 := hB11.trans (hb12.mono hB11.size)
  clear hb12 hy11 hz11 hzl11 hB11
  go_wp2_with fail
  refine (show Calls _ _ _ _ _ from over6 N w12 (HL.out w12 hB12).nums).mono ?_
  rintro _ w13 ⟨rfl, hb13⟩
  have hy13 := heapKept hy12 hb13
  have hz13 := heapKept hz12 hb13
  have hzl13 := hzl12.mono hb13
  have hB13 := hB12.trans (hb13.mono hB12.size)
  clear hb13 hy12 hz12 hzl12 hB12
  have y0 : w13.cell? ⟨Y, 0, none⟩ = some (.int .i64 0) := cellsOf hy13 0
  have y1 : w13.cell? ⟨Y, 1, none⟩ = some (.int .i64 2) := cellsOf hy13 1
  have y19 : w13.cell? ⟨Y, 19, none⟩ = some (.int .i64 9000) := cellsOf hy13 19
  have z21 : w13.cell? ⟨Z, 21, none⟩ = some (.int .i64 5) := cellsOf hz13 21
  have Hld := hide (sixLoad_calls dz nilV a4 cap4 w13 hzl13)
  clear hy13 hzl13
  go_wp2_with (first | (apply wpList_load_of (ty := 32); (case hgd => exact rfl); (case ho => exact rfl); (case hx => exact rfl); (case hr => apply load_row (n := 27); (case hheap => exact hz13); (case hu => exact Tryz.underlying32); (case hd => exact rfl); (case hi => kernel_rfl); (case hc => exact rfl))) | (apply wpList_load_w (ty := 32); (case hgd => exact rfl); (case ho => exact rfl); (case hx => exact rfl); (case hr => apply load_row (n := 27); (case hheap => exact hz13); (case hu => exact Tryz.underlying32); (case hd => exact rfl); (case hi => kernel_rfl); (case hc => exact rfl))))
  refine (show Calls _ _ _ _ _ from Hld.out).mono ?_
  rintro _ w14 ⟨rfl, hb14⟩
  have HB := hide (hB13.trans (hb14.mono hB13.size))
  have hld : bs (loadOf dz.blocks) = { data := #[104, 105] } := rfl
  rw [hld]
  clear y0 y1 y19 z21 hz13 hb14 hB13 hld
  go_wp2_with fail
  go_ret
  exact ⟨rfl, HB.out⟩
end Go.Proofs.YtllfaffbaijgfaaGreatDoor
