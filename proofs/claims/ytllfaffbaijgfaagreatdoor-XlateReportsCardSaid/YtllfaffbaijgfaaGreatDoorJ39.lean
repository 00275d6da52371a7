/- seven.Right. seven.Right, the end of it. The law's own bundle: up, down. -/
import Derived.Test.YtllfaffbaijgfaaGreatDoorJ38
import Derived.Test.YtllfaffbaijgfaaGreatDoorJ37
import Derived.Test.YtllfaffbaijgfaaGreatDoorJ10
import Derived.Test.YtllfaffbaijgfaaGreatDoorJ05
set_option linter.unusedVariables false
set_option linter.unusedSimpArgs false
namespace Go.Proofs.YtllfaffbaijgfaaGreatDoor
open Go Go.RowKit Go.Shelf

def open7 (x : Seven) : Bool := !decide (x.source = noEid) || ((bits .and .i64 x.flags 4 != 0) && (bits .and .i64 x.flags 475136 == 0))
def part7 (x : Seven) : Bool := if bits .and .i64 x.flags 1 = 0 then decide (x.off = 0) && decide (x.total = 0) else numR x.off && numR x.total && decide (x.off + (loadOf x.blocks).length ≤ x.total)
def sev1 (x : Seven) : Bool := decide (0 ≤ x.flags) && (bits .andNot .i64 x.flags 475239 == 0) && isSumR x.sum
def sev2 (x : Seven) : Bool := (bits .and .i64 x.flags 1 == 0) || (bits .and .i64 x.flags 4 == 0)
def sev3 (x : Seven) : Bool := (bits .and .i64 x.flags 2 == 0) || (bits .and .i64 x.flags 475168 == 0)
def sev4 (x : Seven) : Bool := eidR x.dest && eidR x.source && eidR x.report && open7 x
def sev5 (x : Seven) : Bool := numR x.time && numR x.seq && numR x.life
def sev6 (x : Seven) : Bool := blocks7 x.blocks && part7 x
def sevR (x : Seven) : Bool := sev1 x && sev2 x && sev3 x && sev4 x && sev5 x && sev6 x

set_option maxRecDepth 100000 in
theorem isOpen_calls (x : Seven) (bv : Value) (w : World) (hbv : bv.oneCell' = true) : Calls Tryz.prog 85 #[.agg #[.int .i64 x.flags, .int .i64 x.sum, .int .i64 x.dest.scheme, .string (bs x.dest.node), .string (bs x.dest.service), .int .i64 x.dest.a, .int .i64 x.dest.b, .int .i64 x.source.scheme, .string (bs x.source.node), .string (bs x.source.service), .int .i64 x.source.a, .int .i64 x.source.b, .int .i64 x.report.scheme, .string (bs x.report.node), .string (bs x.report.service), .int .i64 x.report.a, .int .i64 x.report.b, .int .i64 x.time, .int .i64 x.seq, .int .i64 x.life, .int .i64 x.off, .int .i64 x.total, bv]] w (Rt w (.bool (open7 x))) := by
  have hst := fun (a : Addr) (w : World) => run_store Tryz.prog w a bv .plain hbv
  go_enter Tryz.func85, Tryz.ntmps85
  go_wp2
  all_goals (go_ret; refine ⟨?_, by ((repeat' (first | exact Below.refl _ _ | assumption | (refine Below.drew ?_) | (refine Below.alloc ?_ ?_ _) | (refine Below.setCell ?_ ?_ _) | (refine Below.step (W := ?hW) ?hq ?_ ?_; case hq => assumption))) <;> (first | (simp; done) | (simp; omega) | (simp at *; omega)))⟩)
  all_goals simp_all [open7, eid_none, toList_nil]

theorem sev2_calls (x : Seven) (B : Nat) (w : World) (q0 : w.cell? ⟨B, 0, none⟩ = some (.int .i64 x.flags)) :
    Calls Tryz.prog 81 #[.pointer (some ⟨B, 0, none⟩)] w (Pu w (.bool (sev2 x))) := by
  go_enter Tryz.func81, Tryz.ntmps81
  go_wp2
  all_goals (go_ret; refine ⟨?_, rfl⟩)
  all_goals simp_all [sev2]
theorem sev3_calls (x : Seven) (B : Nat) (w : World) (q0 : w.cell? ⟨B, 0, none⟩ = some (.int .i64 x.flags)) :
    Calls Tryz.prog 82 #[.pointer (some ⟨B, 0, none⟩)] w (Pu w (.bool (sev3 x))) := by
  go_enter Tryz.func82, Tryz.ntmps82
  go_wp2
  all_goals (go_ret; refine ⟨?_, rfl⟩)
  all_goals simp_all [sev3]

theorem sev1_calls (x : Seven) (B : Nat) (w : World) (hl : Laid w) (q0 : w.cell? ⟨B, 0, none⟩ = some (.int .i64 x.flags)) (q1 : w.cell? ⟨B, 1, none⟩ = some (.int .i64 x.sum)) :
    Calls Tryz.prog 79 #[.pointer (some ⟨B, 0, none⟩)] w (Rt w (.bool (sev1 x))) := by
  have H := hide (isSum_calls x.sum w hl)
  clear hl
  obtain ⟨k, hk⟩ : ∃ k, k = isSumR x.sum := ⟨_, rfl⟩
  rw [sev1, ← hk]
  rw [← hk] at H
  clear hk
  go_enter Tryz.func79, Tryz.ntmps79
  go_wp2_with (refine (show Calls _ _ _ _ _ from H.out).mono ?_; rintro e_ w1 ⟨rfl, hb⟩)
  all_goals go_ret
  all_goals refine ⟨?_, by first | exact hb | exact Below.refl _ _⟩
  all_goals simp [*]
  all_goals omega

set_option maxRecDepth 100000 in
theorem sev5_calls (x : Seven) (B : Nat) (w : World) (q0 : w.cell? ⟨B, 17, none⟩ = some (.int .i64 x.time)) (q1 : w.cell? ⟨B, 18, none⟩ = some (.int .i64 x.seq)) (q2 : w.cell? ⟨B, 19, none⟩ = some (.int .i64 x.life)) :
    Calls Tryz.prog 86 #[.pointer (some ⟨B, 0, none⟩)] w (Pu w (.bool (sev5 x))) := by
  obtain ⟨u1, hu1⟩ : ∃ u, u = numR x.time := ⟨_, rfl⟩
  obtain ⟨u2, hu2⟩ : ∃ u, u = numR x.seq := ⟨_, rfl⟩
  have H1 := numR_calls x.time w
  have H2 := numR_calls x.seq w
  have H3 := hide (numR_calls x.life w)
  rw [← hu1] at H1
  rw [← hu2] at H2
  replace H1 := hide H1
  replace H2 := hide H2
  rw [sev5, ← hu1, ← hu2]
  clear hu1 hu2
  go_enter Tryz.func86, Tryz.ntmps86
  go_wp2_with fail
  refine (show Calls _ _ _ _ _ from H1.out).mono ?_
  rintro e_ w_ ⟨rfl, rfl⟩
  cases u1
  · go_wp2_with fail
    go_ret
    exact ⟨rfl, rfl⟩
  · go_wp2_with fail
    refine (show Calls _ _ _ _ _ from H2.out).mono ?_
    rintro e_ w_ ⟨rfl, rfl⟩
    cases u2
    · go_wp2_with fail
      go_ret
      exact ⟨rfl, rfl⟩
    · go_wp2_with fail
      refine (show Calls _ _ _ _ _ from H3.out).mono ?_
      rintro e_ w_ ⟨rfl, rfl⟩
      go_wp2_with fail
      go_ret
      exact ⟨rfl, rfl⟩
end Go.Proofs.YtllfaffbaijgfaaGreatDoor

namespace Go.Proofs.YtllfaffbaijgfaaGreatDoor
open Go Go.RowKit Go.Shelf

set_option maxRecDepth 100000 in
theorem sevPart_calls (x : Seven) (rv : Nat → Value) (a : Option Addr) (cap : Nat) (w : World) (h : Lies w x.blocks rv a) (hfit : ∀ z ∈ x.blocks, blockFit z) :
    Calls Tryz.prog 89 #[.agg #[.int .i64 x.flags, .int .i64 x.sum, .int .i64 x.dest.scheme, .string (bs x.dest.node), .string (bs x.dest.service), .int .i64 x.dest.a, .int .i64 x.dest.b, .int .i64 x.source.scheme, .string (bs x.source.node), .string (bs x.source.service), .int .i64 x.source.a, .int .i64 x.source.b, .int .i64 x.report.scheme, .string (bs x.report.node), .string (bs x.report.service), .int .i64 x.report.a, .int .i64 x.report.b, .int .i64 x.time, .int .i64 x.seq, .int .i64 x.life, .int .i64 x.off, .int .i64 x.total, .slice a x.blocks.length cap]] w (Rt w (.bool (part7 x))) := by
  have H := hide h
  obtain ⟨u1, hu1⟩ : ∃ u, u = numR x.off := ⟨_, rfl⟩
  obtain ⟨u2, hu2⟩ : ∃ u, u = numR x.total := ⟨_, rfl⟩
  have H1 : ∀ W, Calls Tryz.prog 73 #[.int .i64 x.off] W (Rt W (.bool u1)) := fun W => by rw [hu1]; exact Pu.rt (numR_calls x.off W)
  have H2 : ∀ W, Calls Tryz.prog 73 #[.int .i64 x.total] W (Rt W (.bool u2)) := fun W => by rw [hu2]; exact Pu.rt (numR_calls x.total W)
  have hfl : (loadOf x.blocks).length ≤ 9000000000000000000 := by
    unfold loadOf
    cases hl : x.blocks.getLast? with
    | none => simp
    | some z => exact (hfit z (List.mem_of_getLast? hl)).2.1
  obtain ⟨r, hr⟩ : ∃ r, r = part7 x := ⟨_, rfl⟩
  rw [← hr]
  rw [part7, ← hu1, ← hu2] at hr
  have HR := hide hr
  have Hu1 := hide hu1
  replace H1 := hide H1
  replace H2 := hide H2
  clear h hfit hu1 hu2 hr
  by_cases hfl1 : bits .and .i64 x.flags 1 = 0
  · have Hr := hide (HR.out.trans (if_pos hfl1))
    clear HR
    go_enter Tryz.func89, Tryz.ntmps89
    go_wp2_with fail
    all_goals go_ret
    all_goals refine ⟨?_, by ((repeat' (first | exact Below.refl _ _ | assumption | (refine Below.drew ?_) | (refine Below.alloc ?_ ?_ _) | (refine Below.setCell ?_ ?_ _) | (refine Below.step (W := ?hW) ?hq ?_ ?_; case hq => assumption))) <;> (first | (simp; done) | (simp; omega) | (simp at *; omega)))⟩
    all_goals (rw [Hr.out]; simp [*])
    all_goals first | done | rfl
  · have Hr := hide (HR.out.trans (if_neg hfl1))
    clear HR
    go_enter Tryz.func89, Tryz.ntmps89
    go_wp2_with fail
    obtain ⟨W0, hW0⟩ : ∃ W0, w.alloc (.cells #[.int .i64 x.flags, .int .i64 x.sum, .int .i64 x.dest.scheme, .string (bs x.dest.node), .string (bs x.dest.service), .int .i64 x.dest.a, .int .i64 x.dest.b, .int .i64 x.source.scheme, .string (bs x.source.node), .string (bs x.source.service), .int .i64 x.source.a, .int .i64 x.source.b, .int .i64 x.report.scheme, .string (bs x.report.node), .string (bs x.report.service), .int .i64 x.report.a, .int .i64 x.report.b, .int .i64 x.time, .int .i64 x.seq, .int .i64 x.life, .int .i64 x.off, .int .i64 x.total, .slice a x.blocks.length cap] 35) = W0 := ⟨_, rfl⟩
    rw [hW0]
    have hB0 : Below w.heap.size w W0 := by rw [← hW0]; ((repeat' (first | exact Below.refl _ _ | assumption | (refine Below.drew ?_) | (refine Below.alloc ?_ ?_ _) | (refine Below.setCell ?_ ?_ _) | (refine Below.step (W := ?hW) ?hq ?_ ?_; case hq => assumption))) <;> (first | (simp; done) | (simp; omega) | (simp at *; omega)))
    have hz0 : W0.heap.size = w.heap.size + 1 := by rw [← hW0]; simp
    have Hx := hide (show W0.heap[w.heap.size]? = some (.cells #[.int .i64 x.flags, .int .i64 x.sum, .int .i64 x.dest.scheme, .string (bs x.dest.node), .string (bs x.dest.service), .int .i64 x.dest.a, .int .i64 x.dest.b, .int .i64 x.source.scheme, .string (bs x.source.node), .string (bs x.source.service), .int .i64 x.source.a, .int .i64 x.source.b, .int .i64 x.report.scheme, .string (bs x.report.node), .string (bs x.report.service), .int .i64 x.report.a, .int .i64 x.report.b, .int .i64 x.time, .int .i64 x.seq, .int .i64 x.life, .int .i64 x.off, .int .i64 x.total, .slice a x.blocks.length cap] 35 (0, 0)) by rw [← hW0]; exact World.alloc_heap_new _ _)
    clear hW0
    have q20 : W0.cell? ⟨w.heap.size, 20, none⟩ = some (.int .i64 x.off) := cellsOf Hx.out 20
    have q21 : W0.cell? ⟨w.heap.size, 21, none⟩ = some (.int .i64 x.total) := cellsOf Hx.out 21
    have hBl : w.heap.size < W0.heap.size := by omega
    have e20 := fun y : Ext W0.heap.size W0 => Ext.cell (n := W0.heap.size) hBl q20 y
    have e21 := fun y : Ext W0.heap.size W0 => Ext.cell (n := W0.heap.size) hBl q21 y
    have H3 := hide (show ∀ y : Ext W0.heap.size W0, Calls Tryz.prog 15 #[.agg #[.int .i64 x.flags, .int .i64 x.sum, .int .i64 x.dest.scheme, .string (bs x.dest.node), .string (bs x.dest.service), .int .i64 x.dest.a, .int .i64 x.dest.b, .int .i64 x.source.scheme, .string (bs x.source.node), .string (bs x.source.service), .int .i64 x.source.a, .int .i64 x.source.b, .int .i64 x.report.scheme, .string (bs x.report.node), .string (bs x.report.service), .int .i64 x.report.a, .int .i64 x.report.b, .int .i64 x.time, .int .i64 x.seq, .int .i64 x.life, .int .i64 x.off, .int .i64 x.total, .slice a x.blocks.length cap]] y.1 (Rt y.1 (.string (bs (loadOf x.blocks)))) from fun y => sevLoad_calls x rv a cap y.1 ((H.out.mono hB0).mono y.2))
    refine wp_region_tail (C := fun W => ∃ y : Ext W0.heap.size W0, W = y.1) 19 (by kernel_rfl) (by kernel_rfl) (inExt_drew _ _) ?_
    simp only [List.take_succ_cons, List.take_zero, List.drop_succ_cons, List.drop_zero]
    cases u1
    · repeat (first | (go_big_quiet_want; apply quiet_load_of (ty := 35); (case ho => exact rfl); (case hx => exact rfl); (case hr => rintro _ ⟨y, rfl⟩; apply load_row (n := 23); (case hheap => exact heapKept Hx.out y.2); (case hu => exact Tryz.underlying35); (case hd => exact rfl); (case hi => kernel_rfl); (case hc => exact rfl)); go_simp; go_big_quiet_on) | go_big_quiet_step (first | (go_at_call 73; with_reducible exact Ext.call _ (Nat.le_refl _) (H1.out _)) | (go_at_call 73; with_reducible exact Ext.call _ (Nat.le_refl _) (H2.out _)) | (go_at_call 15; with_reducible exact Ext.call _ (Nat.le_refl _) (H3.out _))))
      refine wpQuiet_nil ?_
      intro w_ hw_
      obtain ⟨⟨w_, hb_⟩, rfl⟩ := hw_
      go_wp2_with fail
      go_ret
      exact ⟨by rw [Hr.out]; rfl, hB0.trans (hb_.mono hB0.size)⟩
    · cases u2
      · repeat (first | (go_big_quiet_want; apply quiet_load_of (ty := 35); (case ho => exact rfl); (case hx => exact rfl); (case hr => rintro _ ⟨y, rfl⟩; apply load_row (n := 23); (case hheap => exact heapKept Hx.out y.2); (case hu => exact Tryz.underlying35); (case hd => exact rfl); (case hi => kernel_rfl); (case hc => exact rfl)); go_simp; go_big_quiet_on) | go_big_quiet_step (first | (go_at_call 73; with_reducible exact Ext.call _ (Nat.le_refl _) (H1.out _)) | (go_at_call 73; with_reducible exact Ext.call _ (Nat.le_refl _) (H2.out _)) | (go_at_call 15; with_reducible exact Ext.call _ (Nat.le_refl _) (H3.out _))))
        refine wpQuiet_nil ?_
        intro w_ hw_
        obtain ⟨⟨w_, hb_⟩, rfl⟩ := hw_
        go_wp2_with fail
        go_ret
        exact ⟨by rw [Hr.out]; rfl, hB0.trans (hb_.mono hB0.size)⟩
      · repeat (first | (go_big_quiet_want; apply quiet_load_of (ty := 35); (case ho => exact rfl); (case hx => exact rfl); (case hr => rintro _ ⟨y, rfl⟩; apply load_row (n := 23); (case hheap => exact heapKept Hx.out y.2); (case hu => exact Tryz.underlying35); (case hd => exact rfl); (case hi => kernel_rfl); (case hc => exact rfl)); go_simp; go_big_quiet_on) | go_big_quiet_step (first | (go_at_call 73; with_reducible exact Ext.call _ (Nat.le_refl _) (H1.out _)) | (go_at_call 73; with_reducible exact Ext.call _ (Nat.le_refl _) (H2.out _)) | (go_at_call 15; with_reducible exact Ext.call _ (Nat.le_refl _) (H3.out _))))
        refine wpQuiet_nil ?_
        intro w_ hw_
        obtain ⟨⟨w_, hb_⟩, rfl⟩ := hw_
        have hw64 : wrap64 (x.off + ((bs (loadOf x.blocks)).size : Int)) = x.off + (loadOf x.blocks).length := by
          have := Hu1.out
          simp only [numR, Bool.true_eq, Bool.and_eq_true, decide_eq_true_eq] at this
          rw [bs_size]
          unfold wrap64
          omega
        rw [hw64]
        go_wp2_with fail
        go_ret
        exact ⟨by rw [Hr.out]; rfl, hB0.trans (hb_.mono hB0.size)⟩

set_option maxRecDepth 100000 in
theorem sev6_calls (x : Seven) (rv : Nat → Value) (a : Option Addr) (cap B : Nat) (w : World) (hl : Laid w) (h : Lies w x.blocks rv a) (hfit : ∀ z ∈ x.blocks, blockFit z) (hx : w.heap[B]? = some (.cells #[.int .i64 x.flags, .int .i64 x.sum, .int .i64 x.dest.scheme, .string (bs x.dest.node), .string (bs x.dest.service), .int .i64 x.dest.a, .int .i64 x.dest.b, .int .i64 x.source.scheme, .string (bs x.source.node), .string (bs x.source.service), .int .i64 x.source.a, .int .i64 x.source.b, .int .i64 x.report.scheme, .string (bs x.report.node), .string (bs x.report.service), .int .i64 x.report.a, .int .i64 x.report.b, .int .i64 x.time, .int .i64 x.seq, .int .i64 x.life, .int .i64 x.off, .int .i64 x.total, .slice a x.blocks.length cap] 35 (0, 0))) :
    Calls Tryz.prog 87 #[.pointer (some ⟨B, 0, none⟩)] w (Rt w (.bool (sev6 x))) := by
  have H := hide h
  have Hfit := hide hfit
  have Hx := hide hx
  have H1 := hide (areBlocks_calls x rv a cap w hl h hfit)
  clear h hfit hx hl
  go_enter Tryz.func87, Tryz.ntmps87
  go_wp2_with (first | (apply wpList_load_of (ty := 35); (case hgd => exact rfl); (case ho => exact rfl); (case hx => exact rfl); (case hr => apply load_row (n := 23); (case hheap => exact Hx.out); (case hu => exact Tryz.underlying35); (case hd => exact rfl); (case hi => kernel_rfl); (case hc => exact rfl))) | (apply wpList_load_w (ty := 35); (case hgd => exact rfl); (case ho => exact rfl); (case hx => exact rfl); (case hr => apply load_row (n := 23); (case hheap => exact Hx.out); (case hu => exact Tryz.underlying35); (case hd => exact rfl); (case hi => kernel_rfl); (case hc => exact rfl))))
  refine (show Calls _ _ _ _ _ from H1.out).mono ?_
  rintro e_ w1 ⟨rfl, hb⟩
  have Hx1 := hide (heapKept Hx.out hb)
  have H2 := hide (sevPart_calls x rv a cap w1 (H.out.mono hb) Hfit.out)
  obtain ⟨u, hu⟩ : ∃ u, u = blocks7 x.blocks := ⟨_, rfl⟩
  rw [← hu]
  have Hu := hide hu
  clear hu
  cases u
  · go_wp2_with fail
    go_ret
    exact ⟨by rw [sev6, ← Hu.out]; rfl, hb⟩
  · go_wp2_with (first | (apply wpList_load_of (ty := 35); (case hgd => exact rfl); (case ho => exact rfl); (case hx => exact rfl); (case hr => apply load_row (n := 23); (case hheap => exact Hx1.out); (case hu => exact Tryz.underlying35); (case hd => exact rfl); (case hi => kernel_rfl); (case hc => exact rfl))) | (apply wpList_load_w (ty := 35); (case hgd => exact rfl); (case ho => exact rfl); (case hx => exact rfl); (case hr => apply load_row (n := 23); (case hheap => exact Hx1.out); (case hu => exact Tryz.underlying35); (case hd => exact rfl); (case hi => kernel_rfl); (case hc => exact rfl))))
    refine (show Calls _ _ _ _ _ from H2.out).mono ?_
    rintro e_ w2 ⟨rfl, hb2⟩
    go_wp2_with fail
    go_ret
    exact ⟨by rw [sev6, ← Hu.out]; rfl, hb.trans (hb2.mono hb.size)⟩

set_option maxRecDepth 100000 in
theorem sev4_calls (x : Seven) (bv : Value) (B : Nat) (w : World) (hbv : bv.oneCell' = true) (hx : w.heap[B]? = some (.cells #[.int .i64 x.flags, .int .i64 x.sum, .int .i64 x.dest.scheme, .string (bs x.dest.node), .string (bs x.dest.service), .int .i64 x.dest.a, .int .i64 x.dest.b, .int .i64 x.source.scheme, .string (bs x.source.node), .string (bs x.source.service), .int .i64 x.source.a, .int .i64 x.source.b, .int .i64 x.report.scheme, .string (bs x.report.node), .string (bs x.report.service), .int .i64 x.report.a, .int .i64 x.report.b, .int .i64 x.time, .int .i64 x.seq, .int .i64 x.life, .int .i64 x.off, .int .i64 x.total, bv] 35 (0, 0))) (hfit : ∀ e ∈ [x.dest, x.source, x.report], eidFit e) :
    Calls Tryz.prog 83 #[.pointer (some ⟨B, 0, none⟩)] w (Rt w (.bool (sev4 x))) := by
  have p2 := cellsOf hx 2
  have p3 := cellsOf hx 3
  have p4 := cellsOf hx 4
  have p5 := cellsOf hx 5
  have p6 := cellsOf hx 6
  simp only [List.getElem?_toArray, List.getElem?_cons_succ, List.getElem?_cons_zero] at p2 p3 p4 p5 p6
  have Hx := hide hx
  have f1 := hfit x.dest (by simp)
  have f2 := hfit x.source (by simp)
  have f3 := hfit x.report (by simp)
  have H1 := hide (eidRight_calls x.dest w f1.1 f1.2)
  have H2 := hide (fun W => eidRight_calls x.source W f2.1 f2.2)
  have H3 := hide (fun W => eidRight_calls x.report W f3.1 f3.2)
  obtain ⟨u1, hu1⟩ : ∃ u, u = eidR x.dest := ⟨_, rfl⟩
  obtain ⟨u2, hu2⟩ : ∃ u, u = eidR x.source := ⟨_, rfl⟩
  obtain ⟨u3, hu3⟩ : ∃ u, u = eidR x.report := ⟨_, rfl⟩
  rw [← hu1] at H1
  rw [← hu2] at H2
  rw [← hu3] at H3
  have Hr := hide (show sev4 x = (u1 && u2 && u3 && open7 x) by rw [sev4, hu1, hu2, hu3])
  clear hx hfit f1 f2 f3 hu1 hu2 hu3
  go_enter Tryz.func83, Tryz.ntmps83
  go_wp2_with fail
  refine (show Calls _ _ _ _ _ from H1.out).mono ?_
  rintro e_ w1 ⟨rfl, hb⟩
  have hx1 := heapKept Hx.out hb
  have p7 := cellsOf hx1 7
  have p8 := cellsOf hx1 8
  have p9 := cellsOf hx1 9
  have p10 := cellsOf hx1 10
  have p11 := cellsOf hx1 11
  simp only [List.getElem?_toArray, List.getElem?_cons_succ, List.getElem?_cons_zero] at p7 p8 p9 p10 p11
  have Hx1 := hide hx1
  clear p2 p3 p4 p5 p6 H1 hx1 Hx
  cases u1
  · go_wp2_with fail
    go_ret
    exact ⟨by rw [Hr.out]; rfl, hb⟩
  · go_wp2_with fail
    refine (show Calls _ _ _ _ _ from H2.out w1).mono ?_
    rintro e_ w2 ⟨rfl, hb2⟩
    have hx2 := heapKept Hx1.out hb2
    have p12 := cellsOf hx2 12
    have p13 := cellsOf hx2 13
    have p14 := cellsOf hx2 14
    have p15 := cellsOf hx2 15
    have p16 := cellsOf hx2 16
    simp only [List.getElem?_toArray, List.getElem?_cons_succ, List.getElem?_cons_zero] at p12 p13 p14 p15 p16
    have Hx2 := hide hx2
    have hb' := hb.trans (hb2.mono hb.size)
    clear p7 p8 p9 p10 p11 H2 hx2 Hx1 hb hb2
    cases u2
    · go_wp2_with fail
      go_ret
      exact ⟨by rw [Hr.out]; rfl, hb'⟩
    · go_wp2_with fail
      refine (show Calls _ _ _ _ _ from H3.out w2).mono ?_
      rintro e_ w3 ⟨rfl, hb3⟩
      have Hx3 := hide (heapKept Hx2.out hb3)
      have hb'' := hb'.trans (hb3.mono hb'.size)
      have H4 := hide (isOpen_calls x bv w3 hbv)
      clear p12 p13 p14 p15 p16 H3 Hx2 hb' hb3
      cases u3
      · go_wp2_with fail
        go_ret
        exact ⟨by rw [Hr.out]; rfl, hb''⟩
      · go_wp2_with (first | (apply wpList_load_of (ty := 35); (case hgd => exact rfl); (case ho => exact rfl); (case hx => exact rfl); (case hr => apply load_row (n := 23); (case hheap => exact Hx3.out); (case hu => exact Tryz.underlying35); (case hd => exact rfl); (case hi => kernel_rfl); (case hc => exact rfl))) | (apply wpList_load_w (ty := 35); (case hgd => exact rfl); (case ho => exact rfl); (case hx => exact rfl); (case hr => apply load_row (n := 23); (case hheap => exact Hx3.out); (case hu => exact Tryz.underlying35); (case hd => exact rfl); (case hi => kernel_rfl); (case hc => exact rfl))))
        refine (show Calls _ _ _ _ _ from H4.out).mono ?_
        rintro e_ w4 ⟨rfl, hb4⟩
        go_wp2_with fail
        go_ret
        exact ⟨by rw [Hr.out]; rfl, hb''.trans (hb4.mono hb''.size)⟩

set_option maxRecDepth 100000 in
theorem sevRight_calls (x : Seven) (rv : Nat → Value) (a : Option Addr) (cap : Nat) (w : World) (hl : Laid w) (h : Lies w x.blocks rv a) (hfit : ∀ z ∈ x.blocks, blockFit z) (hnames : ∀ e ∈ [x.dest, x.source, x.report], eidFit e) :
    Calls Tryz.prog 28 #[.agg #[.int .i64 x.flags, .int .i64 x.sum, .int .i64 x.dest.scheme, .string (bs x.dest.node), .string (bs x.dest.service), .int .i64 x.dest.a, .int .i64 x.dest.b, .int .i64 x.source.scheme, .string (bs x.source.node), .string (bs x.source.service), .int .i64 x.source.a, .int .i64 x.source.b, .int .i64 x.report.scheme, .string (bs x.report.node), .string (bs x.report.service), .int .i64 x.report.a, .int .i64 x.report.b, .int .i64 x.time, .int .i64 x.seq, .int .i64 x.life, .int .i64 x.off, .int .i64 x.total, .slice a x.blocks.length cap]] w (Rt w (.bool (sevR x))) := by
  have Hfit := hide hfit
  have Hnames := hide hnames
  have H := hide h
  have Hl := hide hl
  obtain ⟨n, hn⟩ : ∃ n, n = x.blocks.length := ⟨_, rfl⟩
  rw [← hn]
  have Hn := hide hn
  clear hfit hnames h hn hl
  go_enter Tryz.func28, Tryz.ntmps28
  go_wp2_with fail
  obtain ⟨W3, hW3⟩ : ∃ W3, (w.alloc (.cells #[.int .i64 x.flags, .int .i64 x.sum, .int .i64 x.dest.scheme, .string (bs x.dest.node), .string (bs x.dest.service), .int .i64 x.dest.a, .int .i64 x.dest.b, .int .i64 x.source.scheme, .string (bs x.source.node), .string (bs x.source.service), .int .i64 x.source.a, .int .i64 x.source.b, .int .i64 x.report.scheme, .string (bs x.report.node), .string (bs x.report.service), .int .i64 x.report.a, .int .i64 x.report.b, .int .i64 x.time, .int .i64 x.seq, .int .i64 x.life, .int .i64 x.off, .int .i64 x.total, .slice a n cap] 35)).alloc (.cells #[.func (.func 79) #[] #[.pointer (some ⟨w.heap.size, 0, none⟩)], .func (.func 81) #[] #[.pointer (some ⟨w.heap.size, 0, none⟩)], .func (.func 82) #[] #[.pointer (some ⟨w.heap.size, 0, none⟩)], .func (.func 83) #[] #[.pointer (some ⟨w.heap.size, 0, none⟩)], .func (.func 86) #[] #[.pointer (some ⟨w.heap.size, 0, none⟩)], .func (.func 87) #[] #[.pointer (some ⟨w.heap.size, 0, none⟩)]] 22) = W3 := ⟨_, rfl⟩
  rw [hW3]
  have hB3 : Below w.heap.size w W3 := by rw [← hW3]; ((repeat' (first | exact Below.refl _ _ | assumption | (refine Below.drew ?_) | (refine Below.alloc ?_ ?_ _) | (refine Below.setCell ?_ ?_ _) | (refine Below.step (W := ?hW) ?hq ?_ ?_; case hq => assumption))) <;> (first | (simp; done) | (simp; omega) | (simp at *; omega)))
  have hz3 : W3.heap.size = w.heap.size + 2 := by rw [← hW3]; simp
  have hX : W3.heap[w.heap.size]? = some (.cells #[.int .i64 x.flags, .int .i64 x.sum, .int .i64 x.dest.scheme, .string (bs x.dest.node), .string (bs x.dest.service), .int .i64 x.dest.a, .int .i64 x.dest.b, .int .i64 x.source.scheme, .string (bs x.source.node), .string (bs x.source.service), .int .i64 x.source.a, .int .i64 x.source.b, .int .i64 x.report.scheme, .string (bs x.report.node), .string (bs x.report.service), .int .i64 x.report.a, .int .i64 x.report.b, .int .i64 x.time, .int .i64 x.seq, .int .i64 x.life, .int .i64 x.off, .int .i64 x.total, .slice a n cap] 35 (0, 0)) := by rw [← hW3]; exact heapNew (u := w) (by ((repeat' (first | exact Below.refl _ _ | assumption | (refine Below.drew ?_) | (refine Below.alloc ?_ ?_ _) | (refine Below.setCell ?_ ?_ _) | (refine Below.step (W := ?hW) ?hq ?_ ?_; case hq => assumption))) <;> (first | (simp; done) | (simp; omega) | (simp at *; omega)))) rfl
  have fq := cellsOf (heapNew (W := W3) (o := .cells #[.func (.func 79) #[] #[.pointer (some ⟨w.heap.size, 0, none⟩)], .func (.func 81) #[] #[.pointer (some ⟨w.heap.size, 0, none⟩)], .func (.func 82) #[] #[.pointer (some ⟨w.heap.size, 0, none⟩)], .func (.func 83) #[] #[.pointer (some ⟨w.heap.size, 0, none⟩)], .func (.func 86) #[] #[.pointer (some ⟨w.heap.size, 0, none⟩)], .func (.func 87) #[] #[.pointer (some ⟨w.heap.size, 0, none⟩)]] 22) (u := w.alloc (.cells #[.int .i64 x.flags, .int .i64 x.sum, .int .i64 x.dest.scheme, .string (bs x.dest.node), .string (bs x.dest.service), .int .i64 x.dest.a, .int .i64 x.dest.b, .int .i64 x.source.scheme, .string (bs x.source.node), .string (bs x.source.service), .int .i64 x.source.a, .int .i64 x.source.b, .int .i64 x.report.scheme, .string (bs x.report.node), .string (bs x.report.service), .int .i64 x.report.a, .int .i64 x.report.b, .int .i64 x.time, .int .i64 x.seq, .int .i64 x.life, .int .i64 x.off, .int .i64 x.total, .slice a n cap] 35)) (n := w.heap.size + 1) (by rw [← hW3]; exact Below.refl _ _) (by simp))
  have f1 : W3.cell? ⟨w.heap.size + 1, 0 + 0, none⟩ = some (.func (.func 79) #[] #[.pointer (some ⟨w.heap.size, 0, none⟩)]) := fq 0
  have f2 : W3.cell? ⟨w.heap.size + 1, 0 + (0 + 1), none⟩ = some (.func (.func 81) #[] #[.pointer (some ⟨w.heap.size, 0, none⟩)]) := fq 1
  have f3 : W3.cell? ⟨w.heap.size + 1, 0 + (0 + 1 + 1), none⟩ = some (.func (.func 82) #[] #[.pointer (some ⟨w.heap.size, 0, none⟩)]) := fq 2
  have f4 : W3.cell? ⟨w.heap.size + 1, 0 + (0 + 1 + 1 + 1), none⟩ = some (.func (.func 83) #[] #[.pointer (some ⟨w.heap.size, 0, none⟩)]) := fq 3
  have f5 : W3.cell? ⟨w.heap.size + 1, 0 + (0 + 1 + 1 + 1 + 1), none⟩ = some (.func (.func 86) #[] #[.pointer (some ⟨w.heap.size, 0, none⟩)]) := fq 4
  have f6 : W3.cell? ⟨w.heap.size + 1, 0 + (0 + 1 + 1 + 1 + 1 + 1), none⟩ = some (.func (.func 87) #[] #[.pointer (some ⟨w.heap.size, 0, none⟩)]) := fq 5
  clear hW3 fq
  have hL3 := H.out.mono hB3
  have hD3 := Hl.out.mono hB3
  have key : ∀ W, Below W3.heap.size W3 W → W.heap[w.heap.size]? = some (.cells #[.int .i64 x.flags, .int .i64 x.sum, .int .i64 x.dest.scheme, .string (bs x.dest.node), .string (bs x.dest.service), .int .i64 x.dest.a, .int .i64 x.dest.b, .int .i64 x.source.scheme, .string (bs x.source.node), .string (bs x.source.service), .int .i64 x.source.a, .int .i64 x.source.b, .int .i64 x.report.scheme, .string (bs x.report.node), .string (bs x.report.service), .int .i64 x.report.a, .int .i64 x.report.b, .int .i64 x.time, .int .i64 x.seq, .int .i64 x.life, .int .i64 x.off, .int .i64 x.total, .slice a n cap] 35 (0, 0)) ∧ Lies W x.blocks rv a ∧ Laid W := fun W h =>
    ⟨heapKept hX h, hL3.mono h, hD3.mono h⟩
  refine (seven_areAll [(79, #[.pointer (some ⟨w.heap.size, 0, none⟩)], sev1 x), (81, #[.pointer (some ⟨w.heap.size, 0, none⟩)], sev2 x), (82, #[.pointer (some ⟨w.heap.size, 0, none⟩)], sev3 x), (83, #[.pointer (some ⟨w.heap.size, 0, none⟩)], sev4 x), (86, #[.pointer (some ⟨w.heap.size, 0, none⟩)], sev5 x), (87, #[.pointer (some ⟨w.heap.size, 0, none⟩)], sev6 x)]
    (w.heap.size + 1) 0 6 6 W3 (by omega) rfl (by simp) ?h2).mono ?h3
  case h2 =>
    refine ⟨f1, enters_of Tryz.func79 (by kernel_rfl) rfl, fun W h => sev1_calls x _ W (key W h).2.2 (cellsOf (key W h).1 0) (cellsOf (key W h).1 1), fun _ => ?_⟩
    refine ⟨f2, enters_of Tryz.func81 (by kernel_rfl) rfl, fun W h => Pu.rt (sev2_calls x _ W (cellsOf (key W h).1 0)), fun _ => ?_⟩
    refine ⟨f3, enters_of Tryz.func82 (by kernel_rfl) rfl, fun W h => Pu.rt (sev3_calls x _ W (cellsOf (key W h).1 0)), fun _ => ?_⟩
    refine ⟨f4, enters_of Tryz.func83 (by kernel_rfl) rfl, fun W h => sev4_calls x _ _ W rfl (key W h).1 Hnames.out, fun _ => ?_⟩
    refine ⟨f5, enters_of Tryz.func86 (by kernel_rfl) rfl, fun W h => Pu.rt (sev5_calls x _ W (cellsOf (key W h).1 17) (cellsOf (key W h).1 18) (cellsOf (key W h).1 19)), fun _ => ?_⟩
    exact ⟨f6, enters_of Tryz.func87 (by kernel_rfl) rfl, fun W h => sev6_calls x rv a cap _ W (key W h).2.2 (key W h).2.1 Hfit.out (by rw [← Hn.out]; exact (key W h).1), fun _ => trivial⟩
  case h3 =>
    rintro e w1 ⟨rfl, hb⟩
    clear key
    go_wp2_with fail
    go_ret
    exact ⟨by simp [sevR, Bool.and_assoc], hB3.trans (hb.mono (by omega))⟩
end Go.Proofs.YtllfaffbaijgfaaGreatDoor

namespace Go.Proofs.YtllfaffbaijgfaaGreatDoor
open Go Go.RowKit Go.Shelf

/-- all that is laid -/
structure Lay (S T N : Nat → Addr) (w : World) : Prop where
  sents : Sents S w
  head : HeadAt T w
  pairs : PairsAt w
  err : ErrAt w
  nums : NumsAt N w
  laid : Laid w
theorem Lay.mono {S T N : Nat → Addr} {w w' : World} (h : Lay S T N w) (hb : Below w.heap.size w w') : Lay S T N w' :=
  ⟨h.sents.mono hb, h.head.mono hb, heapKept h.pairs hb, (hb.cell (p := ⟨7, 0, none⟩) (cellLt h.err)).trans h.err, h.nums.mono hb, h.laid.mono hb⟩

def nilV (_ : Nat) : Value := .slice none 0 0
theorem blocksFlat_at : ∀ {l : List Block} {i : Nat} {x : Block} {j : Nat}, l[i]? = some x → j < 6 → (blocksFlat l)[i * 6 + j]? = (bcells x)[j]?
  | [], _, _, _, h, _ => by cases h
  | y :: l, 0, x, j, h, hj => by
    cases h
    rw [show blocksFlat (y :: l) = bcells y ++ blocksFlat l by simp [blocksFlat], Nat.zero_mul, Nat.zero_add, List.getElem?_append_left (by show j < 6; exact hj)]
  | y :: l, i + 1, x, j, h, hj => by
    rw [show blocksFlat (y :: l) = bcells y ++ blocksFlat l by simp [blocksFlat], List.getElem?_append_right (by show 6 ≤ _; omega), show (i + 1) * 6 + j - (bcells y).length = i * 6 + j by show (i + 1) * 6 + j - 6 = _; omega]
    exact blocksFlat_at (by simpa using h) hj
/-- a row of blocks, as a bundle's -/
theorem lies_of_row {B : Nat} {l : List Block} {v : Value} {W : World} (h : RowV B l.length (blocksFlat l) v W) (hr : ∀ x ∈ l, x.refs = []) (hn : 0 < l.length) (hl : l.length ≤ 1000) : ∃ a cap, v = .slice a l.length cap ∧ Lies W l nilV a ∧ ∀ b o, a = some ⟨b, o, none⟩ → B ≤ b := by
  rcases h.2 with ⟨hv, h0⟩ | ⟨g, cap, cur, rfl, hg, hh, hnc, hcm, hcs, ht⟩
  · rw [h0] at hn; exact absurd hn (Nat.lt_irrefl _)
  · refine ⟨some ⟨g, 0, none⟩, cap, rfl, ⟨by omega, fun _ => ⟨g, 0, rfl, (Array.getElem?_eq_some_iff.1 hh).1, fun i x hx => ?_⟩, fun i x hx => ?_⟩, fun b o e => by cases e; exact hg⟩
    · have hc : ∀ j, j < 6 → W.cell? ⟨g, 0 + i * 6 + j, none⟩ = (bcells x)[j]? := fun j hj => by
        rw [Nat.zero_add, ← blocksFlat_at hx hj, ← ht, List.getElem?_take_of_lt (by have := (List.getElem?_eq_some_iff.1 hx).1; omega)]
        rw [cellsOf hh]; simp
      exact ⟨hc 0 (by omega), hc 1 (by omega), hc 2 (by omega), hc 3 (by omega), hc 4 (by omega), hc 5 (by omega)⟩
    · rw [hr x (List.mem_of_getElem? hx)]
      exact ⟨none, 0, rfl, fun h => absurd h (Nat.lt_irrefl _)⟩

def ipn11 : Eid := ⟨2, [], [], 1, 1⟩
def sb : Block := ⟨1, 0, 8, 0, [], [104, 105]⟩
def sx : Six := ⟨16, noEid, ipn11, noEid, noEid, 5, 0, 9, 0, 0, [sb]⟩
def ub : Block := ⟨1, 1, 0, 0, [], [104, 105]⟩
def uy : Seven := upS sx [ub]
def dz : Six := dnS uy [sb]
theorem fit_sb : ∀ z ∈ [sb], blockFit z := fun z hz => by
  simp only [List.mem_cons, List.not_mem_nil, or_false] at hz
  subst hz
  exact ⟨by decide, by decide, fun e he => by cases he⟩
theorem fit_ub : ∀ z ∈ [ub], blockFit z := fun z hz => by
  simp only [List.mem_cons, List.not_mem_nil, or_false] at hz
  subst hz
  exact ⟨by decide, by decide, fun e he => by cases he⟩
theorem fit_names : ∀ e ∈ [noEid, ipn11, noEid, noEid], eidFit e := fun e he => by
  simp only [List.mem_cons, List.not_mem_nil, or_false] at he
  rcases he with rfl | rfl | rfl | rfl <;> exact ⟨by decide, by decide⟩
theorem fit_names3 : ∀ e ∈ [noEid, ipn11, noEid], eidFit e := fun e he => by
  simp only [List.mem_cons, List.not_mem_nil, or_false] at he
  rcases he with rfl | rfl | rfl <;> exact ⟨by decide, by decide⟩
theorem right_sx : sixR sx = true := by kernel_rfl
def sx0 : Six := { sx with flags := 0 }
def uy1 : Seven := { uy with time := 5001 }
theorem right_sx0 : sixR sx0 = true := by kernel_rfl
theorem right_uy : sevR uy = true := by kernel_rfl
theorem right_uyt : sevR uy1 = true := by kernel_rfl
theorem right_dz : sixR dz = true := by kernel_rfl
end Go.Proofs.YtllfaffbaijgfaaGreatDoor
