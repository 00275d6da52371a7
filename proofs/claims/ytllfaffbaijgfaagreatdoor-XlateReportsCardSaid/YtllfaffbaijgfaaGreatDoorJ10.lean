/- six.Right. seven.blocks, seven.Load. -/
import Derived.Test.YtllfaffbaijgfaaGreatDoorJ09
set_option linter.unusedVariables false
set_option linter.unusedSimpArgs false
namespace Go.Proofs.YtllfaffbaijgfaaGreatDoor
open Go Go.RowKit Go.Shelf

def six7 (x : Six) : Bool := if bits .and .i64 x.flags 1 = 0 then decide (x.off = 0) && decide (x.total = 0) else numR x.off && numR x.total && decide (x.off + (loadOf x.blocks).length ≤ x.total)

set_option maxRecDepth 100000 in
theorem six7_calls (x : Six) (rv : Nat → Value) (a : Option Addr) (cap B : Nat) (w : World) (h : Lies w x.blocks rv a) (hfit : ∀ z ∈ x.blocks, blockFit z) (hx : w.heap[B]? = some (.cells #[.int .i64 x.flags, .int .i64 x.dest.scheme, .string (bs x.dest.node), .string (bs x.dest.service), .int .i64 x.dest.a, .int .i64 x.dest.b, .int .i64 x.source.scheme, .string (bs x.source.node), .string (bs x.source.service), .int .i64 x.source.a, .int .i64 x.source.b, .int .i64 x.report.scheme, .string (bs x.report.node), .string (bs x.report.service), .int .i64 x.report.a, .int .i64 x.report.b, .int .i64 x.custodian.scheme, .string (bs x.custodian.node), .string (bs x.custodian.service), .int .i64 x.custodian.a, .int .i64 x.custodian.b, .int .i64 x.time, .int .i64 x.seq, .int .i64 x.life, .int .i64 x.off, .int .i64 x.total, .slice a x.blocks.length cap] 32 (0, 0))) :
    Calls Tryz.prog 77 #[.pointer (some ⟨B, 0, none⟩)] w (Rt w (.bool (six7 x))) := by
  have q0 := cellsOf hx 0
  have q24 := cellsOf hx 24
  have q25 := cellsOf hx 25
  simp only [List.getElem?_toArray, List.getElem?_cons_succ, List.getElem?_cons_zero] at q0 q24 q25
  have hBl : B < w.heap.size := (Array.getElem?_eq_some_iff.1 hx).1
  have Hx := hide hx
  have H := hide h
  obtain ⟨u1, hu1⟩ : ∃ u, u = numR x.off := ⟨_, rfl⟩
  obtain ⟨u2, hu2⟩ : ∃ u, u = numR x.total := ⟨_, rfl⟩
  have H1 : ∀ W, Calls Tryz.prog 73 #[.int .i64 x.off] W (Rt W (.bool u1)) := fun W => by rw [hu1]; exact Pu.rt (numR_calls x.off W)
  have H2 : ∀ W, Calls Tryz.prog 73 #[.int .i64 x.total] W (Rt W (.bool u2)) := fun W => by rw [hu2]; exact Pu.rt (numR_calls x.total W)
  have H3 : ∀ y : Ext w.heap.size w, Calls Tryz.prog 16 #[.agg #[.int .i64 x.flags, .int .i64 x.dest.scheme, .string (bs x.dest.node), .string (bs x.dest.service), .int .i64 x.dest.a, .int .i64 x.dest.b, .int .i64 x.source.scheme, .string (bs x.source.node), .string (bs x.source.service), .int .i64 x.source.a, .int .i64 x.source.b, .int .i64 x.report.scheme, .string (bs x.report.node), .string (bs x.report.service), .int .i64 x.report.a, .int .i64 x.report.b, .int .i64 x.custodian.scheme, .string (bs x.custodian.node), .string (bs x.custodian.service), .int .i64 x.custodian.a, .int .i64 x.custodian.b, .int .i64 x.time, .int .i64 x.seq, .int .i64 x.life, .int .i64 x.off, .int .i64 x.total, .slice a x.blocks.length cap]] y.1 (Rt y.1 (.string (bs (loadOf x.blocks)))) := fun y => sixLoad_calls x rv a cap y.1 (H.out.mono y.2)
  replace H1 := hide H1
  replace H2 := hide H2
  replace H3 := hide H3
  have hfl : (loadOf x.blocks).length ≤ 9000000000000000000 := by
    unfold loadOf
    cases hl : x.blocks.getLast? with
    | none => simp
    | some z => exact (hfit z (List.mem_of_getLast? hl)).2.1
  have e0 := fun y : Ext w.heap.size w => Ext.cell (n := w.heap.size) hBl q0 y
  have e24 := fun y : Ext w.heap.size w => Ext.cell (n := w.heap.size) hBl q24 y
  have e25 := fun y : Ext w.heap.size w => Ext.cell (n := w.heap.size) hBl q25 y
  obtain ⟨r, hr⟩ : ∃ r, r = six7 x := ⟨_, rfl⟩
  rw [← hr]
  rw [six7, ← hu1, ← hu2] at hr
  have HR := hide hr
  have Hu1 := hide hu1
  clear hx h hfit hu1 hu2 hr
  by_cases hfl1 : bits .and .i64 x.flags 1 = 0
  · have Hr := hide (HR.out.trans (if_pos hfl1))
    clear HR
    go_enter Tryz.func77, Tryz.ntmps77
    go_wp2_with fail
    all_goals go_ret
    all_goals refine ⟨?_, Below.refl _ _⟩
    all_goals (rw [Hr.out]; simp [*])
    all_goals first | done | rfl
  · have Hr := hide (HR.out.trans (if_neg hfl1))
    clear HR
    go_enter Tryz.func77, Tryz.ntmps77
    go_wp2_with fail
    refine wp_region_tail (C := fun W => ∃ y : Ext w.heap.size w, W = y.1) 19 (by kernel_rfl) (by kernel_rfl) (inExt_drew _ _) ?_
    simp only [List.take_succ_cons, List.take_zero, List.drop_succ_cons, List.drop_zero]
    cases u1
    · repeat (first | (go_big_quiet_want; apply quiet_load_of (ty := 32); (case ho => exact rfl); (case hx => exact rfl); (case hr => rintro _ ⟨y, rfl⟩; apply load_row (n := 27); (case hheap => exact heapKept Hx.out y.2); (case hu => exact Tryz.underlying32); (case hd => exact rfl); (case hi => kernel_rfl); (case hc => exact rfl)); go_simp; go_big_quiet_on) | go_big_quiet_step (first | (go_at_call 73; with_reducible exact Ext.call _ (Nat.le_refl _) (H1.out _)) | (go_at_call 73; with_reducible exact Ext.call _ (Nat.le_refl _) (H2.out _)) | (go_at_call 16; with_reducible exact Ext.call _ (Nat.le_refl _) (H3.out _))))
      refine wpQuiet_nil ?_
      intro w_ hw_
      obtain ⟨⟨w_, hb_⟩, rfl⟩ := hw_
      go_wp2_with fail
      go_ret
      exact ⟨by rw [Hr.out]; rfl, hb_⟩
    · cases u2
      · repeat (first | (go_big_quiet_want; apply quiet_load_of (ty := 32); (case ho => exact rfl); (case hx => exact rfl); (case hr => rintro _ ⟨y, rfl⟩; apply load_row (n := 27); (case hheap => exact heapKept Hx.out y.2); (case hu => exact Tryz.underlying32); (case hd => exact rfl); (case hi => kernel_rfl); (case hc => exact rfl)); go_simp; go_big_quiet_on) | go_big_quiet_step (first | (go_at_call 73; with_reducible exact Ext.call _ (Nat.le_refl _) (H1.out _)) | (go_at_call 73; with_reducible exact Ext.call _ (Nat.le_refl _) (H2.out _)) | (go_at_call 16; with_reducible exact Ext.call _ (Nat.le_refl _) (H3.out _))))
        refine wpQuiet_nil ?_
        intro w_ hw_
        obtain ⟨⟨w_, hb_⟩, rfl⟩ := hw_
        go_wp2_with fail
        go_ret
        exact ⟨by rw [Hr.out]; rfl, hb_⟩
      · repeat (first | (go_big_quiet_want; apply quiet_load_of (ty := 32); (case ho => exact rfl); (case hx => exact rfl); (case hr => rintro _ ⟨y, rfl⟩; apply load_row (n := 27); (case hheap => exact heapKept Hx.out y.2); (case hu => exact Tryz.underlying32); (case hd => exact rfl); (case hi => kernel_rfl); (case hc => exact rfl)); go_simp; go_big_quiet_on) | go_big_quiet_step (first | (go_at_call 73; with_reducible exact Ext.call _ (Nat.le_refl _) (H1.out _)) | (go_at_call 73; with_reducible exact Ext.call _ (Nat.le_refl _) (H2.out _)) | (go_at_call 16; with_reducible exact Ext.call _ (Nat.le_refl _) (H3.out _))))
        refine wpQuiet_nil ?_
        intro w_ hw_
        obtain ⟨⟨w_, hb_⟩, rfl⟩ := hw_
        have hw64 : wrap64 (x.off + ((bs (loadOf x.blocks)).size : Int)) = x.off + (loadOf x.blocks).length := by
          have := Hu1.out
          simp only [numR, Bool.true_eq, Bool.and_eq_true, decide_eq_true_eq] at this
          rw [bs_size]
          unfold wrap64
          omega
        rw [hw64]
        go_wp2_with fail
        go_ret
        exact ⟨by rw [Hr.out]; rfl, hb_⟩

def sixR (x : Six) : Bool := six1 x && six2 x && six3 x && six4 x && six5 x && blocks6 x.blocks && six7 x

set_option maxRecDepth 100000 in
theorem sixRight_calls (x : Six) (rv : Nat → Value) (a : Option Addr) (cap : Nat) (w : World) (h : Lies w x.blocks rv a) (hfit : ∀ z ∈ x.blocks, blockFit z) (hnames : ∀ e ∈ [x.dest, x.source, x.report, x.custodian], eidFit e) :
    Calls Tryz.prog 27 #[.agg #[.int .i64 x.flags, .int .i64 x.dest.scheme, .string (bs x.dest.node), .string (bs x.dest.service), .int .i64 x.dest.a, .int .i64 x.dest.b, .int .i64 x.source.scheme, .string (bs x.source.node), .string (bs x.source.service), .int .i64 x.source.a, .int .i64 x.source.b, .int .i64 x.report.scheme, .string (bs x.report.node), .string (bs x.report.service), .int .i64 x.report.a, .int .i64 x.report.b, .int .i64 x.custodian.scheme, .string (bs x.custodian.node), .string (bs x.custodian.service), .int .i64 x.custodian.a, .int .i64 x.custodian.b, .int .i64 x.time, .int .i64 x.seq, .int .i64 x.life, .int .i64 x.off, .int .i64 x.total, .slice a x.blocks.length cap]] w (Rt w (.bool (sixR x))) := by
  have Hfit := hide hfit
  have Hnames := hide hnames
  have H := hide h
  obtain ⟨n, hn⟩ : ∃ n, n = x.blocks.length := ⟨_, rfl⟩
  rw [← hn]
  have Hn := hide hn
  clear hfit hnames h hn
  go_enter Tryz.func27, Tryz.ntmps27
  go_wp2_with fail
  obtain ⟨W3, hW3⟩ : ∃ W3, ((w.alloc (.cells #[.int .i64 x.flags, .int .i64 x.dest.scheme, .string (bs x.dest.node), .string (bs x.dest.service), .int .i64 x.dest.a, .int .i64 x.dest.b, .int .i64 x.source.scheme, .string (bs x.source.node), .string (bs x.source.service), .int .i64 x.source.a, .int .i64 x.source.b, .int .i64 x.report.scheme, .string (bs x.report.node), .string (bs x.report.service), .int .i64 x.report.a, .int .i64 x.report.b, .int .i64 x.custodian.scheme, .string (bs x.custodian.node), .string (bs x.custodian.service), .int .i64 x.custodian.a, .int .i64 x.custodian.b, .int .i64 x.time, .int .i64 x.seq, .int .i64 x.life, .int .i64 x.off, .int .i64 x.total, .slice a n cap] 32)).alloc (.cells #[.int .i64 0, .string { data := #[] }, .string { data := #[] }, .int .i64 0, .int .i64 0] 29)).alloc (.cells #[.func (.func 66) #[] #[.pointer (some ⟨w.heap.size, 0, none⟩)], .func (.func 69) #[] #[.pointer (some ⟨w.heap.size, 0, none⟩), .pointer (some ⟨w.heap.size + 1, 0, none⟩)], .func (.func 70) #[] #[.pointer (some ⟨w.heap.size, 0, none⟩), .pointer (some ⟨w.heap.size + 1, 0, none⟩)], .func (.func 71) #[] #[.pointer (some ⟨w.heap.size, 0, none⟩)], .func (.func 74) #[] #[.pointer (some ⟨w.heap.size, 0, none⟩)], .func (.func 75) #[] #[.pointer (some ⟨w.heap.size, 0, none⟩)], .func (.func 77) #[] #[.pointer (some ⟨w.heap.size, 0, none⟩)]] 22) = W3 := ⟨_, rfl⟩
  rw [hW3]
  have hB3 : Below w.heap.size w W3 := by rw [← hW3]; ((repeat' (first | exact Below.refl _ _ | assumption | (refine Below.drew ?_) | (refine Below.alloc ?_ ?_ _) | (refine Below.setCell ?_ ?_ _) | (refine Below.step (W := ?hW) ?hq ?_ ?_; case hq => assumption))) <;> (first | (simp; done) | (simp; omega) | (simp at *; omega)))
  have hz3 : W3.heap.size = w.heap.size + 3 := by rw [← hW3]; simp
  have hX : W3.heap[w.heap.size]? = some (.cells #[.int .i64 x.flags, .int .i64 x.dest.scheme, .string (bs x.dest.node), .string (bs x.dest.service), .int .i64 x.dest.a, .int .i64 x.dest.b, .int .i64 x.source.scheme, .string (bs x.source.node), .string (bs x.source.service), .int .i64 x.source.a, .int .i64 x.source.b, .int .i64 x.report.scheme, .string (bs x.report.node), .string (bs x.report.service), .int .i64 x.report.a, .int .i64 x.report.b, .int .i64 x.custodian.scheme, .string (bs x.custodian.node), .string (bs x.custodian.service), .int .i64 x.custodian.a, .int .i64 x.custodian.b, .int .i64 x.time, .int .i64 x.seq, .int .i64 x.life, .int .i64 x.off, .int .i64 x.total, .slice a n cap] 32 (0, 0)) := by rw [← hW3]; exact heapNew (u := w) (by ((repeat' (first | exact Below.refl _ _ | assumption | (refine Below.drew ?_) | (refine Below.alloc ?_ ?_ _) | (refine Below.setCell ?_ ?_ _) | (refine Below.step (W := ?hW) ?hq ?_ ?_; case hq => assumption))) <;> (first | (simp; done) | (simp; omega) | (simp at *; omega)))) rfl
  have hN : W3.heap[w.heap.size + 1]? = some (.cells #[.int .i64 0, .string { data := #[] }, .string { data := #[] }, .int .i64 0, .int .i64 0] 29 (0, 0)) := by
    rw [← hW3]; exact heapNew (u := w.alloc (.cells #[.int .i64 x.flags, .int .i64 x.dest.scheme, .string (bs x.dest.node), .string (bs x.dest.service), .int .i64 x.dest.a, .int .i64 x.dest.b, .int .i64 x.source.scheme, .string (bs x.source.node), .string (bs x.source.service), .int .i64 x.source.a, .int .i64 x.source.b, .int .i64 x.report.scheme, .string (bs x.report.node), .string (bs x.report.service), .int .i64 x.report.a, .int .i64 x.report.b, .int .i64 x.custodian.scheme, .string (bs x.custodian.node), .string (bs x.custodian.service), .int .i64 x.custodian.a, .int .i64 x.custodian.b, .int .i64 x.time, .int .i64 x.seq, .int .i64 x.life, .int .i64 x.off, .int .i64 x.total, .slice a n cap] 32)) (by ((repeat' (first | exact Below.refl _ _ | assumption | (refine Below.drew ?_) | (refine Below.alloc ?_ ?_ _) | (refine Below.setCell ?_ ?_ _) | (refine Below.step (W := ?hW) ?hq ?_ ?_; case hq => assumption))) <;> (first | (simp; done) | (simp; omega) | (simp at *; omega)))) (by simp)
  have fq := cellsOf (heapNew (W := W3) (o := .cells #[.func (.func 66) #[] #[.pointer (some ⟨w.heap.size, 0, none⟩)], .func (.func 69) #[] #[.pointer (some ⟨w.heap.size, 0, none⟩), .pointer (some ⟨w.heap.size + 1, 0, none⟩)], .func (.func 70) #[] #[.pointer (some ⟨w.heap.size, 0, none⟩), .pointer (some ⟨w.heap.size + 1, 0, none⟩)], .func (.func 71) #[] #[.pointer (some ⟨w.heap.size, 0, none⟩)], .func (.func 74) #[] #[.pointer (some ⟨w.heap.size, 0, none⟩)], .func (.func 75) #[] #[.pointer (some ⟨w.heap.size, 0, none⟩)], .func (.func 77) #[] #[.pointer (some ⟨w.heap.size, 0, none⟩)]] 22) (u := (w.alloc (.cells #[.int .i64 x.flags, .int .i64 x.dest.scheme, .string (bs x.dest.node), .string (bs x.dest.service), .int .i64 x.dest.a, .int .i64 x.dest.b, .int .i64 x.source.scheme, .string (bs x.source.node), .string (bs x.source.service), .int .i64 x.source.a, .int .i64 x.source.b, .int .i64 x.report.scheme, .string (bs x.report.node), .string (bs x.report.service), .int .i64 x.report.a, .int .i64 x.report.b, .int .i64 x.custodian.scheme, .string (bs x.custodian.node), .string (bs x.custodian.service), .int .i64 x.custodian.a, .int .i64 x.custodian.b, .int .i64 x.time, .int .i64 x.seq, .int .i64 x.life, .int .i64 x.off, .int .i64 x.total, .slice a n cap] 32)).alloc (.cells #[.int .i64 0, .string { data := #[] }, .string { data := #[] }, .int .i64 0, .int .i64 0] 29)) (n := w.heap.size + 1 + 1) (by rw [← hW3]; exact Below.refl _ _) (by simp))
  have f1 : W3.cell? ⟨w.heap.size + 1 + 1, 0 + 0, none⟩ = some (.func (.func 66) #[] #[.pointer (some ⟨w.heap.size, 0, none⟩)]) := fq 0
  have f2 : W3.cell? ⟨w.heap.size + 1 + 1, 0 + (0 + 1), none⟩ = some (.func (.func 69) #[] #[.pointer (some ⟨w.heap.size, 0, none⟩), .pointer (some ⟨w.heap.size + 1, 0, none⟩)]) := fq 1
  have f3 : W3.cell? ⟨w.heap.size + 1 + 1, 0 + (0 + 1 + 1), none⟩ = some (.func (.func 70) #[] #[.pointer (some ⟨w.heap.size, 0, none⟩), .pointer (some ⟨w.heap.size + 1, 0, none⟩)]) := fq 2
  have f4 : W3.cell? ⟨w.heap.size + 1 + 1, 0 + (0 + 1 + 1 + 1), none⟩ = some (.func (.func 71) #[] #[.pointer (some ⟨w.heap.size, 0, none⟩)]) := fq 3
  have f5 : W3.cell? ⟨w.heap.size + 1 + 1, 0 + (0 + 1 + 1 + 1 + 1), none⟩ = some (.func (.func 74) #[] #[.pointer (some ⟨w.heap.size, 0, none⟩)]) := fq 4
  have f6 : W3.cell? ⟨w.heap.size + 1 + 1, 0 + (0 + 1 + 1 + 1 + 1 + 1), none⟩ = some (.func (.func 75) #[] #[.pointer (some ⟨w.heap.size, 0, none⟩)]) := fq 5
  have f7 : W3.cell? ⟨w.heap.size + 1 + 1, 0 + (0 + 1 + 1 + 1 + 1 + 1 + 1), none⟩ = some (.func (.func 77) #[] #[.pointer (some ⟨w.heap.size, 0, none⟩)]) := fq 6
  clear hW3 fq
  have hL3 := H.out.mono hB3
  have key : ∀ W, Below W3.heap.size W3 W → W.heap[w.heap.size]? = some (.cells #[.int .i64 x.flags, .int .i64 x.dest.scheme, .string (bs x.dest.node), .string (bs x.dest.service), .int .i64 x.dest.a, .int .i64 x.dest.b, .int .i64 x.source.scheme, .string (bs x.source.node), .string (bs x.source.service), .int .i64 x.source.a, .int .i64 x.source.b, .int .i64 x.report.scheme, .string (bs x.report.node), .string (bs x.report.service), .int .i64 x.report.a, .int .i64 x.report.b, .int .i64 x.custodian.scheme, .string (bs x.custodian.node), .string (bs x.custodian.service), .int .i64 x.custodian.a, .int .i64 x.custodian.b, .int .i64 x.time, .int .i64 x.seq, .int .i64 x.life, .int .i64 x.off, .int .i64 x.total, .slice a n cap] 32 (0, 0)) ∧ W.heap[w.heap.size + 1]? = some (.cells #[.int .i64 0, .string { data := #[] }, .string { data := #[] }, .int .i64 0, .int .i64 0] 29 (0, 0)) ∧ Lies W x.blocks rv a := fun W h =>
    ⟨heapKept hX h, heapKept hN h, hL3.mono h⟩
  refine (six_areAll [(66, #[.pointer (some ⟨w.heap.size, 0, none⟩)], six1 x), (69, #[.pointer (some ⟨w.heap.size, 0, none⟩), .pointer (some ⟨w.heap.size + 1, 0, none⟩)], six2 x), (70, #[.pointer (some ⟨w.heap.size, 0, none⟩), .pointer (some ⟨w.heap.size + 1, 0, none⟩)], six3 x), (71, #[.pointer (some ⟨w.heap.size, 0, none⟩)], six4 x), (74, #[.pointer (some ⟨w.heap.size, 0, none⟩)], six5 x), (75, #[.pointer (some ⟨w.heap.size, 0, none⟩)], blocks6 x.blocks), (77, #[.pointer (some ⟨w.heap.size, 0, none⟩)], six7 x)]
    (w.heap.size + 1 + 1) 0 7 7 W3 (by omega) rfl (by simp) ?h2).mono ?h3
  case h2 =>
    refine ⟨f1, enters_of Tryz.func66 (by kernel_rfl) rfl, fun W h => six1_calls x _ _ W (key W h).1 Hnames.out, fun _ => ?_⟩
    refine ⟨f2, enters_of Tryz.func69 (by kernel_rfl) rfl, fun W h => Pu.rt (six2_calls x _ _ _ W (key W h).1 (key W h).2.1), fun _ => ?_⟩
    refine ⟨f3, enters_of Tryz.func70 (by kernel_rfl) rfl, fun W h => Pu.rt (six3_calls x _ _ _ W (key W h).1 (key W h).2.1), fun _ => ?_⟩
    refine ⟨f4, enters_of Tryz.func71 (by kernel_rfl) rfl, fun W h => Pu.rt (six4_calls x _ _ W (key W h).1), fun _ => ?_⟩
    refine ⟨f5, enters_of Tryz.func74 (by kernel_rfl) rfl, fun W h => Pu.rt (six5_calls x a cap _ W (by rw [← Hn.out]; exact (key W h).1) H.out.len), fun _ => ?_⟩
    refine ⟨f6, enters_of Tryz.func75 (by kernel_rfl) rfl, fun W h => sixRight6_calls x rv a cap _ W (key W h).2.2 Hfit.out (by rw [← Hn.out]; exact (key W h).1), fun _ => ?_⟩
    exact ⟨f7, enters_of Tryz.func77 (by kernel_rfl) rfl, fun W h => six7_calls x rv a cap _ W (key W h).2.2 Hfit.out (by rw [← Hn.out]; exact (key W h).1), fun _ => trivial⟩
  case h3 =>
    rintro e w1 ⟨rfl, hb⟩
    clear key
    go_wp2_with fail
    go_ret
    exact ⟨by simp [sixR, Bool.and_assoc], hB3.trans (hb.mono (by omega))⟩
end Go.Proofs.YtllfaffbaijgfaaGreatDoor

namespace Go.Proofs.YtllfaffbaijgfaaGreatDoor
open Go Go.RowKit Go.Shelf
attribute [local go_sem] Oper.semAt_some

set_option maxRecDepth 100000 in
theorem sevIter (l : List Block) (rv : Nat → Value) (a : Option Addr) (cap B : Nat) (R : Nat → Prop) (w : World) (hlen : l.length ≤ 9000000000000000000) (hB : w.cell? ⟨B, 22, none⟩ = some (.slice a l.length cap)) (hRB : R B)
    (hat : 0 < l.length → ∃ b o, a = some ⟨b, o, none⟩ ∧ R b ∧ BlocksAt w l rv b o) (hone : ∀ i x, l[i]? = some x → (rv i).oneCell' = true) (hRlt : ∀ k, R k → k < w.heap.size) :
    Iter Tryz.prog 112 #[.pointer (some ⟨B, 0, none⟩)] blkEnc (blkItems l rv) R (fun _ => False) w := by
  intro lp J Jx W hW hJ hJx hY h0
  have Hat := hide hat
  have HY := hide hY
  have Hone := hide hone
  clear hat hY hone
  obtain ⟨n, hn⟩ : ∃ n, n = l.length := ⟨_, rfl⟩
  rw [← hn] at hB hlen
  have Hn := hide hn
  clear hn
  have HB := hide (And.intro hB hRB)
  clear hB hRB
  have kb := (hW.cell (p := ⟨B, 22, none⟩) HB.out.2).trans HB.out.1
  refine callsIn_of_wp Tryz.func112 rfl trivial ?_ rfl
  simp only [Tryz.ntmps112, List.size_toArray, List.length_cons, List.length_nil, Nat.reduceAdd, Nat.reduceSub, Array.replicate_succ, Array.replicate_zero, List.push_toArray, List.append_toArray, List.nil_append, List.cons_append]
  refine wpIn_scope_wide ?_
  gi_wp2
  refine wpIn_label ?_
  gi_wp2
  gi_loopw [8] (fun k wr => ∃ i : Nat, i ≤ n ∧ k = .int .i64 i ∧ J i wr ∧ Keep R W wr) (fun k _ => n - (intOf k).toNat)
  case atStart => exact ⟨0, Nat.zero_le _, rfl, h0, Keep.refl _ _⟩
  case round =>
    obtain ⟨i, hi, rfl, hJi, hK⟩ := hrel
    by_cases hlt : i < n
    · obtain ⟨b, o, rfl, hRb, hat⟩ := Hat.out (by rw [← Hn.out]; omega)
      obtain ⟨x, hx⟩ : ∃ x, l[i]? = some x := ⟨_, List.getElem?_eq_getElem (by rw [← Hn.out]; exact hlt)⟩
      have hKw : Keep R w wr := hW.trans hK
      obtain ⟨k0, k1, k2, k3, k4, k5⟩ := hat.2 i x hx
      replace k0 := (hKw.cell (p := ⟨b, _, none⟩) hRb).trans k0
      replace k1 := (hKw.cell (p := ⟨b, _, none⟩) hRb).trans k1
      replace k2 := (hKw.cell (p := ⟨b, _, none⟩) hRb).trans k2
      replace k3 := (hKw.cell (p := ⟨b, _, none⟩) hRb).trans k3
      replace k4 := (hKw.cell (p := ⟨b, _, none⟩) hRb).trans k4
      replace k5 := (hKw.cell (p := ⟨b, _, none⟩) hRb).trans k5
      replace kb := (hK.cell (p := ⟨B, 22, none⟩) HB.out.2).trans kb
      have hst := fun (a : Addr) (w : World) => run_store Tryz.prog w a (rv i) .plain (Hone.out i x hx)
      have Hx := hide hx
      clear hx hat hKw
      have hB1 : Below wr.heap.size wr (wr.alloc (.cells #[.int .i64 x.type, .int .i64 x.num, .int .i64 x.flags, .int .i64 x.sum, rv i, .string (bs x.data)] 57)) := (Below.refl _ _).alloc (Nat.le_refl _) _
      have hJ1 := hJ i _ _ hJi (Own1.of_below hB1)
      obtain ⟨fn, tmps, assign, body, hy, hR⟩ := HY.out i _ _ (blkItems_get Hx.out) hJ1
      rw [← Hn.out] at hy
      simp only [blkEnc] at hy
      have kb1 := (hB1.cell (p := ⟨B, 22, none⟩) (cell_lt kb)).trans kb
      have hw1 : wrap64 ((n : Int) - 1) = n - 1 := by unfold wrap64; omega
      have hlast : decide (i + 1 = n) = ((i : Int) == (n : Int) - 1) := by
        rw [Bool.eq_iff_iff]; simp; omega
      rw [hlast] at hy
      gi_wp2
      refine ⟨rfl, hR.mono ?_⟩
      rintro e W' (⟨rfl, hJ', hk⟩ | ⟨rfl, hJx'⟩)
      · clear k0 k1 k2 k3 k4 k5 kb kb1 hy hst hR hlast
        gi_wp2
        go_roundw
        case rel => exact ⟨i + 1, by omega, by go_num, hJ', (hK.trans ⟨hB1.size, fun k hk => hB1.block k (Nat.lt_of_lt_of_le (hRlt k hk) (hW.trans hK).size)⟩).trans hk⟩
        case measure => simp [intOf]; omega
      · clear k0 k1 k2 k3 k4 k5 kb kb1 hy hst hR hlast
        gi_wp2
        simp only [Exit.noGoto]
        go_end0
        exact ⟨⟨_, rfl⟩, .inr hJx'⟩
    · have hin : i = n := by omega
      subst hin
      gi_wp2
      simp only [Exit.noGoto]
      go_end0
      exact ⟨⟨_, rfl⟩, .inl (by rw [blkItems_length, ← Hn.out]; exact hJi)⟩
theorem sevBlocks_calls (x : Seven) (bv : Value) (w : World) (hbv : bv.oneCell' = true) : Calls Tryz.prog 44 #[.agg #[.int .i64 x.flags, .int .i64 x.sum, .int .i64 x.dest.scheme, .string (bs x.dest.node), .string (bs x.dest.service), .int .i64 x.dest.a, .int .i64 x.dest.b, .int .i64 x.source.scheme, .string (bs x.source.node), .string (bs x.source.service), .int .i64 x.source.a, .int .i64 x.source.b, .int .i64 x.report.scheme, .string (bs x.report.node), .string (bs x.report.service), .int .i64 x.report.a, .int .i64 x.report.b, .int .i64 x.time, .int .i64 x.seq, .int .i64 x.life, .int .i64 x.off, .int .i64 x.total, bv]] w (fun e w' => e = .returned (.func (.func 112) #[] #[.pointer (some ⟨w.heap.size, 0, none⟩)]) ∧ w' = w.alloc (.cells #[.int .i64 x.flags, .int .i64 x.sum, .int .i64 x.dest.scheme, .string (bs x.dest.node), .string (bs x.dest.service), .int .i64 x.dest.a, .int .i64 x.dest.b, .int .i64 x.source.scheme, .string (bs x.source.node), .string (bs x.source.service), .int .i64 x.source.a, .int .i64 x.source.b, .int .i64 x.report.scheme, .string (bs x.report.node), .string (bs x.report.service), .int .i64 x.report.a, .int .i64 x.report.b, .int .i64 x.time, .int .i64 x.seq, .int .i64 x.life, .int .i64 x.off, .int .i64 x.total, bv] 35)) := by
  have hst := fun (a : Addr) (w : World) => run_store Tryz.prog w a bv .plain hbv
  go_enter Tryz.func44, Tryz.ntmps44
  go_wp2
  go_ret
  exact ⟨rfl, rfl⟩

set_option maxRecDepth 100000 in
theorem sevLoad_calls (x : Seven) (rv : Nat → Value) (a : Option Addr) (cap : Nat) (w : World) (h : Lies w x.blocks rv a) :
    Calls Tryz.prog 15 #[.agg #[.int .i64 x.flags, .int .i64 x.sum, .int .i64 x.dest.scheme, .string (bs x.dest.node), .string (bs x.dest.service), .int .i64 x.dest.a, .int .i64 x.dest.b, .int .i64 x.source.scheme, .string (bs x.source.node), .string (bs x.source.service), .int .i64 x.source.a, .int .i64 x.source.b, .int .i64 x.report.scheme, .string (bs x.report.node), .string (bs x.report.service), .int .i64 x.report.a, .int .i64 x.report.b, .int .i64 x.time, .int .i64 x.seq, .int .i64 x.life, .int .i64 x.off, .int .i64 x.total, .slice a x.blocks.length cap]] w (Rt w (.string (bs (loadOf x.blocks)))) := by
  have H := hide h
  clear h
  obtain ⟨n, hn⟩ : ∃ n, n = x.blocks.length := ⟨_, rfl⟩
  rw [← hn]
  have hlen : n ≤ 9000000000000000000 := by rw [hn]; exact H.out.len
  have Hn := hide hn
  clear hn
  refine (callsIn_wide (n := 0)).1 ?_
  refine callsIn_of_wp_marks Tryz.func15 rfl trivial ?_ rfl
  simp only [Tryz.ntmps15, List.size_toArray, List.length_cons, List.length_nil, Nat.reduceAdd, Nat.reduceSub, Array.replicate_succ, Array.replicate_zero, List.push_toArray, List.append_toArray, List.nil_append, List.cons_append]
  gi_wp2_with (first | (apply wpListIn_load_of (ty := 35); (case hgd => exact rfl); (case ho => exact rfl); (case hx => exact rfl); (case hr => apply load_row (n := 23); (case hheap => apply heapNew (u := w); (case hbel => ((repeat' (first | exact Below.refl _ _ | assumption | (refine Below.drew ?_) | (refine Below.alloc ?_ ?_ _) | (refine Below.setCell ?_ ?_ _) | (refine Below.step (W := ?hW) ?hq ?_ ?_; case hq => assumption))) <;> (first | (simp; done) | (simp; omega) | (simp at *; omega)))); (case hnew => exact rfl)); (case hu => exact Tryz.underlying35); (case hd => exact rfl); (case hi => kernel_rfl); (case hc => exact rfl))) | (apply wpIn_load_of (ty := 35); (case ho => exact rfl); (case hx => exact rfl); (case hr => apply load_row (n := 23); (case hheap => apply heapNew (u := w); (case hbel => ((repeat' (first | exact Below.refl _ _ | assumption | (refine Below.drew ?_) | (refine Below.alloc ?_ ?_ _) | (refine Below.setCell ?_ ?_ _) | (refine Below.step (W := ?hW) ?hq ?_ ?_; case hq => assumption))) <;> (first | (simp; done) | (simp; omega) | (simp at *; omega)))); (case hnew => exact rfl)); (case hu => exact Tryz.underlying35); (case hd => exact rfl); (case hi => kernel_rfl); (case hc => exact rfl))))
  refine ⟨trivial, rfl, ?_⟩
  refine (callsIn_wide.2 (sevBlocks_calls x (.slice a n cap) _ rfl)).mono ?_
  rintro e_ w_ ⟨rfl, hw_⟩
  obtain ⟨W0, hW0⟩ : ∃ W0, ((w.alloc (.cells #[.int .i64 x.flags, .int .i64 x.sum, .int .i64 x.dest.scheme, .string (bs x.dest.node), .string (bs x.dest.service), .int .i64 x.dest.a, .int .i64 x.dest.b, .int .i64 x.source.scheme, .string (bs x.source.node), .string (bs x.source.service), .int .i64 x.source.a, .int .i64 x.source.b, .int .i64 x.report.scheme, .string (bs x.report.node), .string (bs x.report.service), .int .i64 x.report.a, .int .i64 x.report.b, .int .i64 x.time, .int .i64 x.seq, .int .i64 x.life, .int .i64 x.off, .int .i64 x.total, .slice a n cap] 35)).alloc (.cells #[.string { data := #[] }] 9)) = W0 := ⟨_, rfl⟩
  rw [hW0] at hw_ ⊢
  have hB0 : Below w.heap.size w W0 := by rw [← hW0]; ((repeat' (first | exact Below.refl _ _ | assumption | (refine Below.drew ?_) | (refine Below.alloc ?_ ?_ _) | (refine Below.setCell ?_ ?_ _) | (refine Below.step (W := ?hW) ?hq ?_ ?_; case hq => assumption))) <;> (first | (simp; done) | (simp; omega) | (simp at *; omega)))
  have hz0 : W0.heap.size = w.heap.size + 2 := by rw [← hW0]; simp
  have hr0 : W0.cell? ⟨w.heap.size + 1, 0, none⟩ = some (.string { data := #[] }) := by rw [← hW0]; simp
  have hf0 : W0.frozen? ⟨w.heap.size + 1, 0, none⟩ = false := by rw [← hW0]; simp [World.frozen?_alloc_at]
  clear hW0
  have hB1 : Below W0.heap.size W0 w_ := by rw [hw_]; ((repeat' (first | exact Below.refl _ _ | assumption | (refine Below.drew ?_) | (refine Below.alloc ?_ ?_ _) | (refine Below.setCell ?_ ?_ _) | (refine Below.step (W := ?hW) ?hq ?_ ?_; case hq => assumption))) <;> (first | (simp; done) | (simp; omega) | (simp at *; omega)))
  have hz1 : w_.heap.size = w.heap.size + 3 := by rw [hw_]; simp [hz0]
  have hbox : w_.cell? ⟨W0.heap.size, 22, none⟩ = some (.slice a n cap) := by rw [hw_]; simp
  have hr1 := (hB1.cell (p := ⟨w.heap.size + 1, 0, none⟩) (show w.heap.size + 1 < W0.heap.size by omega)).trans hr0
  have hf1 := (hB1.frozen (p := ⟨w.heap.size + 1, 0, none⟩) (show w.heap.size + 1 < W0.heap.size by omega)).trans hf0
  have hBw : Below w.heap.size w w_ := hB0.trans (hB1.mono (by omega))
  clear hw_ hr0 hf0
  have HL := hide (H.out.mono hBw)
  rw [hz0] at hbox
  have hlb : ∀ k, k < w.heap.size ∨ k = w.heap.size + 2 → k < w_.heap.size := fun k hk => by omega
  have hbase : ∀ b o, a = some ⟨b, o, none⟩ → 0 < x.blocks.length → b < w.heap.size := fun b o e hn => by
    obtain ⟨b', o', e', h⟩ := H.out.there hn
    rw [e'] at e; cases e; exact h.1
  have hit : Iter Tryz.prog 112 #[.pointer (some ⟨w.heap.size + 2, 0, none⟩)] blkEnc (blkItems x.blocks rv) (fun k => k < w.heap.size ∨ k = w.heap.size + 2) (fun _ => False) w_ :=
    sevIter x.blocks rv a cap (w.heap.size + 2) _ w_ HL.out.len (by rw [← Hn.out]; exact hbox) (.inr rfl)
      (fun hn => by obtain ⟨b, o, e, h⟩ := HL.out.there hn; exact ⟨b, o, e, .inl (hbase b o e hn), h⟩)
      (fun i y hy => (HL.out.refs i y hy).oneCell) hlb
  have Hit := hide hit
  clear hit hbase
  gi_wp2
  refine wp_range (gf := 112) (lb := #[.pointer (some ⟨w.heap.size + 2, 0, none⟩)]) rfl (enters_of Tryz.func112 (by kernel_rfl) rfl) Hit.out (fun _ => rfl) hlb (fun _ h => h.elim)
    (fun i W => (i = 0 ∨ i < n) ∧ (∃ s, W.cell? ⟨w.heap.size + 1, 0, none⟩ = some (.string s)) ∧ W.frozen? ⟨w.heap.size + 1, 0, none⟩ = false ∧ Below w.heap.size w W)
    (fun c W => c = .ret ∧ W.cell? ⟨w.heap.size + 1, 0, none⟩ = some (.string (bs (loadOf x.blocks))) ∧ Below w.heap.size w W)
    (fun i A B h hs => by
      obtain ⟨h1, ⟨s, h2⟩, h3, h4⟩ := h
      exact ⟨h1, ⟨s, hs.cell h2 id⟩, (hs.frozen h2 id).trans h3, hs.below h4 (by omega) h4.size (fun _ h => h.elim)⟩)
    (fun c A B h hs => ⟨h.1, hs.cell h.2.1 id, hs.below h.2.2 (by omega) h.2.2.size (fun _ h => h.elim)⟩)
    ⟨.inl rfl, ⟨_, hr1⟩, hf1, hBw⟩ ?round ?done ?stop
  case round =>
    intro l i y W hl hy hi hrec
    obtain ⟨z, hz, rfl⟩ := blkItems_at hy
    have hone := (HL.out.refs i z hz).oneCell
    have hst := fun (a : Addr) (w : World) => run_store Tryz.prog w a (rv i) .plain hone
    obtain ⟨hin, ⟨s, hcr⟩, hfr, hBW⟩ := hi
    have hW : w_.heap.size < W.heap.size := by obtain ⟨r, hr⟩ := hrec; have := (Array.getElem?_eq_some_iff.1 hr).1; omega
    have hBn : ∀ o, Below W.heap.size W (W.alloc o) := fun o => (Below.refl _ W).alloc (Nat.le_refl _) o
    obtain ⟨q, hq⟩ : ∃ q, q = decide (i + 1 = x.blocks.length) := ⟨_, rfl⟩
    rw [← hq]
    have Hq := hide hq
    have Hz := hide hz
    clear hq hz hy Hit hrec
    simp only [blkEnc]
    gi_wp2
    refine ⟨(KeepsOthers.alloc _ _).from _, Keep.of_below (hBn _) (fun k hk => by have := hlb k hk; omega), fun W₂ hs hk hkr hsz hc hf => ?_⟩
    have b5 : W₂.cell? ⟨W.heap.size, 5, none⟩ = some (.string (bs z.data)) := (hc _).trans (by simp)
    have hcr2 : W₂.cell? ⟨w.heap.size + 1, 0, none⟩ = some (.string s) := (hc _).trans (((hBn _).cell (p := ⟨w.heap.size + 1, 0, none⟩) (show w.heap.size + 1 < W.heap.size by omega)).trans hcr)
    have hfr2 : W₂.frozen? ⟨w.heap.size + 1, 0, none⟩ = false := (hf _).trans (((hBn _).frozen (p := ⟨w.heap.size + 1, 0, none⟩) (show w.heap.size + 1 < W.heap.size by omega)).trans hfr)
    have hBW2 : Below w.heap.size w W₂ := hs.below (hBW.alloc hBW.size _) (by omega) (Nat.le_trans hBW.size (hBn _).size) (fun _ h => h.elim)
    clear hs hkr hc hf hcr hfr
    cases q
    · gi_wp2
      refine ⟨KeepsFrom.refl _ _, Keep.refl _ _, ?_, ⟨s, hcr2⟩, hfr2, hBW2⟩
      have h1 : i + 1 ≠ x.blocks.length := by simpa using Hq.out
      have h2 := (List.getElem?_eq_some_iff.1 Hz.out).1
      exact .inr (by rw [Hn.out]; omega)
    · gi_wp2
      have h1 : i + 1 = x.blocks.length := by simpa using Hq.out
      refine ⟨(KeepsOthers.setCell _ _ _).from _, rfl, ?_, hBW2.setCell (p := ⟨w.heap.size + 1, 0, none⟩) (Nat.le_succ _) _⟩
      rw [loadOf_last Hz.out h1]
      exact World.cell?_setCell_same' _ _ _ (by rw [hcr2]; rfl)
  case done =>
    rintro D W hD ⟨hin, ⟨s, hcr⟩, hfr, hBW⟩ hK
    rw [blkItems_length, ← Hn.out] at hin
    have h0 : x.blocks = [] := by
      have : n = 0 := by omega
      exact List.length_eq_zero_iff.1 (by rw [← Hn.out]; exact this)
    clear Hit
    gi_wp2
    refine ⟨by simp, .inl ⟨_, _, rfl, run_takeDeferred ((KeepsOthers.setCell _ _ _).same D _ hK rfl), ?_⟩⟩
    have hK' := (KeepsOthers.setCell W ⟨w.heap.size + 1, 0, none⟩ (.string { data := #[] })).same D _ hK rfl
    refine ⟨_, results_cell1 rfl rfl (load_plain Tryz.underlying9 rfl (v := .string { data := #[] }) ?_), by rw [h0]; rfl, ?_⟩
    · rw [cell_putObj hK' rfl rfl]
      exact World.cell?_setCell_same' _ _ _ (by rw [hcr]; rfl)
    · exact below_putObj (hBW.setCell (p := ⟨w.heap.size + 1, 0, none⟩) (Nat.le_succ _) _) (by omega) _
  case stop =>
    rintro D c W hD ⟨rfl, hcr, hBW⟩ hK
    clear Hit
    gi_wp2
    refine ⟨by simp, .inl ⟨_, _, rfl, run_takeDeferred hK, ?_⟩⟩
    refine ⟨_, results_cell1 rfl rfl (load_plain Tryz.underlying9 rfl (v := .string (bs (loadOf x.blocks))) ?_), rfl, ?_⟩
    · rw [cell_putObj hK rfl rfl]
      exact hcr
    · exact below_putObj hBW (by omega) _
end Go.Proofs.YtllfaffbaijgfaaGreatDoor
