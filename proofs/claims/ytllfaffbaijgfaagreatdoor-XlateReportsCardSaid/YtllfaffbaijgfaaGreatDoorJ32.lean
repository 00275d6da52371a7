/- xlate.Up. -/
import Derived.Test.YtllfaffbaijgfaaGreatDoorJ31
set_option linter.unusedVariables false
set_option linter.unusedSimpArgs false
namespace Go.Proofs.YtllfaffbaijgfaaGreatDoor
open Go Go.RowKit Go.Shelf

set_option maxRecDepth 100000 in
set_option maxHeartbeats 40000000 in
theorem xup_err (S : Nat → Addr) (x : Six) (a : Option Addr) (m cap : Nat) (w : World) (hA : UpAsk S x (.slice a m cap) w) (hE : ErrAt w) (he : (upF x.flags).2 ≠ 0) :
    Calls Tryz.prog 14 #[.agg #[.int .i64 x.flags, .int .i64 x.dest.scheme, .string (bs x.dest.node), .string (bs x.dest.service), .int .i64 x.dest.a, .int .i64 x.dest.b, .int .i64 x.source.scheme, .string (bs x.source.node), .string (bs x.source.service), .int .i64 x.source.a, .int .i64 x.source.b, .int .i64 x.report.scheme, .string (bs x.report.node), .string (bs x.report.service), .int .i64 x.report.a, .int .i64 x.report.b, .int .i64 x.custodian.scheme, .string (bs x.custodian.node), .string (bs x.custodian.service), .int .i64 x.custodian.a, .int .i64 x.custodian.b, .int .i64 x.time, .int .i64 x.seq, .int .i64 x.life, .int .i64 x.off, .int .i64 x.total, .slice a m cap]] w (Rt w (.tuple #[.agg zeroSeven, .int .i64 (upF x.flags).2])) := by
  obtain ⟨q, hq⟩ : ∃ q, q = (upF x.flags).2 := ⟨_, rfl⟩
  have HS := hide (fun U b f v c w4 h1 h2 h3 h4 h5 => upSteps_err U b S f v c x (.slice a m cap) w w4 h1 h2 h3 h4 h5 hA he)
  rw [← hq] at HS he ⊢
  have HE := hide (fun W (hb : Below w.heap.size w W) => (show ErrAt W from (hb.cell (p := ⟨7, 0, none⟩) (cellLt hE)).trans hE))
  clear hq hA hE
  go_enter Tryz.func14, Tryz.ntmps14
  go_upto_region 2 with (first | (apply wpList_load_of (ty := 32); (case hgd => exact rfl); (case ho => exact rfl); (case hx => exact rfl); (case hr => apply load_row (n := 27); (case hheap => apply heapNew (u := w); (case hbel => ((repeat' (first | exact Below.refl _ _ | assumption | (refine Below.drew ?_) | (refine Below.alloc ?_ ?_ _) | (refine Below.setCell ?_ ?_ _) | (refine Below.step (W := ?hW) ?hq ?_ ?_; case hq => assumption))) <;> (first | (simp; done) | (simp; omega) | (simp at *; omega)))); (case hnew => exact rfl)); (case hu => exact Tryz.underlying32); (case hd => exact rfl); (case hi => kernel_rfl); (case hc => exact rfl))) | (apply wpList_load_w (ty := 32); (case hgd => exact rfl); (case ho => exact rfl); (case hx => exact rfl); (case hr => apply load_row (n := 27); (case hheap => apply heapNew (u := w); (case hbel => ((repeat' (first | exact Below.refl _ _ | assumption | (refine Below.drew ?_) | (refine Below.alloc ?_ ?_ _) | (refine Below.setCell ?_ ?_ _) | (refine Below.step (W := ?hW) ?hq ?_ ?_; case hq => assumption))) <;> (first | (simp; done) | (simp; omega) | (simp at *; omega)))); (case hnew => exact rfl)); (case hu => exact Tryz.underlying32); (case hd => exact rfl); (case hi => kernel_rfl); (case hc => exact rfl))))
  refine wp_named fun w1 hw1 => ?_
  have hB1 : Below w.heap.size w w1 := by rw [hw1]; ((repeat' (first | exact Below.refl _ _ | assumption | (refine Below.drew ?_) | (refine Below.alloc ?_ ?_ _) | (refine Below.setCell ?_ ?_ _) | (refine Below.step (W := ?hW) ?hq ?_ ?_; case hq => assumption))) <;> (first | (simp; done) | (simp; omega) | (simp at *; omega)))
  have hr : w1.heap[w.heap.size + 1]? = some (.cells zeroSeven 35 (0, 0)) := by rw [hw1]; exact heapNew (u := w.alloc _) (by ((repeat' (first | exact Below.refl _ _ | assumption | (refine Below.drew ?_) | (refine Below.alloc ?_ ?_ _) | (refine Below.setCell ?_ ?_ _) | (refine Below.step (W := ?hW) ?hq ?_ ?_; case hq => assumption))) <;> (first | (simp; done) | (simp; omega) | (simp at *; omega)))) (by simp)
  have hU : UpAt w1 (w.heap.size + 1 + 1) 0 (.slice none 0 0) noClass x (.slice a m cap) := by rw [hw1]; exact heapNew (u := (w.alloc _).alloc _) (by ((repeat' (first | exact Below.refl _ _ | assumption | (refine Below.drew ?_) | (refine Below.alloc ?_ ?_ _) | (refine Below.setCell ?_ ?_ _) | (refine Below.step (W := ?hW) ?hq ?_ ?_; case hq => assumption))) <;> (first | (simp; done) | (simp; omega) | (simp at *; omega)))) (by simp)
  clear hw1
  have hUl : w.heap.size + 1 + 1 < w1.heap.size := (Array.getElem?_eq_some_iff.1 hU).1
  obtain ⟨U, hUe⟩ : ∃ U, U = w.heap.size + 1 + 1 := ⟨_, rfl⟩
  rw [← hUe] at hU hUl ⊢
  obtain ⟨R, hRe⟩ : ∃ R, R = w.heap.size + 1 := ⟨_, rfl⟩
  rw [← hRe] at hr ⊢
  obtain ⟨q1, q2, q3⟩ : w.heap.size ≤ U ∧ w.heap.size ≤ R ∧ R ≠ U := by omega
  clear hUe hRe
  go_wp2_with fail
  obtain ⟨w4, hw4⟩ : ∃ w4, w4 = w1.alloc (.cells (upFs U).toArray 80) := ⟨_, rfl⟩
  simp only [← hw4]
  have hb4 : Below w1.heap.size w1 w4 := by rw [hw4]; exact (Below.refl _ _).alloc (Nat.le_refl _) _
  have hsl : w4.heap[w1.heap.size]? = some (.cells (upFs U).toArray 80 (0, 0)) := by rw [hw4]; exact World.alloc_heap_new w1 _
  clear hw4
  have hB4 := hB1.trans (hb4.mono hB1.size)
  have hst := HS.out U w1.heap.size 0 (.slice none 0 0) noClass w4 hB4 q1 (by omega) (Array.getElem?_eq_some_iff.1 hsl).1 (hU.below hb4)
  refine (show Calls _ _ _ _ _ from stepsSix_calls w1.heap.size _ (upFs U) (.pointer (some ⟨U, 0, none⟩)) w4 (show 4 ≤ 1000 by decide) hsl hst).mono ?_
  rintro _ w5 ⟨v, rfl, rfl, t5⟩
  have hr5 := (t5.block R (Nat.lt_of_lt_of_le (Array.getElem?_eq_some_iff.1 hr).1 hb4.size) q3 (by simp)).trans (heapKept hr hb4)
  have hB5 := t5.below hB4 q1
  clear hst hsl t5 hr hU
  go_wp2_with fail
  refine (show Calls _ _ _ _ _ from eitherSeven_err zeroSeven q w5 (HE.out w5 hB5)).mono ?_
  rintro _ w6 ⟨rfl, hb6⟩
  have hr6 := heapKept hr5 hb6
  clear hr5
  go_wp2_with (apply wpList_store_at (ty := 35) (n := 23); (case hgd => exact rfl); (case ho => exact rfl); (case hd => exact rfl); (case hx => exact rfl); (case hheap => exact hr6); (case hy => exact rfl); (case hi => kernel_rfl); (case hn0 => exact rfl); (case hn => exact rfl); (case h1 => first | exact rfl | assumption | (simp [Value.oneCell', *]; done) | (simp [*]; done)))
  refine bodyPost_ret (results_ct rfl rfl rfl (load_row (n := 23) (hheap := setRow_heap _ _ _ _ _ _ hr6) (hu := Tryz.underlying35) (hd := rfl) (hi := by kernel_rfl) (hc := rfl))) rfl ?_
  exact ⟨rfl, below_setRow (hB5.trans (hb6.mono hB5.size)) q2 _⟩

/-- what Up makes -/
def upS (x : Six) (bl : List Block) : Seven := ⟨(upF x.flags).1, 2, x.dest, x.source, x.report, (millis x.time).1, x.seq, (millis x.life).1, x.off, x.total, bl⟩

def VUp7 (A U : Nat) (f t l : Int) (x : Six) (ao : Option Addr) (mo co : Nat) : Nat → Value → (Nat → Value) → World → Prop
  | 0, v, _, W => v = .pointer (some ⟨U, 0, none⟩)
  | 1, v, _, W => v = .pointer (some ⟨U, 0, none⟩)
  | 2, v, _, W => v = .pointer (some ⟨U, 0, none⟩)
  | 3, v, _, W => v = .pointer (some ⟨U, 0, none⟩)
  | 4, v, _, W => v = .pointer (some ⟨U, 0, none⟩)
  | 5, v, _, W => v = .int .i64 f
  | 6, v, _, W => v = .pointer (some ⟨A, 1, none⟩)
  | 7, v, _, W => v = .agg #[.int .i64 x.dest.scheme, .string (bs x.dest.node), .string (bs x.dest.service), .int .i64 x.dest.a, .int .i64 x.dest.b]
  | 8, v, _, W => v = .pointer (some ⟨A, 6, none⟩)
  | 9, v, _, W => v = .agg #[.int .i64 x.source.scheme, .string (bs x.source.node), .string (bs x.source.service), .int .i64 x.source.a, .int .i64 x.source.b]
  | 10, v, _, W => v = .pointer (some ⟨A, 11, none⟩)
  | 11, v, _, W => v = .agg #[.int .i64 x.report.scheme, .string (bs x.report.node), .string (bs x.report.service), .int .i64 x.report.a, .int .i64 x.report.b]
  | 12, v, _, W => v = .int .i64 t
  | 13, v, _, W => v = .pointer (some ⟨A, 22, none⟩)
  | 14, v, _, W => v = .int .i64 x.seq
  | 15, v, _, W => v = .int .i64 l
  | 16, v, _, W => v = .pointer (some ⟨A, 24, none⟩)
  | 17, v, _, W => v = .int .i64 x.off
  | 18, v, _, W => v = .pointer (some ⟨A, 25, none⟩)
  | 19, v, _, W => v = .int .i64 x.total
  | 20, v, _, W => v = .pointer (some ⟨U, 0, none⟩)
  | 21, v, _, W => v = .pointer (some ⟨U, 0, none⟩)
  | 22, v, _, W => v = .pointer (some ⟨U, 0, none⟩)
  | 23, v, _, W => v = .pointer (some ⟨U, 0, none⟩)
  | 24, v, _, W => v = .pointer (some ⟨U, 1, none⟩)
  | 25, v, _, W => v = .slice ao mo co
  | 26, v, _, W => v = .agg #[.int .i64 f, .int .i64 2, .int .i64 x.dest.scheme, .string (bs x.dest.node), .string (bs x.dest.service), .int .i64 x.dest.a, .int .i64 x.dest.b, .int .i64 x.source.scheme, .string (bs x.source.node), .string (bs x.source.service), .int .i64 x.source.a, .int .i64 x.source.b, .int .i64 x.report.scheme, .string (bs x.report.node), .string (bs x.report.service), .int .i64 x.report.a, .int .i64 x.report.b, .int .i64 t, .int .i64 x.seq, .int .i64 l, .int .i64 x.off, .int .i64 x.total, .slice ao mo co]
  | _, _, _, _ => True


set_option maxRecDepth 100000 in
set_option maxHeartbeats 40000000 in
theorem xup_ok (S : Nat → Addr) (B n : Nat) (L : List Value) (ld : List UInt8) (x : Six) (a : Option Addr) (m cap : Nat) (w : World) (hA : UpAsk S x (.slice a m cap) w)
    (he : (upF x.flags).2 = 0) (hf : bits BinOp.and IntKind.i64 (upF x.flags).1 2 = 0)
    (hext : ∀ W, Below w.heap.size w W → Calls Tryz.prog 105 #[.slice a m cap, .agg #[.int .i64 (Class.mk (classN x.flags) (classC x.flags) x.custodian).priority, .bool (Class.mk (classN x.flags) (classC x.flags) x.custodian).custody, .int .i64 (Class.mk (classN x.flags) (classC x.flags) x.custodian).custodian.scheme, .string (bs (Class.mk (classN x.flags) (classC x.flags) x.custodian).custodian.node), .string (bs (Class.mk (classN x.flags) (classC x.flags) x.custodian).custodian.service), .int .i64 (Class.mk (classN x.flags) (classC x.flags) x.custodian).custodian.a, .int .i64 (Class.mk (classN x.flags) (classC x.flags) x.custodian).custodian.b]] W (fun e w' => ∃ v, e = .returned v ∧ PairV B n L v w' ∧ Below W.heap.size W w'))
    (hld : ∀ W, Below w.heap.size w W → Calls Tryz.prog 16 #[.agg #[.int .i64 x.flags, .int .i64 x.dest.scheme, .string (bs x.dest.node), .string (bs x.dest.service), .int .i64 x.dest.a, .int .i64 x.dest.b, .int .i64 x.source.scheme, .string (bs x.source.node), .string (bs x.source.service), .int .i64 x.source.a, .int .i64 x.source.b, .int .i64 x.report.scheme, .string (bs x.report.node), .string (bs x.report.service), .int .i64 x.report.a, .int .i64 x.report.b, .int .i64 x.custodian.scheme, .string (bs x.custodian.node), .string (bs x.custodian.service), .int .i64 x.custodian.a, .int .i64 x.custodian.b, .int .i64 x.time, .int .i64 x.seq, .int .i64 x.life, .int .i64 x.off, .int .i64 x.total, .slice a m cap]] W (Rt W (.string (bs ld)))) :
    Calls Tryz.prog 14 #[.agg #[.int .i64 x.flags, .int .i64 x.dest.scheme, .string (bs x.dest.node), .string (bs x.dest.service), .int .i64 x.dest.a, .int .i64 x.dest.b, .int .i64 x.source.scheme, .string (bs x.source.node), .string (bs x.source.service), .int .i64 x.source.a, .int .i64 x.source.b, .int .i64 x.report.scheme, .string (bs x.report.node), .string (bs x.report.service), .int .i64 x.report.a, .int .i64 x.report.b, .int .i64 x.custodian.scheme, .string (bs x.custodian.node), .string (bs x.custodian.service), .int .i64 x.custodian.a, .int .i64 x.custodian.b, .int .i64 x.time, .int .i64 x.seq, .int .i64 x.life, .int .i64 x.off, .int .i64 x.total, .slice a m cap]] w (fun e w' => ∃ v, e = .returned (.tuple #[.agg #[.int .i64 (upS x []).flags, .int .i64 (upS x []).sum, .int .i64 (upS x []).dest.scheme, .string (bs (upS x []).dest.node), .string (bs (upS x []).dest.service), .int .i64 (upS x []).dest.a, .int .i64 (upS x []).dest.b, .int .i64 (upS x []).source.scheme, .string (bs (upS x []).source.node), .string (bs (upS x []).source.service), .int .i64 (upS x []).source.a, .int .i64 (upS x []).source.b, .int .i64 (upS x []).report.scheme, .string (bs (upS x []).report.node), .string (bs (upS x []).report.service), .int .i64 (upS x []).report.a, .int .i64 (upS x []).report.b, .int .i64 (upS x []).time, .int .i64 (upS x []).seq, .int .i64 (upS x []).life, .int .i64 (upS x []).off, .int .i64 (upS x []).total, v], .int .i64 0]) ∧ RowV B n L v w' ∧ Below w.heap.size w w') := by
  have HS := hide (fun U b f v c w4 h0 h1 h2 h3 h4 h5 => upSteps_ok U b B n L ld S f v h0 c x (.slice a m cap) w w4 h1 h2 h3 h4 h5 hA he hf hext hld)
  have HM := hide (fun W (hb : Below w.heap.size w W) => hA.sents.mono hb)
  obtain ⟨f, hF⟩ : ∃ q, q = (upF x.flags).1 := ⟨_, rfl⟩
  have HF := hide hF
  rw [← hF] at HS
  clear hA hext hld hF
  go_enter Tryz.func14, Tryz.ntmps14
  go_upto_region 2 with (first | (apply wpList_load_of (ty := 32); (case hgd => exact rfl); (case ho => exact rfl); (case hx => exact rfl); (case hr => apply load_row (n := 27); (case hheap => apply heapNew (u := w); (case hbel => ((repeat' (first | exact Below.refl _ _ | assumption | (refine Below.drew ?_) | (refine Below.alloc ?_ ?_ _) | (refine Below.setCell ?_ ?_ _) | (refine Below.step (W := ?hW) ?hq ?_ ?_; case hq => assumption))) <;> (first | (simp; done) | (simp; omega) | (simp at *; omega)))); (case hnew => exact rfl)); (case hu => exact Tryz.underlying32); (case hd => exact rfl); (case hi => kernel_rfl); (case hc => exact rfl))) | (apply wpList_load_w (ty := 32); (case hgd => exact rfl); (case ho => exact rfl); (case hx => exact rfl); (case hr => apply load_row (n := 27); (case hheap => apply heapNew (u := w); (case hbel => ((repeat' (first | exact Below.refl _ _ | assumption | (refine Below.drew ?_) | (refine Below.alloc ?_ ?_ _) | (refine Below.setCell ?_ ?_ _) | (refine Below.step (W := ?hW) ?hq ?_ ?_; case hq => assumption))) <;> (first | (simp; done) | (simp; omega) | (simp at *; omega)))); (case hnew => exact rfl)); (case hu => exact Tryz.underlying32); (case hd => exact rfl); (case hi => kernel_rfl); (case hc => exact rfl))))
  refine wp_named fun w1 hw1 => ?_
  have hB1 : Below w.heap.size w w1 := by rw [hw1]; ((repeat' (first | exact Below.refl _ _ | assumption | (refine Below.drew ?_) | (refine Below.alloc ?_ ?_ _) | (refine Below.setCell ?_ ?_ _) | (refine Below.step (W := ?hW) ?hq ?_ ?_; case hq => assumption))) <;> (first | (simp; done) | (simp; omega) | (simp at *; omega)))
  have ha : w1.heap[w.heap.size]? = some (.cells #[.int .i64 x.flags, .int .i64 x.dest.scheme, .string (bs x.dest.node), .string (bs x.dest.service), .int .i64 x.dest.a, .int .i64 x.dest.b, .int .i64 x.source.scheme, .string (bs x.source.node), .string (bs x.source.service), .int .i64 x.source.a, .int .i64 x.source.b, .int .i64 x.report.scheme, .string (bs x.report.node), .string (bs x.report.service), .int .i64 x.report.a, .int .i64 x.report.b, .int .i64 x.custodian.scheme, .string (bs x.custodian.node), .string (bs x.custodian.service), .int .i64 x.custodian.a, .int .i64 x.custodian.b, .int .i64 x.time, .int .i64 x.seq, .int .i64 x.life, .int .i64 x.off, .int .i64 x.total, .slice a m cap] 32 (0, 0)) := by rw [hw1]; exact heapNew (u := w) (by ((repeat' (first | exact Below.refl _ _ | assumption | (refine Below.drew ?_) | (refine Below.alloc ?_ ?_ _) | (refine Below.setCell ?_ ?_ _) | (refine Below.step (W := ?hW) ?hq ?_ ?_; case hq => assumption))) <;> (first | (simp; done) | (simp; omega) | (simp at *; omega)))) rfl
  have hr : w1.heap[w.heap.size + 1]? = some (.cells zeroSeven 35 (0, 0)) := by rw [hw1]; exact heapNew (u := w.alloc _) (by ((repeat' (first | exact Below.refl _ _ | assumption | (refine Below.drew ?_) | (refine Below.alloc ?_ ?_ _) | (refine Below.setCell ?_ ?_ _) | (refine Below.step (W := ?hW) ?hq ?_ ?_; case hq => assumption))) <;> (first | (simp; done) | (simp; omega) | (simp at *; omega)))) (by simp)
  have hU : UpAt w1 (w.heap.size + 1 + 1) 0 (.slice none 0 0) noClass x (.slice a m cap) := by rw [hw1]; exact heapNew (u := (w.alloc _).alloc _) (by ((repeat' (first | exact Below.refl _ _ | assumption | (refine Below.drew ?_) | (refine Below.alloc ?_ ?_ _) | (refine Below.setCell ?_ ?_ _) | (refine Below.step (W := ?hW) ?hq ?_ ?_; case hq => assumption))) <;> (first | (simp; done) | (simp; omega) | (simp at *; omega)))) (by simp)
  clear hw1
  have hUl : w.heap.size + 1 + 1 < w1.heap.size := (Array.getElem?_eq_some_iff.1 hU).1
  obtain ⟨U, hUe⟩ : ∃ U, U = w.heap.size + 1 + 1 := ⟨_, rfl⟩
  rw [← hUe] at hU hUl ⊢
  obtain ⟨R, hRe⟩ : ∃ R, R = w.heap.size + 1 := ⟨_, rfl⟩
  rw [← hRe] at hr ⊢
  obtain ⟨A, hAe⟩ : ∃ A, A = w.heap.size := ⟨_, rfl⟩
  rw [← hAe] at ha ⊢
  obtain ⟨q1, q2, q3, q4⟩ : w.heap.size ≤ U ∧ w.heap.size ≤ R ∧ R ≠ U ∧ A ≠ U := by omega
  clear hUe hRe hAe
  go_wp2_with fail
  obtain ⟨w4, hw4⟩ : ∃ w4, w4 = w1.alloc (.cells (upFs U).toArray 80) := ⟨_, rfl⟩
  simp only [← hw4]
  have hb4 : Below w1.heap.size w1 w4 := by rw [hw4]; exact (Below.refl _ _).alloc (Nat.le_refl _) _
  have hsl : w4.heap[w1.heap.size]? = some (.cells (upFs U).toArray 80 (0, 0)) := by rw [hw4]; exact World.alloc_heap_new w1 _
  clear hw4
  have hB4 := hB1.trans (hb4.mono hB1.size)
  have hst := HS.out U w1.heap.size 0 (.slice none 0 0) noClass w4 rfl hB4 q1 (by omega) (Array.getElem?_eq_some_iff.1 hsl).1 (hU.below hb4)
  refine (show Calls _ _ _ _ _ from stepsSix_calls w1.heap.size _ (upFs U) (.pointer (some ⟨U, 0, none⟩)) w4 (show 4 ≤ 1000 by decide) hsl hst).mono ?_
  rintro _ w5 ⟨v, rfl, rfl, sv, hU5, hR5, t5⟩
  have hr5 := (t5.block R (Nat.lt_of_lt_of_le (Array.getElem?_eq_some_iff.1 hr).1 hb4.size) q3 (by simp)).trans (heapKept hr hb4)
  have ha5 := (t5.block A (Nat.lt_of_lt_of_le (Array.getElem?_eq_some_iff.1 ha).1 hb4.size) q4 (by simp)).trans (heapKept ha hb4)
  have hB5 := t5.below hB4 q1
  have hU5 : w5.heap[U]? = some (.cells (upC f sv ⟨classN x.flags, classC x.flags, x.custodian⟩ x (.slice a m cap)) 76 (0, 0)) := hU5
  clear hst hsl t5 hr ha hU
  have a21 := cellsOf ha5 21
  simp only [List.getElem?_toArray, List.getElem?_cons_succ, List.getElem?_cons_zero] at a21
  go_wp2_with fail
  refine (show Calls _ _ _ _ _ from millis_calls S x.time w5 (HM.out w5 hB5)).mono ?_
  rintro _ w6 ⟨rfl, hb6⟩
  have hB6 := hB5.trans (hb6.mono hB5.size)
  have ha6 := heapKept ha5 hb6
  have hr6 := heapKept hr5 hb6
  have hU6 := heapKept hU5 hb6
  have hR6 := hR5.mono hb6
  clear ha5 hr5 hU5 hR5 a21
  have a23 := cellsOf ha6 23
  simp only [List.getElem?_toArray, List.getElem?_cons_succ, List.getElem?_cons_zero] at a23
  go_wp2_with fail
  refine (show Calls _ _ _ _ _ from millis_calls S x.life w6 (HM.out w6 hB6)).mono ?_
  rintro _ w7 ⟨rfl, hb7⟩
  have hB7 := hB6.trans (hb7.mono hB6.size)
  have ha7 := heapKept ha6 hb7
  have hr7 := heapKept hr6 hb7
  have hU7 := heapKept hU6 hb7
  have hR7 := hR6.mono hb7
  clear ha6 hr6 hU6 hR6 a23 hb6 hb7
  obtain ⟨t, ht⟩ : ∃ t, t = (millis x.time).1 := ⟨_, rfl⟩
  obtain ⟨l, hl⟩ : ∃ t, t = (millis x.life).1 := ⟨_, rfl⟩
  rw [← ht, ← hl]
  have Ht := hide (And.intro ht hl)
  clear ht hl
  have a22 := cellsOf ha7 22
  simp only [List.getElem?_toArray, List.getElem?_cons_succ, List.getElem?_cons_zero] at a22
  have a24 := cellsOf ha7 24
  simp only [List.getElem?_toArray, List.getElem?_cons_succ, List.getElem?_cons_zero] at a24
  have a25 := cellsOf ha7 25
  simp only [List.getElem?_toArray, List.getElem?_cons_succ, List.getElem?_cons_zero] at a25
  have u0 := cellsOf hU7 0
  simp only [List.getElem?_toArray, List.getElem?_cons_succ, List.getElem?_cons_zero] at u0
  have u1 := cellsOf hU7 1
  simp only [List.getElem?_toArray, List.getElem?_cons_succ, List.getElem?_cons_zero] at u1
  obtain ⟨ao, mo, co, rfl⟩ := hR7.slice
  have HA := hide ha7
  have HR := hide (And.intro hr7 (And.intro hR7 hB7))
  clear ha7 hr7 hU7 hR7 hB7
  go_wp2_with fail
  refine wp_region_pred 27 (fun W => Below w7.heap.size w7 W) (fun W W' => Below W.heap.size W W') (VUp7 A U f t l x ao mo co) (by kernel_rfl) (by kernel_rfl) (Below.refl _ _).drew
    (fun W W' h hg => h.trans (hg.mono h.size)) ?hV_16 (fun W => Below.refl _ _) ?how_16 ?hfin_16
  case hV_16 =>
    intro i_ v_ g_ W W' hg h
    match i_, h with
    | 0, h => exact h
    | 1, h => exact h
    | 2, h => exact h
    | 3, h => exact h
    | 4, h => exact h
    | 5, h => exact h
    | 6, h => exact h
    | 7, h => exact h
    | 8, h => exact h
    | 9, h => exact h
    | 10, h => exact h
    | 11, h => exact h
    | 12, h => exact h
    | 13, h => exact h
    | 14, h => exact h
    | 15, h => exact h
    | 16, h => exact h
    | 17, h => exact h
    | 18, h => exact h
    | 19, h => exact h
    | 20, h => exact h
    | 21, h => exact h
    | 22, h => exact h
    | 23, h => exact h
    | 24, h => exact h
    | 25, h => exact h
    | 26, h => exact h
    | _ + 27, _ => trivial
  case how_16 =>
    intro i_ hi_
    match i_, hi_ with
    | 0, _ =>
      refine owes_plain rfl rfl fun ac_ W hC hold hdep => ?_
      have hs4 := hold 4 (by kernel_rfl)
      clear hdep hold
      go_simp
      exact ⟨_, rfl, Below.refl _ _, rfl⟩
    | 1, _ =>
      refine owes_plain rfl rfl fun ac_ W hC hold hdep => ?_
      obtain ⟨_, (hd0 : _ = (.pointer (some ⟨U, 0, none⟩) : Value))⟩ := hdep 0 46 (by kernel_rfl)
      clear hdep hold
      go_simp
      exact ⟨_, rfl, Below.refl _ _, rfl⟩
    | 2, _ =>
      refine owes_plain rfl rfl fun ac_ W hC hold hdep => ?_
      obtain ⟨_, (hd1 : _ = (.pointer (some ⟨U, 0, none⟩) : Value))⟩ := hdep 1 47 (by kernel_rfl)
      clear hdep hold
      go_simp
      exact ⟨_, rfl, Below.refl _ _, rfl⟩
    | 3, _ =>
      refine owes_plain rfl rfl fun ac_ W hC hold hdep => ?_
      obtain ⟨_, (hd2 : _ = (.pointer (some ⟨U, 0, none⟩) : Value))⟩ := hdep 2 48 (by kernel_rfl)
      clear hdep hold
      go_simp
      exact ⟨_, rfl, Below.refl _ _, rfl⟩
    | 4, _ =>
      refine owes_plain rfl rfl fun ac_ W hC hold hdep => ?_
      obtain ⟨_, (hd3 : _ = (.pointer (some ⟨U, 0, none⟩) : Value))⟩ := hdep 3 49 (by kernel_rfl)
      clear hdep hold
      go_simp
      exact ⟨_, rfl, Below.refl _ _, rfl⟩
    | 5, _ =>
      refine owes_plain rfl rfl fun ac_ W hC hold hdep => ?_
      obtain ⟨_, (hd4 : _ = (.pointer (some ⟨U, 0, none⟩) : Value))⟩ := hdep 4 50 (by kernel_rfl)
      have u0 := (hC.cell (cellLt u0)).trans u0
      clear hdep hold
      go_simp
      exact ⟨_, rfl, Below.refl _ _, rfl⟩
    | 6, _ =>
      refine owes_plain rfl rfl fun ac_ W hC hold hdep => ?_
      have hs1 := hold 1 (by kernel_rfl)
      clear hdep hold
      go_simp
      exact ⟨_, rfl, Below.refl _ _, rfl⟩
    | 7, _ =>
      refine owes_plain rfl rfl fun ac_ W hC hold hdep => ?_
      obtain ⟨_, (hd6 : _ = (.pointer (some ⟨A, 1, none⟩) : Value))⟩ := hdep 6 52 (by kernel_rfl)
      exact wp_load_of (p := ⟨A, 1, none⟩) rfl (evalT hd6) (load_mid (n := 5) (off := 1) (c := #[.int .i64 x.dest.scheme, .string (bs x.dest.node), .string (bs x.dest.service), .int .i64 x.dest.a, .int .i64 x.dest.b]) (heapKept HA.out hC) Tryz.underlying29 rfl (by kernel_rfl) rfl rfl) ⟨_, rfl, Below.refl _ _, rfl⟩
    | 8, _ =>
      refine owes_plain rfl rfl fun ac_ W hC hold hdep => ?_
      have hs1 := hold 1 (by kernel_rfl)
      clear hdep hold
      go_simp
      exact ⟨_, rfl, Below.refl _ _, rfl⟩
    | 9, _ =>
      refine owes_plain rfl rfl fun ac_ W hC hold hdep => ?_
      obtain ⟨_, (hd8 : _ = (.pointer (some ⟨A, 6, none⟩) : Value))⟩ := hdep 8 54 (by kernel_rfl)
      exact wp_load_of (p := ⟨A, 6, none⟩) rfl (evalT hd8) (load_mid (n := 5) (off := 6) (c := #[.int .i64 x.source.scheme, .string (bs x.source.node), .string (bs x.source.service), .int .i64 x.source.a, .int .i64 x.source.b]) (heapKept HA.out hC) Tryz.underlying29 rfl (by kernel_rfl) rfl rfl) ⟨_, rfl, Below.refl _ _, rfl⟩
    | 10, _ =>
      refine owes_plain rfl rfl fun ac_ W hC hold hdep => ?_
      have hs1 := hold 1 (by kernel_rfl)
      clear hdep hold
      go_simp
      exact ⟨_, rfl, Below.refl _ _, rfl⟩
    | 11, _ =>
      refine owes_plain rfl rfl fun ac_ W hC hold hdep => ?_
      obtain ⟨_, (hd10 : _ = (.pointer (some ⟨A, 11, none⟩) : Value))⟩ := hdep 10 56 (by kernel_rfl)
      exact wp_load_of (p := ⟨A, 11, none⟩) rfl (evalT hd10) (load_mid (n := 5) (off := 11) (c := #[.int .i64 x.report.scheme, .string (bs x.report.node), .string (bs x.report.service), .int .i64 x.report.a, .int .i64 x.report.b]) (heapKept HA.out hC) Tryz.underlying29 rfl (by kernel_rfl) rfl rfl) ⟨_, rfl, Below.refl _ _, rfl⟩
    | 12, _ =>
      refine owes_plain rfl rfl fun ac_ W hC hold hdep => ?_
      have hs6 := hold 6 (by kernel_rfl)
      clear hdep hold
      go_simp
      exact ⟨_, rfl, Below.refl _ _, rfl⟩
    | 13, _ =>
      refine owes_plain rfl rfl fun ac_ W hC hold hdep => ?_
      have hs1 := hold 1 (by kernel_rfl)
      clear hdep hold
      go_simp
      exact ⟨_, rfl, Below.refl _ _, rfl⟩
    | 14, _ =>
      refine owes_plain rfl rfl fun ac_ W hC hold hdep => ?_
      obtain ⟨_, (hd13 : _ = (.pointer (some ⟨A, 22, none⟩) : Value))⟩ := hdep 13 59 (by kernel_rfl)
      have a22 := (hC.cell (cellLt a22)).trans a22
      clear hdep hold
      go_simp
      exact ⟨_, rfl, Below.refl _ _, rfl⟩
    | 15, _ =>
      refine owes_plain rfl rfl fun ac_ W hC hold hdep => ?_
      have hs8 := hold 8 (by kernel_rfl)
      clear hdep hold
      go_simp
      exact ⟨_, rfl, Below.refl _ _, rfl⟩
    | 16, _ =>
      refine owes_plain rfl rfl fun ac_ W hC hold hdep => ?_
      have hs1 := hold 1 (by kernel_rfl)
      clear hdep hold
      go_simp
      exact ⟨_, rfl, Below.refl _ _, rfl⟩
    | 17, _ =>
      refine owes_plain rfl rfl fun ac_ W hC hold hdep => ?_
      obtain ⟨_, (hd16 : _ = (.pointer (some ⟨A, 24, none⟩) : Value))⟩ := hdep 16 62 (by kernel_rfl)
      have a24 := (hC.cell (cellLt a24)).trans a24
      clear hdep hold
      go_simp
      exact ⟨_, rfl, Below.refl _ _, rfl⟩
    | 18, _ =>
      refine owes_plain rfl rfl fun ac_ W hC hold hdep => ?_
      have hs1 := hold 1 (by kernel_rfl)
      clear hdep hold
      go_simp
      exact ⟨_, rfl, Below.refl _ _, rfl⟩
    | 19, _ =>
      refine owes_plain rfl rfl fun ac_ W hC hold hdep => ?_
      obtain ⟨_, (hd18 : _ = (.pointer (some ⟨A, 25, none⟩) : Value))⟩ := hdep 18 64 (by kernel_rfl)
      have a25 := (hC.cell (cellLt a25)).trans a25
      clear hdep hold
      go_simp
      exact ⟨_, rfl, Below.refl _ _, rfl⟩
    | 20, _ =>
      refine owes_plain rfl rfl fun ac_ W hC hold hdep => ?_
      have hs4 := hold 4 (by kernel_rfl)
      clear hdep hold
      go_simp
      exact ⟨_, rfl, Below.refl _ _, rfl⟩
    | 21, _ =>
      refine owes_plain rfl rfl fun ac_ W hC hold hdep => ?_
      obtain ⟨_, (hd20 : _ = (.pointer (some ⟨U, 0, none⟩) : Value))⟩ := hdep 20 66 (by kernel_rfl)
      clear hdep hold
      go_simp
      exact ⟨_, rfl, Below.refl _ _, rfl⟩
    | 22, _ =>
      refine owes_plain rfl rfl fun ac_ W hC hold hdep => ?_
      obtain ⟨_, (hd21 : _ = (.pointer (some ⟨U, 0, none⟩) : Value))⟩ := hdep 21 67 (by kernel_rfl)
      clear hdep hold
      go_simp
      exact ⟨_, rfl, Below.refl _ _, rfl⟩
    | 23, _ =>
      refine owes_plain rfl rfl fun ac_ W hC hold hdep => ?_
      obtain ⟨_, (hd22 : _ = (.pointer (some ⟨U, 0, none⟩) : Value))⟩ := hdep 22 68 (by kernel_rfl)
      clear hdep hold
      go_simp
      exact ⟨_, rfl, Below.refl _ _, rfl⟩
    | 24, _ =>
      refine owes_plain rfl rfl fun ac_ W hC hold hdep => ?_
      obtain ⟨_, (hd23 : _ = (.pointer (some ⟨U, 0, none⟩) : Value))⟩ := hdep 23 69 (by kernel_rfl)
      clear hdep hold
      go_simp
      exact ⟨_, rfl, Below.refl _ _, rfl⟩
    | 25, _ =>
      refine owes_plain rfl rfl fun ac_ W hC hold hdep => ?_
      obtain ⟨_, (hd24 : _ = (.pointer (some ⟨U, 1, none⟩) : Value))⟩ := hdep 24 70 (by kernel_rfl)
      have u1 := (hC.cell (cellLt u1)).trans u1
      clear hdep hold
      go_simp
      exact ⟨_, rfl, Below.refl _ _, rfl⟩
    | 26, _ =>
      refine owes_plain rfl rfl fun ac_ W hC hold hdep => ?_
      obtain ⟨_, (hd5 : _ = (.int .i64 f : Value))⟩ := hdep 5 51 (by kernel_rfl)
      obtain ⟨_, (hd7 : _ = (.agg #[.int .i64 x.dest.scheme, .string (bs x.dest.node), .string (bs x.dest.service), .int .i64 x.dest.a, .int .i64 x.dest.b] : Value))⟩ := hdep 7 53 (by kernel_rfl)
      obtain ⟨_, (hd9 : _ = (.agg #[.int .i64 x.source.scheme, .string (bs x.source.node), .string (bs x.source.service), .int .i64 x.source.a, .int .i64 x.source.b] : Value))⟩ := hdep 9 55 (by kernel_rfl)
      obtain ⟨_, (hd11 : _ = (.agg #[.int .i64 x.report.scheme, .string (bs x.report.node), .string (bs x.report.service), .int .i64 x.report.a, .int .i64 x.report.b] : Value))⟩ := hdep 11 57 (by kernel_rfl)
      obtain ⟨_, (hd12 : _ = (.int .i64 t : Value))⟩ := hdep 12 58 (by kernel_rfl)
      obtain ⟨_, (hd14 : _ = (.int .i64 x.seq : Value))⟩ := hdep 14 60 (by kernel_rfl)
      obtain ⟨_, (hd15 : _ = (.int .i64 l : Value))⟩ := hdep 15 61 (by kernel_rfl)
      obtain ⟨_, (hd17 : _ = (.int .i64 x.off : Value))⟩ := hdep 17 63 (by kernel_rfl)
      obtain ⟨_, (hd19 : _ = (.int .i64 x.total : Value))⟩ := hdep 19 65 (by kernel_rfl)
      obtain ⟨_, (hd25 : _ = (.slice ao mo co : Value))⟩ := hdep 25 71 (by kernel_rfl)
      clear hdep hold
      go_simp
      exact ⟨_, rfl, Below.refl _ _, rfl⟩
    | k + 27, hk => exact absurd hk (by omega)
  case' hfin_16 =>
    intro fv W hC hold hval
    have v26 : (fv 72) = (.agg #[.int .i64 f, .int .i64 2, .int .i64 x.dest.scheme, .string (bs x.dest.node), .string (bs x.dest.service), .int .i64 x.dest.a, .int .i64 x.dest.b, .int .i64 x.source.scheme, .string (bs x.source.node), .string (bs x.source.service), .int .i64 x.source.a, .int .i64 x.source.b, .int .i64 x.report.scheme, .string (bs x.report.node), .string (bs x.report.service), .int .i64 x.report.a, .int .i64 x.report.b, .int .i64 t, .int .i64 x.seq, .int .i64 l, .int .i64 x.off, .int .i64 x.total, .slice ao mo co] : Value) := hval 26 _ (by omega) rfl
    have s0 := hold 0 (by kernel_rfl)
    simp only [Array.getD_eq_getD_getElem?, List.getElem?_toArray, List.getElem?_cons_succ, List.getElem?_cons_zero, Option.getD_some] at s0
    have s1 := hold 1 (by kernel_rfl)
    simp only [Array.getD_eq_getD_getElem?, List.getElem?_toArray, List.getElem?_cons_succ, List.getElem?_cons_zero, Option.getD_some] at s1
    have s2 := hold 2 (by kernel_rfl)
    simp only [Array.getD_eq_getD_getElem?, List.getElem?_toArray, List.getElem?_cons_succ, List.getElem?_cons_zero, Option.getD_some] at s2
    have s3 := hold 3 (by kernel_rfl)
    simp only [Array.getD_eq_getD_getElem?, List.getElem?_toArray, List.getElem?_cons_succ, List.getElem?_cons_zero, Option.getD_some] at s3
    have s4 := hold 4 (by kernel_rfl)
    simp only [Array.getD_eq_getD_getElem?, List.getElem?_toArray, List.getElem?_cons_succ, List.getElem?_cons_zero, Option.getD_some] at s4
    have s5 := hold 5 (by kernel_rfl)
    simp only [Array.getD_eq_getD_getElem?, List.getElem?_toArray, List.getElem?_cons_succ, List.getElem?_cons_zero, Option.getD_some] at s5
    have s6 := hold 6 (by kernel_rfl)
    simp only [Array.getD_eq_getD_getElem?, List.getElem?_toArray, List.getElem?_cons_succ, List.getElem?_cons_zero, Option.getD_some] at s6
    have s7 := hold 7 (by kernel_rfl)
    simp only [Array.getD_eq_getD_getElem?, List.getElem?_toArray, List.getElem?_cons_succ, List.getElem?_cons_zero, Option.getD_some] at s7
    have s8 := hold 8 (by kernel_rfl)
    simp only [Array.getD_eq_getD_getElem?, List.getElem?_toArray, List.getElem?_cons_succ, List.getElem?_cons_zero, Option.getD_some] at s8
    have s9 := hold 9 (by kernel_rfl)
    simp only [Array.getD_eq_getD_getElem?, List.getElem?_toArray, List.getElem?_cons_succ, List.getElem?_cons_zero, Option.getD_some] at s9
    have s10 := hold 10 (by kernel_rfl)
    simp only [Array.getD_eq_getD_getElem?, List.getElem?_toArray, List.getElem?_cons_succ, List.getElem?_cons_zero, Option.getD_some] at s10
    clear hval hold
    simp only [List.drop_succ_cons, List.drop_zero, List.size_toArray, List.length_cons, List.length_nil, Nat.reduceAdd]
    simp only [List.range, List.range.loop]
    simp only [List.map_cons, List.map_nil]
    simp only [s0, s1, s2, s3, s4, s5, s6, s7, s8, s9, s10]
  simp only [v26]
  have hrW := heapKept HR.out.1 hC
  go_wp2_with (apply wpList_store_at (ty := 35) (n := 23); (case hgd => exact rfl); (case ho => exact rfl); (case hd => exact rfl); (case hx => exact rfl); (case hheap => exact hrW); (case hy => exact rfl); (case hi => kernel_rfl); (case hn0 => exact rfl); (case hn => exact rfl); (case h1 => first | exact rfl | assumption | (simp [Value.oneCell', *]; done) | (simp [*]; done)))
  refine bodyPost_ret (results_ct rfl rfl rfl (load_row (n := 23) (hheap := setRow_heap _ _ _ _ _ _ hrW) (hu := Tryz.underlying35) (hd := rfl) (hi := by kernel_rfl) (hc := rfl))) rfl ?_
  refine ⟨.slice ao mo co, ?_, row_kept (fun g c' m' hg => (setRow_other W R g _ (by rintro rfl; rw [hrW] at hg; cases hg)).trans hg) (HR.out.2.1.mono hC), below_setRow (HR.out.2.2.trans (hC.mono HR.out.2.2.size)) q2 _⟩
  rw [HF.out, Ht.out.1, Ht.out.2]
  rfl
end Go.Proofs.YtllfaffbaijgfaaGreatDoor
