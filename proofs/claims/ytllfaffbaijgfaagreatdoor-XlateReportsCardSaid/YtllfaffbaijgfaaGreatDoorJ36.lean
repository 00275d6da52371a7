/- xlate.Down. -/
import Derived.Test.YtllfaffbaijgfaaGreatDoorJ35
set_option linter.unusedVariables false
set_option linter.unusedSimpArgs false
namespace Go.Proofs.YtllfaffbaijgfaaGreatDoor
open Go Go.RowKit Go.Shelf

set_option maxRecDepth 100000 in
set_option maxHeartbeats 40000000 in
theorem xdown_err (S : Nat → Addr) (x : Seven) (a : Option Addr) (m cap : Nat) (w : World) (hA : DnAsk S x (.slice a m cap) w) (hE : ErrAt w) (he : max (seconds x.time).2 (seconds x.life).2 ≠ 0) :
    Calls Tryz.prog 18 #[.agg #[.int .i64 x.flags, .int .i64 x.sum, .int .i64 x.dest.scheme, .string (bs x.dest.node), .string (bs x.dest.service), .int .i64 x.dest.a, .int .i64 x.dest.b, .int .i64 x.source.scheme, .string (bs x.source.node), .string (bs x.source.service), .int .i64 x.source.a, .int .i64 x.source.b, .int .i64 x.report.scheme, .string (bs x.report.node), .string (bs x.report.service), .int .i64 x.report.a, .int .i64 x.report.b, .int .i64 x.time, .int .i64 x.seq, .int .i64 x.life, .int .i64 x.off, .int .i64 x.total, .slice a m cap]] w (Rt w (.tuple #[.agg zeroSix, .int .i64 (max (seconds x.time).2 (seconds x.life).2)])) := by
  obtain ⟨q, hq⟩ : ∃ q, q = max (seconds x.time).2 (seconds x.life).2 := ⟨_, rfl⟩
  have HS := hide (fun U b f tm lf v c w4 h1 h2 h4 h5 => dnSteps_err U b S f tm lf v c x (.slice a m cap) w w4 h1 h2 h4 h5 hA he)
  rw [← hq] at HS he ⊢
  have HE := hide (fun W (hb : Below w.heap.size w W) => (show ErrAt W from (hb.cell (p := ⟨7, 0, none⟩) (cellLt hE)).trans hE))
  clear hq hA hE
  go_enter Tryz.func18, Tryz.ntmps18
  go_upto_region 2 with (first | (apply wpList_load_of (ty := 35); (case hgd => exact rfl); (case ho => exact rfl); (case hx => exact rfl); (case hr => apply load_row (n := 23); (case hheap => apply heapNew (u := w); (case hbel => ((repeat' (first | exact Below.refl _ _ | assumption | (refine Below.drew ?_) | (refine Below.alloc ?_ ?_ _) | (refine Below.setCell ?_ ?_ _) | (refine Below.step (W := ?hW) ?hq ?_ ?_; case hq => assumption))) <;> (first | (simp; done) | (simp; omega) | (simp at *; omega)))); (case hnew => exact rfl)); (case hu => exact Tryz.underlying35); (case hd => exact rfl); (case hi => kernel_rfl); (case hc => exact rfl))) | (apply wpList_load_w (ty := 35); (case hgd => exact rfl); (case ho => exact rfl); (case hx => exact rfl); (case hr => apply load_row (n := 23); (case hheap => apply heapNew (u := w); (case hbel => ((repeat' (first | exact Below.refl _ _ | assumption | (refine Below.drew ?_) | (refine Below.alloc ?_ ?_ _) | (refine Below.setCell ?_ ?_ _) | (refine Below.step (W := ?hW) ?hq ?_ ?_; case hq => assumption))) <;> (first | (simp; done) | (simp; omega) | (simp at *; omega)))); (case hnew => exact rfl)); (case hu => exact Tryz.underlying35); (case hd => exact rfl); (case hi => kernel_rfl); (case hc => exact rfl))))
  refine wp_named fun w1 hw1 => ?_
  have hB1 : Below w.heap.size w w1 := by rw [hw1]; ((repeat' (first | exact Below.refl _ _ | assumption | (refine Below.drew ?_) | (refine Below.alloc ?_ ?_ _) | (refine Below.setCell ?_ ?_ _) | (refine Below.step (W := ?hW) ?hq ?_ ?_; case hq => assumption))) <;> (first | (simp; done) | (simp; omega) | (simp at *; omega)))
  have hr : w1.heap[w.heap.size + 1]? = some (.cells zeroSix 32 (0, 0)) := by rw [hw1]; exact heapNew (u := w.alloc _) (by ((repeat' (first | exact Below.refl _ _ | assumption | (refine Below.drew ?_) | (refine Below.alloc ?_ ?_ _) | (refine Below.setCell ?_ ?_ _) | (refine Below.step (W := ?hW) ?hq ?_ ?_; case hq => assumption))) <;> (first | (simp; done) | (simp; omega) | (simp at *; omega)))) (by simp)
  have hU : DnAt w1 (w.heap.size + 1 + 1) 0 (.slice none 0 0) noClass x (.slice a m cap) 0 0 := by rw [hw1]; exact heapNew (u := (w.alloc _).alloc _) (by ((repeat' (first | exact Below.refl _ _ | assumption | (refine Below.drew ?_) | (refine Below.alloc ?_ ?_ _) | (refine Below.setCell ?_ ?_ _) | (refine Below.step (W := ?hW) ?hq ?_ ?_; case hq => assumption))) <;> (first | (simp; done) | (simp; omega) | (simp at *; omega)))) (by simp)
  clear hw1
  have hUl : w.heap.size + 1 + 1 < w1.heap.size := (Array.getElem?_eq_some_iff.1 hU).1
  obtain ⟨U, hUe⟩ : ∃ U, U = w.heap.size + 1 + 1 := ⟨_, rfl⟩
  rw [← hUe] at hU hUl ⊢
  obtain ⟨R, hRe⟩ : ∃ R, R = w.heap.size + 1 := ⟨_, rfl⟩
  rw [← hRe] at hr ⊢
  obtain ⟨q1, q2, q3⟩ : w.heap.size ≤ U ∧ w.heap.size ≤ R ∧ R ≠ U := by omega
  clear hUe hRe
  go_wp2_with fail
  obtain ⟨w4, hw4⟩ : ∃ w4, w4 = w1.alloc (.cells (dnFs U).toArray 80) := ⟨_, rfl⟩
  simp only [← hw4]
  have hb4 : Below w1.heap.size w1 w4 := by rw [hw4]; exact (Below.refl _ _).alloc (Nat.le_refl _) _
  have hsl : w4.heap[w1.heap.size]? = some (.cells (dnFs U).toArray 80 (0, 0)) := by rw [hw4]; exact World.alloc_heap_new w1 _
  clear hw4
  have hB4 := hB1.trans (hb4.mono hB1.size)
  have hst := HS.out U w1.heap.size 0 0 0 (.slice none 0 0) noClass w4 hB4 q1 (Array.getElem?_eq_some_iff.1 hsl).1 (hU.below hb4)
  refine (show Calls _ _ _ _ _ from stepsSeven_calls w1.heap.size _ (dnFs U) (.pointer (some ⟨U, 0, none⟩)) w4 (show 5 ≤ 1000 by decide) hsl hst).mono ?_
  rintro _ w5 ⟨v, rfl, rfl, t5⟩
  have hr5 := (t5.block R (Nat.lt_of_lt_of_le (Array.getElem?_eq_some_iff.1 hr).1 hb4.size) q3 (by simp)).trans (heapKept hr hb4)
  have hB5 := t5.below hB4 q1
  clear hst hsl t5 hr hU
  go_wp2_with fail
  refine (show Calls _ _ _ _ _ from eitherSix_err zeroSix q w5 (HE.out w5 hB5)).mono ?_
  rintro _ w6 ⟨rfl, hb6⟩
  have hr6 := heapKept hr5 hb6
  clear hr5
  go_wp2_with (apply wpList_store_at (ty := 32) (n := 27); (case hgd => exact rfl); (case ho => exact rfl); (case hd => exact rfl); (case hx => exact rfl); (case hheap => exact hr6); (case hy => exact rfl); (case hi => kernel_rfl); (case hn0 => exact rfl); (case hn => exact rfl); (case h1 => first | exact rfl | assumption | (simp [Value.oneCell', *]; done) | (simp [*]; done)))
  refine bodyPost_ret (results_ct rfl rfl rfl (load_row (n := 27) (hheap := setRow_heap _ _ _ _ _ _ hr6) (hu := Tryz.underlying32) (hd := rfl) (hi := by kernel_rfl) (hc := rfl))) rfl ?_
  exact ⟨rfl, below_setRow (hB5.trans (hb6.mono hB5.size)) q2 _⟩


/-- what Down makes -/
def dnS (x : Seven) (bl : List Block) : Six := ⟨(downF x.flags 0 false).1, x.dest, x.source, x.report, noEid, (seconds x.time).1, x.seq, (seconds x.life).1, x.off, x.total, bl⟩

def VDn5 (A U B0 : Nat) (f t l : Int) (x : Seven) (e : Eid) (ao : Option Addr) (mo co : Nat) : Nat → Value → (Nat → Value) → World → Prop
  | 0, v, _, W => v = .pointer (some ⟨U, 0, none⟩)
  | 1, v, _, W => v = .pointer (some ⟨U, 0, none⟩)
  | 2, v, _, W => v = .pointer (some ⟨U, 0, none⟩)
  | 3, v, _, W => v = .pointer (some ⟨U, 0, none⟩)
  | 4, v, _, W => v = .pointer (some ⟨U, 0, none⟩)
  | 5, v, _, W => v = .int .i64 f
  | 6, v, _, W => v = .pointer (some ⟨A, 2, none⟩)
  | 7, v, _, W => v = .agg #[.int .i64 x.dest.scheme, .string (bs x.dest.node), .string (bs x.dest.service), .int .i64 x.dest.a, .int .i64 x.dest.b]
  | 8, v, _, W => v = .pointer (some ⟨A, 7, none⟩)
  | 9, v, _, W => v = .agg #[.int .i64 x.source.scheme, .string (bs x.source.node), .string (bs x.source.service), .int .i64 x.source.a, .int .i64 x.source.b]
  | 10, v, _, W => v = .pointer (some ⟨A, 12, none⟩)
  | 11, v, _, W => v = .agg #[.int .i64 x.report.scheme, .string (bs x.report.node), .string (bs x.report.service), .int .i64 x.report.a, .int .i64 x.report.b]
  | 12, v, _, W => v = .pointer (some ⟨U, 0, none⟩)
  | 13, v, _, W => v = .pointer (some ⟨U, 0, none⟩)
  | 14, v, _, W => v = .pointer (some ⟨U, 0, none⟩)
  | 15, v, _, W => v = .pointer (some ⟨U, 0, none⟩)
  | 16, v, _, W => v = .pointer (some ⟨U, 2, none⟩)
  | 17, v, _, W => v = .pointer (some ⟨U, 4, none⟩)
  | 18, v, _, W => v = .agg #[.int .i64 e.scheme, .string (bs e.node), .string (bs e.service), .int .i64 e.a, .int .i64 e.b]
  | 19, v, _, W => v = .pointer (some ⟨U, 0, none⟩)
  | 20, v, _, W => v = .pointer (some ⟨U, 0, none⟩)
  | 21, v, _, W => v = .pointer (some ⟨U, 32, none⟩)
  | 22, v, _, W => v = .int .i64 t
  | 23, v, _, W => v = .pointer (some ⟨A, 18, none⟩)
  | 24, v, _, W => v = .int .i64 x.seq
  | 25, v, _, W => v = .pointer (some ⟨U, 0, none⟩)
  | 26, v, _, W => v = .pointer (some ⟨U, 0, none⟩)
  | 27, v, _, W => v = .pointer (some ⟨U, 33, none⟩)
  | 28, v, _, W => v = .int .i64 l
  | 29, v, _, W => v = .pointer (some ⟨A, 20, none⟩)
  | 30, v, _, W => v = .int .i64 x.off
  | 31, v, _, W => v = .pointer (some ⟨A, 21, none⟩)
  | 32, v, _, W => v = .int .i64 x.total
  | 33, v, _, W => v = .pointer (some ⟨U, 0, none⟩)
  | 34, v, _, W => v = .pointer (some ⟨U, 0, none⟩)
  | 35, v, _, W => v = .pointer (some ⟨U, 0, none⟩)
  | 36, v, _, W => v = .pointer (some ⟨U, 0, none⟩)
  | 37, v, _, W => v = .pointer (some ⟨U, 1, none⟩)
  | 38, v, _, W => v = .slice ao mo co
  | 39, v, _, W => v = .agg #[.int .i64 f, .int .i64 x.dest.scheme, .string (bs x.dest.node), .string (bs x.dest.service), .int .i64 x.dest.a, .int .i64 x.dest.b, .int .i64 x.source.scheme, .string (bs x.source.node), .string (bs x.source.service), .int .i64 x.source.a, .int .i64 x.source.b, .int .i64 x.report.scheme, .string (bs x.report.node), .string (bs x.report.service), .int .i64 x.report.a, .int .i64 x.report.b, .int .i64 e.scheme, .string (bs e.node), .string (bs e.service), .int .i64 e.a, .int .i64 e.b, .int .i64 t, .int .i64 x.seq, .int .i64 l, .int .i64 x.off, .int .i64 x.total, .slice ao mo co]
  | 40, v, _, W => NewAt B0 zeroSix 32 v W
  | _, _, _, _ => True


set_option maxRecDepth 100000 in
set_option maxHeartbeats 40000000 in
theorem xdown_ok (S : Nat → Addr) (B n : Nat) (L : List Value) (ld : List UInt8) (x : Seven) (a : Option Addr) (m cap : Nat) (w : World) (hA : DnAsk S x (.slice a m cap) w)
    (he1 : (seconds x.time).2 = 0) (he2 : (seconds x.life).2 = 0) (he3 : (downF x.flags 0 false).2 = 0) (hf : bits BinOp.and IntKind.i64 (downF x.flags 0 false).1 2 = 0)
    (hext : ∀ W, Below w.heap.size w W → Calls Tryz.prog 114 #[.slice a m cap] W (fun e w' => ∃ v, e = .returned v ∧ PairD B n L v w' ∧ Below W.heap.size W w'))
    (hld : ∀ W, Below w.heap.size w W → Calls Tryz.prog 15 #[.agg #[.int .i64 x.flags, .int .i64 x.sum, .int .i64 x.dest.scheme, .string (bs x.dest.node), .string (bs x.dest.service), .int .i64 x.dest.a, .int .i64 x.dest.b, .int .i64 x.source.scheme, .string (bs x.source.node), .string (bs x.source.service), .int .i64 x.source.a, .int .i64 x.source.b, .int .i64 x.report.scheme, .string (bs x.report.node), .string (bs x.report.service), .int .i64 x.report.a, .int .i64 x.report.b, .int .i64 x.time, .int .i64 x.seq, .int .i64 x.life, .int .i64 x.off, .int .i64 x.total, .slice a m cap]] W (Rt W (.string (bs ld))))
    (hsix : ∀ W a m cap, Below w.heap.size w W → RowV B n L (.slice a m cap) W → Calls Tryz.prog 27 #[.agg #[.int .i64 (dnS x []).flags, .int .i64 (dnS x []).dest.scheme, .string (bs (dnS x []).dest.node), .string (bs (dnS x []).dest.service), .int .i64 (dnS x []).dest.a, .int .i64 (dnS x []).dest.b, .int .i64 (dnS x []).source.scheme, .string (bs (dnS x []).source.node), .string (bs (dnS x []).source.service), .int .i64 (dnS x []).source.a, .int .i64 (dnS x []).source.b, .int .i64 (dnS x []).report.scheme, .string (bs (dnS x []).report.node), .string (bs (dnS x []).report.service), .int .i64 (dnS x []).report.a, .int .i64 (dnS x []).report.b, .int .i64 (dnS x []).custodian.scheme, .string (bs (dnS x []).custodian.node), .string (bs (dnS x []).custodian.service), .int .i64 (dnS x []).custodian.a, .int .i64 (dnS x []).custodian.b, .int .i64 (dnS x []).time, .int .i64 (dnS x []).seq, .int .i64 (dnS x []).life, .int .i64 (dnS x []).off, .int .i64 (dnS x []).total, .slice a m cap]] W (Rt W (.bool true))) :
    Calls Tryz.prog 18 #[.agg #[.int .i64 x.flags, .int .i64 x.sum, .int .i64 x.dest.scheme, .string (bs x.dest.node), .string (bs x.dest.service), .int .i64 x.dest.a, .int .i64 x.dest.b, .int .i64 x.source.scheme, .string (bs x.source.node), .string (bs x.source.service), .int .i64 x.source.a, .int .i64 x.source.b, .int .i64 x.report.scheme, .string (bs x.report.node), .string (bs x.report.service), .int .i64 x.report.a, .int .i64 x.report.b, .int .i64 x.time, .int .i64 x.seq, .int .i64 x.life, .int .i64 x.off, .int .i64 x.total, .slice a m cap]] w (fun e w' => ∃ v, e = .returned (.tuple #[.agg #[.int .i64 (dnS x []).flags, .int .i64 (dnS x []).dest.scheme, .string (bs (dnS x []).dest.node), .string (bs (dnS x []).dest.service), .int .i64 (dnS x []).dest.a, .int .i64 (dnS x []).dest.b, .int .i64 (dnS x []).source.scheme, .string (bs (dnS x []).source.node), .string (bs (dnS x []).source.service), .int .i64 (dnS x []).source.a, .int .i64 (dnS x []).source.b, .int .i64 (dnS x []).report.scheme, .string (bs (dnS x []).report.node), .string (bs (dnS x []).report.service), .int .i64 (dnS x []).report.a, .int .i64 (dnS x []).report.b, .int .i64 (dnS x []).custodian.scheme, .string (bs (dnS x []).custodian.node), .string (bs (dnS x []).custodian.service), .int .i64 (dnS x []).custodian.a, .int .i64 (dnS x []).custodian.b, .int .i64 (dnS x []).time, .int .i64 (dnS x []).seq, .int .i64 (dnS x []).life, .int .i64 (dnS x []).off, .int .i64 (dnS x []).total, v], .int .i64 0]) ∧ RowV B n L v w' ∧ Below w.heap.size w w') := by
  have HS := hide (fun U b f tm lf v c w4 h1 h2 h3 h4 h5 => dnSteps_ok U b B n L ld S f tm lf v c x (.slice a m cap) w w4 h1 h2 h3 h4 h5 hA he1 he2 he3 hf hext hld)
  have HX := hide hsix
  obtain ⟨f, hF⟩ : ∃ q, q = (downF x.flags 0 false).1 := ⟨_, rfl⟩
  obtain ⟨t, ht⟩ : ∃ q, q = (seconds x.time).1 := ⟨_, rfl⟩
  obtain ⟨l, hl⟩ : ∃ q, q = (seconds x.life).1 := ⟨_, rfl⟩
  have HF := hide (And.intro hF (And.intro ht hl))
  rw [← hF, ← ht, ← hl] at HS
  clear hA hext hld hF ht hl hsix he1 he2 he3 hf
  go_enter Tryz.func18, Tryz.ntmps18
  go_upto_region 2 with (first | (apply wpList_load_of (ty := 35); (case hgd => exact rfl); (case ho => exact rfl); (case hx => exact rfl); (case hr => apply load_row (n := 23); (case hheap => apply heapNew (u := w); (case hbel => ((repeat' (first | exact Below.refl _ _ | assumption | (refine Below.drew ?_) | (refine Below.alloc ?_ ?_ _) | (refine Below.setCell ?_ ?_ _) | (refine Below.step (W := ?hW) ?hq ?_ ?_; case hq => assumption))) <;> (first | (simp; done) | (simp; omega) | (simp at *; omega)))); (case hnew => exact rfl)); (case hu => exact Tryz.underlying35); (case hd => exact rfl); (case hi => kernel_rfl); (case hc => exact rfl))) | (apply wpList_load_w (ty := 35); (case hgd => exact rfl); (case ho => exact rfl); (case hx => exact rfl); (case hr => apply load_row (n := 23); (case hheap => apply heapNew (u := w); (case hbel => ((repeat' (first | exact Below.refl _ _ | assumption | (refine Below.drew ?_) | (refine Below.alloc ?_ ?_ _) | (refine Below.setCell ?_ ?_ _) | (refine Below.step (W := ?hW) ?hq ?_ ?_; case hq => assumption))) <;> (first | (simp; done) | (simp; omega) | (simp at *; omega)))); (case hnew => exact rfl)); (case hu => exact Tryz.underlying35); (case hd => exact rfl); (case hi => kernel_rfl); (case hc => exact rfl))))
  refine wp_named fun w1 hw1 => ?_
  have hB1 : Below w.heap.size w w1 := by rw [hw1]; ((repeat' (first | exact Below.refl _ _ | assumption | (refine Below.drew ?_) | (refine Below.alloc ?_ ?_ _) | (refine Below.setCell ?_ ?_ _) | (refine Below.step (W := ?hW) ?hq ?_ ?_; case hq => assumption))) <;> (first | (simp; done) | (simp; omega) | (simp at *; omega)))
  have ha : w1.heap[w.heap.size]? = some (.cells #[.int .i64 x.flags, .int .i64 x.sum, .int .i64 x.dest.scheme, .string (bs x.dest.node), .string (bs x.dest.service), .int .i64 x.dest.a, .int .i64 x.dest.b, .int .i64 x.source.scheme, .string (bs x.source.node), .string (bs x.source.service), .int .i64 x.source.a, .int .i64 x.source.b, .int .i64 x.report.scheme, .string (bs x.report.node), .string (bs x.report.service), .int .i64 x.report.a, .int .i64 x.report.b, .int .i64 x.time, .int .i64 x.seq, .int .i64 x.life, .int .i64 x.off, .int .i64 x.total, .slice a m cap] 35 (0, 0)) := by rw [hw1]; exact heapNew (u := w) (by ((repeat' (first | exact Below.refl _ _ | assumption | (refine Below.drew ?_) | (refine Below.alloc ?_ ?_ _) | (refine Below.setCell ?_ ?_ _) | (refine Below.step (W := ?hW) ?hq ?_ ?_; case hq => assumption))) <;> (first | (simp; done) | (simp; omega) | (simp at *; omega)))) rfl
  have hr : w1.heap[w.heap.size + 1]? = some (.cells zeroSix 32 (0, 0)) := by rw [hw1]; exact heapNew (u := w.alloc _) (by ((repeat' (first | exact Below.refl _ _ | assumption | (refine Below.drew ?_) | (refine Below.alloc ?_ ?_ _) | (refine Below.setCell ?_ ?_ _) | (refine Below.step (W := ?hW) ?hq ?_ ?_; case hq => assumption))) <;> (first | (simp; done) | (simp; omega) | (simp at *; omega)))) (by simp)
  have hU : DnAt w1 (w.heap.size + 1 + 1) 0 (.slice none 0 0) noClass x (.slice a m cap) 0 0 := by rw [hw1]; exact heapNew (u := (w.alloc _).alloc _) (by ((repeat' (first | exact Below.refl _ _ | assumption | (refine Below.drew ?_) | (refine Below.alloc ?_ ?_ _) | (refine Below.setCell ?_ ?_ _) | (refine Below.step (W := ?hW) ?hq ?_ ?_; case hq => assumption))) <;> (first | (simp; done) | (simp; omega) | (simp at *; omega)))) (by simp)
  clear hw1
  have hUl : w.heap.size + 1 + 1 < w1.heap.size := (Array.getElem?_eq_some_iff.1 hU).1
  obtain ⟨U, hUe⟩ : ∃ U, U = w.heap.size + 1 + 1 := ⟨_, rfl⟩
  rw [← hUe] at hU hUl ⊢
  obtain ⟨R, hRe⟩ : ∃ R, R = w.heap.size + 1 := ⟨_, rfl⟩
  rw [← hRe] at hr ⊢
  obtain ⟨A, hAe⟩ : ∃ A, A = w.heap.size := ⟨_, rfl⟩
  rw [← hAe] at ha ⊢
  obtain ⟨q1, q2, q3, q4⟩ : w.heap.size ≤ U ∧ w.heap.size ≤ R ∧ R ≠ U ∧ A ≠ U := by omega
  clear hUe hRe hAe
  go_wp2_with fail
  obtain ⟨w4, hw4⟩ : ∃ w4, w4 = w1.alloc (.cells (dnFs U).toArray 80) := ⟨_, rfl⟩
  simp only [← hw4]
  have hb4 : Below w1.heap.size w1 w4 := by rw [hw4]; exact (Below.refl _ _).alloc (Nat.le_refl _) _
  have hsl : w4.heap[w1.heap.size]? = some (.cells (dnFs U).toArray 80 (0, 0)) := by rw [hw4]; exact World.alloc_heap_new w1 _
  clear hw4
  have hB4 := hB1.trans (hb4.mono hB1.size)
  have hst := HS.out U w1.heap.size 0 0 0 (.slice none 0 0) noClass w4 hB4 q1 (by omega) (Array.getElem?_eq_some_iff.1 hsl).1 (hU.below hb4)
  refine (show Calls _ _ _ _ _ from stepsSeven_calls w1.heap.size _ (dnFs U) (.pointer (some ⟨U, 0, none⟩)) w4 (show 5 ≤ 1000 by decide) hsl hst).mono ?_
  rintro _ w7 ⟨v, rfl, rfl, sv, hU7, hR7, t5⟩
  have hr7 := (t5.block R (Nat.lt_of_lt_of_le (Array.getElem?_eq_some_iff.1 hr).1 hb4.size) q3 (by simp)).trans (heapKept hr hb4)
  have ha7 := (t5.block A (Nat.lt_of_lt_of_le (Array.getElem?_eq_some_iff.1 ha).1 hb4.size) q4 (by simp)).trans (heapKept ha hb4)
  have hB7 := t5.below hB4 q1
  obtain ⟨ao, mo, co, rfl⟩ := hR7.slice
  have hU7 : w7.heap[U]? = some (.cells (dnC f (.slice ao mo co) noClass x (.slice a m cap) t l) 92 (0, 0)) := hU7
  clear hst hsl t5 hr ha hU
  have a18 := cellsOf ha7 18
  simp only [List.getElem?_toArray, List.getElem?_cons_succ, List.getElem?_cons_zero] at a18
  have a20 := cellsOf ha7 20
  simp only [List.getElem?_toArray, List.getElem?_cons_succ, List.getElem?_cons_zero] at a20
  have a21 := cellsOf ha7 21
  simp only [List.getElem?_toArray, List.getElem?_cons_succ, List.getElem?_cons_zero] at a21
  have u0 := cellsOf hU7 0
  simp only [List.getElem?_toArray, List.getElem?_cons_succ, List.getElem?_cons_zero] at u0
  have u1 := cellsOf hU7 1
  simp only [List.getElem?_toArray, List.getElem?_cons_succ, List.getElem?_cons_zero] at u1
  have u32 := cellsOf hU7 32
  simp only [List.getElem?_toArray, List.getElem?_cons_succ, List.getElem?_cons_zero] at u32
  have u33 := cellsOf hU7 33
  simp only [List.getElem?_toArray, List.getElem?_cons_succ, List.getElem?_cons_zero] at u33
  have HA := hide ha7
  have HU := hide hU7
  have HR := hide (And.intro hr7 (And.intro hR7 hB7))
  clear ha7 hr7 hU7 hR7 hB7
  obtain ⟨e, he⟩ : ∃ e, e = noClass.custodian := ⟨_, rfl⟩
  have He := hide he
  simp only [dnC, ← he] at HU
  clear he
  go_upto_region 5 with fail
  obtain ⟨B0, hBe⟩ : ∃ B, B = w7.heap.size := ⟨_, rfl⟩
  refine wp_region_predD 41 (fun i => i == 40) (fun W => Below w7.heap.size w7 W) (fun W W' => Below W.heap.size W W') (VDn5 A U B0 f t l x e ao mo co) (by kernel_rfl) (by kernel_rfl) (Below.refl _ _).drew
    ?hA_20 (fun W W' h hg => h.trans (hg.mono h.size)) ?hV_20 (fun W => Below.refl _ _) ?how_20 ?hfin_20
  case hA_20 =>
    intro j u g W c hj hv hu
    have hj2 : j = 40 := by simpa using hj
    rcases hj2 with rfl
    all_goals exact NewAt.lt hv hu
  case hV_20 =>
    intro i_ v_ g_ W W' hg h
    match i_, h with
    | 0, h => exact h
    | 1, h => exact h
    | 2, h => exact h
    | 3, h => exact h
    | 4, h => exact h
    | 5, h => exact h
    | 6, h => exact h
    | 7, h => exact h
    | 8, h => exact h
    | 9, h => exact h
    | 10, h => exact h
    | 11, h => exact h
    | 12, h => exact h
    | 13, h => exact h
    | 14, h => exact h
    | 15, h => exact h
    | 16, h => exact h
    | 17, h => exact h
    | 18, h => exact h
    | 19, h => exact h
    | 20, h => exact h
    | 21, h => exact h
    | 22, h => exact h
    | 23, h => exact h
    | 24, h => exact h
    | 25, h => exact h
    | 26, h => exact h
    | 27, h => exact h
    | 28, h => exact h
    | 29, h => exact h
    | 30, h => exact h
    | 31, h => exact h
    | 32, h => exact h
    | 33, h => exact h
    | 34, h => exact h
    | 35, h => exact h
    | 36, h => exact h
    | 37, h => exact h
    | 38, h => exact h
    | 39, h => exact h
    | 40, h => exact NewAt.mono h hg
    | _ + 41, _ => trivial
  case how_20 =>
    intro i_ hi_
    match i_, hi_ with
    | 0, _ =>
      refine owesD_plain rfl rfl fun ac_ W hC hold hdep => ?_
      have hs4 := hold 4 (by kernel_rfl)
      clear hdep hold
      go_simp
      exact ⟨_, rfl, Below.refl _ _, rfl⟩
    | 1, _ =>
      refine owesD_plain rfl rfl fun ac_ W hC hold hdep => ?_
      obtain ⟨_, (hd0 : _ = (.pointer (some ⟨U, 0, none⟩) : Value))⟩ := hdep 0 33 (by kernel_rfl)
      clear hdep hold
      go_simp
      exact ⟨_, rfl, Below.refl _ _, rfl⟩
    | 2, _ =>
      refine owesD_plain rfl rfl fun ac_ W hC hold hdep => ?_
      obtain ⟨_, (hd1 : _ = (.pointer (some ⟨U, 0, none⟩) : Value))⟩ := hdep 1 34 (by kernel_rfl)
      clear hdep hold
      go_simp
      exact ⟨_, rfl, Below.refl _ _, rfl⟩
    | 3, _ =>
      refine owesD_plain rfl rfl fun ac_ W hC hold hdep => ?_
      obtain ⟨_, (hd2 : _ = (.pointer (some ⟨U, 0, none⟩) : Value))⟩ := hdep 2 35 (by kernel_rfl)
      clear hdep hold
      go_simp
      exact ⟨_, rfl, Below.refl _ _, rfl⟩
    | 4, _ =>
      refine owesD_plain rfl rfl fun ac_ W hC hold hdep => ?_
      obtain ⟨_, (hd3 : _ = (.pointer (some ⟨U, 0, none⟩) : Value))⟩ := hdep 3 36 (by kernel_rfl)
      clear hdep hold
      go_simp
      exact ⟨_, rfl, Below.refl _ _, rfl⟩
    | 5, _ =>
      refine owesD_plain rfl rfl fun ac_ W hC hold hdep => ?_
      obtain ⟨_, (hd4 : _ = (.pointer (some ⟨U, 0, none⟩) : Value))⟩ := hdep 4 37 (by kernel_rfl)
      have u0 := (hC.cell (cellLt u0)).trans u0
      clear hdep hold
      go_simp
      exact ⟨_, rfl, Below.refl _ _, rfl⟩
    | 6, _ =>
      refine owesD_plain rfl rfl fun ac_ W hC hold hdep => ?_
      have hs1 := hold 1 (by kernel_rfl)
      clear hdep hold
      go_simp
      exact ⟨_, rfl, Below.refl _ _, rfl⟩
    | 7, _ =>
      refine owesD_plain rfl rfl fun ac_ W hC hold hdep => ?_
      obtain ⟨_, (hd6 : _ = (.pointer (some ⟨A, 2, none⟩) : Value))⟩ := hdep 6 39 (by kernel_rfl)
      exact wp_load_of (p := ⟨A, 2, none⟩) rfl (evalT hd6) (load_mid (n := 5) (off := 2) (c := #[.int .i64 x.dest.scheme, .string (bs x.dest.node), .string (bs x.dest.service), .int .i64 x.dest.a, .int .i64 x.dest.b]) (heapKept HA.out hC) Tryz.underlying29 rfl (by kernel_rfl) rfl rfl) ⟨_, rfl, Below.refl _ _, rfl, fun h => absurd h (by decide)⟩
    | 8, _ =>
      refine owesD_plain rfl rfl fun ac_ W hC hold hdep => ?_
      have hs1 := hold 1 (by kernel_rfl)
      clear hdep hold
      go_simp
      exact ⟨_, rfl, Below.refl _ _, rfl⟩
    | 9, _ =>
      refine owesD_plain rfl rfl fun ac_ W hC hold hdep => ?_
      obtain ⟨_, (hd8 : _ = (.pointer (some ⟨A, 7, none⟩) : Value))⟩ := hdep 8 41 (by kernel_rfl)
      exact wp_load_of (p := ⟨A, 7, none⟩) rfl (evalT hd8) (load_mid (n := 5) (off := 7) (c := #[.int .i64 x.source.scheme, .string (bs x.source.node), .string (bs x.source.service), .int .i64 x.source.a, .int .i64 x.source.b]) (heapKept HA.out hC) Tryz.underlying29 rfl (by kernel_rfl) rfl rfl) ⟨_, rfl, Below.refl _ _, rfl, fun h => absurd h (by decide)⟩
    | 10, _ =>
      refine owesD_plain rfl rfl fun ac_ W hC hold hdep => ?_
      have hs1 := hold 1 (by kernel_rfl)
      clear hdep hold
      go_simp
      exact ⟨_, rfl, Below.refl _ _, rfl⟩
    | 11, _ =>
      refine owesD_plain rfl rfl fun ac_ W hC hold hdep => ?_
      obtain ⟨_, (hd10 : _ = (.pointer (some ⟨A, 12, none⟩) : Value))⟩ := hdep 10 43 (by kernel_rfl)
      exact wp_load_of (p := ⟨A, 12, none⟩) rfl (evalT hd10) (load_mid (n := 5) (off := 12) (c := #[.int .i64 x.report.scheme, .string (bs x.report.node), .string (bs x.report.service), .int .i64 x.report.a, .int .i64 x.report.b]) (heapKept HA.out hC) Tryz.underlying29 rfl (by kernel_rfl) rfl rfl) ⟨_, rfl, Below.refl _ _, rfl, fun h => absurd h (by decide)⟩
    | 12, _ =>
      refine owesD_plain rfl rfl fun ac_ W hC hold hdep => ?_
      have hs4 := hold 4 (by kernel_rfl)
      clear hdep hold
      go_simp
      exact ⟨_, rfl, Below.refl _ _, rfl⟩
    | 13, _ =>
      refine owesD_plain rfl rfl fun ac_ W hC hold hdep => ?_
      obtain ⟨_, (hd12 : _ = (.pointer (some ⟨U, 0, none⟩) : Value))⟩ := hdep 12 45 (by kernel_rfl)
      clear hdep hold
      go_simp
      exact ⟨_, rfl, Below.refl _ _, rfl⟩
    | 14, _ =>
      refine owesD_plain rfl rfl fun ac_ W hC hold hdep => ?_
      obtain ⟨_, (hd13 : _ = (.pointer (some ⟨U, 0, none⟩) : Value))⟩ := hdep 13 46 (by kernel_rfl)
      clear hdep hold
      go_simp
      exact ⟨_, rfl, Below.refl _ _, rfl⟩
    | 15, _ =>
      refine owesD_plain rfl rfl fun ac_ W hC hold hdep => ?_
      obtain ⟨_, (hd14 : _ = (.pointer (some ⟨U, 0, none⟩) : Value))⟩ := hdep 14 47 (by kernel_rfl)
      clear hdep hold
      go_simp
      exact ⟨_, rfl, Below.refl _ _, rfl⟩
    | 16, _ =>
      refine owesD_plain rfl rfl fun ac_ W hC hold hdep => ?_
      obtain ⟨_, (hd15 : _ = (.pointer (some ⟨U, 0, none⟩) : Value))⟩ := hdep 15 48 (by kernel_rfl)
      clear hdep hold
      go_simp
      exact ⟨_, rfl, Below.refl _ _, rfl⟩
    | 17, _ =>
      refine owesD_plain rfl rfl fun ac_ W hC hold hdep => ?_
      obtain ⟨_, (hd16 : _ = (.pointer (some ⟨U, 2, none⟩) : Value))⟩ := hdep 16 49 (by kernel_rfl)
      clear hdep hold
      go_simp
      exact ⟨_, rfl, Below.refl _ _, rfl⟩
    | 18, _ =>
      refine owesD_plain rfl rfl fun ac_ W hC hold hdep => ?_
      obtain ⟨_, (hd17 : _ = (.pointer (some ⟨U, 4, none⟩) : Value))⟩ := hdep 17 50 (by kernel_rfl)
      exact wp_load_of (p := ⟨U, 4, none⟩) rfl (evalT hd17) (load_mid (n := 5) (off := 4) (c := #[.int .i64 e.scheme, .string (bs e.node), .string (bs e.service), .int .i64 e.a, .int .i64 e.b]) (heapKept HU.out hC) Tryz.underlying29 rfl (by kernel_rfl) rfl rfl) ⟨_, rfl, Below.refl _ _, rfl, fun h => absurd h (by decide)⟩
    | 19, _ =>
      refine owesD_plain rfl rfl fun ac_ W hC hold hdep => ?_
      have hs4 := hold 4 (by kernel_rfl)
      clear hdep hold
      go_simp
      exact ⟨_, rfl, Below.refl _ _, rfl⟩
    | 20, _ =>
      refine owesD_plain rfl rfl fun ac_ W hC hold hdep => ?_
      obtain ⟨_, (hd19 : _ = (.pointer (some ⟨U, 0, none⟩) : Value))⟩ := hdep 19 52 (by kernel_rfl)
      clear hdep hold
      go_simp
      exact ⟨_, rfl, Below.refl _ _, rfl⟩
    | 21, _ =>
      refine owesD_plain rfl rfl fun ac_ W hC hold hdep => ?_
      obtain ⟨_, (hd20 : _ = (.pointer (some ⟨U, 0, none⟩) : Value))⟩ := hdep 20 53 (by kernel_rfl)
      clear hdep hold
      go_simp
      exact ⟨_, rfl, Below.refl _ _, rfl⟩
    | 22, _ =>
      refine owesD_plain rfl rfl fun ac_ W hC hold hdep => ?_
      obtain ⟨_, (hd21 : _ = (.pointer (some ⟨U, 32, none⟩) : Value))⟩ := hdep 21 54 (by kernel_rfl)
      have u32 := (hC.cell (cellLt u32)).trans u32
      clear hdep hold
      go_simp
      exact ⟨_, rfl, Below.refl _ _, rfl⟩
    | 23, _ =>
      refine owesD_plain rfl rfl fun ac_ W hC hold hdep => ?_
      have hs1 := hold 1 (by kernel_rfl)
      clear hdep hold
      go_simp
      exact ⟨_, rfl, Below.refl _ _, rfl⟩
    | 24, _ =>
      refine owesD_plain rfl rfl fun ac_ W hC hold hdep => ?_
      obtain ⟨_, (hd23 : _ = (.pointer (some ⟨A, 18, none⟩) : Value))⟩ := hdep 23 56 (by kernel_rfl)
      have a18 := (hC.cell (cellLt a18)).trans a18
      clear hdep hold
      go_simp
      exact ⟨_, rfl, Below.refl _ _, rfl⟩
    | 25, _ =>
      refine owesD_plain rfl rfl fun ac_ W hC hold hdep => ?_
      have hs4 := hold 4 (by kernel_rfl)
      clear hdep hold
      go_simp
      exact ⟨_, rfl, Below.refl _ _, rfl⟩
    | 26, _ =>
      refine owesD_plain rfl rfl fun ac_ W hC hold hdep => ?_
      obtain ⟨_, (hd25 : _ = (.pointer (some ⟨U, 0, none⟩) : Value))⟩ := hdep 25 58 (by kernel_rfl)
      clear hdep hold
      go_simp
      exact ⟨_, rfl, Below.refl _ _, rfl⟩
    | 27, _ =>
      refine owesD_plain rfl rfl fun ac_ W hC hold hdep => ?_
      obtain ⟨_, (hd26 : _ = (.pointer (some ⟨U, 0, none⟩) : Value))⟩ := hdep 26 59 (by kernel_rfl)
      clear hdep hold
      go_simp
      exact ⟨_, rfl, Below.refl _ _, rfl⟩
    | 28, _ =>
      refine owesD_plain rfl rfl fun ac_ W hC hold hdep => ?_
      obtain ⟨_, (hd27 : _ = (.pointer (some ⟨U, 33, none⟩) : Value))⟩ := hdep 27 60 (by kernel_rfl)
      have u33 := (hC.cell (cellLt u33)).trans u33
      clear hdep hold
      go_simp
      exact ⟨_, rfl, Below.refl _ _, rfl⟩
    | 29, _ =>
      refine owesD_plain rfl rfl fun ac_ W hC hold hdep => ?_
      have hs1 := hold 1 (by kernel_rfl)
      clear hdep hold
      go_simp
      exact ⟨_, rfl, Below.refl _ _, rfl⟩
    | 30, _ =>
      refine owesD_plain rfl rfl fun ac_ W hC hold hdep => ?_
      obtain ⟨_, (hd29 : _ = (.pointer (some ⟨A, 20, none⟩) : Value))⟩ := hdep 29 62 (by kernel_rfl)
      have a20 := (hC.cell (cellLt a20)).trans a20
      clear hdep hold
      go_simp
      exact ⟨_, rfl, Below.refl _ _, rfl⟩
    | 31, _ =>
      refine owesD_plain rfl rfl fun ac_ W hC hold hdep => ?_
      have hs1 := hold 1 (by kernel_rfl)
      clear hdep hold
      go_simp
      exact ⟨_, rfl, Below.refl _ _, rfl⟩
    | 32, _ =>
      refine owesD_plain rfl rfl fun ac_ W hC hold hdep => ?_
      obtain ⟨_, (hd31 : _ = (.pointer (some ⟨A, 21, none⟩) : Value))⟩ := hdep 31 64 (by kernel_rfl)
      have a21 := (hC.cell (cellLt a21)).trans a21
      clear hdep hold
      go_simp
      exact ⟨_, rfl, Below.refl _ _, rfl⟩
    | 33, _ =>
      refine owesD_plain rfl rfl fun ac_ W hC hold hdep => ?_
      have hs4 := hold 4 (by kernel_rfl)
      clear hdep hold
      go_simp
      exact ⟨_, rfl, Below.refl _ _, rfl⟩
    | 34, _ =>
      refine owesD_plain rfl rfl fun ac_ W hC hold hdep => ?_
      obtain ⟨_, (hd33 : _ = (.pointer (some ⟨U, 0, none⟩) : Value))⟩ := hdep 33 66 (by kernel_rfl)
      clear hdep hold
      go_simp
      exact ⟨_, rfl, Below.refl _ _, rfl⟩
    | 35, _ =>
      refine owesD_plain rfl rfl fun ac_ W hC hold hdep => ?_
      obtain ⟨_, (hd34 : _ = (.pointer (some ⟨U, 0, none⟩) : Value))⟩ := hdep 34 67 (by kernel_rfl)
      clear hdep hold
      go_simp
      exact ⟨_, rfl, Below.refl _ _, rfl⟩
    | 36, _ =>
      refine owesD_plain rfl rfl fun ac_ W hC hold hdep => ?_
      obtain ⟨_, (hd35 : _ = (.pointer (some ⟨U, 0, none⟩) : Value))⟩ := hdep 35 68 (by kernel_rfl)
      clear hdep hold
      go_simp
      exact ⟨_, rfl, Below.refl _ _, rfl⟩
    | 37, _ =>
      refine owesD_plain rfl rfl fun ac_ W hC hold hdep => ?_
      obtain ⟨_, (hd36 : _ = (.pointer (some ⟨U, 0, none⟩) : Value))⟩ := hdep 36 69 (by kernel_rfl)
      clear hdep hold
      go_simp
      exact ⟨_, rfl, Below.refl _ _, rfl⟩
    | 38, _ =>
      refine owesD_plain rfl rfl fun ac_ W hC hold hdep => ?_
      obtain ⟨_, (hd37 : _ = (.pointer (some ⟨U, 1, none⟩) : Value))⟩ := hdep 37 70 (by kernel_rfl)
      have u1 := (hC.cell (cellLt u1)).trans u1
      clear hdep hold
      go_simp
      exact ⟨_, rfl, Below.refl _ _, rfl⟩
    | 39, _ =>
      refine owesD_plain rfl rfl fun ac_ W hC hold hdep => ?_
      obtain ⟨_, (hd5 : _ = (.int .i64 f : Value))⟩ := hdep 5 38 (by kernel_rfl)
      obtain ⟨_, (hd7 : _ = (.agg #[.int .i64 x.dest.scheme, .string (bs x.dest.node), .string (bs x.dest.service), .int .i64 x.dest.a, .int .i64 x.dest.b] : Value))⟩ := hdep 7 40 (by kernel_rfl)
      obtain ⟨_, (hd9 : _ = (.agg #[.int .i64 x.source.scheme, .string (bs x.source.node), .string (bs x.source.service), .int .i64 x.source.a, .int .i64 x.source.b] : Value))⟩ := hdep 9 42 (by kernel_rfl)
      obtain ⟨_, (hd11 : _ = (.agg #[.int .i64 x.report.scheme, .string (bs x.report.node), .string (bs x.report.service), .int .i64 x.report.a, .int .i64 x.report.b] : Value))⟩ := hdep 11 44 (by kernel_rfl)
      obtain ⟨_, (hd18 : _ = (.agg #[.int .i64 e.scheme, .string (bs e.node), .string (bs e.service), .int .i64 e.a, .int .i64 e.b] : Value))⟩ := hdep 18 51 (by kernel_rfl)
      obtain ⟨_, (hd22 : _ = (.int .i64 t : Value))⟩ := hdep 22 55 (by kernel_rfl)
      obtain ⟨_, (hd24 : _ = (.int .i64 x.seq : Value))⟩ := hdep 24 57 (by kernel_rfl)
      obtain ⟨_, (hd28 : _ = (.int .i64 l : Value))⟩ := hdep 28 61 (by kernel_rfl)
      obtain ⟨_, (hd30 : _ = (.int .i64 x.off : Value))⟩ := hdep 30 63 (by kernel_rfl)
      obtain ⟨_, (hd32 : _ = (.int .i64 x.total : Value))⟩ := hdep 32 65 (by kernel_rfl)
      obtain ⟨_, (hd38 : _ = (.slice ao mo co : Value))⟩ := hdep 38 71 (by kernel_rfl)
      clear hdep hold
      go_simp
      exact ⟨_, rfl, Below.refl _ _, rfl⟩
    | 40, _ =>
      refine owesD_plain rfl rfl fun ac_ W hC hold hdep => ?_
      clear hdep hold
      go_simp
      exact ⟨_, rfl, (Below.refl _ _).alloc (Nat.le_refl _) _, newAt_alloc _ _ W hC.size, fun c hc => by cases hc; exact Nat.le_refl _⟩
    | k + 41, hk => exact absurd hk (by omega)
  case' hfin_20 =>
    intro fv W hC hold hval hpair
    clear hpair
    have v39 : (fv 72) = (.agg #[.int .i64 f, .int .i64 x.dest.scheme, .string (bs x.dest.node), .string (bs x.dest.service), .int .i64 x.dest.a, .int .i64 x.dest.b, .int .i64 x.source.scheme, .string (bs x.source.node), .string (bs x.source.service), .int .i64 x.source.a, .int .i64 x.source.b, .int .i64 x.report.scheme, .string (bs x.report.node), .string (bs x.report.service), .int .i64 x.report.a, .int .i64 x.report.b, .int .i64 e.scheme, .string (bs e.node), .string (bs e.service), .int .i64 e.a, .int .i64 e.b, .int .i64 t, .int .i64 x.seq, .int .i64 l, .int .i64 x.off, .int .i64 x.total, .slice ao mo co] : Value) := hval 39 _ (by omega) rfl
    have v40 : NewAt B0 zeroSix 32 (fv 6) W := hval 40 _ (by omega) rfl
    have s0 := hold 0 (by kernel_rfl)
    simp only [Array.getD_eq_getD_getElem?, List.getElem?_toArray, List.getElem?_cons_succ, List.getElem?_cons_zero, Option.getD_some] at s0
    have s1 := hold 1 (by kernel_rfl)
    simp only [Array.getD_eq_getD_getElem?, List.getElem?_toArray, List.getElem?_cons_succ, List.getElem?_cons_zero, Option.getD_some] at s1
    have s2 := hold 2 (by kernel_rfl)
    simp only [Array.getD_eq_getD_getElem?, List.getElem?_toArray, List.getElem?_cons_succ, List.getElem?_cons_zero, Option.getD_some] at s2
    have s3 := hold 3 (by kernel_rfl)
    simp only [Array.getD_eq_getD_getElem?, List.getElem?_toArray, List.getElem?_cons_succ, List.getElem?_cons_zero, Option.getD_some] at s3
    have s4 := hold 4 (by kernel_rfl)
    simp only [Array.getD_eq_getD_getElem?, List.getElem?_toArray, List.getElem?_cons_succ, List.getElem?_cons_zero, Option.getD_some] at s4
    have s5 := hold 5 (by kernel_rfl)
    simp only [Array.getD_eq_getD_getElem?, List.getElem?_toArray, List.getElem?_cons_succ, List.getElem?_cons_zero, Option.getD_some] at s5
    clear hval hold
    simp only [List.drop_succ_cons, List.drop_zero, List.size_toArray, List.length_cons, List.length_nil, Nat.reduceAdd]
    simp only [List.range, List.range.loop]
    simp only [List.map_cons, List.map_nil]
    simp only [s0, s1, s2, s3, s4, s5]
  obtain ⟨p, hp1, hp0, hp2⟩ := v40
  simp only [hp1, v39]
  have hpl : w7.heap.size ≤ p := by rw [← hBe]; exact hp0
  have hpR : ¬ p = R := by have := (Array.getElem?_eq_some_iff.1 HR.out.1).1; omega
  clear hBe hp0
  go_upto_region 6 with (apply wpList_store_at (ty := 32) (n := 27); (case hgd => exact rfl); (case ho => exact rfl); (case hd => exact rfl); (case hx => exact rfl); (case hheap => exact hp2); (case hy => exact rfl); (case hi => kernel_rfl); (case hn0 => exact rfl); (case hn => exact rfl); (case h1 => first | exact rfl | assumption | (simp [Value.oneCell', *]; done) | (simp [*]; done)))
  refine wp_named fun w8 hw8 => ?_
  have hB8 : Below w7.heap.size w7 w8 := by rw [hw8]; exact below_setRow hC hpl _
  have P8 : w8.heap[p]? = some (.cells #[.int .i64 f, .int .i64 x.dest.scheme, .string (bs x.dest.node), .string (bs x.dest.service), .int .i64 x.dest.a, .int .i64 x.dest.b, .int .i64 x.source.scheme, .string (bs x.source.node), .string (bs x.source.service), .int .i64 x.source.a, .int .i64 x.source.b, .int .i64 x.report.scheme, .string (bs x.report.node), .string (bs x.report.service), .int .i64 x.report.a, .int .i64 x.report.b, .int .i64 e.scheme, .string (bs e.node), .string (bs e.service), .int .i64 e.a, .int .i64 e.b, .int .i64 t, .int .i64 x.seq, .int .i64 l, .int .i64 x.off, .int .i64 x.total, .slice ao mo co] 32 (0, 0)) := by rw [hw8]; exact heap_setRow_same hp2
  have hr8 := heapKept HR.out.1 hB8
  have hR8 := HR.out.2.1.mono hB8
  have hBw := HR.out.2.2.trans (hB8.mono HR.out.2.2.size)
  clear hw8 hp2 hC v39 hp1
  have hx := HX.out w8 ao mo co hBw hR8
  have hxe : (#[.int .i64 (dnS x []).flags, .int .i64 (dnS x []).dest.scheme, .string (bs (dnS x []).dest.node), .string (bs (dnS x []).dest.service), .int .i64 (dnS x []).dest.a, .int .i64 (dnS x []).dest.b, .int .i64 (dnS x []).source.scheme, .string (bs (dnS x []).source.node), .string (bs (dnS x []).source.service), .int .i64 (dnS x []).source.a, .int .i64 (dnS x []).source.b, .int .i64 (dnS x []).report.scheme, .string (bs (dnS x []).report.node), .string (bs (dnS x []).report.service), .int .i64 (dnS x []).report.a, .int .i64 (dnS x []).report.b, .int .i64 (dnS x []).custodian.scheme, .string (bs (dnS x []).custodian.node), .string (bs (dnS x []).custodian.service), .int .i64 (dnS x []).custodian.a, .int .i64 (dnS x []).custodian.b, .int .i64 (dnS x []).time, .int .i64 (dnS x []).seq, .int .i64 (dnS x []).life, .int .i64 (dnS x []).off, .int .i64 (dnS x []).total, .slice ao mo co] : Array Value) = #[.int .i64 f, .int .i64 x.dest.scheme, .string (bs x.dest.node), .string (bs x.dest.service), .int .i64 x.dest.a, .int .i64 x.dest.b, .int .i64 x.source.scheme, .string (bs x.source.node), .string (bs x.source.service), .int .i64 x.source.a, .int .i64 x.source.b, .int .i64 x.report.scheme, .string (bs x.report.node), .string (bs x.report.service), .int .i64 x.report.a, .int .i64 x.report.b, .int .i64 e.scheme, .string (bs e.node), .string (bs e.service), .int .i64 e.a, .int .i64 e.b, .int .i64 t, .int .i64 x.seq, .int .i64 l, .int .i64 x.off, .int .i64 x.total, .slice ao mo co] := by
    rw [HF.out.1, HF.out.2.1, HF.out.2.2, He.out]; rfl
  rw [hxe] at hx
  have Hxe := hide hxe
  clear hxe
  go_wp2_with (first | (apply wpList_load_of (ty := 32); (case hgd => exact rfl); (case ho => exact rfl); (case hx => exact rfl); (case hr => apply load_row (n := 27); (case hheap => exact P8); (case hu => exact Tryz.underlying32); (case hd => exact rfl); (case hi => kernel_rfl); (case hc => exact rfl))) | (apply wpList_load_w (ty := 32); (case hgd => exact rfl); (case ho => exact rfl); (case hx => exact rfl); (case hr => apply load_row (n := 27); (case hheap => exact P8); (case hu => exact Tryz.underlying32); (case hd => exact rfl); (case hi => kernel_rfl); (case hc => exact rfl))))
  refine (show Calls _ _ _ _ _ from hx).mono ?_
  rintro _ w9 ⟨rfl, hb9⟩
  have P9 := heapKept P8 hb9
  have hr9 := heapKept hr8 hb9
  have hR9 := hR8.mono hb9
  have hB9 := hBw.trans (hb9.mono hBw.size)
  clear P8 hr8 hR8 hx
  have HR9 := hide hR9
  clear hR9
  go_wp2_with (first | (first | (apply wpList_load_of (ty := 32); (case hgd => exact rfl); (case ho => exact rfl); (case hx => exact rfl); (case hr => apply load_row (n := 27); (case hheap => exact P9); (case hu => exact Tryz.underlying32); (case hd => exact rfl); (case hi => kernel_rfl); (case hc => exact rfl))) | (apply wpList_load_w (ty := 32); (case hgd => exact rfl); (case ho => exact rfl); (case hx => exact rfl); (case hr => apply load_row (n := 27); (case hheap => exact P9); (case hu => exact Tryz.underlying32); (case hd => exact rfl); (case hi => kernel_rfl); (case hc => exact rfl)))) | (apply wpList_store_at (ty := 32) (n := 27); (case hgd => exact rfl); (case ho => exact rfl); (case hd => exact rfl); (case hx => exact rfl); (case hheap => exact hr9); (case hy => exact rfl); (case hi => kernel_rfl); (case hn0 => exact rfl); (case hn => exact rfl); (case h1 => first | exact rfl | assumption | (simp [Value.oneCell', *]; done) | (simp [*]; done))))
  refine bodyPost_ret (results_ct rfl rfl rfl (load_row (n := 27) (hheap := setRow_heap _ _ _ _ _ _ hr9) (hu := Tryz.underlying32) (hd := rfl) (hi := by kernel_rfl) (hc := rfl))) rfl ?_
  refine ⟨.slice ao mo co, by rw [Hxe.out]; rfl, row_kept (fun g c' m' hg => (setRow_other w9 R g _ (by rintro rfl; rw [hr9] at hg; cases hg)).trans hg) HR9.out, below_setRow hB9 q2 _⟩
end Go.Proofs.YtllfaffbaijgfaaGreatDoor
