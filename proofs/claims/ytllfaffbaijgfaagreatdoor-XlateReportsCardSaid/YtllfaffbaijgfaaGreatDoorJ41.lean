/- xlate.ReportDown. -/
import Derived.Test.YtllfaffbaijgfaaGreatDoorJ18
set_option linter.unusedVariables false
set_option linter.unusedSimpArgs false
namespace Go.Proofs.YtllfaffbaijgfaaGreatDoor
open Go Go.RowKit Go.Shelf

def downOk7 (x : Report) : Bool := right7R x && turnedB x seconds
def reportDown (x : Report) : Report := if downOk7 x = true then turnedR x seconds else zeroReport
def reportDownE (x : Report) : Int := if downOk7 x = true then 0 else 120

set_option maxRecDepth 100000 in
set_option maxHeartbeats 40000000 in
theorem reportDown_calls (S : Nat → Addr) (x : Report) (a : Option Addr) (cap : Nat) (w : World) (hS : Sents S w) (hfit : eidFit x.source) (hlen : x.times.length ≤ 1048576) (hv : IntsV w x.times (.slice a x.times.length cap)) :
    Calls Tryz.prog 21 #[.agg #[.int .i64 x.bits, .slice a x.times.length cap, .int .i64 x.reason, .int .i64 x.source.scheme, .string (bs x.source.node), .string (bs x.source.service), .int .i64 x.source.a, .int .i64 x.source.b, .int .i64 x.time, .int .i64 x.seq, .bool x.part, .int .i64 x.off, .int .i64 x.len]] w (fun e w' => ∃ a' cap', e = .returned (.tuple #[.agg #[.int .i64 (reportDown x).bits, .slice a' (reportDown x).times.length cap', .int .i64 (reportDown x).reason, .int .i64 (reportDown x).source.scheme, .string (bs (reportDown x).source.node), .string (bs (reportDown x).source.service), .int .i64 (reportDown x).source.a, .int .i64 (reportDown x).source.b, .int .i64 (reportDown x).time, .int .i64 (reportDown x).seq, .bool (reportDown x).part, .int .i64 (reportDown x).off, .int .i64 (reportDown x).len], .int .i64 (reportDownE x)]) ∧ IntsV w' (reportDown x).times (.slice a' (reportDown x).times.length cap') ∧ Below w.heap.size w w') := by
  have HT := hide (show ∀ W, Below w.heap.size w W → _ from fun W h => turned_calls x a cap 54 seconds W hlen (hv.mono h) (fun n W' hk => seconds_calls S n W' ((hS.mono h).keep hk)) (enters_of Tryz.func54 (by kernel_rfl) rfl))
  have HF := hide (show ∀ W, Below w.heap.size w W → Calls Tryz.prog 22 #[.agg #[.int .i64 x.bits, .slice a x.times.length cap, .int .i64 x.reason, .int .i64 x.source.scheme, .string (bs x.source.node), .string (bs x.source.service), .int .i64 x.source.a, .int .i64 x.source.b, .int .i64 x.time, .int .i64 x.seq, .bool x.part, .int .i64 x.off, .int .i64 x.len]] W (Rt W (.bool (right7R x))) from fun W h => right7_calls x a cap W hfit (by omega) (hv.mono h))
  obtain ⟨n, hn⟩ : ∃ n, n = x.times.length := ⟨_, rfl⟩
  rw [← hn] at HT HF ⊢
  obtain ⟨p, hp⟩ : ∃ p, p = right7R x := ⟨_, rfl⟩
  obtain ⟨q, hq⟩ : ∃ q, q = turnedB x seconds := ⟨_, rfl⟩
  obtain ⟨y, hy⟩ : ∃ y, y = turnedR x seconds := ⟨_, rfl⟩
  rw [← hp] at HF
  rw [← hq, ← hy] at HT
  obtain ⟨m, hm⟩ : ∃ m, m = y.times.length := ⟨_, rfl⟩
  rw [← hm] at HT
  have Hm := hide hm
  have Hr := hide (show downOk7 x = (p && q) by rw [downOk7, hp, hq])
  have Hy := hide (show reportDown x = if downOk7 x = true then y else zeroReport by rw [reportDown, hy])
  clear hS hfit hlen hv hn hp hq hy hm
  go_enter Tryz.func21, Tryz.ntmps21
  go_wp2_with (first | (apply wpList_load_of (ty := 47); (case hgd => exact rfl); (case ho => exact rfl); (case hx => exact rfl); (case hr => apply load_row (n := 13); (case hheap => apply heapNew (u := w); (case hbel => ((repeat' (first | exact Below.refl _ _ | assumption | (refine Below.drew ?_) | (refine Below.alloc ?_ ?_ _) | (refine Below.setCell ?_ ?_ _) | (refine Below.step (W := ?hW) ?hq ?_ ?_; case hq => assumption))) <;> (first | (simp; done) | (simp; omega) | (simp at *; omega)))); (case hnew => exact rfl)); (case hu => exact Tryz.underlying47); (case hd => exact rfl); (case hi => kernel_rfl); (case hc => exact rfl))) | (apply wpList_load_w (ty := 47); (case hgd => exact rfl); (case ho => exact rfl); (case hx => exact rfl); (case hr => apply load_row (n := 13); (case hheap => apply heapNew (u := w); (case hbel => ((repeat' (first | exact Below.refl _ _ | assumption | (refine Below.drew ?_) | (refine Below.alloc ?_ ?_ _) | (refine Below.setCell ?_ ?_ _) | (refine Below.step (W := ?hW) ?hq ?_ ?_; case hq => assumption))) <;> (first | (simp; done) | (simp; omega) | (simp at *; omega)))); (case hnew => exact rfl)); (case hu => exact Tryz.underlying47); (case hd => exact rfl); (case hi => kernel_rfl); (case hc => exact rfl))))
  obtain ⟨w0, hw0⟩ : ∃ w0, w0 = (w.alloc (.cells #[.int .i64 x.bits, .slice a n cap, .int .i64 x.reason, .int .i64 x.source.scheme, .string (bs x.source.node), .string (bs x.source.service), .int .i64 x.source.a, .int .i64 x.source.b, .int .i64 x.time, .int .i64 x.seq, .bool x.part, .int .i64 x.off, .int .i64 x.len] 47)).alloc (.cells zeroRep 47) := ⟨_, rfl⟩
  rw [← hw0]
  have hB0 : Below w.heap.size w w0 := by rw [hw0]; ((repeat' (first | exact Below.refl _ _ | assumption | (refine Below.drew ?_) | (refine Below.alloc ?_ ?_ _) | (refine Below.setCell ?_ ?_ _) | (refine Below.step (W := ?hW) ?hq ?_ ?_; case hq => assumption))) <;> (first | (simp; done) | (simp; omega) | (simp at *; omega)))
  have hx : w0.heap[w.heap.size]? = some (.cells #[.int .i64 x.bits, .slice a n cap, .int .i64 x.reason, .int .i64 x.source.scheme, .string (bs x.source.node), .string (bs x.source.service), .int .i64 x.source.a, .int .i64 x.source.b, .int .i64 x.time, .int .i64 x.seq, .bool x.part, .int .i64 x.off, .int .i64 x.len] 47 (0, 0)) := by rw [hw0]; exact heapNew (u := w) (by ((repeat' (first | exact Below.refl _ _ | assumption | (refine Below.drew ?_) | (refine Below.alloc ?_ ?_ _) | (refine Below.setCell ?_ ?_ _) | (refine Below.step (W := ?hW) ?hq ?_ ?_; case hq => assumption))) <;> (first | (simp; done) | (simp; omega) | (simp at *; omega)))) rfl
  have hr : w0.heap[w.heap.size + 1]? = some (.cells zeroRep 47 (0, 0)) := by rw [hw0]; exact heapNew (u := w.alloc _) (by ((repeat' (first | exact Below.refl _ _ | assumption | (refine Below.drew ?_) | (refine Below.alloc ?_ ?_ _) | (refine Below.setCell ?_ ?_ _) | (refine Below.step (W := ?hW) ?hq ?_ ?_; case hq => assumption))) <;> (first | (simp; done) | (simp; omega) | (simp at *; omega)))) (by simp)
  have hs0 : w0.heap.size = w.heap.size + 2 := by rw [hw0]; simp
  clear hw0
  refine (show Calls _ _ _ _ _ from HT.out w0 hB0).mono ?_
  rintro e_ w1 ⟨a', cap', rfl, hiv, hfr, hb1⟩
  replace hx := heapKept hx hb1
  replace hr := heapKept hr hb1
  have hB1 := hB0.trans (hb1.mono hB0.size)
  have hs1 : w.heap.size + 2 ≤ w1.heap.size := by rw [← hs0]; exact hb1.size
  rw [hs0] at hfr
  clear hb1 hB0 hs0 HT
  go_upto_region 2 with (apply wpList_store_new (ty := 47) (n := 13); (case hgd => exact rfl); (case ho => exact rfl); (case hd => exact rfl); (case hx => exact rfl); (case hw => exact rfl); (case hg => first | exact rfl | (simp; done)); (case hy => exact rfl); (case hi => kernel_rfl); (case hn0 => exact rfl); (case hn => exact rfl); (case h1 => first | exact rfl | assumption | (simp [Value.oneCell', *]; done) | (simp [*]; done)))
  refine wp_named fun w2 hw2 => ?_
  have hb2 : Below w1.heap.size w1 w2 := by rw [hw2]; ((repeat' (first | exact Below.refl _ _ | assumption | (refine Below.drew ?_) | (refine Below.alloc ?_ ?_ _) | (refine Below.setCell ?_ ?_ _) | (refine Below.step (W := ?hW) ?hq ?_ ?_; case hq => assumption))) <;> (first | (simp; done) | (simp; omega) | (simp at *; omega)))
  have hyr : w2.heap[w1.heap.size]? = some (.cells #[.int .i64 y.bits, .slice a' m cap', .int .i64 y.reason, .int .i64 y.source.scheme, .string (bs y.source.node), .string (bs y.source.service), .int .i64 y.source.a, .int .i64 y.source.b, .int .i64 y.time, .int .i64 y.seq, .bool y.part, .int .i64 y.off, .int .i64 y.len] 47 (0, 0)) := by rw [hw2]; exact heapNew (u := w1) (by ((repeat' (first | exact Below.refl _ _ | assumption | (refine Below.drew ?_) | (refine Below.alloc ?_ ?_ _) | (refine Below.setCell ?_ ?_ _) | (refine Below.step (W := ?hW) ?hq ?_ ?_; case hq => assumption))) <;> (first | (simp; done) | (simp; omega) | (simp at *; omega)))) rfl
  replace hiv := hiv.mono hb2
  replace hx := heapKept hx hb2
  replace hr := heapKept hr hb2
  have hB2 := hB1.trans (hb2.mono hB1.size)
  have hs2 : w1.heap.size < w2.heap.size := (Array.getElem?_eq_some_iff.1 hyr).1
  clear hw2 hb2 hB1
  obtain ⟨Y, hY⟩ : ∃ Y, Y = w1.heap.size := ⟨_, rfl⟩
  rw [← hY] at hyr hs1 hs2 ⊢
  clear hY
  go_wp2_with (first | (apply wpList_load_of (ty := 47); (case hgd => exact rfl); (case ho => exact rfl); (case hx => exact rfl); (case hr => apply load_row (n := 13); (case hheap => exact hx); (case hu => exact Tryz.underlying47); (case hd => exact rfl); (case hi => kernel_rfl); (case hc => exact rfl))) | (apply wpList_load_w (ty := 47); (case hgd => exact rfl); (case ho => exact rfl); (case hx => exact rfl); (case hr => apply load_row (n := 13); (case hheap => exact hx); (case hu => exact Tryz.underlying47); (case hd => exact rfl); (case hi => kernel_rfl); (case hc => exact rfl))))
  refine (show Calls _ _ _ _ _ from HF.out w2 hB2).mono ?_
  rintro e_ w3 ⟨rfl, hb3⟩
  replace hiv := hiv.mono hb3
  replace hx := heapKept hx hb3
  replace hr := heapKept hr hb3
  replace hyr := heapKept hyr hb3
  have hB3 := hB2.trans (hb3.mono hB2.size)
  clear hb3 hB2 HF
  have bad : downOk7 x = false → ∀ W, W.heap[w.heap.size + 1]? = some (.cells zeroRep 47 (0, 0)) → Below w.heap.size w W → ∃ a' cap', Ending.returned (.tuple #[.agg zeroRep, .int .i64 120]) = .returned (.tuple #[.agg #[.int .i64 (reportDown x).bits, .slice a' (reportDown x).times.length cap', .int .i64 (reportDown x).reason, .int .i64 (reportDown x).source.scheme, .string (bs (reportDown x).source.node), .string (bs (reportDown x).source.service), .int .i64 (reportDown x).source.a, .int .i64 (reportDown x).source.b, .int .i64 (reportDown x).time, .int .i64 (reportDown x).seq, .bool (reportDown x).part, .int .i64 (reportDown x).off, .int .i64 (reportDown x).len], .int .i64 (reportDownE x)]) ∧ IntsV W (reportDown x).times (.slice a' (reportDown x).times.length cap') ∧ Below w.heap.size w W := fun h W hW hB => by
    have e1 : reportDown x = zeroReport := by rw [reportDown, h]; rfl
    have e2 : reportDownE x = 120 := by rw [reportDownE, h]; rfl
    rw [e1, e2]
    exact ⟨none, 0, rfl, ⟨none, 0, rfl, fun h => absurd h (Nat.not_lt_zero _)⟩, hB⟩
  have Bad := hide bad
  clear bad
  by_cases hok : (p && q) = true
  · simp only [Bool.and_eq_true] at hok
    obtain ⟨rfl, rfl⟩ := hok
    have hup : downOk7 x = true := by rw [Hr.out]; rfl
    have Hup := hide hup
    clear hup
    go_wp2_with (first | (apply wpList_store_at (ty := 47) (n := 13); (case hgd => exact rfl); (case ho => exact rfl); (case hd => exact rfl); (case hx => exact rfl); (case hheap => exact hr); (case hy => exact rfl); (case hi => kernel_rfl); (case hn0 => exact rfl); (case hn => exact rfl); (case h1 => first | exact rfl | assumption | (simp [Value.oneCell', *]; done) | (simp [*]; done))) | (first | (apply wpList_load_of (ty := 47); (case hgd => exact rfl); (case ho => exact rfl); (case hx => exact rfl); (case hr => apply load_row (n := 13); (case hheap => exact hyr); (case hu => exact Tryz.underlying47); (case hd => exact rfl); (case hi => kernel_rfl); (case hc => exact rfl))) | (apply wpList_load_w (ty := 47); (case hgd => exact rfl); (case ho => exact rfl); (case hx => exact rfl); (case hr => apply load_row (n := 13); (case hheap => exact hyr); (case hu => exact Tryz.underlying47); (case hd => exact rfl); (case hi => kernel_rfl); (case hc => exact rfl)))))
    refine bodyPost_ret (results_ct rfl rfl rfl (load_row (n := 13) (hheap := setRow_heap _ _ _ _ _ _ hr) (hu := Tryz.underlying47) (hd := rfl) (hi := by kernel_rfl) (hc := rfl))) rfl ?_
    have e1 : reportDown x = y := by rw [Hy.out, Hup.out]; rfl
    have e2 : reportDownE x = 0 := by rw [reportDownE, Hup.out]; rfl
    rw [e1, e2, ← Hm.out]
    refine ⟨a', cap', rfl, ?_, below_setRow hB3 (by omega) _⟩
    exact ints_setRow (Hm.out ▸ hiv) (fun b hb => by have := hfr b hb; omega)
  · have hup : downOk7 x = false := by rw [Hr.out]; simpa using hok
    have Hup := hide hup
    clear hup hok
    cases p
    · (go_wp2_with (apply wpList_store_at (ty := 47) (n := 13); (case hgd => exact rfl); (case ho => exact rfl); (case hd => exact rfl); (case hx => exact rfl); (case hheap => exact hr); (case hy => exact rfl); (case hi => kernel_rfl); (case hn0 => exact rfl); (case hn => exact rfl); (case h1 => first | exact rfl | assumption | (simp [Value.oneCell', *]; done) | (simp [*]; done)))); refine bodyPost_ret (results_ct rfl rfl rfl (load_row (n := 13) (hheap := setRow_heap _ _ _ _ _ _ hr) (hu := Tryz.underlying47) (hd := rfl) (hi := by kernel_rfl) (hc := rfl))) rfl ?_; exact Bad.out Hup.out _ (setRow_heap _ _ _ _ _ _ hr) (below_setRow hB3 (by omega) _)
    · cases q
      · (go_wp2_with (apply wpList_store_at (ty := 47) (n := 13); (case hgd => exact rfl); (case ho => exact rfl); (case hd => exact rfl); (case hx => exact rfl); (case hheap => exact hr); (case hy => exact rfl); (case hi => kernel_rfl); (case hn0 => exact rfl); (case hn => exact rfl); (case h1 => first | exact rfl | assumption | (simp [Value.oneCell', *]; done) | (simp [*]; done)))); refine bodyPost_ret (results_ct rfl rfl rfl (load_row (n := 13) (hheap := setRow_heap _ _ _ _ _ _ hr) (hu := Tryz.underlying47) (hd := rfl) (hi := by kernel_rfl) (hc := rfl))) rfl ?_; exact Bad.out Hup.out _ (setRow_heap _ _ _ _ _ _ hr) (below_setRow hB3 (by omega) _)
      · exact absurd Hup.out (by rw [Hr.out]; simp)
end Go.Proofs.YtllfaffbaijgfaaGreatDoor
