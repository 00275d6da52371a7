/- XlateReports: the walk. -/
import Derived.Test.YtllfaffbaijgfaaGreatDoorJ40
import Derived.Test.YtllfaffbaijgfaaGreatDoorJ43
set_option linter.unusedVariables false
set_option linter.unusedSimpArgs false
namespace Go.Proofs.YtllfaffbaijgfaaGreatDoor
open Go Go.RowKit Go.Shelf

theorem turned_small {x : Report} {f : Int → Int × Int} (h : eidFit x.source) : eidFit (turnedR x f).source ∧ (turnedR x f).times.length ≤ x.times.length := by
  unfold turnedR
  split
  · exact ⟨h, by simp⟩
  · exact ⟨⟨by decide, by decide⟩, by simp [zeroReport]⟩
theorem up_small {x : Report} (h : eidFit x.source) : eidFit (reportUp x).source ∧ (reportUp x).times.length ≤ x.times.length := by
  unfold reportUp
  split
  · exact turned_small h
  · exact ⟨⟨by decide, by decide⟩, by simp [zeroReport]⟩
theorem down_small {x : Report} (h : eidFit x.source) : eidFit (reportDown x).source ∧ (reportDown x).times.length ≤ x.times.length := by
  unfold reportDown
  split
  · exact turned_small h
  · exact ⟨⟨by decide, by decide⟩, by simp [zeroReport]⟩
theorem cut_small (x : Report) : eidFit (cut9 x).source ∧ (cut9 x).times.length ≤ 8 := by
  refine ⟨⟨?_, ?_⟩, ?_⟩
  · show (x.source.node.take 21).length ≤ _
    rw [List.length_take]; omega
  · show (x.source.service.take 21).length ≤ _
    rw [List.length_take]; omega
  · show (x.times.take 8).length ≤ _
    rw [List.length_take]; omega

theorem up_cases (y : Report) : (reportUpE y ≠ 0 ∧ (reportUp y).times.length = 0) ∨ (reportUpE y = 0 ∧ right7R (reportUp y) = true ∧ reportDownE (reportUp y) = 0 ∧ (sameB (reportDown (reportUp y)) y && decide ((reportDown (reportUp y)).times = y.times)) = true) := by
  have h := law_up y
  simp only [Bool.or_eq_true, Bool.and_eq_true, decide_eq_true_eq] at h ⊢
  rcases h with h | ⟨⟨⟨h1, h2⟩, h3⟩, h4⟩
  · exact .inl h
  · exact .inr ⟨h1, h2, h3, h4⟩
theorem down_cases (y : Report) : (reportDownE y ≠ 0 ∧ (reportDown y).times.length = 0) ∨ (reportDownE y = 0 ∧ fitsR (reportDown y) 281474976710 = true ∧ reportUpE (reportDown y) = 0 ∧ (sameB (reportUp (reportDown y)) y && decide ((reportUp (reportDown y)).times = y.times)) = true) := by
  have h := law_down y
  simp only [Bool.or_eq_true, Bool.and_eq_true, decide_eq_true_eq] at h ⊢
  rcases h with h | ⟨⟨⟨h1, h2⟩, h3⟩, h4⟩
  · exact .inl h
  · exact .inr ⟨h1, h2, h3, h4⟩

set_option maxRecDepth 100000 in
set_option maxHeartbeats 40000000 in
theorem law_calls (S T N : Nat → Addr) (x : Report) (a : Option Addr) (cap : Nat) (w : World) (hL : Lay S T N w) (hlen : x.times.length ≤ 9223372036854775807) (hcap : x.times.length ≤ cap) (hv : IntsV w x.times (.slice a x.times.length cap)) :
    Calls Tryz.prog 6 #[.agg #[.int .i64 x.bits, .slice a x.times.length cap, .int .i64 x.reason, .int .i64 x.source.scheme, .string (bs x.source.node), .string (bs x.source.service), .int .i64 x.source.a, .int .i64 x.source.b, .int .i64 x.time, .int .i64 x.seq, .bool x.part, .int .i64 x.off, .int .i64 x.len]] w (Rt w (.bool true)) := by
  have HL := hide (fun W (hb : Below w.heap.size w W) => hL.mono hb)
  have HC := hide (fun W (hb : Below w.heap.size w W) => cut9_calls x a cap W hlen hcap (hv.mono hb))
  clear hL hlen hcap hv
  obtain ⟨n, hn⟩ : ∃ n, n = x.times.length := ⟨_, rfl⟩
  rw [← hn] at HC ⊢
  clear hn
  obtain ⟨y, hy⟩ : ∃ y, y = cut9 x := ⟨_, rfl⟩
  have hys : eidFit y.source ∧ y.times.length ≤ 8 := by rw [hy]; exact cut_small x
  rw [← hy] at HC
  clear hy
  have Hys := hide hys
  clear hys
  go_enter Tryz.func6, Tryz.ntmps6
  go_upto_region 1 with fail
  refine wp_named fun w1 hw1 => ?_
  have hB1 : Below w.heap.size w w1 := by rw [hw1]; ((repeat' (first | exact Below.refl _ _ | assumption | (refine Below.drew ?_) | (refine Below.alloc ?_ ?_ _) | (refine Below.setCell ?_ ?_ _) | (refine Below.step (W := ?hW) ?hq ?_ ?_; case hq => assumption))) <;> (first | (simp; done) | (simp; omega) | (simp at *; omega)))
  have hx1 : w1.heap[w.heap.size]? = some (.cells #[.int .i64 x.bits, .slice a n cap, .int .i64 x.reason, .int .i64 x.source.scheme, .string (bs x.source.node), .string (bs x.source.service), .int .i64 x.source.a, .int .i64 x.source.b, .int .i64 x.time, .int .i64 x.seq, .bool x.part, .int .i64 x.off, .int .i64 x.len] 47 (0, 0)) := by rw [hw1]; exact heapNew (u := w) (by ((repeat' (first | exact Below.refl _ _ | assumption | (refine Below.drew ?_) | (refine Below.alloc ?_ ?_ _) | (refine Below.setCell ?_ ?_ _) | (refine Below.step (W := ?hW) ?hq ?_ ?_; case hq => assumption))) <;> (first | (simp; done) | (simp; omega) | (simp at *; omega)))) rfl
  clear hw1
  obtain ⟨X, hX⟩ : ∃ X, X = w.heap.size := ⟨_, rfl⟩
  rw [← hX] at hx1 ⊢
  have qX : w.heap.size ≤ X := by omega
  clear hX
  go_wp2_with fail
  refine (show Calls _ _ _ _ _ from shown_calls S T N w1 (HL.out w1 hB1)).mono ?_
  rintro _ w2 ⟨rfl, hb2⟩
  have hx2 := heapKept hx1 hb2
  have hB2 := hB1.trans (hb2.mono hB1.size)
  clear hx1 hb2 hB1
  go_wp2_with (first | (apply wpList_load_of (ty := 47); (case hgd => exact rfl); (case ho => exact rfl); (case hx => exact rfl); (case hr => apply load_row (n := 13); (case hheap => exact hx2); (case hu => exact Tryz.underlying47); (case hd => exact rfl); (case hi => kernel_rfl); (case hc => exact rfl))) | (apply wpList_load_w (ty := 47); (case hgd => exact rfl); (case ho => exact rfl); (case hx => exact rfl); (case hr => apply load_row (n := 13); (case hheap => exact hx2); (case hu => exact Tryz.underlying47); (case hd => exact rfl); (case hi => kernel_rfl); (case hc => exact rfl))))
  refine (show Calls _ _ _ _ _ from HC.out w2 hB2).mono ?_
  rintro _ w3 ⟨ay, cy, hay, rfl, hv3, hb3⟩
  have hXl : X < w2.heap.size := (Array.getElem?_eq_some_iff.1 hx2).1
  have hx3 := heapKept hx2 hb3
  have hB3 := hB2.trans (hb3.mono hB2.size)
  clear hx2 hb3 hB2
  have hay' : ∀ b, ay = some b → b.block ≠ X := fun b e => by have := hay b e; omega
  clear hay hXl
  go_upto_region 3 with (apply wpList_store_at (ty := 47) (n := 13); (case hgd => exact rfl); (case ho => exact rfl); (case hd => exact rfl); (case hx => exact rfl); (case hheap => exact hx3); (case hy => exact rfl); (case hi => kernel_rfl); (case hn0 => exact rfl); (case hn => exact rfl); (case h1 => first | exact rfl | assumption | (simp [Value.oneCell', *]; done) | (simp [*]; done)))
  refine wp_named fun w4 hw4 => ?_
  have hx4 : w4.heap[X]? = some (.cells #[.int .i64 y.bits, .slice ay y.times.length cy, .int .i64 y.reason, .int .i64 y.source.scheme, .string (bs y.source.node), .string (bs y.source.service), .int .i64 y.source.a, .int .i64 y.source.b, .int .i64 y.time, .int .i64 y.seq, .bool y.part, .int .i64 y.off, .int .i64 y.len] 47 (0, 0)) := by rw [hw4]; exact heap_setRow_same hx3
  have hv4 : IntsV w4 y.times (.slice ay y.times.length cy) := by rw [hw4]; exact ints_setRow hv3 hay'
  have hB4 : Below w.heap.size w w4 := by rw [hw4]; exact below_setRow hB3 qX _
  clear hw4 hx3 hv3 hB3 hay'
  have hL4 := (HL.out w4 hB4).sents
  obtain ⟨A, hA⟩ : ∃ A, A = reportUp y := ⟨_, rfl⟩
  obtain ⟨eA, heA⟩ : ∃ A, A = reportUpE y := ⟨_, rfl⟩
  have hcA := reportUp_calls S y ay cy w4 hL4 Hys.out.1 (by have := Hys.out.2; omega) hv4
  rw [← hA, ← heA] at hcA
  have hAs : eidFit A.source ∧ A.times.length ≤ 8 := by rw [hA]; exact ⟨(up_small Hys.out.1).1, Nat.le_trans (up_small Hys.out.1).2 Hys.out.2⟩
  have HA := hide (And.intro hAs (And.intro hA heA))
  clear hA heA hAs hL4
  go_wp2_with (first | (apply wpList_load_of (ty := 47); (case hgd => exact rfl); (case ho => exact rfl); (case hx => exact rfl); (case hr => apply load_row (n := 13); (case hheap => exact hx4); (case hu => exact Tryz.underlying47); (case hd => exact rfl); (case hi => kernel_rfl); (case hc => exact rfl))) | (apply wpList_load_w (ty := 47); (case hgd => exact rfl); (case ho => exact rfl); (case hx => exact rfl); (case hr => apply load_row (n := 13); (case hheap => exact hx4); (case hu => exact Tryz.underlying47); (case hd => exact rfl); (case hi => kernel_rfl); (case hc => exact rfl))))
  refine (show Calls _ _ _ _ _ from hcA).mono ?_
  rintro _ w5 ⟨aa, ca, rfl, hva5, hb5⟩
  have hx5 := heapKept hx4 hb5
  have hv5 := hv4.mono hb5
  have hB5 := hB4.trans (hb5.mono hB4.size)
  clear hcA hx4 hv4 hb5 hB4
  go_upto_region 4 with (apply wpList_store_new (ty := 47) (n := 13); (case hgd => exact rfl); (case ho => exact rfl); (case hd => exact rfl); (case hx => exact rfl); (case hw => exact rfl); (case hg => first | exact rfl | (simp; done)); (case hy => exact rfl); (case hi => kernel_rfl); (case hn0 => exact rfl); (case hn => exact rfl); (case h1 => first | exact rfl | assumption | (simp [Value.oneCell', *]; done) | (simp [*]; done)))
  refine wp_named fun w6 hw6 => ?_
  have hb6 : Below w5.heap.size w5 w6 := by rw [hw6]; ((repeat' (first | exact Below.refl _ _ | assumption | (refine Below.drew ?_) | (refine Below.alloc ?_ ?_ _) | (refine Below.setCell ?_ ?_ _) | (refine Below.step (W := ?hW) ?hq ?_ ?_; case hq => assumption))) <;> (first | (simp; done) | (simp; omega) | (simp at *; omega)))
  have ha6 : w6.heap[w5.heap.size]? = some (.cells #[.int .i64 A.bits, .slice aa A.times.length ca, .int .i64 A.reason, .int .i64 A.source.scheme, .string (bs A.source.node), .string (bs A.source.service), .int .i64 A.source.a, .int .i64 A.source.b, .int .i64 A.time, .int .i64 A.seq, .bool A.part, .int .i64 A.off, .int .i64 A.len] 47 (0, 0)) := by rw [hw6]; exact heapNew (u := w5) (by ((repeat' (first | exact Below.refl _ _ | assumption | (refine Below.drew ?_) | (refine Below.alloc ?_ ?_ _) | (refine Below.setCell ?_ ?_ _) | (refine Below.step (W := ?hW) ?hq ?_ ?_; case hq => assumption))) <;> (first | (simp; done) | (simp; omega) | (simp at *; omega)))) rfl
  have hx6 := heapKept hx5 hb6
  have hv6 := hv5.mono hb6
  have hva6 := hva5.mono hb6
  have hB6 := hB5.trans (hb6.mono hB5.size)
  obtain ⟨P, hP⟩ : ∃ P, P = w5.heap.size := ⟨_, rfl⟩
  rw [← hP] at ha6 ⊢
  clear hw6 hb6 hx5 hv5 hva5 hB5 hP
  have hL6 := (HL.out w6 hB6).sents
  obtain ⟨B, hB⟩ : ∃ Z, Z = reportDown A := ⟨_, rfl⟩
  obtain ⟨eB, heB⟩ : ∃ B, B = reportDownE A := ⟨_, rfl⟩
  have hcB := reportDown_calls S A aa ca w6 hL6 HA.out.1.1 (by have := HA.out.1.2; omega) hva6
  rw [← hB, ← heB] at hcB
  have hBs : eidFit B.source ∧ B.times.length ≤ 8 := by rw [hB]; exact ⟨(down_small HA.out.1.1).1, Nat.le_trans (down_small HA.out.1.1).2 HA.out.1.2⟩
  have HBr := hide (And.intro hBs (And.intro hB heB))
  clear hB heB hBs hL6
  go_wp2_with (first | (apply wpList_load_of (ty := 47); (case hgd => exact rfl); (case ho => exact rfl); (case hx => exact rfl); (case hr => apply load_row (n := 13); (case hheap => exact ha6); (case hu => exact Tryz.underlying47); (case hd => exact rfl); (case hi => kernel_rfl); (case hc => exact rfl))) | (apply wpList_load_w (ty := 47); (case hgd => exact rfl); (case ho => exact rfl); (case hx => exact rfl); (case hr => apply load_row (n := 13); (case hheap => exact ha6); (case hu => exact Tryz.underlying47); (case hd => exact rfl); (case hi => kernel_rfl); (case hc => exact rfl))))
  refine (show Calls _ _ _ _ _ from hcB).mono ?_
  rintro _ w7 ⟨ab, cb, rfl, hvb7, hb7⟩
  have hx7 := heapKept hx6 hb7
  have ha7 := heapKept ha6 hb7
  have hv7 := hv6.mono hb7
  have hva7 := hva6.mono hb7
  have hB7 := hB6.trans (hb7.mono hB6.size)
  clear hcB hx6 ha6 hv6 hva6 hb7 hB6
  go_upto_region 5 with (apply wpList_store_new (ty := 47) (n := 13); (case hgd => exact rfl); (case ho => exact rfl); (case hd => exact rfl); (case hx => exact rfl); (case hw => exact rfl); (case hg => first | exact rfl | (simp; done)); (case hy => exact rfl); (case hi => kernel_rfl); (case hn0 => exact rfl); (case hn => exact rfl); (case h1 => first | exact rfl | assumption | (simp [Value.oneCell', *]; done) | (simp [*]; done)))
  refine wp_named fun w8 hw8 => ?_
  have hb8 : Below w7.heap.size w7 w8 := by rw [hw8]; ((repeat' (first | exact Below.refl _ _ | assumption | (refine Below.drew ?_) | (refine Below.alloc ?_ ?_ _) | (refine Below.setCell ?_ ?_ _) | (refine Below.step (W := ?hW) ?hq ?_ ?_; case hq => assumption))) <;> (first | (simp; done) | (simp; omega) | (simp at *; omega)))
  have hq8 : w8.heap[w7.heap.size]? = some (.cells #[.int .i64 B.bits, .slice ab B.times.length cb, .int .i64 B.reason, .int .i64 B.source.scheme, .string (bs B.source.node), .string (bs B.source.service), .int .i64 B.source.a, .int .i64 B.source.b, .int .i64 B.time, .int .i64 B.seq, .bool B.part, .int .i64 B.off, .int .i64 B.len] 47 (0, 0)) := by rw [hw8]; exact heapNew (u := w7) (by ((repeat' (first | exact Below.refl _ _ | assumption | (refine Below.drew ?_) | (refine Below.alloc ?_ ?_ _) | (refine Below.setCell ?_ ?_ _) | (refine Below.step (W := ?hW) ?hq ?_ ?_; case hq => assumption))) <;> (first | (simp; done) | (simp; omega) | (simp at *; omega)))) rfl
  have hx8 := heapKept hx7 hb8
  have ha8 := heapKept ha7 hb8
  have hv8 := hv7.mono hb8
  have hva8 := hva7.mono hb8
  have hvb8 := hvb7.mono hb8
  have hB8 := hB7.trans (hb8.mono hB7.size)
  obtain ⟨Q, hQ⟩ : ∃ P, P = w7.heap.size := ⟨_, rfl⟩
  rw [← hQ] at hq8 ⊢
  clear hw8 hb8 hx7 ha7 hv7 hva7 hvb7 hB7 hQ
  have hL8 := (HL.out w8 hB8).sents
  obtain ⟨C, hC⟩ : ∃ A, A = reportDown y := ⟨_, rfl⟩
  obtain ⟨eC, heC⟩ : ∃ B, B = reportDownE y := ⟨_, rfl⟩
  have hcC := reportDown_calls S y ay cy w8 hL8 Hys.out.1 (by have := Hys.out.2; omega) hv8
  rw [← hC, ← heC] at hcC
  have hCs : eidFit C.source ∧ C.times.length ≤ 8 := by rw [hC]; exact ⟨(down_small Hys.out.1).1, Nat.le_trans (down_small Hys.out.1).2 Hys.out.2⟩
  have HCr := hide (And.intro hCs (And.intro hC heC))
  clear hC heC hCs hL8
  go_wp2_with (first | (apply wpList_load_of (ty := 47); (case hgd => exact rfl); (case ho => exact rfl); (case hx => exact rfl); (case hr => apply load_row (n := 13); (case hheap => exact hx8); (case hu => exact Tryz.underlying47); (case hd => exact rfl); (case hi => kernel_rfl); (case hc => exact rfl))) | (apply wpList_load_w (ty := 47); (case hgd => exact rfl); (case ho => exact rfl); (case hx => exact rfl); (case hr => apply load_row (n := 13); (case hheap => exact hx8); (case hu => exact Tryz.underlying47); (case hd => exact rfl); (case hi => kernel_rfl); (case hc => exact rfl))))
  refine (show Calls _ _ _ _ _ from hcC).mono ?_
  rintro _ w9 ⟨ac, cc, rfl, hvc9, hb9⟩
  have hx9 := heapKept hx8 hb9
  have ha9 := heapKept ha8 hb9
  have hq9 := heapKept hq8 hb9
  have hv9 := hv8.mono hb9
  have hva9 := hva8.mono hb9
  have hvb9 := hvb8.mono hb9
  have hB9 := hB8.trans (hb9.mono hB8.size)
  clear hcC hx8 ha8 hq8 hv8 hva8 hvb8 hb9 hB8
  go_upto_region 6 with (apply wpList_store_new (ty := 47) (n := 13); (case hgd => exact rfl); (case ho => exact rfl); (case hd => exact rfl); (case hx => exact rfl); (case hw => exact rfl); (case hg => first | exact rfl | (simp; done)); (case hy => exact rfl); (case hi => kernel_rfl); (case hn0 => exact rfl); (case hn => exact rfl); (case h1 => first | exact rfl | assumption | (simp [Value.oneCell', *]; done) | (simp [*]; done)))
  refine wp_named fun w10 hw10 => ?_
  have hb10 : Below w9.heap.size w9 w10 := by rw [hw10]; ((repeat' (first | exact Below.refl _ _ | assumption | (refine Below.drew ?_) | (refine Below.alloc ?_ ?_ _) | (refine Below.setCell ?_ ?_ _) | (refine Below.step (W := ?hW) ?hq ?_ ?_; case hq => assumption))) <;> (first | (simp; done) | (simp; omega) | (simp at *; omega)))
  have hc10 : w10.heap[w9.heap.size]? = some (.cells #[.int .i64 C.bits, .slice ac C.times.length cc, .int .i64 C.reason, .int .i64 C.source.scheme, .string (bs C.source.node), .string (bs C.source.service), .int .i64 C.source.a, .int .i64 C.source.b, .int .i64 C.time, .int .i64 C.seq, .bool C.part, .int .i64 C.off, .int .i64 C.len] 47 (0, 0)) := by rw [hw10]; exact heapNew (u := w9) (by ((repeat' (first | exact Below.refl _ _ | assumption | (refine Below.drew ?_) | (refine Below.alloc ?_ ?_ _) | (refine Below.setCell ?_ ?_ _) | (refine Below.step (W := ?hW) ?hq ?_ ?_; case hq => assumption))) <;> (first | (simp; done) | (simp; omega) | (simp at *; omega)))) rfl
  have hx10 := heapKept hx9 hb10
  have ha10 := heapKept ha9 hb10
  have hq10 := heapKept hq9 hb10
  have hv10 := hv9.mono hb10
  have hva10 := hva9.mono hb10
  have hvb10 := hvb9.mono hb10
  have hvc10 := hvc9.mono hb10
  have hB10 := hB9.trans (hb10.mono hB9.size)
  obtain ⟨R, hR⟩ : ∃ P, P = w9.heap.size := ⟨_, rfl⟩
  rw [← hR] at hc10 ⊢
  clear hw10 hb10 hx9 ha9 hq9 hv9 hva9 hvb9 hvc9 hB9 hR
  have hL10 := (HL.out w10 hB10).sents
  obtain ⟨D, hD⟩ : ∃ A, A = reportUp C := ⟨_, rfl⟩
  obtain ⟨eD, heD⟩ : ∃ B, B = reportUpE C := ⟨_, rfl⟩
  have hcD := reportUp_calls S C ac cc w10 hL10 HCr.out.1.1 (by have := HCr.out.1.2; omega) hvc10
  rw [← hD, ← heD] at hcD
  have hDs : eidFit D.source ∧ D.times.length ≤ 8 := by rw [hD]; exact ⟨(up_small HCr.out.1.1).1, Nat.le_trans (up_small HCr.out.1.1).2 HCr.out.1.2⟩
  have HDr := hide (And.intro hDs (And.intro hD heD))
  clear hD heD hDs hL10
  go_wp2_with (first | (apply wpList_load_of (ty := 47); (case hgd => exact rfl); (case ho => exact rfl); (case hx => exact rfl); (case hr => apply load_row (n := 13); (case hheap => exact hc10); (case hu => exact Tryz.underlying47); (case hd => exact rfl); (case hi => kernel_rfl); (case hc => exact rfl))) | (apply wpList_load_w (ty := 47); (case hgd => exact rfl); (case ho => exact rfl); (case hx => exact rfl); (case hr => apply load_row (n := 13); (case hheap => exact hc10); (case hu => exact Tryz.underlying47); (case hd => exact rfl); (case hi => kernel_rfl); (case hc => exact rfl))))
  refine (show Calls _ _ _ _ _ from hcD).mono ?_
  rintro _ w11 ⟨ad, cd, rfl, hvd11, hb11⟩
  have hx11 := heapKept hx10 hb11
  have ha11 := heapKept ha10 hb11
  have hq11 := heapKept hq10 hb11
  have hc11 := heapKept hc10 hb11
  have hv11 := hv10.mono hb11
  have hva11 := hva10.mono hb11
  have hvb11 := hvb10.mono hb11
  have hvc11 := hvc10.mono hb11
  have hB11 := hB10.trans (hb11.mono hB10.size)
  clear hcD hx10 ha10 hq10 hc10 hv10 hva10 hvb10 hvc10 hb11 hB10
  go_upto_region 7 with (apply wpList_store_new (ty := 47) (n := 13); (case hgd => exact rfl); (case ho => exact rfl); (case hd => exact rfl); (case hx => exact rfl); (case hw => exact rfl); (case hg => first | exact rfl | (simp; done)); (case hy => exact rfl); (case hi => kernel_rfl); (case hn0 => exact rfl); (case hn => exact rfl); (case h1 => first | exact rfl | assumption | (simp [Value.oneCell', *]; done) | (simp [*]; done)))
  refine wp_named fun w12 hw12 => ?_
  have hb12 : Below w11.heap.size w11 w12 := by rw [hw12]; ((repeat' (first | exact Below.refl _ _ | assumption | (refine Below.drew ?_) | (refine Below.alloc ?_ ?_ _) | (refine Below.setCell ?_ ?_ _) | (refine Below.step (W := ?hW) ?hq ?_ ?_; case hq => assumption))) <;> (first | (simp; done) | (simp; omega) | (simp at *; omega)))
  have hd12 : w12.heap[w11.heap.size]? = some (.cells #[.int .i64 D.bits, .slice ad D.times.length cd, .int .i64 D.reason, .int .i64 D.source.scheme, .string (bs D.source.node), .string (bs D.source.service), .int .i64 D.source.a, .int .i64 D.source.b, .int .i64 D.time, .int .i64 D.seq, .bool D.part, .int .i64 D.off, .int .i64 D.len] 47 (0, 0)) := by rw [hw12]; exact heapNew (u := w11) (by ((repeat' (first | exact Below.refl _ _ | assumption | (refine Below.drew ?_) | (refine Below.alloc ?_ ?_ _) | (refine Below.setCell ?_ ?_ _) | (refine Below.step (W := ?hW) ?hq ?_ ?_; case hq => assumption))) <;> (first | (simp; done) | (simp; omega) | (simp at *; omega)))) rfl
  have hx12 := heapKept hx11 hb12
  have ha12 := heapKept ha11 hb12
  have hq12 := heapKept hq11 hb12
  have hc12 := heapKept hc11 hb12
  have hv12 := hv11.mono hb12
  have hva12 := hva11.mono hb12
  have hvb12 := hvb11.mono hb12
  have hvc12 := hvc11.mono hb12
  have hvd12 := hvd11.mono hb12
  have hB12 := hB11.trans (hb12.mono hB11.size)
  obtain ⟨V, hV⟩ : ∃ P, P = w11.heap.size := ⟨_, rfl⟩
  rw [← hV] at hd12 ⊢
  clear hw12 hb12 hx11 ha11 hq11 hc11 hv11 hva11 hvb11 hvc11 hvd11 hB11 hV
  obtain ⟨hx, ha, hq, hc, hd⟩ := And.intro hx12 (And.intro ha12 (And.intro hq12 (And.intro hc12 hd12)))
  obtain ⟨hv, hva, hvb, hvc, hvd⟩ := And.intro hv12 (And.intro hva12 (And.intro hvb12 (And.intro hvc12 hvd12)))
  obtain ⟨hBf, _⟩ := And.intro hB12 trivial
  clear hx12 ha12 hq12 hc12 hd12 hv12 hva12 hvb12 hvc12 hvd12 hB12
  have hU : (eA ≠ 0 ∧ A.times.length = 0) ∨ (eA = 0 ∧ right7R A = true ∧ eB = 0 ∧ (sameB B y && decide (B.times = y.times)) = true) := by
    rw [HBr.out.2.1, HBr.out.2.2, HA.out.2.1, HA.out.2.2]; exact up_cases y
  have hDn : (eC ≠ 0 ∧ C.times.length = 0) ∨ (eC = 0 ∧ fitsR C 281474976710 = true ∧ eD = 0 ∧ (sameB D y && decide (D.times = y.times)) = true) := by
    rw [HDr.out.2.1, HDr.out.2.2, HCr.out.2.1, HCr.out.2.2]; exact down_cases y
  rcases hU with ⟨hu1, hu2⟩ | ⟨hu1, hu2, hu3, hu4⟩
  · have p1 := cellsOf ha 1
    simp only [List.getElem?_toArray, List.getElem?_cons_succ, List.getElem?_cons_zero, hu2] at p1
    have Hu2 := hide hu2
    clear hu2
    rcases hDn with ⟨hd1, hd2⟩ | ⟨hd1, hd2, hd3, hd4⟩
    · have c1 := cellsOf hc 1
      simp only [List.getElem?_toArray, List.getElem?_cons_succ, List.getElem?_cons_zero, hd2] at c1
      have Hd2 := hide hd2
      clear hd2
      go_wp2_with (first | (first | (apply wpList_load_of (ty := 47); (case hgd => exact rfl); (case ho => exact rfl); (case hx => exact rfl); (case hr => apply load_row (n := 13); (case hheap => exact hx); (case hu => exact Tryz.underlying47); (case hd => exact rfl); (case hi => kernel_rfl); (case hc => exact rfl))) | (apply wpList_load_w (ty := 47); (case hgd => exact rfl); (case ho => exact rfl); (case hx => exact rfl); (case hr => apply load_row (n := 13); (case hheap => exact hx); (case hu => exact Tryz.underlying47); (case hd => exact rfl); (case hi => kernel_rfl); (case hc => exact rfl)))) | (first | (apply wpList_load_of (ty := 47); (case hgd => exact rfl); (case ho => exact rfl); (case hx => exact rfl); (case hr => apply load_row (n := 13); (case hheap => exact ha); (case hu => exact Tryz.underlying47); (case hd => exact rfl); (case hi => kernel_rfl); (case hc => exact rfl))) | (apply wpList_load_w (ty := 47); (case hgd => exact rfl); (case ho => exact rfl); (case hx => exact rfl); (case hr => apply load_row (n := 13); (case hheap => exact ha); (case hu => exact Tryz.underlying47); (case hd => exact rfl); (case hi => kernel_rfl); (case hc => exact rfl)))) | (first | (apply wpList_load_of (ty := 47); (case hgd => exact rfl); (case ho => exact rfl); (case hx => exact rfl); (case hr => apply load_row (n := 13); (case hheap => exact hq); (case hu => exact Tryz.underlying47); (case hd => exact rfl); (case hi => kernel_rfl); (case hc => exact rfl))) | (apply wpList_load_w (ty := 47); (case hgd => exact rfl); (case ho => exact rfl); (case hx => exact rfl); (case hr => apply load_row (n := 13); (case hheap => exact hq); (case hu => exact Tryz.underlying47); (case hd => exact rfl); (case hi => kernel_rfl); (case hc => exact rfl)))) | (first | (apply wpList_load_of (ty := 47); (case hgd => exact rfl); (case ho => exact rfl); (case hx => exact rfl); (case hr => apply load_row (n := 13); (case hheap => exact hc); (case hu => exact Tryz.underlying47); (case hd => exact rfl); (case hi => kernel_rfl); (case hc => exact rfl))) | (apply wpList_load_w (ty := 47); (case hgd => exact rfl); (case ho => exact rfl); (case hx => exact rfl); (case hr => apply load_row (n := 13); (case hheap => exact hc); (case hu => exact Tryz.underlying47); (case hd => exact rfl); (case hi => kernel_rfl); (case hc => exact rfl)))) | (first | (apply wpList_load_of (ty := 47); (case hgd => exact rfl); (case ho => exact rfl); (case hx => exact rfl); (case hr => apply load_row (n := 13); (case hheap => exact hd); (case hu => exact Tryz.underlying47); (case hd => exact rfl); (case hi => kernel_rfl); (case hc => exact rfl))) | (apply wpList_load_w (ty := 47); (case hgd => exact rfl); (case ho => exact rfl); (case hx => exact rfl); (case hr => apply load_row (n := 13); (case hheap => exact hd); (case hu => exact Tryz.underlying47); (case hd => exact rfl); (case hi => kernel_rfl); (case hc => exact rfl)))))
      go_ret
      exact ⟨rfl, hBf⟩
    · have hfitC := fun W h => fits_calls C 281474976710 ac cc W HCr.out.1.1 (by have := HCr.out.1.2; omega) h
      rw [hd2] at hfitC
      have hsameD := fun W h h' => admSame_calls D y .nilIface .nilIface ad ay cd cy W (by have := HDr.out.1.2; omega) (by have := Hys.out.2; omega) h h'
      rw [hd4] at hsameD
      subst hd1 hd3
      clear hd2 hd4
      go_wp2_with (first | (first | (apply wpList_load_of (ty := 47); (case hgd => exact rfl); (case ho => exact rfl); (case hx => exact rfl); (case hr => apply load_row (n := 13); (case hheap => exact hx); (case hu => exact Tryz.underlying47); (case hd => exact rfl); (case hi => kernel_rfl); (case hc => exact rfl))) | (apply wpList_load_w (ty := 47); (case hgd => exact rfl); (case ho => exact rfl); (case hx => exact rfl); (case hr => apply load_row (n := 13); (case hheap => exact hx); (case hu => exact Tryz.underlying47); (case hd => exact rfl); (case hi => kernel_rfl); (case hc => exact rfl)))) | (first | (apply wpList_load_of (ty := 47); (case hgd => exact rfl); (case ho => exact rfl); (case hx => exact rfl); (case hr => apply load_row (n := 13); (case hheap => exact ha); (case hu => exact Tryz.underlying47); (case hd => exact rfl); (case hi => kernel_rfl); (case hc => exact rfl))) | (apply wpList_load_w (ty := 47); (case hgd => exact rfl); (case ho => exact rfl); (case hx => exact rfl); (case hr => apply load_row (n := 13); (case hheap => exact ha); (case hu => exact Tryz.underlying47); (case hd => exact rfl); (case hi => kernel_rfl); (case hc => exact rfl)))) | (first | (apply wpList_load_of (ty := 47); (case hgd => exact rfl); (case ho => exact rfl); (case hx => exact rfl); (case hr => apply load_row (n := 13); (case hheap => exact hq); (case hu => exact Tryz.underlying47); (case hd => exact rfl); (case hi => kernel_rfl); (case hc => exact rfl))) | (apply wpList_load_w (ty := 47); (case hgd => exact rfl); (case ho => exact rfl); (case hx => exact rfl); (case hr => apply load_row (n := 13); (case hheap => exact hq); (case hu => exact Tryz.underlying47); (case hd => exact rfl); (case hi => kernel_rfl); (case hc => exact rfl)))) | (first | (apply wpList_load_of (ty := 47); (case hgd => exact rfl); (case ho => exact rfl); (case hx => exact rfl); (case hr => apply load_row (n := 13); (case hheap => exact hc); (case hu => exact Tryz.underlying47); (case hd => exact rfl); (case hi => kernel_rfl); (case hc => exact rfl))) | (apply wpList_load_w (ty := 47); (case hgd => exact rfl); (case ho => exact rfl); (case hx => exact rfl); (case hr => apply load_row (n := 13); (case hheap => exact hc); (case hu => exact Tryz.underlying47); (case hd => exact rfl); (case hi => kernel_rfl); (case hc => exact rfl)))) | (first | (apply wpList_load_of (ty := 47); (case hgd => exact rfl); (case ho => exact rfl); (case hx => exact rfl); (case hr => apply load_row (n := 13); (case hheap => exact hd); (case hu => exact Tryz.underlying47); (case hd => exact rfl); (case hi => kernel_rfl); (case hc => exact rfl))) | (apply wpList_load_w (ty := 47); (case hgd => exact rfl); (case ho => exact rfl); (case hx => exact rfl); (case hr => apply load_row (n := 13); (case hheap => exact hd); (case hu => exact Tryz.underlying47); (case hd => exact rfl); (case hi => kernel_rfl); (case hc => exact rfl)))))
      refine (show Calls _ _ _ _ _ from hfitC _ hvc).mono ?_
      rintro _ w15 ⟨rfl, hb15⟩
      replace hx := heapKept hx hb15
      replace ha := heapKept ha hb15
      replace hq := heapKept hq hb15
      replace hc := heapKept hc hb15
      replace hd := heapKept hd hb15
      replace hv := hv.mono hb15
      replace hva := hva.mono hb15
      replace hvb := hvb.mono hb15
      replace hvc := hvc.mono hb15
      replace hvd := hvd.mono hb15
      replace hBf := hBf.trans (hb15.mono hBf.size)
      clear hb15
      go_wp2_with (first | (first | (apply wpList_load_of (ty := 47); (case hgd => exact rfl); (case ho => exact rfl); (case hx => exact rfl); (case hr => apply load_row (n := 13); (case hheap => exact hx); (case hu => exact Tryz.underlying47); (case hd => exact rfl); (case hi => kernel_rfl); (case hc => exact rfl))) | (apply wpList_load_w (ty := 47); (case hgd => exact rfl); (case ho => exact rfl); (case hx => exact rfl); (case hr => apply load_row (n := 13); (case hheap => exact hx); (case hu => exact Tryz.underlying47); (case hd => exact rfl); (case hi => kernel_rfl); (case hc => exact rfl)))) | (first | (apply wpList_load_of (ty := 47); (case hgd => exact rfl); (case ho => exact rfl); (case hx => exact rfl); (case hr => apply load_row (n := 13); (case hheap => exact ha); (case hu => exact Tryz.underlying47); (case hd => exact rfl); (case hi => kernel_rfl); (case hc => exact rfl))) | (apply wpList_load_w (ty := 47); (case hgd => exact rfl); (case ho => exact rfl); (case hx => exact rfl); (case hr => apply load_row (n := 13); (case hheap => exact ha); (case hu => exact Tryz.underlying47); (case hd => exact rfl); (case hi => kernel_rfl); (case hc => exact rfl)))) | (first | (apply wpList_load_of (ty := 47); (case hgd => exact rfl); (case ho => exact rfl); (case hx => exact rfl); (case hr => apply load_row (n := 13); (case hheap => exact hq); (case hu => exact Tryz.underlying47); (case hd => exact rfl); (case hi => kernel_rfl); (case hc => exact rfl))) | (apply wpList_load_w (ty := 47); (case hgd => exact rfl); (case ho => exact rfl); (case hx => exact rfl); (case hr => apply load_row (n := 13); (case hheap => exact hq); (case hu => exact Tryz.underlying47); (case hd => exact rfl); (case hi => kernel_rfl); (case hc => exact rfl)))) | (first | (apply wpList_load_of (ty := 47); (case hgd => exact rfl); (case ho => exact rfl); (case hx => exact rfl); (case hr => apply load_row (n := 13); (case hheap => exact hc); (case hu => exact Tryz.underlying47); (case hd => exact rfl); (case hi => kernel_rfl); (case hc => exact rfl))) | (apply wpList_load_w (ty := 47); (case hgd => exact rfl); (case ho => exact rfl); (case hx => exact rfl); (case hr => apply load_row (n := 13); (case hheap => exact hc); (case hu => exact Tryz.underlying47); (case hd => exact rfl); (case hi => kernel_rfl); (case hc => exact rfl)))) | (first | (apply wpList_load_of (ty := 47); (case hgd => exact rfl); (case ho => exact rfl); (case hx => exact rfl); (case hr => apply load_row (n := 13); (case hheap => exact hd); (case hu => exact Tryz.underlying47); (case hd => exact rfl); (case hi => kernel_rfl); (case hc => exact rfl))) | (apply wpList_load_w (ty := 47); (case hgd => exact rfl); (case ho => exact rfl); (case hx => exact rfl); (case hr => apply load_row (n := 13); (case hheap => exact hd); (case hu => exact Tryz.underlying47); (case hd => exact rfl); (case hi => kernel_rfl); (case hc => exact rfl)))))
      refine (show Calls _ _ _ _ _ from hsameD _ hvd hv).mono ?_
      rintro _ w16 ⟨rfl, hb16⟩
      replace hx := heapKept hx hb16
      replace ha := heapKept ha hb16
      replace hq := heapKept hq hb16
      replace hc := heapKept hc hb16
      replace hd := heapKept hd hb16
      replace hv := hv.mono hb16
      replace hva := hva.mono hb16
      replace hvb := hvb.mono hb16
      replace hvc := hvc.mono hb16
      replace hvd := hvd.mono hb16
      replace hBf := hBf.trans (hb16.mono hBf.size)
      clear hb16
      go_wp2_with (first | (first | (apply wpList_load_of (ty := 47); (case hgd => exact rfl); (case ho => exact rfl); (case hx => exact rfl); (case hr => apply load_row (n := 13); (case hheap => exact hx); (case hu => exact Tryz.underlying47); (case hd => exact rfl); (case hi => kernel_rfl); (case hc => exact rfl))) | (apply wpList_load_w (ty := 47); (case hgd => exact rfl); (case ho => exact rfl); (case hx => exact rfl); (case hr => apply load_row (n := 13); (case hheap => exact hx); (case hu => exact Tryz.underlying47); (case hd => exact rfl); (case hi => kernel_rfl); (case hc => exact rfl)))) | (first | (apply wpList_load_of (ty := 47); (case hgd => exact rfl); (case ho => exact rfl); (case hx => exact rfl); (case hr => apply load_row (n := 13); (case hheap => exact ha); (case hu => exact Tryz.underlying47); (case hd => exact rfl); (case hi => kernel_rfl); (case hc => exact rfl))) | (apply wpList_load_w (ty := 47); (case hgd => exact rfl); (case ho => exact rfl); (case hx => exact rfl); (case hr => apply load_row (n := 13); (case hheap => exact ha); (case hu => exact Tryz.underlying47); (case hd => exact rfl); (case hi => kernel_rfl); (case hc => exact rfl)))) | (first | (apply wpList_load_of (ty := 47); (case hgd => exact rfl); (case ho => exact rfl); (case hx => exact rfl); (case hr => apply load_row (n := 13); (case hheap => exact hq); (case hu => exact Tryz.underlying47); (case hd => exact rfl); (case hi => kernel_rfl); (case hc => exact rfl))) | (apply wpList_load_w (ty := 47); (case hgd => exact rfl); (case ho => exact rfl); (case hx => exact rfl); (case hr => apply load_row (n := 13); (case hheap => exact hq); (case hu => exact Tryz.underlying47); (case hd => exact rfl); (case hi => kernel_rfl); (case hc => exact rfl)))) | (first | (apply wpList_load_of (ty := 47); (case hgd => exact rfl); (case ho => exact rfl); (case hx => exact rfl); (case hr => apply load_row (n := 13); (case hheap => exact hc); (case hu => exact Tryz.underlying47); (case hd => exact rfl); (case hi => kernel_rfl); (case hc => exact rfl))) | (apply wpList_load_w (ty := 47); (case hgd => exact rfl); (case ho => exact rfl); (case hx => exact rfl); (case hr => apply load_row (n := 13); (case hheap => exact hc); (case hu => exact Tryz.underlying47); (case hd => exact rfl); (case hi => kernel_rfl); (case hc => exact rfl)))) | (first | (apply wpList_load_of (ty := 47); (case hgd => exact rfl); (case ho => exact rfl); (case hx => exact rfl); (case hr => apply load_row (n := 13); (case hheap => exact hd); (case hu => exact Tryz.underlying47); (case hd => exact rfl); (case hi => kernel_rfl); (case hc => exact rfl))) | (apply wpList_load_w (ty := 47); (case hgd => exact rfl); (case ho => exact rfl); (case hx => exact rfl); (case hr => apply load_row (n := 13); (case hheap => exact hd); (case hu => exact Tryz.underlying47); (case hd => exact rfl); (case hi => kernel_rfl); (case hc => exact rfl)))))
      go_ret
      exact ⟨rfl, hBf⟩
  · have hrightA := fun W h => right7_calls A aa ca W HA.out.1.1 (by have := HA.out.1.2; omega) h
    rw [hu2] at hrightA
    have hsameB := fun W h h' => admSame_calls B y .nilIface .nilIface ab ay cb cy W (by have := HBr.out.1.2; omega) (by have := Hys.out.2; omega) h h'
    rw [hu4] at hsameB
    subst hu1 hu3
    clear hu2 hu4
    rcases hDn with ⟨hd1, hd2⟩ | ⟨hd1, hd2, hd3, hd4⟩
    · have c1 := cellsOf hc 1
      simp only [List.getElem?_toArray, List.getElem?_cons_succ, List.getElem?_cons_zero, hd2] at c1
      have Hd2 := hide hd2
      clear hd2
      go_wp2_with (first | (first | (apply wpList_load_of (ty := 47); (case hgd => exact rfl); (case ho => exact rfl); (case hx => exact rfl); (case hr => apply load_row (n := 13); (case hheap => exact hx); (case hu => exact Tryz.underlying47); (case hd => exact rfl); (case hi => kernel_rfl); (case hc => exact rfl))) | (apply wpList_load_w (ty := 47); (case hgd => exact rfl); (case ho => exact rfl); (case hx => exact rfl); (case hr => apply load_row (n := 13); (case hheap => exact hx); (case hu => exact Tryz.underlying47); (case hd => exact rfl); (case hi => kernel_rfl); (case hc => exact rfl)))) | (first | (apply wpList_load_of (ty := 47); (case hgd => exact rfl); (case ho => exact rfl); (case hx => exact rfl); (case hr => apply load_row (n := 13); (case hheap => exact ha); (case hu => exact Tryz.underlying47); (case hd => exact rfl); (case hi => kernel_rfl); (case hc => exact rfl))) | (apply wpList_load_w (ty := 47); (case hgd => exact rfl); (case ho => exact rfl); (case hx => exact rfl); (case hr => apply load_row (n := 13); (case hheap => exact ha); (case hu => exact Tryz.underlying47); (case hd => exact rfl); (case hi => kernel_rfl); (case hc => exact rfl)))) | (first | (apply wpList_load_of (ty := 47); (case hgd => exact rfl); (case ho => exact rfl); (case hx => exact rfl); (case hr => apply load_row (n := 13); (case hheap => exact hq); (case hu => exact Tryz.underlying47); (case hd => exact rfl); (case hi => kernel_rfl); (case hc => exact rfl))) | (apply wpList_load_w (ty := 47); (case hgd => exact rfl); (case ho => exact rfl); (case hx => exact rfl); (case hr => apply load_row (n := 13); (case hheap => exact hq); (case hu => exact Tryz.underlying47); (case hd => exact rfl); (case hi => kernel_rfl); (case hc => exact rfl)))) | (first | (apply wpList_load_of (ty := 47); (case hgd => exact rfl); (case ho => exact rfl); (case hx => exact rfl); (case hr => apply load_row (n := 13); (case hheap => exact hc); (case hu => exact Tryz.underlying47); (case hd => exact rfl); (case hi => kernel_rfl); (case hc => exact rfl))) | (apply wpList_load_w (ty := 47); (case hgd => exact rfl); (case ho => exact rfl); (case hx => exact rfl); (case hr => apply load_row (n := 13); (case hheap => exact hc); (case hu => exact Tryz.underlying47); (case hd => exact rfl); (case hi => kernel_rfl); (case hc => exact rfl)))) | (first | (apply wpList_load_of (ty := 47); (case hgd => exact rfl); (case ho => exact rfl); (case hx => exact rfl); (case hr => apply load_row (n := 13); (case hheap => exact hd); (case hu => exact Tryz.underlying47); (case hd => exact rfl); (case hi => kernel_rfl); (case hc => exact rfl))) | (apply wpList_load_w (ty := 47); (case hgd => exact rfl); (case ho => exact rfl); (case hx => exact rfl); (case hr => apply load_row (n := 13); (case hheap => exact hd); (case hu => exact Tryz.underlying47); (case hd => exact rfl); (case hi => kernel_rfl); (case hc => exact rfl)))))
      refine (show Calls _ _ _ _ _ from hrightA _ hva).mono ?_
      rintro _ w13 ⟨rfl, hb13⟩
      replace hx := heapKept hx hb13
      replace ha := heapKept ha hb13
      replace hq := heapKept hq hb13
      replace hc := heapKept hc hb13
      replace hd := heapKept hd hb13
      replace hv := hv.mono hb13
      replace hva := hva.mono hb13
      replace hvb := hvb.mono hb13
      replace hvc := hvc.mono hb13
      replace hvd := hvd.mono hb13
      replace hBf := hBf.trans (hb13.mono hBf.size)
      replace c1 := (hb13.cell (cellLt c1)).trans c1
      clear hb13
      go_wp2_with (first | (first | (apply wpList_load_of (ty := 47); (case hgd => exact rfl); (case ho => exact rfl); (case hx => exact rfl); (case hr => apply load_row (n := 13); (case hheap => exact hx); (case hu => exact Tryz.underlying47); (case hd => exact rfl); (case hi => kernel_rfl); (case hc => exact rfl))) | (apply wpList_load_w (ty := 47); (case hgd => exact rfl); (case ho => exact rfl); (case hx => exact rfl); (case hr => apply load_row (n := 13); (case hheap => exact hx); (case hu => exact Tryz.underlying47); (case hd => exact rfl); (case hi => kernel_rfl); (case hc => exact rfl)))) | (first | (apply wpList_load_of (ty := 47); (case hgd => exact rfl); (case ho => exact rfl); (case hx => exact rfl); (case hr => apply load_row (n := 13); (case hheap => exact ha); (case hu => exact Tryz.underlying47); (case hd => exact rfl); (case hi => kernel_rfl); (case hc => exact rfl))) | (apply wpList_load_w (ty := 47); (case hgd => exact rfl); (case ho => exact rfl); (case hx => exact rfl); (case hr => apply load_row (n := 13); (case hheap => exact ha); (case hu => exact Tryz.underlying47); (case hd => exact rfl); (case hi => kernel_rfl); (case hc => exact rfl)))) | (first | (apply wpList_load_of (ty := 47); (case hgd => exact rfl); (case ho => exact rfl); (case hx => exact rfl); (case hr => apply load_row (n := 13); (case hheap => exact hq); (case hu => exact Tryz.underlying47); (case hd => exact rfl); (case hi => kernel_rfl); (case hc => exact rfl))) | (apply wpList_load_w (ty := 47); (case hgd => exact rfl); (case ho => exact rfl); (case hx => exact rfl); (case hr => apply load_row (n := 13); (case hheap => exact hq); (case hu => exact Tryz.underlying47); (case hd => exact rfl); (case hi => kernel_rfl); (case hc => exact rfl)))) | (first | (apply wpList_load_of (ty := 47); (case hgd => exact rfl); (case ho => exact rfl); (case hx => exact rfl); (case hr => apply load_row (n := 13); (case hheap => exact hc); (case hu => exact Tryz.underlying47); (case hd => exact rfl); (case hi => kernel_rfl); (case hc => exact rfl))) | (apply wpList_load_w (ty := 47); (case hgd => exact rfl); (case ho => exact rfl); (case hx => exact rfl); (case hr => apply load_row (n := 13); (case hheap => exact hc); (case hu => exact Tryz.underlying47); (case hd => exact rfl); (case hi => kernel_rfl); (case hc => exact rfl)))) | (first | (apply wpList_load_of (ty := 47); (case hgd => exact rfl); (case ho => exact rfl); (case hx => exact rfl); (case hr => apply load_row (n := 13); (case hheap => exact hd); (case hu => exact Tryz.underlying47); (case hd => exact rfl); (case hi => kernel_rfl); (case hc => exact rfl))) | (apply wpList_load_w (ty := 47); (case hgd => exact rfl); (case ho => exact rfl); (case hx => exact rfl); (case hr => apply load_row (n := 13); (case hheap => exact hd); (case hu => exact Tryz.underlying47); (case hd => exact rfl); (case hi => kernel_rfl); (case hc => exact rfl)))))
      refine (show Calls _ _ _ _ _ from hsameB _ hvb hv).mono ?_
      rintro _ w14 ⟨rfl, hb14⟩
      replace hx := heapKept hx hb14
      replace ha := heapKept ha hb14
      replace hq := heapKept hq hb14
      replace hc := heapKept hc hb14
      replace hd := heapKept hd hb14
      replace hv := hv.mono hb14
      replace hva := hva.mono hb14
      replace hvb := hvb.mono hb14
      replace hvc := hvc.mono hb14
      replace hvd := hvd.mono hb14
      replace hBf := hBf.trans (hb14.mono hBf.size)
      replace c1 := (hb14.cell (cellLt c1)).trans c1
      clear hb14
      go_wp2_with (first | (first | (apply wpList_load_of (ty := 47); (case hgd => exact rfl); (case ho => exact rfl); (case hx => exact rfl); (case hr => apply load_row (n := 13); (case hheap => exact hx); (case hu => exact Tryz.underlying47); (case hd => exact rfl); (case hi => kernel_rfl); (case hc => exact rfl))) | (apply wpList_load_w (ty := 47); (case hgd => exact rfl); (case ho => exact rfl); (case hx => exact rfl); (case hr => apply load_row (n := 13); (case hheap => exact hx); (case hu => exact Tryz.underlying47); (case hd => exact rfl); (case hi => kernel_rfl); (case hc => exact rfl)))) | (first | (apply wpList_load_of (ty := 47); (case hgd => exact rfl); (case ho => exact rfl); (case hx => exact rfl); (case hr => apply load_row (n := 13); (case hheap => exact ha); (case hu => exact Tryz.underlying47); (case hd => exact rfl); (case hi => kernel_rfl); (case hc => exact rfl))) | (apply wpList_load_w (ty := 47); (case hgd => exact rfl); (case ho => exact rfl); (case hx => exact rfl); (case hr => apply load_row (n := 13); (case hheap => exact ha); (case hu => exact Tryz.underlying47); (case hd => exact rfl); (case hi => kernel_rfl); (case hc => exact rfl)))) | (first | (apply wpList_load_of (ty := 47); (case hgd => exact rfl); (case ho => exact rfl); (case hx => exact rfl); (case hr => apply load_row (n := 13); (case hheap => exact hq); (case hu => exact Tryz.underlying47); (case hd => exact rfl); (case hi => kernel_rfl); (case hc => exact rfl))) | (apply wpList_load_w (ty := 47); (case hgd => exact rfl); (case ho => exact rfl); (case hx => exact rfl); (case hr => apply load_row (n := 13); (case hheap => exact hq); (case hu => exact Tryz.underlying47); (case hd => exact rfl); (case hi => kernel_rfl); (case hc => exact rfl)))) | (first | (apply wpList_load_of (ty := 47); (case hgd => exact rfl); (case ho => exact rfl); (case hx => exact rfl); (case hr => apply load_row (n := 13); (case hheap => exact hc); (case hu => exact Tryz.underlying47); (case hd => exact rfl); (case hi => kernel_rfl); (case hc => exact rfl))) | (apply wpList_load_w (ty := 47); (case hgd => exact rfl); (case ho => exact rfl); (case hx => exact rfl); (case hr => apply load_row (n := 13); (case hheap => exact hc); (case hu => exact Tryz.underlying47); (case hd => exact rfl); (case hi => kernel_rfl); (case hc => exact rfl)))) | (first | (apply wpList_load_of (ty := 47); (case hgd => exact rfl); (case ho => exact rfl); (case hx => exact rfl); (case hr => apply load_row (n := 13); (case hheap => exact hd); (case hu => exact Tryz.underlying47); (case hd => exact rfl); (case hi => kernel_rfl); (case hc => exact rfl))) | (apply wpList_load_w (ty := 47); (case hgd => exact rfl); (case ho => exact rfl); (case hx => exact rfl); (case hr => apply load_row (n := 13); (case hheap => exact hd); (case hu => exact Tryz.underlying47); (case hd => exact rfl); (case hi => kernel_rfl); (case hc => exact rfl)))))
      go_ret
      exact ⟨rfl, hBf⟩
    · have hfitC := fun W h => fits_calls C 281474976710 ac cc W HCr.out.1.1 (by have := HCr.out.1.2; omega) h
      rw [hd2] at hfitC
      have hsameD := fun W h h' => admSame_calls D y .nilIface .nilIface ad ay cd cy W (by have := HDr.out.1.2; omega) (by have := Hys.out.2; omega) h h'
      rw [hd4] at hsameD
      subst hd1 hd3
      clear hd2 hd4
      go_wp2_with (first | (first | (apply wpList_load_of (ty := 47); (case hgd => exact rfl); (case ho => exact rfl); (case hx => exact rfl); (case hr => apply load_row (n := 13); (case hheap => exact hx); (case hu => exact Tryz.underlying47); (case hd => exact rfl); (case hi => kernel_rfl); (case hc => exact rfl))) | (apply wpList_load_w (ty := 47); (case hgd => exact rfl); (case ho => exact rfl); (case hx => exact rfl); (case hr => apply load_row (n := 13); (case hheap => exact hx); (case hu => exact Tryz.underlying47); (case hd => exact rfl); (case hi => kernel_rfl); (case hc => exact rfl)))) | (first | (apply wpList_load_of (ty := 47); (case hgd => exact rfl); (case ho => exact rfl); (case hx => exact rfl); (case hr => apply load_row (n := 13); (case hheap => exact ha); (case hu => exact Tryz.underlying47); (case hd => exact rfl); (case hi => kernel_rfl); (case hc => exact rfl))) | (apply wpList_load_w (ty := 47); (case hgd => exact rfl); (case ho => exact rfl); (case hx => exact rfl); (case hr => apply load_row (n := 13); (case hheap => exact ha); (case hu => exact Tryz.underlying47); (case hd => exact rfl); (case hi => kernel_rfl); (case hc => exact rfl)))) | (first | (apply wpList_load_of (ty := 47); (case hgd => exact rfl); (case ho => exact rfl); (case hx => exact rfl); (case hr => apply load_row (n := 13); (case hheap => exact hq); (case hu => exact Tryz.underlying47); (case hd => exact rfl); (case hi => kernel_rfl); (case hc => exact rfl))) | (apply wpList_load_w (ty := 47); (case hgd => exact rfl); (case ho => exact rfl); (case hx => exact rfl); (case hr => apply load_row (n := 13); (case hheap => exact hq); (case hu => exact Tryz.underlying47); (case hd => exact rfl); (case hi => kernel_rfl); (case hc => exact rfl)))) | (first | (apply wpList_load_of (ty := 47); (case hgd => exact rfl); (case ho => exact rfl); (case hx => exact rfl); (case hr => apply load_row (n := 13); (case hheap => exact hc); (case hu => exact Tryz.underlying47); (case hd => exact rfl); (case hi => kernel_rfl); (case hc => exact rfl))) | (apply wpList_load_w (ty := 47); (case hgd => exact rfl); (case ho => exact rfl); (case hx => exact rfl); (case hr => apply load_row (n := 13); (case hheap => exact hc); (case hu => exact Tryz.underlying47); (case hd => exact rfl); (case hi => kernel_rfl); (case hc => exact rfl)))) | (first | (apply wpList_load_of (ty := 47); (case hgd => exact rfl); (case ho => exact rfl); (case hx => exact rfl); (case hr => apply load_row (n := 13); (case hheap => exact hd); (case hu => exact Tryz.underlying47); (case hd => exact rfl); (case hi => kernel_rfl); (case hc => exact rfl))) | (apply wpList_load_w (ty := 47); (case hgd => exact rfl); (case ho => exact rfl); (case hx => exact rfl); (case hr => apply load_row (n := 13); (case hheap => exact hd); (case hu => exact Tryz.underlying47); (case hd => exact rfl); (case hi => kernel_rfl); (case hc => exact rfl)))))
      refine (show Calls _ _ _ _ _ from hrightA _ hva).mono ?_
      rintro _ w13 ⟨rfl, hb13⟩
      replace hx := heapKept hx hb13
      replace ha := heapKept ha hb13
      replace hq := heapKept hq hb13
      replace hc := heapKept hc hb13
      replace hd := heapKept hd hb13
      replace hv := hv.mono hb13
      replace hva := hva.mono hb13
      replace hvb := hvb.mono hb13
      replace hvc := hvc.mono hb13
      replace hvd := hvd.mono hb13
      replace hBf := hBf.trans (hb13.mono hBf.size)
      clear hb13
      go_wp2_with (first | (first | (apply wpList_load_of (ty := 47); (case hgd => exact rfl); (case ho => exact rfl); (case hx => exact rfl); (case hr => apply load_row (n := 13); (case hheap => exact hx); (case hu => exact Tryz.underlying47); (case hd => exact rfl); (case hi => kernel_rfl); (case hc => exact rfl))) | (apply wpList_load_w (ty := 47); (case hgd => exact rfl); (case ho => exact rfl); (case hx => exact rfl); (case hr => apply load_row (n := 13); (case hheap => exact hx); (case hu => exact Tryz.underlying47); (case hd => exact rfl); (case hi => kernel_rfl); (case hc => exact rfl)))) | (first | (apply wpList_load_of (ty := 47); (case hgd => exact rfl); (case ho => exact rfl); (case hx => exact rfl); (case hr => apply load_row (n := 13); (case hheap => exact ha); (case hu => exact Tryz.underlying47); (case hd => exact rfl); (case hi => kernel_rfl); (case hc => exact rfl))) | (apply wpList_load_w (ty := 47); (case hgd => exact rfl); (case ho => exact rfl); (case hx => exact rfl); (case hr => apply load_row (n := 13); (case hheap => exact ha); (case hu => exact Tryz.underlying47); (case hd => exact rfl); (case hi => kernel_rfl); (case hc => exact rfl)))) | (first | (apply wpList_load_of (ty := 47); (case hgd => exact rfl); (case ho => exact rfl); (case hx => exact rfl); (case hr => apply load_row (n := 13); (case hheap => exact hq); (case hu => exact Tryz.underlying47); (case hd => exact rfl); (case hi => kernel_rfl); (case hc => exact rfl))) | (apply wpList_load_w (ty := 47); (case hgd => exact rfl); (case ho => exact rfl); (case hx => exact rfl); (case hr => apply load_row (n := 13); (case hheap => exact hq); (case hu => exact Tryz.underlying47); (case hd => exact rfl); (case hi => kernel_rfl); (case hc => exact rfl)))) | (first | (apply wpList_load_of (ty := 47); (case hgd => exact rfl); (case ho => exact rfl); (case hx => exact rfl); (case hr => apply load_row (n := 13); (case hheap => exact hc); (case hu => exact Tryz.underlying47); (case hd => exact rfl); (case hi => kernel_rfl); (case hc => exact rfl))) | (apply wpList_load_w (ty := 47); (case hgd => exact rfl); (case ho => exact rfl); (case hx => exact rfl); (case hr => apply load_row (n := 13); (case hheap => exact hc); (case hu => exact Tryz.underlying47); (case hd => exact rfl); (case hi => kernel_rfl); (case hc => exact rfl)))) | (first | (apply wpList_load_of (ty := 47); (case hgd => exact rfl); (case ho => exact rfl); (case hx => exact rfl); (case hr => apply load_row (n := 13); (case hheap => exact hd); (case hu => exact Tryz.underlying47); (case hd => exact rfl); (case hi => kernel_rfl); (case hc => exact rfl))) | (apply wpList_load_w (ty := 47); (case hgd => exact rfl); (case ho => exact rfl); (case hx => exact rfl); (case hr => apply load_row (n := 13); (case hheap => exact hd); (case hu => exact Tryz.underlying47); (case hd => exact rfl); (case hi => kernel_rfl); (case hc => exact rfl)))))
      refine (show Calls _ _ _ _ _ from hsameB _ hvb hv).mono ?_
      rintro _ w14 ⟨rfl, hb14⟩
      replace hx := heapKept hx hb14
      replace ha := heapKept ha hb14
      replace hq := heapKept hq hb14
      replace hc := heapKept hc hb14
      replace hd := heapKept hd hb14
      replace hv := hv.mono hb14
      replace hva := hva.mono hb14
      replace hvb := hvb.mono hb14
      replace hvc := hvc.mono hb14
      replace hvd := hvd.mono hb14
      replace hBf := hBf.trans (hb14.mono hBf.size)
      clear hb14
      go_wp2_with (first | (first | (apply wpList_load_of (ty := 47); (case hgd => exact rfl); (case ho => exact rfl); (case hx => exact rfl); (case hr => apply load_row (n := 13); (case hheap => exact hx); (case hu => exact Tryz.underlying47); (case hd => exact rfl); (case hi => kernel_rfl); (case hc => exact rfl))) | (apply wpList_load_w (ty := 47); (case hgd => exact rfl); (case ho => exact rfl); (case hx => exact rfl); (case hr => apply load_row (n := 13); (case hheap => exact hx); (case hu => exact Tryz.underlying47); (case hd => exact rfl); (case hi => kernel_rfl); (case hc => exact rfl)))) | (first | (apply wpList_load_of (ty := 47); (case hgd => exact rfl); (case ho => exact rfl); (case hx => exact rfl); (case hr => apply load_row (n := 13); (case hheap => exact ha); (case hu => exact Tryz.underlying47); (case hd => exact rfl); (case hi => kernel_rfl); (case hc => exact rfl))) | (apply wpList_load_w (ty := 47); (case hgd => exact rfl); (case ho => exact rfl); (case hx => exact rfl); (case hr => apply load_row (n := 13); (case hheap => exact ha); (case hu => exact Tryz.underlying47); (case hd => exact rfl); (case hi => kernel_rfl); (case hc => exact rfl)))) | (first | (apply wpList_load_of (ty := 47); (case hgd => exact rfl); (case ho => exact rfl); (case hx => exact rfl); (case hr => apply load_row (n := 13); (case hheap => exact hq); (case hu => exact Tryz.underlying47); (case hd => exact rfl); (case hi => kernel_rfl); (case hc => exact rfl))) | (apply wpList_load_w (ty := 47); (case hgd => exact rfl); (case ho => exact rfl); (case hx => exact rfl); (case hr => apply load_row (n := 13); (case hheap => exact hq); (case hu => exact Tryz.underlying47); (case hd => exact rfl); (case hi => kernel_rfl); (case hc => exact rfl)))) | (first | (apply wpList_load_of (ty := 47); (case hgd => exact rfl); (case ho => exact rfl); (case hx => exact rfl); (case hr => apply load_row (n := 13); (case hheap => exact hc); (case hu => exact Tryz.underlying47); (case hd => exact rfl); (case hi => kernel_rfl); (case hc => exact rfl))) | (apply wpList_load_w (ty := 47); (case hgd => exact rfl); (case ho => exact rfl); (case hx => exact rfl); (case hr => apply load_row (n := 13); (case hheap => exact hc); (case hu => exact Tryz.underlying47); (case hd => exact rfl); (case hi => kernel_rfl); (case hc => exact rfl)))) | (first | (apply wpList_load_of (ty := 47); (case hgd => exact rfl); (case ho => exact rfl); (case hx => exact rfl); (case hr => apply load_row (n := 13); (case hheap => exact hd); (case hu => exact Tryz.underlying47); (case hd => exact rfl); (case hi => kernel_rfl); (case hc => exact rfl))) | (apply wpList_load_w (ty := 47); (case hgd => exact rfl); (case ho => exact rfl); (case hx => exact rfl); (case hr => apply load_row (n := 13); (case hheap => exact hd); (case hu => exact Tryz.underlying47); (case hd => exact rfl); (case hi => kernel_rfl); (case hc => exact rfl)))))
      refine (show Calls _ _ _ _ _ from hfitC _ hvc).mono ?_
      rintro _ w15 ⟨rfl, hb15⟩
      replace hx := heapKept hx hb15
      replace ha := heapKept ha hb15
      replace hq := heapKept hq hb15
      replace hc := heapKept hc hb15
      replace hd := heapKept hd hb15
      replace hv := hv.mono hb15
      replace hva := hva.mono hb15
      replace hvb := hvb.mono hb15
      replace hvc := hvc.mono hb15
      replace hvd := hvd.mono hb15
      replace hBf := hBf.trans (hb15.mono hBf.size)
      clear hb15
      go_wp2_with (first | (first | (apply wpList_load_of (ty := 47); (case hgd => exact rfl); (case ho => exact rfl); (case hx => exact rfl); (case hr => apply load_row (n := 13); (case hheap => exact hx); (case hu => exact Tryz.underlying47); (case hd => exact rfl); (case hi => kernel_rfl); (case hc => exact rfl))) | (apply wpList_load_w (ty := 47); (case hgd => exact rfl); (case ho => exact rfl); (case hx => exact rfl); (case hr => apply load_row (n := 13); (case hheap => exact hx); (case hu => exact Tryz.underlying47); (case hd => exact rfl); (case hi => kernel_rfl); (case hc => exact rfl)))) | (first | (apply wpList_load_of (ty := 47); (case hgd => exact rfl); (case ho => exact rfl); (case hx => exact rfl); (case hr => apply load_row (n := 13); (case hheap => exact ha); (case hu => exact Tryz.underlying47); (case hd => exact rfl); (case hi => kernel_rfl); (case hc => exact rfl))) | (apply wpList_load_w (ty := 47); (case hgd => exact rfl); (case ho => exact rfl); (case hx => exact rfl); (case hr => apply load_row (n := 13); (case hheap => exact ha); (case hu => exact Tryz.underlying47); (case hd => exact rfl); (case hi => kernel_rfl); (case hc => exact rfl)))) | (first | (apply wpList_load_of (ty := 47); (case hgd => exact rfl); (case ho => exact rfl); (case hx => exact rfl); (case hr => apply load_row (n := 13); (case hheap => exact hq); (case hu => exact Tryz.underlying47); (case hd => exact rfl); (case hi => kernel_rfl); (case hc => exact rfl))) | (apply wpList_load_w (ty := 47); (case hgd => exact rfl); (case ho => exact rfl); (case hx => exact rfl); (case hr => apply load_row (n := 13); (case hheap => exact hq); (case hu => exact Tryz.underlying47); (case hd => exact rfl); (case hi => kernel_rfl); (case hc => exact rfl)))) | (first | (apply wpList_load_of (ty := 47); (case hgd => exact rfl); (case ho => exact rfl); (case hx => exact rfl); (case hr => apply load_row (n := 13); (case hheap => exact hc); (case hu => exact Tryz.underlying47); (case hd => exact rfl); (case hi => kernel_rfl); (case hc => exact rfl))) | (apply wpList_load_w (ty := 47); (case hgd => exact rfl); (case ho => exact rfl); (case hx => exact rfl); (case hr => apply load_row (n := 13); (case hheap => exact hc); (case hu => exact Tryz.underlying47); (case hd => exact rfl); (case hi => kernel_rfl); (case hc => exact rfl)))) | (first | (apply wpList_load_of (ty := 47); (case hgd => exact rfl); (case ho => exact rfl); (case hx => exact rfl); (case hr => apply load_row (n := 13); (case hheap => exact hd); (case hu => exact Tryz.underlying47); (case hd => exact rfl); (case hi => kernel_rfl); (case hc => exact rfl))) | (apply wpList_load_w (ty := 47); (case hgd => exact rfl); (case ho => exact rfl); (case hx => exact rfl); (case hr => apply load_row (n := 13); (case hheap => exact hd); (case hu => exact Tryz.underlying47); (case hd => exact rfl); (case hi => kernel_rfl); (case hc => exact rfl)))))
      refine (show Calls _ _ _ _ _ from hsameD _ hvd hv).mono ?_
      rintro _ w16 ⟨rfl, hb16⟩
      replace hx := heapKept hx hb16
      replace ha := heapKept ha hb16
      replace hq := heapKept hq hb16
      replace hc := heapKept hc hb16
      replace hd := heapKept hd hb16
      replace hv := hv.mono hb16
      replace hva := hva.mono hb16
      replace hvb := hvb.mono hb16
      replace hvc := hvc.mono hb16
      replace hvd := hvd.mono hb16
      replace hBf := hBf.trans (hb16.mono hBf.size)
      clear hb16
      go_wp2_with (first | (first | (apply wpList_load_of (ty := 47); (case hgd => exact rfl); (case ho => exact rfl); (case hx => exact rfl); (case hr => apply load_row (n := 13); (case hheap => exact hx); (case hu => exact Tryz.underlying47); (case hd => exact rfl); (case hi => kernel_rfl); (case hc => exact rfl))) | (apply wpList_load_w (ty := 47); (case hgd => exact rfl); (case ho => exact rfl); (case hx => exact rfl); (case hr => apply load_row (n := 13); (case hheap => exact hx); (case hu => exact Tryz.underlying47); (case hd => exact rfl); (case hi => kernel_rfl); (case hc => exact rfl)))) | (first | (apply wpList_load_of (ty := 47); (case hgd => exact rfl); (case ho => exact rfl); (case hx => exact rfl); (case hr => apply load_row (n := 13); (case hheap => exact ha); (case hu => exact Tryz.underlying47); (case hd => exact rfl); (case hi => kernel_rfl); (case hc => exact rfl))) | (apply wpList_load_w (ty := 47); (case hgd => exact rfl); (case ho => exact rfl); (case hx => exact rfl); (case hr => apply load_row (n := 13); (case hheap => exact ha); (case hu => exact Tryz.underlying47); (case hd => exact rfl); (case hi => kernel_rfl); (case hc => exact rfl)))) | (first | (apply wpList_load_of (ty := 47); (case hgd => exact rfl); (case ho => exact rfl); (case hx => exact rfl); (case hr => apply load_row (n := 13); (case hheap => exact hq); (case hu => exact Tryz.underlying47); (case hd => exact rfl); (case hi => kernel_rfl); (case hc => exact rfl))) | (apply wpList_load_w (ty := 47); (case hgd => exact rfl); (case ho => exact rfl); (case hx => exact rfl); (case hr => apply load_row (n := 13); (case hheap => exact hq); (case hu => exact Tryz.underlying47); (case hd => exact rfl); (case hi => kernel_rfl); (case hc => exact rfl)))) | (first | (apply wpList_load_of (ty := 47); (case hgd => exact rfl); (case ho => exact rfl); (case hx => exact rfl); (case hr => apply load_row (n := 13); (case hheap => exact hc); (case hu => exact Tryz.underlying47); (case hd => exact rfl); (case hi => kernel_rfl); (case hc => exact rfl))) | (apply wpList_load_w (ty := 47); (case hgd => exact rfl); (case ho => exact rfl); (case hx => exact rfl); (case hr => apply load_row (n := 13); (case hheap => exact hc); (case hu => exact Tryz.underlying47); (case hd => exact rfl); (case hi => kernel_rfl); (case hc => exact rfl)))) | (first | (apply wpList_load_of (ty := 47); (case hgd => exact rfl); (case ho => exact rfl); (case hx => exact rfl); (case hr => apply load_row (n := 13); (case hheap => exact hd); (case hu => exact Tryz.underlying47); (case hd => exact rfl); (case hi => kernel_rfl); (case hc => exact rfl))) | (apply wpList_load_w (ty := 47); (case hgd => exact rfl); (case ho => exact rfl); (case hx => exact rfl); (case hr => apply load_row (n := 13); (case hheap => exact hd); (case hu => exact Tryz.underlying47); (case hd => exact rfl); (case hi => kernel_rfl); (case hc => exact rfl)))))
      go_ret
      exact ⟨rfl, hBf⟩
end Go.Proofs.YtllfaffbaijgfaaGreatDoor
