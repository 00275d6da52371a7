/- adm6.Fits, adm7.Right. -/
import Derived.Test.YtllfaffbaijgfaaGreatDoorJ16
import Derived.Test.YtllfaffbaijgfaaGreatDoorJ08
set_option linter.unusedVariables false
set_option linter.unusedSimpArgs false
namespace Go.Proofs.YtllfaffbaijgfaaGreatDoor
open Go Go.RowKit Go.Shelf

def fitsR (x : Report) (most : Int) : Bool := within 31 [x.bits] && decide (0 < x.bits) && decide ((x.times.length : Int) = countI x.bits) && within most x.times && within 255 [x.reason] && bundleR x most

def VFits (x : Report) (a : Option Addr) (n cap B R : Nat) (most : Int) (p1 p2 p3 p4 p5 p6 c2 c3 c4 c5 : Bool) : Nat → Value → (Nat → Value) → World → Prop
  | 0, v, _, W => v = .pointer (some ⟨B, 0, none⟩)
  | 1, v, _, W => v = .int .i64 x.bits
  | 2, v, _, W => IntsV W [x.bits] v
  | 3, v, _, W => v = .bool p1
  | 4, v, _, W => v = .bool p1
  | 5, v, _, W => p1 = true → (v = .pointer (some ⟨B, 0, none⟩))
  | 6, v, _, W => p1 = true → (v = .int .i64 x.bits)
  | 7, v, _, W => p1 = true → (v = .bool p2)
  | 8, v, _, W => v = .bool c2
  | 9, v, _, W => v = .bool c2
  | 10, v, _, W => c2 = true → (v = .pointer (some ⟨B, 1, none⟩))
  | 11, v, _, W => c2 = true → (v = .slice a n cap)
  | 12, v, _, W => c2 = true → (v = .int .i64 (n : Int))
  | 13, v, _, W => c2 = true → (v = .pointer (some ⟨B, 0, none⟩))
  | 14, v, _, W => c2 = true → (v = .int .i64 x.bits)
  | 15, v, _, W => c2 = true → (v = .int .i64 (countI x.bits))
  | 16, v, _, W => c2 = true → (v = .bool p3)
  | 17, v, _, W => v = .bool c3
  | 18, v, _, W => v = .bool c3
  | 19, v, _, W => c3 = true → (v = .int .i64 most)
  | 20, v, _, W => c3 = true → (v = .pointer (some ⟨B, 1, none⟩))
  | 21, v, _, W => c3 = true → (v = .slice a n cap)
  | 22, v, _, W => c3 = true → (v = .bool p4)
  | 23, v, _, W => v = .bool c4
  | 24, v, _, W => v = .bool c4
  | 25, v, _, W => c4 = true → (v = .pointer (some ⟨B, 2, none⟩))
  | 26, v, _, W => c4 = true → (v = .int .i64 x.reason)
  | 27, v, _, W => c4 = true → (IntsV W [x.reason] v)
  | 28, v, _, W => c4 = true → (v = .bool p5)
  | 29, v, _, W => v = .bool c5
  | 30, v, _, W => v = .bool c5
  | 31, v, _, W => c5 = true → (v = .pointer (some ⟨R, 0, none⟩))
  | 32, v, _, W => c5 = true → (v = .agg #[.int .i64 x.source.scheme, .string (bs x.source.node), .string (bs x.source.service), .int .i64 x.source.a, .int .i64 x.source.b, .int .i64 x.time, .int .i64 x.seq, .bool x.part, .int .i64 x.off, .int .i64 x.len])
  | 33, v, _, W => c5 = true → (v = .int .i64 most)
  | 34, v, _, W => c5 = true → (v = .bool p6)
  | 35, v, _, W => v = .bool (c5 && p6)
  | _, _, _, _ => True


set_option maxRecDepth 100000 in
set_option maxHeartbeats 40000000 in
theorem fits_calls (x : Report) (most : Int) (a : Option Addr) (cap : Nat) (w : World) (hfit : eidFit x.source) (hlen : x.times.length ≤ 9000000000000000000) (hv : IntsV w x.times (.slice a x.times.length cap)) :
    Calls Tryz.prog 24 #[.agg #[.int .i64 x.bits, .slice a x.times.length cap, .int .i64 x.reason, .int .i64 x.source.scheme, .string (bs x.source.node), .string (bs x.source.service), .int .i64 x.source.a, .int .i64 x.source.b, .int .i64 x.time, .int .i64 x.seq, .bool x.part, .int .i64 x.off, .int .i64 x.len], .int .i64 most] w (Rt w (.bool (fitsR x most))) := by
  have HV := hide hv
  have H1 := hide (show ∀ W v, IntsV W [x.bits] v → Calls Tryz.prog 57 #[.int .i64 31, v] W (Pu W (.bool (within 31 [x.bits]))) from fun W v h => within_calls 31 [x.bits] v W (by simp) h)
  have H5 := hide (show ∀ W v, IntsV W [x.reason] v → Calls Tryz.prog 57 #[.int .i64 255, v] W (Pu W (.bool (within 255 [x.reason]))) from fun W v h => within_calls 255 [x.reason] v W (by simp) h)
  have H4 := hide (show ∀ W, Below w.heap.size w W → Calls Tryz.prog 57 #[.int .i64 most, .slice a x.times.length cap] W (Pu W (.bool (within most x.times))) from fun W h => within_calls most x.times _ W hlen (hv.mono h))
  have H6 := hide (show ∀ W, Calls Tryz.prog 59 #[.agg #[.int .i64 x.source.scheme, .string (bs x.source.node), .string (bs x.source.service), .int .i64 x.source.a, .int .i64 x.source.b, .int .i64 x.time, .int .i64 x.seq, .bool x.part, .int .i64 x.off, .int .i64 x.len], .int .i64 most] W (Rt W (.bool (bundleR x most))) from fun W => bundleRight_calls x most W hfit)
  have hz : fitsR x most = (((((within 31 [x.bits] && decide (0 < x.bits)) && decide ((x.times.length : Int) = countI x.bits)) && within most x.times) && within 255 [x.reason]) && bundleR x most) := rfl
  obtain ⟨n, hn⟩ : ∃ n, n = x.times.length := ⟨_, rfl⟩
  rw [← hn] at H4 hz ⊢
  obtain ⟨p1, hp1⟩ : ∃ r, r = within 31 [x.bits] := ⟨_, rfl⟩
  obtain ⟨p2, hp2⟩ : ∃ r, r = decide (0 < x.bits) := ⟨_, rfl⟩
  obtain ⟨p3, hp3⟩ : ∃ r, r = decide ((n : Int) = countI x.bits) := ⟨_, rfl⟩
  obtain ⟨p4, hp4⟩ : ∃ r, r = within most x.times := ⟨_, rfl⟩
  obtain ⟨p5, hp5⟩ : ∃ r, r = within 255 [x.reason] := ⟨_, rfl⟩
  obtain ⟨p6, hp6⟩ : ∃ r, r = bundleR x most := ⟨_, rfl⟩
  rw [← hp1] at H1
  rw [← hp5] at H5
  rw [← hp4] at H4
  rw [← hp6] at H6
  rw [← hp1, ← hp2, ← hp3, ← hp4, ← hp5, ← hp6] at hz
  obtain ⟨c2, hc2⟩ : ∃ r, r = (p1 && p2) := ⟨_, rfl⟩
  obtain ⟨c3, hc3⟩ : ∃ r, r = (c2 && p3) := ⟨_, rfl⟩
  obtain ⟨c4, hc4⟩ : ∃ r, r = (c3 && p4) := ⟨_, rfl⟩
  obtain ⟨c5, hc5⟩ : ∃ r, r = (c4 && p5) := ⟨_, rfl⟩
  rw [← hc2, ← hc3, ← hc4, ← hc5] at hz
  rw [hz]
  have P2 := hide hp2
  have P3 := hide hp3
  have C2 := hide hc2
  have C3 := hide hc3
  have C4 := hide hc4
  have C5 := hide hc5
  clear hp1 hp2 hp3 hp4 hp5 hp6 hc2 hc3 hc4 hc5 hz hn hv hlen hfit HV
  go_enter Tryz.func24, Tryz.ntmps24
  go_wp2_with (first | (apply wpList_load_of (ty := 47); (case hgd => exact rfl); (case ho => exact rfl); (case hx => exact rfl); (case hr => apply load_row (n := 13); (case hheap => apply heapNew (u := w); (case hbel => ((repeat' (first | exact Below.refl _ _ | assumption | (refine Below.drew ?_) | (refine Below.alloc ?_ ?_ _) | (refine Below.setCell ?_ ?_ _) | (refine Below.step (W := ?hW) ?hq ?_ ?_; case hq => assumption))) <;> (first | (simp; done) | (simp; omega) | (simp at *; omega)))); (case hnew => exact rfl)); (case hu => exact Tryz.underlying47); (case hd => exact rfl); (case hi => kernel_rfl); (case hc => exact rfl))) | (apply wpList_load_w (ty := 47); (case hgd => exact rfl); (case ho => exact rfl); (case hx => exact rfl); (case hr => apply load_row (n := 13); (case hheap => apply heapNew (u := w); (case hbel => ((repeat' (first | exact Below.refl _ _ | assumption | (refine Below.drew ?_) | (refine Below.alloc ?_ ?_ _) | (refine Below.setCell ?_ ?_ _) | (refine Below.step (W := ?hW) ?hq ?_ ?_; case hq => assumption))) <;> (first | (simp; done) | (simp; omega) | (simp at *; omega)))); (case hnew => exact rfl)); (case hu => exact Tryz.underlying47); (case hd => exact rfl); (case hi => kernel_rfl); (case hc => exact rfl))))
  obtain ⟨w0, hw0⟩ : ∃ w0, w0 = w.alloc (.cells #[.int .i64 x.bits, .slice a n cap, .int .i64 x.reason, .int .i64 x.source.scheme, .string (bs x.source.node), .string (bs x.source.service), .int .i64 x.source.a, .int .i64 x.source.b, .int .i64 x.time, .int .i64 x.seq, .bool x.part, .int .i64 x.off, .int .i64 x.len] 47) := ⟨_, rfl⟩
  rw [← hw0]
  have hB0 : Below w.heap.size w w0 := by rw [hw0]; ((repeat' (first | exact Below.refl _ _ | assumption | (refine Below.drew ?_) | (refine Below.alloc ?_ ?_ _) | (refine Below.setCell ?_ ?_ _) | (refine Below.step (W := ?hW) ?hq ?_ ?_; case hq => assumption))) <;> (first | (simp; done) | (simp; omega) | (simp at *; omega)))
  have hx : w0.heap[w.heap.size]? = some (.cells #[.int .i64 x.bits, .slice a n cap, .int .i64 x.reason, .int .i64 x.source.scheme, .string (bs x.source.node), .string (bs x.source.service), .int .i64 x.source.a, .int .i64 x.source.b, .int .i64 x.time, .int .i64 x.seq, .bool x.part, .int .i64 x.off, .int .i64 x.len] 47 (0, 0)) := by rw [hw0]; exact heapNew (u := w) (by ((repeat' (first | exact Below.refl _ _ | assumption | (refine Below.drew ?_) | (refine Below.alloc ?_ ?_ _) | (refine Below.setCell ?_ ?_ _) | (refine Below.step (W := ?hW) ?hq ?_ ?_; case hq => assumption))) <;> (first | (simp; done) | (simp; omega) | (simp at *; omega)))) rfl
  have hs0 : w0.heap.size = w.heap.size + 1 := by rw [hw0]; simp
  clear hw0
  refine (ofReport_calls x a n cap w0).mono ?_
  rintro e_ w2 ⟨rfl, hb2⟩
  replace hx := (hb2.block _ (by omega)).trans hx
  replace hB0 := hB0.trans (hb2.mono (by omega))
  have hs2 : w.heap.size < w2.heap.size := Nat.lt_of_lt_of_le (by omega) hb2.size
  clear hb2 hs0
  go_wp2_with (apply wpList_store_new (ty := 99) (n := 23); (case hgd => exact rfl); (case ho => exact rfl); (case hd => exact rfl); (case hx => exact rfl); (case hw => exact rfl); (case hg => first | exact rfl | (simp; done)); (case hy => exact rfl); (case hi => kernel_rfl); (case hn0 => exact rfl); (case hn => exact rfl); (case h1 => first | exact rfl | assumption | (simp [Value.oneCell', *]; done) | (simp [*]; done)))
  refine wp_named fun w1 hw1 => ?_
  have hb1 : Below w2.heap.size w2 w1 := by rw [hw1]; ((repeat' (first | exact Below.refl _ _ | assumption | (refine Below.drew ?_) | (refine Below.alloc ?_ ?_ _) | (refine Below.setCell ?_ ?_ _) | (refine Below.step (W := ?hW) ?hq ?_ ?_; case hq => assumption))) <;> (first | (simp; done) | (simp; omega) | (simp at *; omega)))
  have hr : w1.heap[w2.heap.size]? = some (.cells #[.int .i64 x.source.scheme, .string (bs x.source.node), .string (bs x.source.service), .int .i64 x.source.a, .int .i64 x.source.b, .int .i64 x.time, .int .i64 x.seq, .bool x.part, .int .i64 x.off, .int .i64 x.len, .int .i64 x.bits, .slice a n cap, .int .i64 x.reason, .int .i64 x.source.scheme, .string (bs x.source.node), .string (bs x.source.service), .int .i64 x.source.a, .int .i64 x.source.b, .int .i64 x.time, .int .i64 x.seq, .bool x.part, .int .i64 x.off, .int .i64 x.len] 99 (0, 0)) := by rw [hw1]; exact heapNew (u := w2) (by ((repeat' (first | exact Below.refl _ _ | assumption | (refine Below.drew ?_) | (refine Below.alloc ?_ ?_ _) | (refine Below.setCell ?_ ?_ _) | (refine Below.step (W := ?hW) ?hq ?_ ?_; case hq => assumption))) <;> (first | (simp; done) | (simp; omega) | (simp at *; omega)))) rfl
  replace hx := (hb1.block _ hs2).trans hx
  have hB1 := hB0.trans (hb1.mono hB0.size)
  clear hw1 hb1
  obtain ⟨B, hB⟩ : ∃ B, B = w.heap.size := ⟨_, rfl⟩
  obtain ⟨R, hR⟩ : ∃ R, R = w2.heap.size := ⟨_, rfl⟩
  rw [← hB] at hx ⊢
  rw [← hR] at hr ⊢
  have k0 := cellsOf hx 0
  simp only [List.getElem?_toArray, List.getElem?_cons_succ, List.getElem?_cons_zero] at k0
  have k1 := cellsOf hx 1
  simp only [List.getElem?_toArray, List.getElem?_cons_succ, List.getElem?_cons_zero] at k1
  have k2 := cellsOf hx 2
  simp only [List.getElem?_toArray, List.getElem?_cons_succ, List.getElem?_cons_zero] at k2
  have m0 := cellsOf hr 0
  simp only [List.getElem?_toArray, List.getElem?_cons_succ, List.getElem?_cons_zero] at m0
  have m1 := cellsOf hr 1
  simp only [List.getElem?_toArray, List.getElem?_cons_succ, List.getElem?_cons_zero] at m1
  have m2 := cellsOf hr 2
  simp only [List.getElem?_toArray, List.getElem?_cons_succ, List.getElem?_cons_zero] at m2
  have m3 := cellsOf hr 3
  simp only [List.getElem?_toArray, List.getElem?_cons_succ, List.getElem?_cons_zero] at m3
  have m4 := cellsOf hr 4
  simp only [List.getElem?_toArray, List.getElem?_cons_succ, List.getElem?_cons_zero] at m4
  have m5 := cellsOf hr 5
  simp only [List.getElem?_toArray, List.getElem?_cons_succ, List.getElem?_cons_zero] at m5
  have m6 := cellsOf hr 6
  simp only [List.getElem?_toArray, List.getElem?_cons_succ, List.getElem?_cons_zero] at m6
  have m7 := cellsOf hr 7
  simp only [List.getElem?_toArray, List.getElem?_cons_succ, List.getElem?_cons_zero] at m7
  have m8 := cellsOf hr 8
  simp only [List.getElem?_toArray, List.getElem?_cons_succ, List.getElem?_cons_zero] at m8
  have m9 := cellsOf hr 9
  simp only [List.getElem?_toArray, List.getElem?_cons_succ, List.getElem?_cons_zero] at m9
  replace H4 := hide (show ∀ W, Below w1.heap.size w1 W → Calls Tryz.prog 57 #[.int .i64 most, .slice a n cap] W (Pu W (.bool p4)) from fun W h => H4.out W (hB1.trans (h.mono hB1.size)))
  clear hx hr hB hR hB0 hs2
  refine wp_region_pred 36 (fun W => Below w1.heap.size w1 W) (fun W W' => Below W.heap.size W W') (VFits x a n cap B R most p1 p2 p3 p4 p5 p6 c2 c3 c4 c5) (by kernel_rfl) (by kernel_rfl) (Below.refl _ _).drew
    (fun W W' h hg => h.trans (hg.mono h.size)) ?hV_6 (fun W => Below.refl _ _) ?how_6 ?hfin_6
  case hV_6 =>
    intro i_ v_ g_ W W' hg h
    match i_, h with
    | 0, h => exact h
    | 1, h => exact h
    | 2, h => exact IntsV.mono h hg
    | 3, h => exact h
    | 4, h => exact h
    | 5, h => exact h
    | 6, h => exact h
    | 7, h => exact h
    | 8, h => exact h
    | 9, h => exact h
    | 10, h => exact h
    | 11, h => exact h
    | 12, h => exact h
    | 13, h => exact h
    | 14, h => exact h
    | 15, h => exact h
    | 16, h => exact h
    | 17, h => exact h
    | 18, h => exact h
    | 19, h => exact h
    | 20, h => exact h
    | 21, h => exact h
    | 22, h => exact h
    | 23, h => exact h
    | 24, h => exact h
    | 25, h => exact h
    | 26, h => exact h
    | 27, h => exact fun hp => IntsV.mono (h hp) hg
    | 28, h => exact h
    | 29, h => exact h
    | 30, h => exact h
    | 31, h => exact h
    | 32, h => exact h
    | 33, h => exact h
    | 34, h => exact h
    | 35, h => exact h
    | _ + 36, _ => trivial
  case how_6 =>
    intro i_ hi_
    match i_, hi_ with
    | 0, _ =>
      refine owes_plain rfl rfl fun ac_ W hC hold hdep => ?_
      have hs2 := hold 2 (by kernel_rfl)
      clear hdep hold
      go_simp
      exact ⟨_, rfl, Below.refl _ _, rfl⟩
    | 1, _ =>
      refine owes_plain rfl rfl fun ac_ W hC hold hdep => ?_
      obtain ⟨_, (hd0 : _ = (.pointer (some ⟨B, 0, none⟩) : Value))⟩ := hdep 0 8 (by kernel_rfl)
      have k0 := (hC.cell (cellLt k0)).trans k0
      clear hdep hold
      go_simp
      exact ⟨_, rfl, Below.refl _ _, rfl⟩
    | 2, _ =>
      refine owes_plain rfl rfl fun ac_ W hC hold hdep => ?_
      obtain ⟨_, (hd1 : _ = (.int .i64 x.bits : Value))⟩ := hdep 1 9 (by kernel_rfl)
      clear hdep hold
      go_simp
      exact ⟨_, rfl, (Below.refl _ _).alloc (Nat.le_refl _) _, intsNew _ _ _⟩
    | 3, _ =>
      refine owes_plain rfl rfl fun ac_ W hC hold hdep => ?_
      obtain ⟨_, (hd2 : IntsV W [x.bits] _)⟩ := hdep 2 10 (by kernel_rfl)
      clear hdep hold
      go_simp
      refine (show Calls _ _ _ _ _ from H1.out W _ hd2).mono ?_
      rintro e_ w_ ⟨rfl, rfl⟩
      exact ⟨_, rfl, Below.refl _ _, rfl⟩
    | 4, _ =>
      refine owes_plain rfl rfl fun ac_ W hC hold hdep => ?_
      obtain ⟨_, (hd3 : _ = (.bool p1 : Value))⟩ := hdep 3 11 (by kernel_rfl)
      clear hdep hold
      go_simp
      exact ⟨_, rfl, Below.refl _ _, rfl⟩
    | 5, _ =>
      cases p1
      · exact owes_no (s := 12) rfl rfl (by kernel_rfl) (fun v gg w h => h) (fun gg w => fun h => by cases h)
      · refine owes_yes (s := 12) rfl rfl (by kernel_rfl) (fun v gg w h => h) fun ac_ W hC hold hdep => ?_
        have hs2 := hold 2 (by kernel_rfl)
        clear hdep hold
        go_simp
        exact ⟨_, rfl, Below.refl _ _, fun _ => rfl⟩
    | 6, _ =>
      cases p1
      · exact owes_no (s := 12) rfl rfl (by kernel_rfl) (fun v gg w h => h) (fun gg w => fun h => by cases h)
      · refine owes_yes (s := 12) rfl rfl (by kernel_rfl) (fun v gg w h => h) fun ac_ W hC hold hdep => ?_
        obtain ⟨_, (hd5 : true = true → (_ = (.pointer (some ⟨B, 0, none⟩) : Value)))⟩ := hdep 5 13 (by kernel_rfl)
        replace hd5 := hd5 rfl
        have k0 := (hC.cell (cellLt k0)).trans k0
        clear hdep hold
        go_simp
        exact ⟨_, rfl, Below.refl _ _, fun _ => rfl⟩
    | 7, _ =>
      cases p1
      · exact owes_no (s := 12) rfl rfl (by kernel_rfl) (fun v gg w h => h) (fun gg w => fun h => by cases h)
      · refine owes_yes (s := 12) rfl rfl (by kernel_rfl) (fun v gg w h => h) fun ac_ W hC hold hdep => ?_
        obtain ⟨_, (hd6 : true = true → (_ = (.int .i64 x.bits : Value)))⟩ := hdep 6 14 (by kernel_rfl)
        replace hd6 := hd6 rfl
        clear hdep hold
        go_simp
        refine ⟨_, rfl, Below.refl _ _, fun _ => ?_⟩
        show Value.bool _ = Value.bool p2
        rw [P2.out]
    | 8, _ =>
      cases p1
      · refine owes_plain rfl rfl fun ac_ W hC hold hdep => ?_
        obtain ⟨_, (hd4 : _ = (.bool false : Value))⟩ := hdep 4 12 (by kernel_rfl)
        clear hdep hold
        go_simp
        refine ⟨_, rfl, Below.refl _ _, ?_⟩
        show Value.bool _ = Value.bool c2
        rw [C2.out]
        try rfl
      · refine owes_plain rfl rfl fun ac_ W hC hold hdep => ?_
        obtain ⟨_, (hd4 : _ = (.bool true : Value))⟩ := hdep 4 12 (by kernel_rfl)
        obtain ⟨_, (hd7 : true = true → (_ = (.bool p2 : Value)))⟩ := hdep 7 15 (by kernel_rfl)
        replace hd7 := hd7 rfl
        clear hdep hold
        go_simp
        refine ⟨_, rfl, Below.refl _ _, ?_⟩
        show Value.bool _ = Value.bool c2
        rw [C2.out]
        try rfl
    | 9, _ =>
      refine owes_plain rfl rfl fun ac_ W hC hold hdep => ?_
      obtain ⟨_, (hd8 : _ = (.bool c2 : Value))⟩ := hdep 8 16 (by kernel_rfl)
      clear hdep hold
      go_simp
      exact ⟨_, rfl, Below.refl _ _, rfl⟩
    | 10, _ =>
      cases c2
      · exact owes_no (s := 17) rfl rfl (by kernel_rfl) (fun v gg w h => h) (fun gg w => fun h => by cases h)
      · refine owes_yes (s := 17) rfl rfl (by kernel_rfl) (fun v gg w h => h) fun ac_ W hC hold hdep => ?_
        have hs2 := hold 2 (by kernel_rfl)
        clear hdep hold
        go_simp
        exact ⟨_, rfl, Below.refl _ _, fun _ => rfl⟩
    | 11, _ =>
      cases c2
      · exact owes_no (s := 17) rfl rfl (by kernel_rfl) (fun v gg w h => h) (fun gg w => fun h => by cases h)
      · refine owes_yes (s := 17) rfl rfl (by kernel_rfl) (fun v gg w h => h) fun ac_ W hC hold hdep => ?_
        obtain ⟨_, (hd10 : true = true → (_ = (.pointer (some ⟨B, 1, none⟩) : Value)))⟩ := hdep 10 18 (by kernel_rfl)
        replace hd10 := hd10 rfl
        have k1 := (hC.cell (cellLt k1)).trans k1
        clear hdep hold
        go_simp
        exact ⟨_, rfl, Below.refl _ _, fun _ => rfl⟩
    | 12, _ =>
      cases c2
      · exact owes_no (s := 17) rfl rfl (by kernel_rfl) (fun v gg w h => h) (fun gg w => fun h => by cases h)
      · refine owes_yes (s := 17) rfl rfl (by kernel_rfl) (fun v gg w h => h) fun ac_ W hC hold hdep => ?_
        obtain ⟨_, (hd11 : true = true → (_ = (.slice a n cap : Value)))⟩ := hdep 11 19 (by kernel_rfl)
        replace hd11 := hd11 rfl
        clear hdep hold
        go_simp
        exact ⟨_, rfl, Below.refl _ _, fun _ => rfl⟩
    | 13, _ =>
      cases c2
      · exact owes_no (s := 17) rfl rfl (by kernel_rfl) (fun v gg w h => h) (fun gg w => fun h => by cases h)
      · refine owes_yes (s := 17) rfl rfl (by kernel_rfl) (fun v gg w h => h) fun ac_ W hC hold hdep => ?_
        have hs2 := hold 2 (by kernel_rfl)
        clear hdep hold
        go_simp
        exact ⟨_, rfl, Below.refl _ _, fun _ => rfl⟩
    | 14, _ =>
      cases c2
      · exact owes_no (s := 17) rfl rfl (by kernel_rfl) (fun v gg w h => h) (fun gg w => fun h => by cases h)
      · refine owes_yes (s := 17) rfl rfl (by kernel_rfl) (fun v gg w h => h) fun ac_ W hC hold hdep => ?_
        obtain ⟨_, (hd13 : true = true → (_ = (.pointer (some ⟨B, 0, none⟩) : Value)))⟩ := hdep 13 21 (by kernel_rfl)
        replace hd13 := hd13 rfl
        have k0 := (hC.cell (cellLt k0)).trans k0
        clear hdep hold
        go_simp
        exact ⟨_, rfl, Below.refl _ _, fun _ => rfl⟩
    | 15, _ =>
      cases c2
      · exact owes_no (s := 17) rfl rfl (by kernel_rfl) (fun v gg w h => h) (fun gg w => fun h => by cases h)
      · refine owes_yes (s := 17) rfl rfl (by kernel_rfl) (fun v gg w h => h) fun ac_ W hC hold hdep => ?_
        obtain ⟨_, (hd14 : true = true → (_ = (.int .i64 x.bits : Value)))⟩ := hdep 14 22 (by kernel_rfl)
        replace hd14 := hd14 rfl
        clear hdep hold
        go_simp
        refine (show Calls _ _ _ _ _ from count_calls _ W).mono ?_
        rintro e_ w_ ⟨rfl, hb_⟩
        exact ⟨_, rfl, hb_, fun _ => rfl⟩
    | 16, _ =>
      cases c2
      · exact owes_no (s := 17) rfl rfl (by kernel_rfl) (fun v gg w h => h) (fun gg w => fun h => by cases h)
      · refine owes_yes (s := 17) rfl rfl (by kernel_rfl) (fun v gg w h => h) fun ac_ W hC hold hdep => ?_
        obtain ⟨_, (hd12 : true = true → (_ = (.int .i64 (n : Int) : Value)))⟩ := hdep 12 20 (by kernel_rfl)
        replace hd12 := hd12 rfl
        obtain ⟨_, (hd15 : true = true → (_ = (.int .i64 (countI x.bits) : Value)))⟩ := hdep 15 23 (by kernel_rfl)
        replace hd15 := hd15 rfl
        clear hdep hold
        go_simp
        refine ⟨_, rfl, Below.refl _ _, fun _ => ?_⟩
        show Value.bool _ = Value.bool p3
        rw [P3.out]
        try rfl
    | 17, _ =>
      cases c2
      · refine owes_plain rfl rfl fun ac_ W hC hold hdep => ?_
        obtain ⟨_, (hd9 : _ = (.bool false : Value))⟩ := hdep 9 17 (by kernel_rfl)
        clear hdep hold
        go_simp
        refine ⟨_, rfl, Below.refl _ _, ?_⟩
        show Value.bool _ = Value.bool c3
        rw [C3.out]
        try rfl
      · refine owes_plain rfl rfl fun ac_ W hC hold hdep => ?_
        obtain ⟨_, (hd9 : _ = (.bool true : Value))⟩ := hdep 9 17 (by kernel_rfl)
        obtain ⟨_, (hd16 : true = true → (_ = (.bool p3 : Value)))⟩ := hdep 16 24 (by kernel_rfl)
        replace hd16 := hd16 rfl
        clear hdep hold
        go_simp
        refine ⟨_, rfl, Below.refl _ _, ?_⟩
        show Value.bool _ = Value.bool c3
        rw [C3.out]
        try rfl
    | 18, _ =>
      refine owes_plain rfl rfl fun ac_ W hC hold hdep => ?_
      obtain ⟨_, (hd17 : _ = (.bool c3 : Value))⟩ := hdep 17 25 (by kernel_rfl)
      clear hdep hold
      go_simp
      exact ⟨_, rfl, Below.refl _ _, rfl⟩
    | 19, _ =>
      cases c3
      · exact owes_no (s := 26) rfl rfl (by kernel_rfl) (fun v gg w h => h) (fun gg w => fun h => by cases h)
      · refine owes_yes (s := 26) rfl rfl (by kernel_rfl) (fun v gg w h => h) fun ac_ W hC hold hdep => ?_
        have hs1 := hold 1 (by kernel_rfl)
        clear hdep hold
        go_simp
        exact ⟨_, rfl, Below.refl _ _, fun _ => rfl⟩
    | 20, _ =>
      cases c3
      · exact owes_no (s := 26) rfl rfl (by kernel_rfl) (fun v gg w h => h) (fun gg w => fun h => by cases h)
      · refine owes_yes (s := 26) rfl rfl (by kernel_rfl) (fun v gg w h => h) fun ac_ W hC hold hdep => ?_
        have hs2 := hold 2 (by kernel_rfl)
        clear hdep hold
        go_simp
        exact ⟨_, rfl, Below.refl _ _, fun _ => rfl⟩
    | 21, _ =>
      cases c3
      · exact owes_no (s := 26) rfl rfl (by kernel_rfl) (fun v gg w h => h) (fun gg w => fun h => by cases h)
      · refine owes_yes (s := 26) rfl rfl (by kernel_rfl) (fun v gg w h => h) fun ac_ W hC hold hdep => ?_
        obtain ⟨_, (hd20 : true = true → (_ = (.pointer (some ⟨B, 1, none⟩) : Value)))⟩ := hdep 20 28 (by kernel_rfl)
        replace hd20 := hd20 rfl
        have k1 := (hC.cell (cellLt k1)).trans k1
        clear hdep hold
        go_simp
        exact ⟨_, rfl, Below.refl _ _, fun _ => rfl⟩
    | 22, _ =>
      cases c3
      · exact owes_no (s := 26) rfl rfl (by kernel_rfl) (fun v gg w h => h) (fun gg w => fun h => by cases h)
      · refine owes_yes (s := 26) rfl rfl (by kernel_rfl) (fun v gg w h => h) fun ac_ W hC hold hdep => ?_
        obtain ⟨_, (hd19 : true = true → (_ = (.int .i64 most : Value)))⟩ := hdep 19 27 (by kernel_rfl)
        replace hd19 := hd19 rfl
        obtain ⟨_, (hd21 : true = true → (_ = (.slice a n cap : Value)))⟩ := hdep 21 29 (by kernel_rfl)
        replace hd21 := hd21 rfl
        clear hdep hold
        go_simp
        refine (show Calls _ _ _ _ _ from H4.out W hC).mono ?_
        rintro e_ w_ ⟨rfl, rfl⟩
        exact ⟨_, rfl, Below.refl _ _, fun _ => rfl⟩
    | 23, _ =>
      cases c3
      · refine owes_plain rfl rfl fun ac_ W hC hold hdep => ?_
        obtain ⟨_, (hd18 : _ = (.bool false : Value))⟩ := hdep 18 26 (by kernel_rfl)
        clear hdep hold
        go_simp
        refine ⟨_, rfl, Below.refl _ _, ?_⟩
        show Value.bool _ = Value.bool c4
        rw [C4.out]
        try rfl
      · refine owes_plain rfl rfl fun ac_ W hC hold hdep => ?_
        obtain ⟨_, (hd18 : _ = (.bool true : Value))⟩ := hdep 18 26 (by kernel_rfl)
        obtain ⟨_, (hd22 : true = true → (_ = (.bool p4 : Value)))⟩ := hdep 22 30 (by kernel_rfl)
        replace hd22 := hd22 rfl
        clear hdep hold
        go_simp
        refine ⟨_, rfl, Below.refl _ _, ?_⟩
        show Value.bool _ = Value.bool c4
        rw [C4.out]
        try rfl
    | 24, _ =>
      refine owes_plain rfl rfl fun ac_ W hC hold hdep => ?_
      obtain ⟨_, (hd23 : _ = (.bool c4 : Value))⟩ := hdep 23 31 (by kernel_rfl)
      clear hdep hold
      go_simp
      exact ⟨_, rfl, Below.refl _ _, rfl⟩
    | 25, _ =>
      cases c4
      · exact owes_no (s := 32) rfl rfl (by kernel_rfl) (fun v gg w h => h) (fun gg w => fun h => by cases h)
      · refine owes_yes (s := 32) rfl rfl (by kernel_rfl) (fun v gg w h => h) fun ac_ W hC hold hdep => ?_
        have hs2 := hold 2 (by kernel_rfl)
        clear hdep hold
        go_simp
        exact ⟨_, rfl, Below.refl _ _, fun _ => rfl⟩
    | 26, _ =>
      cases c4
      · exact owes_no (s := 32) rfl rfl (by kernel_rfl) (fun v gg w h => h) (fun gg w => fun h => by cases h)
      · refine owes_yes (s := 32) rfl rfl (by kernel_rfl) (fun v gg w h => h) fun ac_ W hC hold hdep => ?_
        obtain ⟨_, (hd25 : true = true → (_ = (.pointer (some ⟨B, 2, none⟩) : Value)))⟩ := hdep 25 33 (by kernel_rfl)
        replace hd25 := hd25 rfl
        have k2 := (hC.cell (cellLt k2)).trans k2
        clear hdep hold
        go_simp
        exact ⟨_, rfl, Below.refl _ _, fun _ => rfl⟩
    | 27, _ =>
      cases c4
      · exact owes_no (s := 32) rfl rfl (by kernel_rfl) (fun v gg w h => h) (fun gg w => fun h => by cases h)
      · refine owes_yes (s := 32) rfl rfl (by kernel_rfl) (fun v gg w h => h) fun ac_ W hC hold hdep => ?_
        obtain ⟨_, (hd26 : true = true → (_ = (.int .i64 x.reason : Value)))⟩ := hdep 26 34 (by kernel_rfl)
        replace hd26 := hd26 rfl
        clear hdep hold
        go_simp
        exact ⟨_, rfl, (Below.refl _ _).alloc (Nat.le_refl _) _, fun _ => intsNew _ _ _⟩
    | 28, _ =>
      cases c4
      · exact owes_no (s := 32) rfl rfl (by kernel_rfl) (fun v gg w h => h) (fun gg w => fun h => by cases h)
      · refine owes_yes (s := 32) rfl rfl (by kernel_rfl) (fun v gg w h => h) fun ac_ W hC hold hdep => ?_
        obtain ⟨_, (hd27 : true = true → (IntsV W [x.reason] _))⟩ := hdep 27 35 (by kernel_rfl)
        replace hd27 := hd27 rfl
        clear hdep hold
        go_simp
        refine (show Calls _ _ _ _ _ from H5.out W _ hd27).mono ?_
        rintro e_ w_ ⟨rfl, rfl⟩
        exact ⟨_, rfl, Below.refl _ _, fun _ => rfl⟩
    | 29, _ =>
      cases c4
      · refine owes_plain rfl rfl fun ac_ W hC hold hdep => ?_
        obtain ⟨_, (hd24 : _ = (.bool false : Value))⟩ := hdep 24 32 (by kernel_rfl)
        clear hdep hold
        go_simp
        refine ⟨_, rfl, Below.refl _ _, ?_⟩
        show Value.bool _ = Value.bool c5
        rw [C5.out]
        try rfl
      · refine owes_plain rfl rfl fun ac_ W hC hold hdep => ?_
        obtain ⟨_, (hd24 : _ = (.bool true : Value))⟩ := hdep 24 32 (by kernel_rfl)
        obtain ⟨_, (hd28 : true = true → (_ = (.bool p5 : Value)))⟩ := hdep 28 36 (by kernel_rfl)
        replace hd28 := hd28 rfl
        clear hdep hold
        go_simp
        refine ⟨_, rfl, Below.refl _ _, ?_⟩
        show Value.bool _ = Value.bool c5
        rw [C5.out]
        try rfl
    | 30, _ =>
      refine owes_plain rfl rfl fun ac_ W hC hold hdep => ?_
      obtain ⟨_, (hd29 : _ = (.bool c5 : Value))⟩ := hdep 29 37 (by kernel_rfl)
      clear hdep hold
      go_simp
      exact ⟨_, rfl, Below.refl _ _, rfl⟩
    | 31, _ =>
      cases c5
      · exact owes_no (s := 38) rfl rfl (by kernel_rfl) (fun v gg w h => h) (fun gg w => fun h => by cases h)
      · refine owes_yes (s := 38) rfl rfl (by kernel_rfl) (fun v gg w h => h) fun ac_ W hC hold hdep => ?_
        have hs5 := hold 5 (by kernel_rfl)
        clear hdep hold
        go_simp
        exact ⟨_, rfl, Below.refl _ _, fun _ => rfl⟩
    | 32, _ =>
      cases c5
      · exact owes_no (s := 38) rfl rfl (by kernel_rfl) (fun v gg w h => h) (fun gg w => fun h => by cases h)
      · refine owes_yes (s := 38) rfl rfl (by kernel_rfl) (fun v gg w h => h) fun ac_ W hC hold hdep => ?_
        obtain ⟨_, (hd31 : true = true → (_ = (.pointer (some ⟨R, 0, none⟩) : Value)))⟩ := hdep 31 39 (by kernel_rfl)
        replace hd31 := hd31 rfl
        have m0 := (hC.cell (cellLt m0)).trans m0
        have m1 := (hC.cell (cellLt m1)).trans m1
        have m2 := (hC.cell (cellLt m2)).trans m2
        have m3 := (hC.cell (cellLt m3)).trans m3
        have m4 := (hC.cell (cellLt m4)).trans m4
        have m5 := (hC.cell (cellLt m5)).trans m5
        have m6 := (hC.cell (cellLt m6)).trans m6
        have m7 := (hC.cell (cellLt m7)).trans m7
        have m8 := (hC.cell (cellLt m8)).trans m8
        have m9 := (hC.cell (cellLt m9)).trans m9
        clear hdep hold
        go_simp
        exact ⟨_, rfl, Below.refl _ _, fun _ => rfl⟩
    | 33, _ =>
      cases c5
      · exact owes_no (s := 38) rfl rfl (by kernel_rfl) (fun v gg w h => h) (fun gg w => fun h => by cases h)
      · refine owes_yes (s := 38) rfl rfl (by kernel_rfl) (fun v gg w h => h) fun ac_ W hC hold hdep => ?_
        have hs1 := hold 1 (by kernel_rfl)
        clear hdep hold
        go_simp
        exact ⟨_, rfl, Below.refl _ _, fun _ => rfl⟩
    | 34, _ =>
      cases c5
      · exact owes_no (s := 38) rfl rfl (by kernel_rfl) (fun v gg w h => h) (fun gg w => fun h => by cases h)
      · refine owes_yes (s := 38) rfl rfl (by kernel_rfl) (fun v gg w h => h) fun ac_ W hC hold hdep => ?_
        obtain ⟨_, (hd32 : true = true → (_ = (.agg #[.int .i64 x.source.scheme, .string (bs x.source.node), .string (bs x.source.service), .int .i64 x.source.a, .int .i64 x.source.b, .int .i64 x.time, .int .i64 x.seq, .bool x.part, .int .i64 x.off, .int .i64 x.len] : Value)))⟩ := hdep 32 40 (by kernel_rfl)
        replace hd32 := hd32 rfl
        obtain ⟨_, (hd33 : true = true → (_ = (.int .i64 most : Value)))⟩ := hdep 33 41 (by kernel_rfl)
        replace hd33 := hd33 rfl
        clear hdep hold
        go_simp
        refine (show Calls _ _ _ _ _ from H6.out W).mono ?_
        rintro e_ w_ ⟨rfl, hb_⟩
        exact ⟨_, rfl, hb_, fun _ => rfl⟩
    | 35, _ =>
      cases c5
      · refine owes_plain rfl rfl fun ac_ W hC hold hdep => ?_
        obtain ⟨_, (hd30 : _ = (.bool false : Value))⟩ := hdep 30 38 (by kernel_rfl)
        clear hdep hold
        go_simp
        exact ⟨_, rfl, Below.refl _ _, rfl⟩
      · refine owes_plain rfl rfl fun ac_ W hC hold hdep => ?_
        obtain ⟨_, (hd30 : _ = (.bool true : Value))⟩ := hdep 30 38 (by kernel_rfl)
        obtain ⟨_, (hd34 : true = true → (_ = (.bool p6 : Value)))⟩ := hdep 34 42 (by kernel_rfl)
        replace hd34 := hd34 rfl
        clear hdep hold
        go_simp
        exact ⟨_, rfl, Below.refl _ _, rfl⟩
    | k + 36, hk => exact absurd hk (by omega)
  case' hfin_6 =>
    intro fv W hC hold hval
    have v35 : (fv 43) = (.bool (c5 && p6) : Value) := hval 35 _ (by omega) rfl
    clear hval hold
    simp only [List.drop_succ_cons, List.drop_zero, List.size_toArray, List.length_cons, List.length_nil, Nat.reduceAdd]
    rw [show List.range 44 = [0, 1, 2, 3, 4, 5, 6, 7, 8, 9, 10, 11, 12, 13, 14, 15, 16, 17, 18, 19, 20, 21, 22, 23, 24, 25, 26, 27, 28, 29, 30, 31, 32, 33, 34, 35, 36, 37, 38, 39, 40, 41, 42, 43] from rfl]
    simp only [List.map_cons, List.map_nil]
  go_wp2_with fail
  go_ret
  exact ⟨by simp [v35], hB1.trans (hC.mono hB1.size)⟩

def right7R (x : Report) : Bool := fitsR x 281474976710655 && decide (bits .and .i64 x.bits 2 = 0)

set_option maxRecDepth 100000 in
theorem right7_calls (x : Report) (a : Option Addr) (cap : Nat) (w : World) (hfit : eidFit x.source) (hlen : x.times.length ≤ 9000000000000000000) (hv : IntsV w x.times (.slice a x.times.length cap)) :
    Calls Tryz.prog 22 #[.agg #[.int .i64 x.bits, .slice a x.times.length cap, .int .i64 x.reason, .int .i64 x.source.scheme, .string (bs x.source.node), .string (bs x.source.service), .int .i64 x.source.a, .int .i64 x.source.b, .int .i64 x.time, .int .i64 x.seq, .bool x.part, .int .i64 x.off, .int .i64 x.len]] w (Rt w (.bool (right7R x))) := by
  have HF := hide (show ∀ W, Below w.heap.size w W → Calls Tryz.prog 24 #[.agg #[.int .i64 x.bits, .slice a x.times.length cap, .int .i64 x.reason, .int .i64 x.source.scheme, .string (bs x.source.node), .string (bs x.source.service), .int .i64 x.source.a, .int .i64 x.source.b, .int .i64 x.time, .int .i64 x.seq, .bool x.part, .int .i64 x.off, .int .i64 x.len], .int .i64 281474976710655] W (Rt W (.bool (fitsR x 281474976710655))) from fun W h => fits_calls x _ a cap W hfit hlen (hv.mono h))
  obtain ⟨p, hp⟩ : ∃ p, p = fitsR x 281474976710655 := ⟨_, rfl⟩
  obtain ⟨q, hq⟩ : ∃ q, q = decide (bits .and .i64 x.bits 2 = 0) := ⟨_, rfl⟩
  have hz : right7R x = (p && q) := by rw [right7R, hp, hq]
  rw [← hp] at HF
  rw [hz]
  have Hq := hide hq
  clear hp hz hv hfit hlen hq
  obtain ⟨n, hn⟩ : ∃ n, n = x.times.length := ⟨_, rfl⟩
  rw [← hn] at HF ⊢
  clear hn
  go_enter Tryz.func22, Tryz.ntmps22
  go_wp2_with (first | (apply wpList_load_of (ty := 47); (case hgd => exact rfl); (case ho => exact rfl); (case hx => exact rfl); (case hr => apply load_row (n := 13); (case hheap => apply heapNew (u := w); (case hbel => ((repeat' (first | exact Below.refl _ _ | assumption | (refine Below.drew ?_) | (refine Below.alloc ?_ ?_ _) | (refine Below.setCell ?_ ?_ _) | (refine Below.step (W := ?hW) ?hq ?_ ?_; case hq => assumption))) <;> (first | (simp; done) | (simp; omega) | (simp at *; omega)))); (case hnew => exact rfl)); (case hu => exact Tryz.underlying47); (case hd => exact rfl); (case hi => kernel_rfl); (case hc => exact rfl))) | (apply wpList_load_w (ty := 47); (case hgd => exact rfl); (case ho => exact rfl); (case hx => exact rfl); (case hr => apply load_row (n := 13); (case hheap => apply heapNew (u := w); (case hbel => ((repeat' (first | exact Below.refl _ _ | assumption | (refine Below.drew ?_) | (refine Below.alloc ?_ ?_ _) | (refine Below.setCell ?_ ?_ _) | (refine Below.step (W := ?hW) ?hq ?_ ?_; case hq => assumption))) <;> (first | (simp; done) | (simp; omega) | (simp at *; omega)))); (case hnew => exact rfl)); (case hu => exact Tryz.underlying47); (case hd => exact rfl); (case hi => kernel_rfl); (case hc => exact rfl))))
  obtain ⟨w0, hw0⟩ : ∃ w0, w0 = w.alloc (.cells #[.int .i64 x.bits, .slice a n cap, .int .i64 x.reason, .int .i64 x.source.scheme, .string (bs x.source.node), .string (bs x.source.service), .int .i64 x.source.a, .int .i64 x.source.b, .int .i64 x.time, .int .i64 x.seq, .bool x.part, .int .i64 x.off, .int .i64 x.len] 47) := ⟨_, rfl⟩
  rw [← hw0]
  have hB0 : Below w.heap.size w w0 := by rw [hw0]; ((repeat' (first | exact Below.refl _ _ | assumption | (refine Below.drew ?_) | (refine Below.alloc ?_ ?_ _) | (refine Below.setCell ?_ ?_ _) | (refine Below.step (W := ?hW) ?hq ?_ ?_; case hq => assumption))) <;> (first | (simp; done) | (simp; omega) | (simp at *; omega)))
  have hx : w0.heap[w.heap.size]? = some (.cells #[.int .i64 x.bits, .slice a n cap, .int .i64 x.reason, .int .i64 x.source.scheme, .string (bs x.source.node), .string (bs x.source.service), .int .i64 x.source.a, .int .i64 x.source.b, .int .i64 x.time, .int .i64 x.seq, .bool x.part, .int .i64 x.off, .int .i64 x.len] 47 (0, 0)) := by rw [hw0]; exact heapNew (u := w) (by ((repeat' (first | exact Below.refl _ _ | assumption | (refine Below.drew ?_) | (refine Below.alloc ?_ ?_ _) | (refine Below.setCell ?_ ?_ _) | (refine Below.step (W := ?hW) ?hq ?_ ?_; case hq => assumption))) <;> (first | (simp; done) | (simp; omega) | (simp at *; omega)))) rfl
  clear hw0
  refine (show Calls _ _ _ _ _ from HF.out w0 hB0).mono ?_
  rintro e_ w2 ⟨rfl, hb2⟩
  have k0 := cellsOf (heapKept hx hb2) 0
  simp only [List.getElem?_toArray, List.getElem?_cons_zero] at k0
  have hB2 := hB0.trans (hb2.mono hB0.size)
  clear hx hb2 hB0
  cases p
  · go_wp2_with fail
    go_ret
    exact ⟨by simp, hB2⟩
  · by_cases h2 : bits .and .i64 x.bits 2 = 0
    · go_wp2_with fail
      go_ret
      exact ⟨by rw [Hq.out]; simp [h2], hB2⟩
    · go_wp2_with fail
      go_ret
      refine ⟨?_, hB2⟩
      rw [Hq.out]
      simp [h2]
end Go.Proofs.YtllfaffbaijgfaaGreatDoor
