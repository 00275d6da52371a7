/- xlate's steps down, one by one. -/
import Derived.Test.YtllfaffbaijgfaaGreatDoorJ32
set_option linter.unusedVariables false
set_option linter.unusedSimpArgs false
namespace Go.Proofs.YtllfaffbaijgfaaGreatDoor
open Go Go.RowKit Go.Shelf

/-- what a down holds -/
abbrev dnC (f : Int) (v : Value) (c : Class) (x : Seven) (s : Value) (tm lf : Int) : Array Value := #[.int .i64 f, v, .int .i64 c.priority, .bool c.custody, .int .i64 c.custodian.scheme, .string (bs c.custodian.node), .string (bs c.custodian.service), .int .i64 c.custodian.a, .int .i64 c.custodian.b, .int .i64 x.flags, .int .i64 x.sum, .int .i64 x.dest.scheme, .string (bs x.dest.node), .string (bs x.dest.service), .int .i64 x.dest.a, .int .i64 x.dest.b, .int .i64 x.source.scheme, .string (bs x.source.node), .string (bs x.source.service), .int .i64 x.source.a, .int .i64 x.source.b, .int .i64 x.report.scheme, .string (bs x.report.node), .string (bs x.report.service), .int .i64 x.report.a, .int .i64 x.report.b, .int .i64 x.time, .int .i64 x.seq, .int .i64 x.life, .int .i64 x.off, .int .i64 x.total, s, .int .i64 tm, .int .i64 lf]
def DnAt (W : World) (U : Nat) (f : Int) (v : Value) (c : Class) (x : Seven) (s : Value) (tm lf : Int) : Prop := W.heap[U]? = some (.cells (dnC f v c x s tm lf) 92 (0, 0))
theorem DnAt.below {U : Nat} {f tm lf : Int} {v : Value} {c : Class} {x : Seven} {s : Value} {W W' : World} (h : DnAt W U f v c x s tm lf) (hb : Below W.heap.size W W') : DnAt W' U f v c x s tm lf := heapKept h hb

set_option maxRecDepth 100000 in
set_option maxHeartbeats 4000000 in
theorem dnRight_calls (U : Nat) (f tm lf : Int) (v : Value) (c : Class) (x : Seven) (s : Value) (w : World) (hU : DnAt w U f v c x s tm lf) (hr : Calls Tryz.prog 28 #[.agg #[.int .i64 x.flags, .int .i64 x.sum, .int .i64 x.dest.scheme, .string (bs x.dest.node), .string (bs x.dest.service), .int .i64 x.dest.a, .int .i64 x.dest.b, .int .i64 x.source.scheme, .string (bs x.source.node), .string (bs x.source.service), .int .i64 x.source.a, .int .i64 x.source.b, .int .i64 x.report.scheme, .string (bs x.report.node), .string (bs x.report.service), .int .i64 x.report.a, .int .i64 x.report.b, .int .i64 x.time, .int .i64 x.seq, .int .i64 x.life, .int .i64 x.off, .int .i64 x.total, s]] w (Rt w (.bool true))) (hs : x.sum = 2) :
    Calls Tryz.prog 47 #[.pointer (some ⟨U, 0, none⟩)] w (Rt w .nilIface) := by
  have hU := hide (show w.heap[U]? = some (.cells (dnC f v c x s tm lf) 92 (0, 0)) from hU)
  have Hr := hide hr
  have Hs := hide hs
  clear hr hs
  go_enter Tryz.func47, Tryz.ntmps47
  go_wp2_with (first | (apply wpList_load_of (ty := 35); (case hgd => exact rfl); (case ho => exact rfl); (case hx => exact rfl); (case hr => exact load_mid (n := 23) (off := 9) (c := #[.int .i64 x.flags, .int .i64 x.sum, .int .i64 x.dest.scheme, .string (bs x.dest.node), .string (bs x.dest.service), .int .i64 x.dest.a, .int .i64 x.dest.b, .int .i64 x.source.scheme, .string (bs x.source.node), .string (bs x.source.service), .int .i64 x.source.a, .int .i64 x.source.b, .int .i64 x.report.scheme, .string (bs x.report.node), .string (bs x.report.service), .int .i64 x.report.a, .int .i64 x.report.b, .int .i64 x.time, .int .i64 x.seq, .int .i64 x.life, .int .i64 x.off, .int .i64 x.total, s]) hU.out Tryz.underlying35 rfl (by kernel_rfl) rfl rfl)) | (apply wpList_load_w (ty := 35); (case hgd => exact rfl); (case ho => exact rfl); (case hx => exact rfl); (case hr => exact load_mid (n := 23) (off := 9) (c := #[.int .i64 x.flags, .int .i64 x.sum, .int .i64 x.dest.scheme, .string (bs x.dest.node), .string (bs x.dest.service), .int .i64 x.dest.a, .int .i64 x.dest.b, .int .i64 x.source.scheme, .string (bs x.source.node), .string (bs x.source.service), .int .i64 x.source.a, .int .i64 x.source.b, .int .i64 x.report.scheme, .string (bs x.report.node), .string (bs x.report.service), .int .i64 x.report.a, .int .i64 x.report.b, .int .i64 x.time, .int .i64 x.seq, .int .i64 x.life, .int .i64 x.off, .int .i64 x.total, s]) hU.out Tryz.underlying35 rfl (by kernel_rfl) rfl rfl)))
  refine (show Calls _ _ _ _ _ from Hr.out).mono ?_
  rintro _ w1 ⟨rfl, hb⟩
  have hU1 := heapKept hU.out hb
  have k10 := cellsOf hU1 10
  simp only [List.getElem?_toArray, List.getElem?_cons_succ, List.getElem?_cons_zero, Hs.out] at k10
  clear hU1
  go_wp2_with fail
  go_ret
  exact ⟨rfl, hb⟩

set_option maxRecDepth 100000 in
set_option maxHeartbeats 4000000 in
theorem dnTimes_calls (U : Nat) (S : Nat → Addr) (f tm lf : Int) (v : Value) (c : Class) (x : Seven) (s : Value) (w : World) (hU : DnAt w U f v c x s tm lf) (hS : ∀ W, Turn2 U none w W → Sents S W) :
    Calls Tryz.prog 48 #[.pointer (some ⟨U, 0, none⟩)] w (fun e w' => e = .returned (wrongV (max (seconds x.time).2 (seconds x.life).2)) ∧ DnAt w' U f v c x s (seconds x.time).1 (seconds x.life).1 ∧ Turn2 U none w w') := by
  have hU : w.heap[U]? = some (.cells (dnC f v c x s tm lf) 92 (0, 0)) := hU
  have HS := hide hS
  clear hS
  obtain ⟨t, ht⟩ : ∃ u, u = seconds x.time := ⟨_, rfl⟩
  obtain ⟨l, hl⟩ : ∃ u, u = seconds x.life := ⟨_, rfl⟩
  have HT := hide (fun W h => seconds_calls S x.time W h)
  have HL := hide (fun W h => seconds_calls S x.life W h)
  rw [← ht] at HT
  rw [← hl] at HL
  rw [← ht, ← hl]
  clear ht hl
  have k26 := cellsOf hU 26
  simp only [List.getElem?_toArray, List.getElem?_cons_succ, List.getElem?_cons_zero] at k26
  go_enter Tryz.func48, Tryz.ntmps48
  go_wp2_with fail
  refine (show Calls _ _ _ _ _ from HT.out w (HS.out w (Turn2.refl _ _))).mono ?_
  rintro _ w1 ⟨rfl, hb1⟩
  have t1 := turn_below (Turn2.refl U w) hb1
  have hU1 := heapKept hU hb1
  have k32 := cellsOf hU1 32
  simp only [List.getElem?_toArray, List.getElem?_cons_succ, List.getElem?_cons_zero] at k32
  have f32 : w1.frozen? ⟨U, 32, none⟩ = false := by simp [World.frozen?, hU1]
  clear hU hb1 k26
  go_upto_region 3 with fail
  obtain ⟨w2, hw2⟩ : ∃ w2, w2 = w1.setCell ⟨U, 32, none⟩ (.int .i64 t.1) := ⟨_, rfl⟩
  rw [← hw2]
  have t2 : Turn2 U none w w2 := by rw [hw2]; exact turn_setCell (n := 0) t1
  have hU2 : w2.heap[U]? = some (.cells (dnC f v c x s t.1 lf) 92 (0, 0)) := by rw [hw2]; exact heap_setCell_same (i := 32) hU1
  clear hw2 hU1 t1 f32 k32
  have k28 := cellsOf hU2 28
  simp only [List.getElem?_toArray, List.getElem?_cons_succ, List.getElem?_cons_zero] at k28
  go_wp2_with fail
  refine (show Calls _ _ _ _ _ from HL.out w2 (HS.out w2 t2)).mono ?_
  rintro _ w3 ⟨rfl, hb3⟩
  have t3 := turn_below t2 hb3
  have hU3 := heapKept hU2 hb3
  have k33 := cellsOf hU3 33
  simp only [List.getElem?_toArray, List.getElem?_cons_succ, List.getElem?_cons_zero] at k33
  have f33 : w3.frozen? ⟨U, 33, none⟩ = false := by simp [World.frozen?, hU3]
  have H3 := hide (And.intro t3 hU3)
  clear hU2 hb3 k28 t3 hU3 t2
  go_upto_region 4 with fail
  obtain ⟨w4, hw4⟩ : ∃ w4, w4 = w3.setCell ⟨U, 33, none⟩ (.int .i64 l.1) := ⟨_, rfl⟩
  rw [← hw4]
  have t4 : Turn2 U none w w4 := by rw [hw4]; exact turn_setCell (n := 0) H3.out.1
  have hU4 : w4.heap[U]? = some (.cells (dnC f v c x s t.1 l.1) 92 (0, 0)) := by rw [hw4]; exact heap_setCell_same (i := 33) H3.out.2
  have H4 := hide (And.intro hU4 t4)
  clear hw4 hU4 t4 f33 k33
  go_wp2_with fail
  refine (show Calls _ _ _ _ _ from unless_calls (max t.2 l.2) _).mono ?_
  rintro _ w5 ⟨rfl, rfl⟩
  go_wp2_with fail
  go_ret
  exact ⟨rfl, H4.out.1, H4.out.2⟩
end Go.Proofs.YtllfaffbaijgfaaGreatDoor
