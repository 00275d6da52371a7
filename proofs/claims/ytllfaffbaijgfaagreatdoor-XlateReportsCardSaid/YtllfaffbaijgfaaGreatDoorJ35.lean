/- xlate's steps down, one after the other. -/
import Derived.Test.YtllfaffbaijgfaaGreatDoorJ34
set_option linter.unusedVariables false
set_option linter.unusedSimpArgs false
namespace Go.Proofs.YtllfaffbaijgfaaGreatDoor
open Go Go.RowKit Go.Shelf

abbrev dnFs (U : Nat) : List Value := [.func (.func 47) #[.pointer (some ⟨U, 0, none⟩)] #[], .func (.func 48) #[.pointer (some ⟨U, 0, none⟩)] #[], .func (.func 49) #[.pointer (some ⟨U, 0, none⟩)] #[], .func (.func 50) #[.pointer (some ⟨U, 0, none⟩)] #[], .func (.func 51) #[.pointer (some ⟨U, 0, none⟩)] #[]]

/-- what Down asks of its callees at x -/
structure DnAsk (S : Nat → Addr) (x : Seven) (s : Value) (w : World) : Prop where
  right : ∀ W, Below w.heap.size w W → Calls Tryz.prog 28 #[.agg #[.int .i64 x.flags, .int .i64 x.sum, .int .i64 x.dest.scheme, .string (bs x.dest.node), .string (bs x.dest.service), .int .i64 x.dest.a, .int .i64 x.dest.b, .int .i64 x.source.scheme, .string (bs x.source.node), .string (bs x.source.service), .int .i64 x.source.a, .int .i64 x.source.b, .int .i64 x.report.scheme, .string (bs x.report.node), .string (bs x.report.service), .int .i64 x.report.a, .int .i64 x.report.b, .int .i64 x.time, .int .i64 x.seq, .int .i64 x.life, .int .i64 x.off, .int .i64 x.total, s]] W (Rt W (.bool true))
  sum : x.sum = 2
  sents : Sents S w

theorem dnSteps_err (U b : Nat) (S : Nat → Addr) (f tm lf : Int) (v : Value) (c : Class) (x : Seven) (s : Value) (w w4 : World) (hB : Below w.heap.size w w4) (hUg : w.heap.size ≤ U) (hb : b < w4.heap.size) (hU : DnAt w4 U f v c x s tm lf) (hA : DnAsk S x s w) (he : max (seconds x.time).2 (seconds x.life).2 ≠ 0) :
    StepsTo b (fun v W => v = .iface 139 (.agg #[.int .i64 (max (seconds x.time).2 (seconds x.life).2)]) ∧ Turn2 U none w4 W) (dnFs U) w4 := by
  refine ⟨_, _, _, rfl, enters_of Tryz.func47 (by kernel_rfl) rfl, (dnRight_calls U f tm lf v c x s w4 hU (hA.right w4 hB) hA.sum).mono ?_⟩
  rintro _ w5 ⟨rfl, hb5⟩
  have t5 := turn_below (Turn2.refl U w4) hb5
  refine .inl ⟨rfl, hb5.block b hb, _, _, _, rfl, enters_of Tryz.func48 (by kernel_rfl) rfl, (dnTimes_calls U S f tm lf v c x s w5 (hU.below hb5) (fun W hW => hA.sents.mono ((t5.trans hW).below hB hUg))).mono ?_⟩
  rintro _ w6 ⟨rfl, _, t6⟩
  exact .inr ⟨max (seconds x.time).2 (seconds x.life).2, by rw [wrongV, if_neg he], rfl, t5.trans t6⟩

theorem dnSteps_ok (U b B n : Nat) (L : List Value) (ld : List UInt8) (S : Nat → Addr) (f tm lf : Int) (v : Value) (c : Class) (x : Seven) (s : Value) (w w4 : World) (hB : Below w.heap.size w w4) (hUg : w.heap.size ≤ U) (hbU : b ≠ U) (hb : b < w4.heap.size) (hU : DnAt w4 U f v c x s tm lf) (hA : DnAsk S x s w)
    (he1 : (seconds x.time).2 = 0) (he2 : (seconds x.life).2 = 0) (he3 : (downF x.flags 0 false).2 = 0) (hf : bits BinOp.and IntKind.i64 (downF x.flags 0 false).1 2 = 0)
    (hext : ∀ W, Below w.heap.size w W → Calls Tryz.prog 114 #[s] W (fun e w' => ∃ v, e = .returned v ∧ PairD B n L v w' ∧ Below W.heap.size W w'))
    (hld : ∀ W, Below w.heap.size w W → Calls Tryz.prog 15 #[.agg #[.int .i64 x.flags, .int .i64 x.sum, .int .i64 x.dest.scheme, .string (bs x.dest.node), .string (bs x.dest.service), .int .i64 x.dest.a, .int .i64 x.dest.b, .int .i64 x.source.scheme, .string (bs x.source.node), .string (bs x.source.service), .int .i64 x.source.a, .int .i64 x.source.b, .int .i64 x.report.scheme, .string (bs x.report.node), .string (bs x.report.service), .int .i64 x.report.a, .int .i64 x.report.b, .int .i64 x.time, .int .i64 x.seq, .int .i64 x.life, .int .i64 x.off, .int .i64 x.total, s]] W (Rt W (.string (bs ld)))) :
    StepsTo b (fun v W => v = .nilIface ∧ ∃ a, DnAt W U (downF x.flags 0 false).1 a noClass x s (seconds x.time).1 (seconds x.life).1 ∧ RowV B n L a W ∧ Turn2 U none w4 W) (dnFs U) w4 := by
  refine ⟨_, _, _, rfl, enters_of Tryz.func47 (by kernel_rfl) rfl, (dnRight_calls U f tm lf v c x s w4 hU (hA.right w4 hB) hA.sum).mono ?_⟩
  rintro _ w5 ⟨rfl, hb5⟩
  have t5 := turn_below (Turn2.refl U w4) hb5
  refine .inl ⟨rfl, hb5.block b hb, _, _, _, rfl, enters_of Tryz.func48 (by kernel_rfl) rfl, (dnTimes_calls U S f tm lf v c x s w5 (hU.below hb5) (fun W hW => hA.sents.mono ((t5.trans hW).below hB hUg))).mono ?_⟩
  rintro _ w6 ⟨rfl, hU6, t6⟩
  have t56 := t5.trans t6
  have hB6 := t56.below hB hUg
  refine .inl ⟨by rw [he1, he2]; rfl, t6.block b (by have := t5.size; omega) hbU (by simp), _, _, _, rfl, enters_of Tryz.func49 (by kernel_rfl) rfl, (dnExt_calls U B n L _ _ _ v c x s w6 hU6 (hext w6 hB6)).mono ?_⟩
  rintro _ w7 ⟨a, rfl, hU7, hR7, t7⟩
  have t67 := t56.trans t7
  have hB7 := t67.below hB hUg
  refine .inl ⟨rfl, t7.block b (by have := t56.size; omega) hbU (by simp), _, _, _, rfl, enters_of Tryz.func50 (by kernel_rfl) rfl, (dnSigns_calls U S _ _ _ a noClass x s w7 hU7 (hA.sents.mono hB7)).mono ?_⟩
  rintro _ w8 ⟨rfl, hU8, t8⟩
  have t78 := t67.trans t8
  have hB8 := t78.below hB hUg
  have hR8 : RowV B n L a w8 := hR7.turn t8 hU7 (by decide)
  refine .inl ⟨by rw [show noClass.priority = 0 from rfl, show noClass.custody = false from rfl, he3]; rfl, t8.block b (by have := t67.size; omega) hbU (by simp), _, _, _, rfl, enters_of Tryz.func51 (by kernel_rfl) rfl, (dnLoad_calls U _ _ _ a noClass x s ld w8 hU8 hf (fun W hW => hld W (hB8.trans (hW.mono hB8.size)))).mono ?_⟩
  rintro _ w9 ⟨rfl, hb9⟩
  exact .inl ⟨rfl, hb9.block b (by have := t78.size; omega), rfl, a, hU8.below hb9, hR8.mono hb9, turn_below t78 hb9⟩
end Go.Proofs.YtllfaffbaijgfaaGreatDoor
