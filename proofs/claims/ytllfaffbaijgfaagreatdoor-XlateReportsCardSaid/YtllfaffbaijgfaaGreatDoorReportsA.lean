/- XlateReports: what the walk gives, for every report, in every world that holds the program's own variables as they were laid. -/
import Derived.Test.YtllfaffbaijgfaaGreatDoorRows
import Derived.Test.YtllfaffbaijgfaaGreatDoorJ44
import Derived.Test.YtllfaffbaijgfaaGreatDoorJ45
set_option linter.unusedVariables false
set_option linter.unusedSimpArgs false
namespace Go.Proofs.YtllfaffbaijgfaaGreatDoor.xlateReports
open Go Go.ChangeShapes Go.WideShapes Go.RowKit

/-- what the row lists is what the walks ask -/
theorem lists : Lists Rows.xlateReportsRow.laid where
  part := by kernel_rfl
  typed := by kernel_rfl
  sents := by kernel_rfl
  kinds := List.mem_of_getElem? (i := 24) (by kernel_rfl)
  pairs := List.mem_of_getElem? (i := 20) (by kernel_rfl)
  rooms := List.mem_of_getElem? (i := 14) (by kernel_rfl)
  err := List.mem_of_getElem? (i := 0) (by kernel_rfl)

set_option maxRecDepth 100000 in
/-- what the walk gives, for every argument and every such world -/
theorem contract (H : Type) (enc : TypeId × Value → H) (W : World) (base : Nat) (args : Array Value) (ds gs : List (DataW H)) (before : List MemPlace)
    (hval : ∀ (j : Nat) t v, Tryz.f6.params[j]? = some t → args[j]? = some v → Value.okWide Tryz.prog W .any base t v)
    (hW : DataW.Whole enc Tryz.prog Tryz.f6.params.toList Rows.xlateReportsSpec.vars false W args.toList ds gs before) (hL : laidMetH Tryz.prog Rows.xlateReportsRow.laid W) (hsh : W.ShapedOpen Tryz.prog) :
    Calls Tryz.prog 6 args W fun e W' => ∃ v, e = .returned v ∧ Rows.xlateReportsSpec.post enc Tryz.prog Tryz.f6 false true false false W args v W' := by
  have hW' := hW
  obtain ⟨p, q, hA0, hV, rfl, hfz, hnd⟩ := hW
  have hA : DataW.TrodAll enc Tryz.prog W 0 (fun _ => true) true Tryz.f6.params.toList args.toList ds p := hA0
  rw [Tryz.params6] at hA hval
  obtain ⟨v0, d0, rfl, rfl, h0⟩ := trodAll_one hA
  obtain ⟨rfl, rfl⟩ := trodVars_none hV
  obtain ⟨cs, rfl, hcs⟩ := okWide_struct Tryz.underlying47 (hval 0 47 v0 rfl rfl)
  obtain ⟨fuel, h1⟩ := h0
  obtain ⟨y, a, cap, hc, hle, hm, hv⟩ := report_of_trod (show DataW.trod enc Tryz.prog W 0 (fun _ => true) true fuel 47 cs.toList = some (d0, p) from h1)
  have hcq : cs = #[.int .i64 y.bits, .slice a y.times.length cap, .int .i64 y.reason, .int .i64 y.source.scheme, .string (bs y.source.node), .string (bs y.source.service), .int .i64 y.source.a, .int .i64 y.source.b, .int .i64 y.time, .int .i64 y.seq, .bool y.part, .int .i64 y.off, .int .i64 y.len] := by rw [← (Array.toArray_toList : cs.toList.toArray = cs), hc]
  subst hcq
  have hT : ∀ t ∈ Tryz.f6.params.toList, Tryz.prog.readableRec t = true ∧ t < Tryz.prog.types.size := by
    rw [Tryz.params6]
    intro t ht
    obtain rfl : t = 47 := by simpa using ht
    exact ⟨by kernel_rfl, of_decide_eq_true (by kernel_rfl)⟩
  obtain ⟨S, hLay⟩ := lay_of_laid lists hL hsh
  have hm' : y.times.length ≤ 9223372036854775807 := Nat.le_trans hle (Nat.le_trans hm (by decide))
  refine (law_calls S S S y a cap W hLay hm' hle hv).mono fun e W' ⟨he, hb⟩ => ?_
  subst he
  exact ⟨_, rfl, post_true rfl ⟨rfl, rfl, rfl⟩ (by kernel_rfl) hT hW' hb⟩
end Go.Proofs.YtllfaffbaijgfaaGreatDoor.xlateReports
