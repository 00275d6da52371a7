/- XlateReports: an input that fits: a world that holds what the row lists. -/
import Derived.Test.YtllfaffbaijgfaaGreatDoorRows
import Derived.Test.YtllfaffbaijgfaaGreatDoorJ45
set_option linter.unusedVariables false
set_option linter.unusedSimpArgs false
namespace Go.Proofs.YtllfaffbaijgfaaGreatDoor.xlateReports
open Go Go.ChangeShapes Go.WideShapes Go.RowKit

abbrev arg0 : Value := .agg #[.int .i64 0, .slice none 0 0, .int .i64 0, .int .i64 0, .string { data := #[] }, .string { data := #[] }, .int .i64 0, .int .i64 0, .int .i64 0, .int .i64 0, .bool false, .int .i64 0, .int .i64 0]
noncomputable abbrev there (os : Os) : World := (laidWorld Rows.xlateReportsRow.laid os).forCall (fun _ _ => 0) ⟨#[], #[arg0], []⟩
theorem laid_run (os : Os) : (DataW.laidRun Tryz.prog (there os).memory 8 ((Rows.xlateReportsRow.laid.filter fun x => x.2.handleName?.isNone).map (·.1))).map (·.1) = some (Rows.xlateReportsRow.laid.filter fun x => x.2.handleName?.isNone) := by kernel_rfl
theorem laid_once (os : Os) : (DataW.laidRun Tryz.prog (there os).memory 8 ((Rows.xlateReportsRow.laid.filter fun x => x.2.handleName?.isNone).map (·.1))).map (fun x => nodupB (x.2.map MemPlace.codeOf)) = some true := by kernel_rfl
theorem laid_rows (os : Os) : (DataW.laidRun Tryz.prog (there os).memory 8 ((Rows.xlateReportsRow.laid.filter fun x => x.2.handleName?.isNone).map (·.1))).map (fun x => laidRowsB Tryz.prog (there os).memory x.2) = some true := by kernel_rfl
theorem laid_handles (os : Os) : (Rows.xlateReportsRow.laid.filter fun x => x.2.handleName?.isSome).all (handleAtB Tryz.prog (there os).memory) = true := by kernel_rfl
theorem laid_met (os : Os) : laidMetH Tryz.prog Rows.xlateReportsRow.laid (there os).memory :=
  laidMetH_of_parts (laidMet_of_run3 8 (laid_run os) (laid_once os) (laid_rows os)) (laid_handles os)
theorem reads (os : Os) {H : Type} (enc : TypeId × Value → H) : ∃ places, DataW.whole enc Tryz.prog (there os).memory Tryz.f6.params.toList Rows.xlateReportsSpec.vars false (#[arg0] : Array Value).toList 8 =
    some ([.agg [.lit (.int .i64 0), .nil, .lit (.int .i64 0), .agg [.lit (.int .i64 0), .lit (.string []), .lit (.string []), .lit (.int .i64 0), .lit (.int .i64 0)], .lit (.int .i64 0), .lit (.int .i64 0), .lit (.bool false), .lit (.int .i64 0), .lit (.int .i64 0)]], [], places) :=
  ⟨[], by kernel_rfl⟩
theorem fits_vars (os : Os) : (there os).variablesRefB Tryz.prog = true := by kernel_rfl
theorem fits_rows (os : Os) : ((there os).heap.toList.drop Tryz.prog.globals.size).take ((begin Tryz.prog (fun _ _ => 0) default).world.heap.size - Tryz.prog.globals.size) = (begin Tryz.prog (fun _ _ => 0) default).world.heap.toList.drop Tryz.prog.globals.size := by kernel_rfl
theorem fits_args (os : Os) : Input.okWideB Tryz.prog (there os) 6 ⟨#[], #[arg0], []⟩ = true := by kernel_rfl
end Go.Proofs.YtllfaffbaijgfaaGreatDoor.xlateReports
