/- XlateReports: the row's closed facts. -/
import Derived.Test.YtllfaffbaijgfaaGreatDoorRows
import Derived.Test.YtllfaffbaijgfaaGreatDoorFacts
set_option linter.unusedVariables false
set_option linter.unusedSimpArgs false
namespace Go.Proofs.YtllfaffbaijgfaaGreatDoor.xlateReports
open Go

theorem lay : laidOutB Tryz.prog = true := by kernel_rfl
theorem maps : mapsRowed Tryz.prog = true := by kernel_rfl
theorem stops : (Tryz.prog.stops == []) = true := by kernel_rfl
theorem knobs : (Tryz.prog.stopKnobs == []) = true := by kernel_rfl
theorem heard : Tryz.prog.stopsHeard = true := by kernel_rfl
theorem enter : Tryz.prog.mayEnter = true := by kernel_rfl
theorem k1 : Rows.xlateReportsRow.wf (OpenSpec.ofChange Rows.xlateReportsSpec) = true := by kernel_rfl
theorem k4 : (Tryz.f6.params.all (Tryz.prog.readableRec ·) && namedTie Tryz.prog Rows.xlateReportsRow.named Rows.xlateReportsSpec.vars) = true := by kernel_rfl
theorem k6 : (Rows.xlateReportsRow.stops == [] && Rows.xlateReportsRow.knobs == []) = true := by kernel_rfl
theorem k10 : (Rows.xlateReportsRow.inPlace == Tryz.prog.inPlace 6) = true := by kernel_rfl
theorem k11 : (Rows.xlateReportsRow.unfollowed == Tryz.prog.unfollowed 6) = true := by kernel_rfl
theorem k12 : (Rows.xlateReportsRow.recurses == Tryz.prog.recurses 6) = true := by kernel_rfl
theorem k13 : (Rows.xlateReportsRow.named == Tryz.prog.varsNamed 6) = true := by kernel_rfl
theorem k14 : ((Rows.xlateReportsRow.maps == (Tryz.f6.params.toList ++ Rows.xlateReportsSpec.plain.varTypes Tryz.prog).any (Tryz.prog.mapsRec ·)) && (Rows.xlateReportsRow.ifaces == (Tryz.f6.params.toList ++ Rows.xlateReportsSpec.plain.varTypes Tryz.prog).any (Tryz.prog.ifacesRec ·)) && (Rows.xlateReportsRow.mapsOut == Tryz.prog.mapsAmong Tryz.f6.resultTypes.toList) && (Rows.xlateReportsRow.loops == (Tryz.f6.params.toList ++ Rows.xlateReportsSpec.plain.varTypes Tryz.prog).any (Tryz.prog.loopsFrom ·)) && (Rows.xlateReportsRow.wideKeys == (Tryz.f6.params.toList ++ Rows.xlateReportsSpec.plain.varTypes Tryz.prog ++ Tryz.f6.resultTypes.toList).any (Tryz.prog.wideKeysFrom ·)) && Rows.xlateReportsSpec.vars.all (Tryz.prog.varReadable ·) && Tryz.f6.resultTypes.all (fun t => Tryz.prog.readableRec t && decide (t < Tryz.prog.types.size)) && (Rows.xlateReportsRow.ifacesOut == Tryz.f6.resultTypes.toList.any (Tryz.prog.ifacesRec ·)) && (Rows.xlateReportsRow.loopsOut == Tryz.f6.resultTypes.toList.any (Tryz.prog.loopsFrom ·))) = true := by kernel_rfl
theorem k22 : (Rows.xlateReportsRow.plainKeys == Tryz.prog.plainKeys) = true := by kernel_rfl
theorem k23 : Rows.xlateReportsRow.shortTexts.isNone = true := by kernel_rfl
theorem k25 : (Rows.xlateReportsRow.lifted == Tryz.prog.liftsFinal) = true := by kernel_rfl
theorem k26 : (Tryz.prog.make == some Rows.xlateReportsRow.make) = true := by kernel_rfl
theorem k27 : (Rows.xlateReportsRow.pinned == Rows.xlateReportsRow.pinnedBy) = true := by kernel_rfl
theorem k28 : ((Rows.xlateReportsRow.veiled == (Tryz.f6.params.toList ++ Rows.xlateReportsSpec.plain.varTypes Tryz.prog ++ Tryz.f6.resultTypes.toList).any (Tryz.prog.veiledRec ·)) && Rows.xlateReportsRow.veiledFits Tryz.prog Tryz.f6.params.toList (Tryz.f6.params.toList ++ Rows.xlateReportsSpec.plain.varTypes Tryz.prog ++ Tryz.f6.resultTypes.toList)) = true := by kernel_rfl
theorem closed : joinedFacts Tryz.prog 6 Tryz.f6 Rows.xlateReportsSpec Rows.xlateReportsRow = true :=
  joined_of ⟨lay, maps, stops, knobs, heard, enter⟩ k1 k4 k6 k10 k11 k12 k13 k14 k22 k23 k25 k26 ⟨rfl, rfl, k27⟩ k28
theorem named : Tryz.prog.funcNamed Rows.xlateReportsRow.func = some 6 := by kernel_rfl
theorem inst : Tryz.f6.isInstance Tryz.prog Rows.xlateReportsRow.origin Rows.xlateReportsRow.targs := of_decide_eq_true (by kernel_rfl)
theorem wrap : Tryz.f6.isWrapper Tryz.prog Rows.xlateReportsRow.wrapper Rows.xlateReportsRow.mainSum := by unfold Func.isWrapper; first | (rw [if_pos (by decide +kernel)]; kernel_rfl) | (rw [if_neg (by decide +kernel)]; exact ⟨rfl, rfl⟩)
end Go.Proofs.YtllfaffbaijgfaaGreatDoor.xlateReports
