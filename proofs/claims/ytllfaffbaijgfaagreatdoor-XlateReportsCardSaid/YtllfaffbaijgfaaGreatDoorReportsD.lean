/- XlateReports: a report that goes up is right there and comes down as it was; one that comes down goes up so. It is proved for every argument, in every world that holds the program's own variables as they were laid. -/
import Derived.Test.YtllfaffbaijgfaaGreatDoorCards
import Derived.Test.YtllfaffbaijgfaaGreatDoorKnot
import Derived.Test.YtllfaffbaijgfaaGreatDoorReportsA
import Derived.Test.YtllfaffbaijgfaaGreatDoorReportsB
import Derived.Test.YtllfaffbaijgfaaGreatDoorReportsC
import Derived.Test.YtllfaffbaijgfaaGreatDoorReportsE
import Derived.WalkKit
import Derived.ProofKit
import Derived.Deep.DeepHandedRow
set_option linter.unusedVariables false
set_option linter.unusedSimpArgs false
namespace Go.Proofs.YtllfaffbaijgfaaGreatDoor.xlateReports
open Go Go.ChangeShapes Go.WideShapes Go.RowKit

theorem own : ownKnob Tryz.prog.godebug = none := by kernel_rfl
theorem mainIs : Tryz.pinned.checked.prog.mainIs = some (Rows.xlateReportsCard.stood.harness.1, Rows.xlateReportsCard.stood.harness.2.toList) := by kernel_rfl
theorem open_ended : Rows.xlateReportsRow.unfollowed = true := by kernel_rfl
theorem once : (((Rows.xlateReportsRow.laid.map (·.1)).eraseDups.length == Rows.xlateReportsRow.laid.length) : Bool) = true := by kernel_rfl
theorem among : (Rows.xlateReportsRow.laid.all fun x => Rows.xlateReportsRow.namedList.contains x.1) = true := by kernel_rfl
theorem byText : Rows.xlateReportsRow.wfByText (OpenSpec.ofChange Rows.xlateReportsSpec) = true := by
  have e : (Rows.xlateReportsRow.laid.filter fun x => Rows.xlateReportsRow.namedList.contains x.1) = Rows.xlateReportsRow.laid := List.filter_eq_self.2 (List.all_eq_true.1 among)
  unfold OpenClaim.wfByText
  rw [if_pos open_ended, e]
  exact Bool.and_eq_true_iff.2 ⟨Bool.and_eq_true_iff.2 ⟨k1, once⟩, rfl⟩
theorem noInit : Tryz.prog.inits.idxOf? 6 = none := by kernel_rfl
theorem pre_row (os : Os) {H : Type} (enc : TypeId × Value → H) : (OpenSpec.ofChange Rows.xlateReportsSpec).preRow enc Tryz.prog Tryz.f6 Rows.xlateReportsRow.domain false Rows.xlateReportsRow.laid (there os).memory #[arg0] := by
  obtain ⟨places, hx⟩ := reads os enc
  exact OpenSpec.preRow_of_cond 8 hx (by kernel_rfl) (fun k hk => by cases hk) (by kernel_rfl) (laid_met os)

set_option maxRecDepth 100000 in
theorem lifted (os : Os) (started : os.Started) (H : Type) (enc : TypeId × Value → H) (F : Stop.Interp) :
    ReturnsInHanded {} Tryz.checked os 6 .any ((OpenSpec.ofChange Rows.xlateReportsSpec).preRow enc Tryz.prog Tryz.f6 Rows.xlateReportsRow.domain false Rows.xlateReportsRow.laid) (((OpenSpec.ofChange Rows.xlateReportsSpec).at F).post enc Tryz.prog Tryz.f6 false true false false) := by
  refine returnsInHanded_of_row (C := Tryz.checked) (s := OpenSpec.ofChange Rows.xlateReportsSpec) own started noInit Tryz.func6
    (witness_row_atRef (enc := enc) (C := Tryz.checked) false (laidWorld Rows.xlateReportsRow.laid os) #[arg0] rfl (fits_vars os) (fits_rows os) (fits_args os) (pre_row os enc)) ?_
  intro W base args ds gs before hval hW _ _ _ hL hsh _
  exact contract H enc W base args ds gs before hval hW hL hsh

set_option maxRecDepth 100000 in
theorem said : Rows.XlateReportsSaid :=
  OpenClaim.holds_of_cond 6 Tryz.f6 rfl rfl rfl rfl rfl rfl rfl ⟨rfl, rfl, rfl, rfl, rfl⟩ rfl rfl rfl rfl rfl named Tryz.func6 closed inst wrap
    (fun os started H enc _ F => by rw [OpenClaim.pre_eq_preRow]; exact lifted os started H enc F)

/-- no parameter wants a stand-in; the program's own looks are on -/
theorem plain (f : FuncId) (fn : Func) (hf : Tryz.pinned.checked.prog.funcNamed Rows.xlateReportsRow.func = some f) (hfn : Tryz.pinned.checked.prog.funcs[f]? = some fn) :
    true = Tryz.pinned.checked.prog.looks [] ∧ ∀ (j : Nat) t, fn.params[j]? = some t → Tryz.pinned.checked.prog.wantsStandIn t = false := by
  obtain rfl : f = 6 := Option.some.inj (named.symm.trans hf) |>.symm
  obtain rfl : fn = Tryz.f6 := (Option.some.inj (Tryz.func6.symm.trans hfn)).symm
  refine ⟨looks, fun j t ht => ?_⟩
  have hm := Array.mem_of_getElem? ht
  rw [Tryz.params6] at hm
  simp only [List.mem_toArray, List.mem_cons, List.not_mem_nil, or_false] at hm
  rcases hm with rfl
  · exact (show Tryz.prog.wantsStandIn 47 = false by kernel_rfl)

set_option maxRecDepth 100000 in
theorem card : Rows.XlateReportsCardSaid :=
  Claim7.holds_tied_plain_at .later [] _ _ _ _ said (fun _ h => by cases h) byText (fun _ h => by cases h) xlateReports_row_tie rfl ⟨rfl, rfl⟩ mainIs rfl plain goes
end Go.Proofs.YtllfaffbaijgfaaGreatDoor.xlateReports
