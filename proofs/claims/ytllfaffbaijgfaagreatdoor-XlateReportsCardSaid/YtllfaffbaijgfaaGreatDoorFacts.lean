/- The closed facts of a row, put together out of theorems of their own. -/
import Derived.Test.YtllfaffbaijgfaaGreatDoorChecked
import Derived.JoinedCond
set_option linter.unusedVariables false
set_option linter.unusedSimpArgs false
namespace Go.Proofs.YtllfaffbaijgfaaGreatDoor
open Go

/-- what does not hang on the law -/
structure Plain (P : Program) : Prop where
  lay : laidOutB P = true
  maps : mapsRowed P = true
  stops : (P.stops == []) = true
  knobs : (P.stopKnobs == []) = true
  heard : P.stopsHeard = true
  enter : P.mayEnter = true

theorem joined_of {P : Program} {f : FuncId} {fn : Func} {s : ChangeSpec} {c : OpenClaim} (hp : Plain P) (k1 : c.wf (OpenSpec.ofChange s) = true) (k4 : (fn.params.all (P.readableRec ·) && namedTie P c.named s.vars) = true)
    (k6 : (c.stops == [] && c.knobs == []) = true) (k10 : (c.inPlace == P.inPlace f) = true) (k11 : (c.unfollowed == P.unfollowed f) = true) (k12 : (c.recurses == P.recurses f) = true) (k13 : (c.named == P.varsNamed f) = true)
    (k14 : ((c.maps == (fn.params.toList ++ s.plain.varTypes P).any (P.mapsRec ·)) && (c.ifaces == (fn.params.toList ++ s.plain.varTypes P).any (P.ifacesRec ·)) && (c.mapsOut == P.mapsAmong fn.resultTypes.toList) &&
      (c.loops == (fn.params.toList ++ s.plain.varTypes P).any (P.loopsFrom ·)) && (c.wideKeys == (fn.params.toList ++ s.plain.varTypes P ++ fn.resultTypes.toList).any (P.wideKeysFrom ·)) &&
      s.vars.all (P.varReadable ·) && fn.resultTypes.all (fun t => P.readableRec t && decide (t < P.types.size)) && (c.ifacesOut == fn.resultTypes.toList.any (P.ifacesRec ·)) && (c.loopsOut == fn.resultTypes.toList.any (P.loopsFrom ·))) = true)
    (k22 : (c.plainKeys == P.plainKeys) = true) (k23 : c.shortTexts.isNone = true) (k25 : (c.lifted == P.liftsFinal) = true) (k26 : (P.make == some c.make) = true)
    (k27 : c.kinds = [] ∧ c.domain.isEmpty = true ∧ (c.pinned == c.pinnedBy) = true)
    (k28 : ((c.veiled == (fn.params.toList ++ s.plain.varTypes P ++ fn.resultTypes.toList).any (P.veiledRec ·)) && c.veiledFits P fn.params.toList (fn.params.toList ++ s.plain.varTypes P ++ fn.resultTypes.toList)) = true) :
    joinedFacts P f fn s c = true := by
  obtain ⟨p1, p2, p3, p4, p5, p6⟩ := hp
  simp only [Bool.and_eq_true] at k4 k6 k14 k28
  unfold joinedFacts
  simp only [k1, k4.1, k4.2, k6.1, k6.2, k10, k11, k12, k13, k14.1.1.1.1.1.1.1.1, k14.1.1.1.1.1.1.1.2, k14.1.1.1.1.1.1.2, k14.1.1.1.1.1.2, k14.1.1.1.1.2, k14.1.1.1.2, k14.1.1.2, k14.1.2, k14.2, k22, k23, k25, k26, k27.1, k27.2.1, k27.2.2, k28.1, k28.2, p1, p2, p3, p4, p5, p6, if_true, BEq.rfl, Bool.and_self]
end Go.Proofs.YtllfaffbaijgfaaGreatDoor
