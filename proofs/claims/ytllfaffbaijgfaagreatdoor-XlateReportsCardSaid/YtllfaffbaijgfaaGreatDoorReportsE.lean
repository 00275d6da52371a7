/- XlateReports: two closed facts of the row: no goroutine is begun; the program's own looks are on. -/
import Derived.Test.YtllfaffbaijgfaaGreatDoorRows
import Derived.Test.YtllfaffbaijgfaaGreatDoorFacts
import Derived.SevenTiedAt
set_option linter.unusedVariables false
set_option linter.unusedSimpArgs false
namespace Go.Proofs.YtllfaffbaijgfaaGreatDoor.xlateReports
open Go

theorem goes : false = Rows.xlateReportsRow.goesBy Tryz.pinned.checked.prog := by kernel_rfl
theorem looks : true = Tryz.pinned.checked.prog.looks [] := by kernel_rfl
end Go.Proofs.YtllfaffbaijgfaaGreatDoor.xlateReports
