/-
  DERIVED. GIVEN WITH THE SEED: THE CARDS: each row of YtllfaffbaijgfaaGreatDoorRows.lean that lists a variable, with what it lists TIED to the program's text (the seventh form; the later family's looks); each row that meets fmt, with fmt's text TOLD by the authors' own Lean function (tested against real Go, not proved from fmt's source: count such statements apart). THE CARD IS WHAT COUNTS. Prove the row's statement (the work); the ties are given (YtllfaffbaijgfaaGreatDoorTie.lean); close each card by the builder's one call (the guide's Derived/Test/ToyasCard.lean, 'card_holds'). Laid BY PROGRAM, IN A SANDBOX (cutbox-door.mjs). By AI agents, Wed Nov 11 2026. No macro, syntax, notation, axiom, sorry.
-/
import Derived.Test.YtllfaffbaijgfaaGreatDoorRows
import GoSem.ClaimSeven
namespace Go.Proofs.YtllfaffbaijgfaaGreatDoor
namespace Rows

/-- THE TIED CARD OF 'postriderlaw15.XlateBytes'. -/
def xlateBytesCard : Claim7 := { stood := { row := xlateBytesRow, standIns := [], harness := (true, "bb1fe1e6ede62ee40c5b5a5012b16cf86dbb0b932d85a24c296b11f763b5e5a2"), looks := true }, kinds := [], alts := [], laidByText := true, laidKinds := [.data, .data, .data, .sentinel, .sentinel, .sentinel, .sentinel, .sentinel, .sentinel, .sentinel, .sentinel, .sentinel, .sentinel, .sentinel, .data, .sentinel, .sentinel, .sentinel, .sentinel, .sentinel, .data, .sentinel, .handle, .sentinel, .data, .data, .sentinel, .sentinel, .sentinel, .sentinel, .sentinel, .sentinel], laidTests := true, laidLooks := .later }
def XlateBytesCardSaid : Prop := Claim7.holds Tryz.pinned (.plain (OpenSpec.ofChange xlateBytesSpec)) xlateBytesCard

/-- THE TIED CARD OF 'postriderlaw15.XlatePlain'. -/
def xlatePlainCard : Claim7 := { stood := { row := xlatePlainRow, standIns := [], harness := (true, "bb1fe1e6ede62ee40c5b5a5012b16cf86dbb0b932d85a24c296b11f763b5e5a2"), looks := true }, kinds := [], alts := [], laidByText := true, laidKinds := [.data, .data, .data, .sentinel, .sentinel, .sentinel, .sentinel, .sentinel, .sentinel, .sentinel, .sentinel, .sentinel, .sentinel, .sentinel, .data, .sentinel, .sentinel, .sentinel, .sentinel, .sentinel, .data, .sentinel, .handle, .sentinel, .data, .data, .sentinel, .sentinel, .sentinel, .sentinel, .sentinel, .sentinel], laidTests := true, laidLooks := .later }
def XlatePlainCardSaid : Prop := Claim7.holds Tryz.pinned (.plain (OpenSpec.ofChange xlatePlainSpec)) xlatePlainCard

/-- THE TIED CARD OF 'postriderlaw15.XlateSent'. -/
def xlateSentCard : Claim7 := { stood := { row := xlateSentRow, standIns := [], harness := (true, "bb1fe1e6ede62ee40c5b5a5012b16cf86dbb0b932d85a24c296b11f763b5e5a2"), looks := true }, kinds := [], alts := [], laidByText := true, laidKinds := [.data, .data, .data, .sentinel, .sentinel, .sentinel, .sentinel, .sentinel, .sentinel, .sentinel, .sentinel, .sentinel, .sentinel, .sentinel, .data, .sentinel, .sentinel, .sentinel, .sentinel, .sentinel, .data, .sentinel, .handle, .sentinel, .data, .data, .sentinel, .sentinel, .sentinel, .sentinel, .sentinel, .sentinel], laidTests := true, laidLooks := .later }
def XlateSentCardSaid : Prop := Claim7.holds Tryz.pinned (.plain (OpenSpec.ofChange xlateSentSpec)) xlateSentCard

/-- THE TIED CARD OF 'postriderlaw15.XlateReports'. -/
def xlateReportsCard : Claim7 := { stood := { row := xlateReportsRow, standIns := [], harness := (true, "bb1fe1e6ede62ee40c5b5a5012b16cf86dbb0b932d85a24c296b11f763b5e5a2"), looks := true }, kinds := [], alts := [], laidByText := true, laidKinds := [.data, .data, .data, .sentinel, .sentinel, .sentinel, .sentinel, .sentinel, .sentinel, .sentinel, .sentinel, .sentinel, .sentinel, .sentinel, .data, .sentinel, .sentinel, .sentinel, .sentinel, .sentinel, .data, .sentinel, .handle, .sentinel, .data, .data, .sentinel, .sentinel, .sentinel, .sentinel, .sentinel, .sentinel], laidTests := true, laidLooks := .later }
def XlateReportsCardSaid : Prop := Claim7.holds Tryz.pinned (.plain (OpenSpec.ofChange xlateReportsSpec)) xlateReportsCard

/-- THE TIED CARD OF 'postriderlaw15.XlateRecords'. -/
def xlateRecordsCard : Claim7 := { stood := { row := xlateRecordsRow, standIns := [], harness := (true, "bb1fe1e6ede62ee40c5b5a5012b16cf86dbb0b932d85a24c296b11f763b5e5a2"), looks := true }, kinds := [], alts := [], laidByText := true, laidKinds := [.data, .data, .data, .sentinel, .sentinel, .sentinel, .sentinel, .sentinel, .sentinel, .sentinel, .sentinel, .sentinel, .sentinel, .sentinel, .data, .sentinel, .sentinel, .sentinel, .sentinel, .sentinel, .data, .sentinel, .handle, .sentinel, .data, .data, .sentinel, .sentinel, .sentinel, .sentinel, .sentinel, .sentinel], laidTests := true, laidLooks := .later }
def XlateRecordsCardSaid : Prop := Claim7.holds Tryz.pinned (.plain (OpenSpec.ofChange xlateRecordsSpec)) xlateRecordsCard

/-- THE TIED CARD OF 'postriderlaw15.XlateBack'. -/
def xlateBackCard : Claim7 := { stood := { row := xlateBackRow, standIns := [], harness := (true, "bb1fe1e6ede62ee40c5b5a5012b16cf86dbb0b932d85a24c296b11f763b5e5a2"), looks := true }, kinds := [], alts := [], laidByText := true, laidKinds := [.data, .data, .data, .sentinel, .sentinel, .sentinel, .sentinel, .sentinel, .sentinel, .sentinel, .sentinel, .sentinel, .sentinel, .sentinel, .data, .sentinel, .sentinel, .sentinel, .sentinel, .sentinel, .data, .sentinel, .handle, .sentinel, .data, .data, .sentinel, .sentinel, .sentinel, .sentinel, .sentinel, .sentinel], laidTests := true, laidLooks := .later }
def XlateBackCardSaid : Prop := Claim7.holds Tryz.pinned (.plain (OpenSpec.ofChange xlateBackSpec)) xlateBackCard

/-- THE TIED CARD OF 'postriderlaw15.XlateAgain'. -/
def xlateAgainCard : Claim7 := { stood := { row := xlateAgainRow, standIns := [], harness := (true, "bb1fe1e6ede62ee40c5b5a5012b16cf86dbb0b932d85a24c296b11f763b5e5a2"), looks := true }, kinds := [], alts := [], laidByText := true, laidKinds := [.data, .data, .data, .sentinel, .sentinel, .sentinel, .sentinel, .sentinel, .sentinel, .sentinel, .sentinel, .sentinel, .sentinel, .sentinel, .data, .sentinel, .sentinel, .sentinel, .sentinel, .sentinel, .data, .sentinel, .handle, .sentinel, .data, .data, .sentinel, .sentinel, .sentinel, .sentinel, .sentinel, .sentinel], laidTests := true, laidLooks := .later }
def XlateAgainCardSaid : Prop := Claim7.holds Tryz.pinned (.plain (OpenSpec.ofChange xlateAgainSpec)) xlateAgainCard

/-- THE SECOND FORM's CARD OF 'postriderlaw15.XlateBytes'. -/
def xlateBytesUptoCard : Claim7 := { stood := { row := xlateBytesUptoRow, standIns := [], harness := (true, "bb1fe1e6ede62ee40c5b5a5012b16cf86dbb0b932d85a24c296b11f763b5e5a2"), looks := true }, kinds := [], alts := [], laidByText := true, laidKinds := [.data, .data, .data, .sentinel, .sentinel, .sentinel, .sentinel, .sentinel, .sentinel, .sentinel, .sentinel, .sentinel, .sentinel, .sentinel, .data, .sentinel, .sentinel, .sentinel, .sentinel, .sentinel, .data, .sentinel, .handle, .sentinel, .data, .data, .sentinel, .sentinel, .sentinel, .sentinel, .sentinel, .sentinel], laidTests := true, laidLooks := .later }
def XlateBytesUptoCardSaid : Prop := Claim7.holds Tryz.pinned (.plain (OpenSpec.upto xlateBytesSpec)) xlateBytesUptoCard

/-- THE SECOND FORM's CARD OF 'postriderlaw15.XlatePlain'. -/
def xlatePlainUptoCard : Claim7 := { stood := { row := xlatePlainUptoRow, standIns := [], harness := (true, "bb1fe1e6ede62ee40c5b5a5012b16cf86dbb0b932d85a24c296b11f763b5e5a2"), looks := true }, kinds := [], alts := [], laidByText := true, laidKinds := [.data, .data, .data, .sentinel, .sentinel, .sentinel, .sentinel, .sentinel, .sentinel, .sentinel, .sentinel, .sentinel, .sentinel, .sentinel, .data, .sentinel, .sentinel, .sentinel, .sentinel, .sentinel, .data, .sentinel, .handle, .sentinel, .data, .data, .sentinel, .sentinel, .sentinel, .sentinel, .sentinel, .sentinel], laidTests := true, laidLooks := .later }
def XlatePlainUptoCardSaid : Prop := Claim7.holds Tryz.pinned (.plain (OpenSpec.upto xlatePlainSpec)) xlatePlainUptoCard

/-- THE SECOND FORM's CARD OF 'postriderlaw15.XlateSent'. -/
def xlateSentUptoCard : Claim7 := { stood := { row := xlateSentUptoRow, standIns := [], harness := (true, "bb1fe1e6ede62ee40c5b5a5012b16cf86dbb0b932d85a24c296b11f763b5e5a2"), looks := true }, kinds := [], alts := [], laidByText := true, laidKinds := [.data, .data, .data, .sentinel, .sentinel, .sentinel, .sentinel, .sentinel, .sentinel, .sentinel, .sentinel, .sentinel, .sentinel, .sentinel, .data, .sentinel, .sentinel, .sentinel, .sentinel, .sentinel, .data, .sentinel, .handle, .sentinel, .data, .data, .sentinel, .sentinel, .sentinel, .sentinel, .sentinel, .sentinel], laidTests := true, laidLooks := .later }
def XlateSentUptoCardSaid : Prop := Claim7.holds Tryz.pinned (.plain (OpenSpec.upto xlateSentSpec)) xlateSentUptoCard

/-- THE SECOND FORM's CARD OF 'postriderlaw15.XlateReports'. -/
def xlateReportsUptoCard : Claim7 := { stood := { row := xlateReportsUptoRow, standIns := [], harness := (true, "bb1fe1e6ede62ee40c5b5a5012b16cf86dbb0b932d85a24c296b11f763b5e5a2"), looks := true }, kinds := [], alts := [], laidByText := true, laidKinds := [.data, .data, .data, .sentinel, .sentinel, .sentinel, .sentinel, .sentinel, .sentinel, .sentinel, .sentinel, .sentinel, .sentinel, .sentinel, .data, .sentinel, .sentinel, .sentinel, .sentinel, .sentinel, .data, .sentinel, .handle, .sentinel, .data, .data, .sentinel, .sentinel, .sentinel, .sentinel, .sentinel, .sentinel], laidTests := true, laidLooks := .later }
def XlateReportsUptoCardSaid : Prop := Claim7.holds Tryz.pinned (.plain (OpenSpec.upto xlateReportsSpec)) xlateReportsUptoCard

/-- THE SECOND FORM's CARD OF 'postriderlaw15.XlateRecords'. -/
def xlateRecordsUptoCard : Claim7 := { stood := { row := xlateRecordsUptoRow, standIns := [], harness := (true, "bb1fe1e6ede62ee40c5b5a5012b16cf86dbb0b932d85a24c296b11f763b5e5a2"), looks := true }, kinds := [], alts := [], laidByText := true, laidKinds := [.data, .data, .data, .sentinel, .sentinel, .sentinel, .sentinel, .sentinel, .sentinel, .sentinel, .sentinel, .sentinel, .sentinel, .sentinel, .data, .sentinel, .sentinel, .sentinel, .sentinel, .sentinel, .data, .sentinel, .handle, .sentinel, .data, .data, .sentinel, .sentinel, .sentinel, .sentinel, .sentinel, .sentinel], laidTests := true, laidLooks := .later }
def XlateRecordsUptoCardSaid : Prop := Claim7.holds Tryz.pinned (.plain (OpenSpec.upto xlateRecordsSpec)) xlateRecordsUptoCard

/-- THE SECOND FORM's CARD OF 'postriderlaw15.XlateBack'. -/
def xlateBackUptoCard : Claim7 := { stood := { row := xlateBackUptoRow, standIns := [], harness := (true, "bb1fe1e6ede62ee40c5b5a5012b16cf86dbb0b932d85a24c296b11f763b5e5a2"), looks := true }, kinds := [], alts := [], laidByText := true, laidKinds := [.data, .data, .data, .sentinel, .sentinel, .sentinel, .sentinel, .sentinel, .sentinel, .sentinel, .sentinel, .sentinel, .sentinel, .sentinel, .data, .sentinel, .sentinel, .sentinel, .sentinel, .sentinel, .data, .sentinel, .handle, .sentinel, .data, .data, .sentinel, .sentinel, .sentinel, .sentinel, .sentinel, .sentinel], laidTests := true, laidLooks := .later }
def XlateBackUptoCardSaid : Prop := Claim7.holds Tryz.pinned (.plain (OpenSpec.upto xlateBackSpec)) xlateBackUptoCard

/-- THE SECOND FORM's CARD OF 'postriderlaw15.XlateAgain'. -/
def xlateAgainUptoCard : Claim7 := { stood := { row := xlateAgainUptoRow, standIns := [], harness := (true, "bb1fe1e6ede62ee40c5b5a5012b16cf86dbb0b932d85a24c296b11f763b5e5a2"), looks := true }, kinds := [], alts := [], laidByText := true, laidKinds := [.data, .data, .data, .sentinel, .sentinel, .sentinel, .sentinel, .sentinel, .sentinel, .sentinel, .sentinel, .sentinel, .sentinel, .sentinel, .data, .sentinel, .sentinel, .sentinel, .sentinel, .sentinel, .data, .sentinel, .handle, .sentinel, .data, .data, .sentinel, .sentinel, .sentinel, .sentinel, .sentinel, .sentinel], laidTests := true, laidLooks := .later }
def XlateAgainUptoCardSaid : Prop := Claim7.holds Tryz.pinned (.plain (OpenSpec.upto xlateAgainSpec)) xlateAgainUptoCard
end Rows
end Go.Proofs.YtllfaffbaijgfaaGreatDoor
