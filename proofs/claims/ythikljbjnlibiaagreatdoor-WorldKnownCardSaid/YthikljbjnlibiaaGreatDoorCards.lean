/-
  DERIVED. GIVEN WITH THE SEED: THE CARDS: each row of YthikljbjnlibiaaGreatDoorRows.lean that lists a variable, with what it lists TIED to the program's text (the seventh form; the later family's looks); each row that meets fmt, with fmt's text TOLD by the authors' own Lean function (tested against real Go, not proved from fmt's source: count such statements apart). THE CARD IS WHAT COUNTS. Prove the row's statement (the work); the ties are given (YthikljbjnlibiaaGreatDoorTie.lean); close each card by the builder's one call (the guide's Derived/Test/ToyasCard.lean, 'card_holds'). Laid BY PROGRAM, IN A SANDBOX (cutbox-door.mjs). By AI agents, Wed Nov 11 2026. No macro, syntax, notation, axiom, sorry.
-/
import Derived.Test.YthikljbjnlibiaaGreatDoorRows
import GoSem.ClaimSeven
namespace Go.Proofs.YthikljbjnlibiaaGreatDoor
namespace Rows

/-- THE TIED CARD OF 'locksmithlaw18.ViewReads'. -/
def viewReadsCard : Claim7 := { stood := { row := viewReadsRow, standIns := [], harness := (true, "0d4352c8d8a49b2bebd55c0a8131562b5690f94eb20bad2e805ea737fdefdfaa"), looks := true }, kinds := [], alts := [], laidByText := true, laidKinds := [.pinned, .data, .data, .data, .data, .sentinel, .sentinel], laidTests := true, laidLooks := .later }
def ViewReadsCardSaid : Prop := Claim7.holds Tryz.pinned (.plain (OpenSpec.ofChange viewReadsSpec)) viewReadsCard

/-- THE TIED CARD OF 'locksmithlaw18.ViewIds'. -/
def viewIdsCard : Claim7 := { stood := { row := viewIdsRow, standIns := [], harness := (true, "0d4352c8d8a49b2bebd55c0a8131562b5690f94eb20bad2e805ea737fdefdfaa"), looks := true }, kinds := [], alts := [], laidByText := true, laidKinds := [.pinned, .data, .data, .data, .data, .sentinel, .sentinel], laidTests := true, laidLooks := .later }
def ViewIdsCardSaid : Prop := Claim7.holds Tryz.pinned (.plain (OpenSpec.ofChange viewIdsSpec)) viewIdsCard

/-- THE TIED CARD OF 'locksmithlaw18.ViewPlays'. -/
def viewPlaysCard : Claim7 := { stood := { row := viewPlaysRow, standIns := [], harness := (true, "0d4352c8d8a49b2bebd55c0a8131562b5690f94eb20bad2e805ea737fdefdfaa"), looks := true }, kinds := [], alts := [], laidByText := true, laidKinds := [.pinned, .data, .data, .data, .data, .sentinel, .sentinel], laidTests := true, laidLooks := .later }
def ViewPlaysCardSaid : Prop := Claim7.holds Tryz.pinned (.plain (OpenSpec.ofChange viewPlaysSpec)) viewPlaysCard

/-- THE TIED CARD OF 'locksmithlaw18.ViewBack'. -/
def viewBackCard : Claim7 := { stood := { row := viewBackRow, standIns := [], harness := (true, "0d4352c8d8a49b2bebd55c0a8131562b5690f94eb20bad2e805ea737fdefdfaa"), looks := true }, kinds := [], alts := [], laidByText := true, laidKinds := [.pinned, .data, .data, .data, .data, .sentinel, .sentinel], laidTests := true, laidLooks := .later }
def ViewBackCardSaid : Prop := Claim7.holds Tryz.pinned (.plain (OpenSpec.ofChange viewBackSpec)) viewBackCard

/-- THE TIED CARD OF 'locksmithlaw18.ViewTime'. -/
def viewTimeCard : Claim7 := { stood := { row := viewTimeRow, standIns := [], harness := (true, "0d4352c8d8a49b2bebd55c0a8131562b5690f94eb20bad2e805ea737fdefdfaa"), looks := true }, kinds := [], alts := [], laidByText := true, laidKinds := [.pinned, .data, .data, .data, .data, .sentinel, .sentinel], laidTests := true, laidLooks := .later }
def ViewTimeCardSaid : Prop := Claim7.holds Tryz.pinned (.plain (OpenSpec.ofChange viewTimeSpec)) viewTimeCard

/-- THE TIED CARD OF 'locksmithlaw28.WorldKnown'. -/
def worldKnownCard : Claim7 := { stood := { row := worldKnownRow, standIns := [], harness := (true, "0d4352c8d8a49b2bebd55c0a8131562b5690f94eb20bad2e805ea737fdefdfaa"), looks := true }, kinds := [], alts := [], laidByText := true, laidKinds := [.pinned, .data, .sentinel, .sentinel, .data, .data, .data, .data, .data], laidTests := true, laidLooks := .later }
def WorldKnownCardSaid : Prop := Claim7.holds Tryz.pinned (.plain (OpenSpec.ofChange worldKnownSpec)) worldKnownCard

/-- THE SECOND FORM's CARD OF 'locksmithlaw18.ViewReads'. -/
def viewReadsUptoCard : Claim7 := { stood := { row := viewReadsUptoRow, standIns := [], harness := (true, "0d4352c8d8a49b2bebd55c0a8131562b5690f94eb20bad2e805ea737fdefdfaa"), looks := true }, kinds := [], alts := [], laidByText := true, laidKinds := [.pinned, .data, .data, .data, .data, .sentinel, .sentinel], laidTests := true, laidLooks := .later }
def ViewReadsUptoCardSaid : Prop := Claim7.holds Tryz.pinned (.plain (OpenSpec.upto viewReadsSpec)) viewReadsUptoCard

/-- THE SECOND FORM's CARD OF 'locksmithlaw18.ViewIds'. -/
def viewIdsUptoCard : Claim7 := { stood := { row := viewIdsUptoRow, standIns := [], harness := (true, "0d4352c8d8a49b2bebd55c0a8131562b5690f94eb20bad2e805ea737fdefdfaa"), looks := true }, kinds := [], alts := [], laidByText := true, laidKinds := [.pinned, .data, .data, .data, .data, .sentinel, .sentinel], laidTests := true, laidLooks := .later }
def ViewIdsUptoCardSaid : Prop := Claim7.holds Tryz.pinned (.plain (OpenSpec.upto viewIdsSpec)) viewIdsUptoCard

/-- THE SECOND FORM's CARD OF 'locksmithlaw18.ViewPlays'. -/
def viewPlaysUptoCard : Claim7 := { stood := { row := viewPlaysUptoRow, standIns := [], harness := (true, "0d4352c8d8a49b2bebd55c0a8131562b5690f94eb20bad2e805ea737fdefdfaa"), looks := true }, kinds := [], alts := [], laidByText := true, laidKinds := [.pinned, .data, .data, .data, .data, .sentinel, .sentinel], laidTests := true, laidLooks := .later }
def ViewPlaysUptoCardSaid : Prop := Claim7.holds Tryz.pinned (.plain (OpenSpec.upto viewPlaysSpec)) viewPlaysUptoCard

/-- THE SECOND FORM's CARD OF 'locksmithlaw18.ViewBack'. -/
def viewBackUptoCard : Claim7 := { stood := { row := viewBackUptoRow, standIns := [], harness := (true, "0d4352c8d8a49b2bebd55c0a8131562b5690f94eb20bad2e805ea737fdefdfaa"), looks := true }, kinds := [], alts := [], laidByText := true, laidKinds := [.pinned, .data, .data, .data, .data, .sentinel, .sentinel], laidTests := true, laidLooks := .later }
def ViewBackUptoCardSaid : Prop := Claim7.holds Tryz.pinned (.plain (OpenSpec.upto viewBackSpec)) viewBackUptoCard

/-- THE SECOND FORM's CARD OF 'locksmithlaw18.ViewTime'. -/
def viewTimeUptoCard : Claim7 := { stood := { row := viewTimeUptoRow, standIns := [], harness := (true, "0d4352c8d8a49b2bebd55c0a8131562b5690f94eb20bad2e805ea737fdefdfaa"), looks := true }, kinds := [], alts := [], laidByText := true, laidKinds := [.pinned, .data, .data, .data, .data, .sentinel, .sentinel], laidTests := true, laidLooks := .later }
def ViewTimeUptoCardSaid : Prop := Claim7.holds Tryz.pinned (.plain (OpenSpec.upto viewTimeSpec)) viewTimeUptoCard

/-- THE SECOND FORM's CARD OF 'locksmithlaw28.WorldKnown'. -/
def worldKnownUptoCard : Claim7 := { stood := { row := worldKnownUptoRow, standIns := [], harness := (true, "0d4352c8d8a49b2bebd55c0a8131562b5690f94eb20bad2e805ea737fdefdfaa"), looks := true }, kinds := [], alts := [], laidByText := true, laidKinds := [.pinned, .data, .sentinel, .sentinel, .data, .data, .data, .data, .data], laidTests := true, laidLooks := .later }
def WorldKnownUptoCardSaid : Prop := Claim7.holds Tryz.pinned (.plain (OpenSpec.upto worldKnownSpec)) worldKnownUptoCard
end Rows
end Go.Proofs.YthikljbjnlibiaaGreatDoor
