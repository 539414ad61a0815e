/-
  DERIVED. GIVEN WITH THE SEED: THE CARDS: each row of YtnlllfokomenfaaGreatDoorRows.lean that lists a variable, with what it lists TIED to the program's text (the seventh form; the later family's looks); each row that meets fmt, with fmt's text TOLD by the authors' own Lean function (tested against real Go, not proved from fmt's source: count such statements apart). THE CARD IS WHAT COUNTS. Prove the row's statement (the work); the ties are given (YtnlllfokomenfaaGreatDoorTie.lean); close each card by the builder's one call (the guide's Derived/Test/ToyasCard.lean, 'card_holds'). Laid BY PROGRAM, IN A SANDBOX (cutbox-door.mjs). By AI agents, Wed Nov 11 2026. No macro, syntax, notation, axiom, sorry.
-/
import Derived.Test.YtnlllfokomenfaaGreatDoorRows
import GoSem.ClaimSeven
namespace Go.Proofs.YtnlllfokomenfaaGreatDoor
namespace Rows

/-- THE TIED CARD OF 'locksmithlaw20.FetchKnown'. -/
def fetchKnownCard : Claim7 := { stood := { row := fetchKnownRow, standIns := [], harness := (true, "2c19a41363eec87ab42284382d09c9cf32c0dd9d666397a2cc11aa5726042418"), looks := true }, kinds := [], alts := [], laidByText := true, laidKinds := [.data, .pinned], laidTests := true, laidLooks := .later }
def FetchKnownCardSaid : Prop := Claim7.holds Tryz.pinned (.plain (OpenSpec.ofChange fetchKnownSpec)) fetchKnownCard

/-- THE TIED CARD OF 'locksmithlaw18.ViewKnown'. -/
def viewKnownCard : Claim7 := { stood := { row := viewKnownRow, standIns := [], harness := (true, "2c19a41363eec87ab42284382d09c9cf32c0dd9d666397a2cc11aa5726042418"), looks := true }, kinds := [], alts := [], laidByText := true, laidKinds := [.data, .data, .data, .data, .sentinel, .sentinel, .pinned], laidTests := true, laidLooks := .later }
def ViewKnownCardSaid : Prop := Claim7.holds Tryz.pinned (.plain (OpenSpec.ofChange viewKnownSpec)) viewKnownCard

/-- THE TIED CARD OF 'locksmithlaw22.TurnKnown'. -/
def turnKnownCard : Claim7 := { stood := { row := turnKnownRow, standIns := [], harness := (true, "2c19a41363eec87ab42284382d09c9cf32c0dd9d666397a2cc11aa5726042418"), looks := true }, kinds := [], alts := [], laidByText := true, laidKinds := [.data, .data, .data, .data, .sentinel, .sentinel, .pinned], laidTests := true, laidLooks := .later }
def TurnKnownCardSaid : Prop := Claim7.holds Tryz.pinned (.plain (OpenSpec.ofChange turnKnownSpec)) turnKnownCard

/-- THE TIED CARD OF 'locksmithlaw21.ChangeKnown'. -/
def changeKnownCard : Claim7 := { stood := { row := changeKnownRow, standIns := [], harness := (true, "2c19a41363eec87ab42284382d09c9cf32c0dd9d666397a2cc11aa5726042418"), looks := true }, kinds := [], alts := [], laidByText := true, laidKinds := [.data, .data, .data, .data, .sentinel, .sentinel, .pinned], laidTests := true, laidLooks := .later }
def ChangeKnownCardSaid : Prop := Claim7.holds Tryz.pinned (.plain (OpenSpec.ofChange changeKnownSpec)) changeKnownCard

/-- THE TIED CARD OF 'locksmithlaw25.AskKnown'. -/
def askKnownCard : Claim7 := { stood := { row := askKnownRow, standIns := [], harness := (true, "2c19a41363eec87ab42284382d09c9cf32c0dd9d666397a2cc11aa5726042418"), looks := true }, kinds := [], alts := [], laidByText := true, laidKinds := [.data, .data, .data, .data, .sentinel, .sentinel, .pinned], laidTests := true, laidLooks := .later }
def AskKnownCardSaid : Prop := Claim7.holds Tryz.pinned (.plain (OpenSpec.ofChange askKnownSpec)) askKnownCard

/-- THE TIED CARD OF 'locksmithlaw23.RenewKnown'. -/
def renewKnownCard : Claim7 := { stood := { row := renewKnownRow, standIns := [], harness := (true, "2c19a41363eec87ab42284382d09c9cf32c0dd9d666397a2cc11aa5726042418"), looks := true }, kinds := [], alts := [], laidByText := true, laidKinds := [.data, .data, .data, .data, .sentinel, .sentinel, .pinned], laidTests := true, laidLooks := .later }
def RenewKnownCardSaid : Prop := Claim7.holds Tryz.pinned (.plain (OpenSpec.ofChange renewKnownSpec)) renewKnownCard

/-- THE TIED CARD OF 'locksmithlaw19.MintKnown'. -/
def mintKnownCard : Claim7 := { stood := { row := mintKnownRow, standIns := [], harness := (true, "2c19a41363eec87ab42284382d09c9cf32c0dd9d666397a2cc11aa5726042418"), looks := true }, kinds := [], alts := [], laidByText := true, laidKinds := [.data, .data, .data, .data, .sentinel, .sentinel, .pinned], laidTests := true, laidLooks := .later }
def MintKnownCardSaid : Prop := Claim7.holds Tryz.pinned (.plain (OpenSpec.ofChange mintKnownSpec)) mintKnownCard

/-- THE SECOND FORM's CARD OF 'locksmithlaw20.FetchKnown'. -/
def fetchKnownUptoCard : Claim7 := { stood := { row := fetchKnownUptoRow, standIns := [], harness := (true, "2c19a41363eec87ab42284382d09c9cf32c0dd9d666397a2cc11aa5726042418"), looks := true }, kinds := [], alts := [], laidByText := true, laidKinds := [.data, .pinned], laidTests := true, laidLooks := .later }
def FetchKnownUptoCardSaid : Prop := Claim7.holds Tryz.pinned (.plain (OpenSpec.upto fetchKnownSpec)) fetchKnownUptoCard

/-- THE SECOND FORM's CARD OF 'locksmithlaw18.ViewKnown'. -/
def viewKnownUptoCard : Claim7 := { stood := { row := viewKnownUptoRow, standIns := [], harness := (true, "2c19a41363eec87ab42284382d09c9cf32c0dd9d666397a2cc11aa5726042418"), looks := true }, kinds := [], alts := [], laidByText := true, laidKinds := [.data, .data, .data, .data, .sentinel, .sentinel, .pinned], laidTests := true, laidLooks := .later }
def ViewKnownUptoCardSaid : Prop := Claim7.holds Tryz.pinned (.plain (OpenSpec.upto viewKnownSpec)) viewKnownUptoCard

/-- THE SECOND FORM's CARD OF 'locksmithlaw22.TurnKnown'. -/
def turnKnownUptoCard : Claim7 := { stood := { row := turnKnownUptoRow, standIns := [], harness := (true, "2c19a41363eec87ab42284382d09c9cf32c0dd9d666397a2cc11aa5726042418"), looks := true }, kinds := [], alts := [], laidByText := true, laidKinds := [.data, .data, .data, .data, .sentinel, .sentinel, .pinned], laidTests := true, laidLooks := .later }
def TurnKnownUptoCardSaid : Prop := Claim7.holds Tryz.pinned (.plain (OpenSpec.upto turnKnownSpec)) turnKnownUptoCard

/-- THE SECOND FORM's CARD OF 'locksmithlaw21.ChangeKnown'. -/
def changeKnownUptoCard : Claim7 := { stood := { row := changeKnownUptoRow, standIns := [], harness := (true, "2c19a41363eec87ab42284382d09c9cf32c0dd9d666397a2cc11aa5726042418"), looks := true }, kinds := [], alts := [], laidByText := true, laidKinds := [.data, .data, .data, .data, .sentinel, .sentinel, .pinned], laidTests := true, laidLooks := .later }
def ChangeKnownUptoCardSaid : Prop := Claim7.holds Tryz.pinned (.plain (OpenSpec.upto changeKnownSpec)) changeKnownUptoCard

/-- THE SECOND FORM's CARD OF 'locksmithlaw25.AskKnown'. -/
def askKnownUptoCard : Claim7 := { stood := { row := askKnownUptoRow, standIns := [], harness := (true, "2c19a41363eec87ab42284382d09c9cf32c0dd9d666397a2cc11aa5726042418"), looks := true }, kinds := [], alts := [], laidByText := true, laidKinds := [.data, .data, .data, .data, .sentinel, .sentinel, .pinned], laidTests := true, laidLooks := .later }
def AskKnownUptoCardSaid : Prop := Claim7.holds Tryz.pinned (.plain (OpenSpec.upto askKnownSpec)) askKnownUptoCard

/-- THE SECOND FORM's CARD OF 'locksmithlaw23.RenewKnown'. -/
def renewKnownUptoCard : Claim7 := { stood := { row := renewKnownUptoRow, standIns := [], harness := (true, "2c19a41363eec87ab42284382d09c9cf32c0dd9d666397a2cc11aa5726042418"), looks := true }, kinds := [], alts := [], laidByText := true, laidKinds := [.data, .data, .data, .data, .sentinel, .sentinel, .pinned], laidTests := true, laidLooks := .later }
def RenewKnownUptoCardSaid : Prop := Claim7.holds Tryz.pinned (.plain (OpenSpec.upto renewKnownSpec)) renewKnownUptoCard

/-- THE SECOND FORM's CARD OF 'locksmithlaw19.MintKnown'. -/
def mintKnownUptoCard : Claim7 := { stood := { row := mintKnownUptoRow, standIns := [], harness := (true, "2c19a41363eec87ab42284382d09c9cf32c0dd9d666397a2cc11aa5726042418"), looks := true }, kinds := [], alts := [], laidByText := true, laidKinds := [.data, .data, .data, .data, .sentinel, .sentinel, .pinned], laidTests := true, laidLooks := .later }
def MintKnownUptoCardSaid : Prop := Claim7.holds Tryz.pinned (.plain (OpenSpec.upto mintKnownSpec)) mintKnownUptoCard
end Rows
end Go.Proofs.YtnlllfokomenfaaGreatDoor
