/-
  DERIVED. GIVEN WITH THE SEED: THE CARDS: each row of YtmnlofhodbnenaaGreatDoorRows.lean that lists a variable, with what it lists TIED to the program's text (the seventh form; the later family's looks); each row that meets fmt, with fmt's text TOLD by the authors' own Lean function (tested against real Go, not proved from fmt's source: count such statements apart). THE CARD IS WHAT COUNTS. Prove the row's statement (the work); the ties are given (YtmnlofhodbnenaaGreatDoorTie.lean); close each card by the builder's one call (the guide's Derived/Test/ToyasCard.lean, 'card_holds'). Laid BY PROGRAM, IN A SANDBOX (cutbox-door.mjs). By AI agents, Wed Nov 11 2026. No macro, syntax, notation, axiom, sorry.
-/
import Derived.Test.YtmnlofhodbnenaaGreatDoorRows
import GoSem.ClaimSeven
namespace Go.Proofs.YtmnlofhodbnenaaGreatDoor
namespace Rows

/-- THE TIED CARD OF 'locksmithlaw19.MintTemplates'. -/
def mintTemplatesCard : Claim7 := { stood := { row := mintTemplatesRow, standIns := [], harness := (true, "96d738fb3c53713bcb6fee9bb7f55b35d6304982392a171226f4b332cd3158d8"), looks := true }, kinds := [], alts := [], laidByText := true, laidKinds := [.data, .data, .data, .data, .sentinel, .sentinel, .pinned], laidTests := true, laidLooks := .later }
def MintTemplatesCardSaid : Prop := Claim7.holds Tryz.pinned (.plain (OpenSpec.ofChange mintTemplatesSpec)) mintTemplatesCard

/-- THE SECOND FORM's CARD OF 'locksmithlaw19.MintTemplates'. -/
def mintTemplatesUptoCard : Claim7 := { stood := { row := mintTemplatesUptoRow, standIns := [], harness := (true, "96d738fb3c53713bcb6fee9bb7f55b35d6304982392a171226f4b332cd3158d8"), looks := true }, kinds := [], alts := [], laidByText := true, laidKinds := [.data, .data, .data, .data, .sentinel, .sentinel, .pinned], laidTests := true, laidLooks := .later }
def MintTemplatesUptoCardSaid : Prop := Claim7.holds Tryz.pinned (.plain (OpenSpec.upto mintTemplatesSpec)) mintTemplatesUptoCard
end Rows
end Go.Proofs.YtmnlofhodbnenaaGreatDoor
