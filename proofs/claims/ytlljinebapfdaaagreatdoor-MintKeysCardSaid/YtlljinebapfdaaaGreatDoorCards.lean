/-
  DERIVED. GIVEN WITH THE SEED: THE CARDS: each row of YtlljinebapfdaaaGreatDoorRows.lean that lists a variable, with what it lists TIED to the program's text (the seventh form; the later family's looks); each row that meets fmt, with fmt's text TOLD by the authors' own Lean function (tested against real Go, not proved from fmt's source: count such statements apart). THE CARD IS WHAT COUNTS. Prove the row's statement (the work); the ties are given (YtlljinebapfdaaaGreatDoorTie.lean); close each card by the builder's one call (the guide's Derived/Test/ToyasCard.lean, 'card_holds'). Laid BY PROGRAM, IN A SANDBOX (cutbox-door.mjs). By AI agents, Wed Nov 11 2026. No macro, syntax, notation, axiom, sorry.
-/
import Derived.Test.YtlljinebapfdaaaGreatDoorRows
import GoSem.ClaimSeven
namespace Go.Proofs.YtlljinebapfdaaaGreatDoor
namespace Rows

/-- THE TIED CARD OF 'locksmithlaw19.MintKeys'. -/
def mintKeysCard : Claim7 := { stood := { row := mintKeysRow, standIns := [], harness := (true, "ccbbd709ce53f2edf55136f2273781a233862d6b417ba2878ce9053e68469b34"), looks := true }, kinds := [], alts := [], laidByText := true, laidKinds := [.data, .data, .data, .data, .sentinel, .sentinel, .pinned], laidTests := true, laidLooks := .later }
def MintKeysCardSaid : Prop := Claim7.holds Tryz.pinned (.plain (OpenSpec.ofChange mintKeysSpec)) mintKeysCard

/-- THE SECOND FORM's CARD OF 'locksmithlaw19.MintKeys'. -/
def mintKeysUptoCard : Claim7 := { stood := { row := mintKeysUptoRow, standIns := [], harness := (true, "ccbbd709ce53f2edf55136f2273781a233862d6b417ba2878ce9053e68469b34"), looks := true }, kinds := [], alts := [], laidByText := true, laidKinds := [.data, .data, .data, .data, .sentinel, .sentinel, .pinned], laidTests := true, laidLooks := .later }
def MintKeysUptoCardSaid : Prop := Claim7.holds Tryz.pinned (.plain (OpenSpec.upto mintKeysSpec)) mintKeysUptoCard
end Rows
end Go.Proofs.YtlljinebapfdaaaGreatDoor
