/-
  DERIVED. GIVEN WITH THE SEED: THE CARDS: each row of YtecabdjbhlmilaaGreatDoorRows.lean that lists a variable, with what it lists TIED to the program's text (the seventh form; the later family's looks); each row that meets fmt, with fmt's text TOLD by the authors' own Lean function (tested against real Go, not proved from fmt's source: count such statements apart). THE CARD IS WHAT COUNTS. Prove the row's statement (the work); the ties are given (YtecabdjbhlmilaaGreatDoorTie.lean); close each card by the builder's one call (the guide's Derived/Test/ToyasCard.lean, 'card_holds'). Laid BY PROGRAM, IN A SANDBOX (cutbox-door.mjs). By AI agents, Wed Nov 11 2026. No macro, syntax, notation, axiom, sorry.
-/
import Derived.Test.YtecabdjbhlmilaaGreatDoorRows
import GoSem.ClaimSeven
namespace Go.Proofs.YtecabdjbhlmilaaGreatDoor
namespace Rows

/-- THE TIED CARD OF 'locksmithlaw19.MintDraws'. -/
def mintDrawsCard : Claim7 := { stood := { row := mintDrawsRow, standIns := [], harness := (true, "633d59e08bad545cc045897dfc938365f0e995131afb5a918b9267ab608c3b13"), looks := true }, kinds := [], alts := [], laidByText := true, laidKinds := [.pinned, .data, .data, .data, .data, .sentinel, .sentinel], laidTests := true, laidLooks := .later }
def MintDrawsCardSaid : Prop := Claim7.holds Tryz.pinned (.plain (OpenSpec.ofChange mintDrawsSpec)) mintDrawsCard

/-- THE TIED CARD OF 'locksmithlaw24.UseKnown'. -/
def useKnownCard : Claim7 := { stood := { row := useKnownRow, standIns := [], harness := (true, "633d59e08bad545cc045897dfc938365f0e995131afb5a918b9267ab608c3b13"), looks := true }, kinds := [], alts := [], laidByText := true, laidKinds := [.pinned, .data, .sentinel, .sentinel, .data, .data, .data], laidTests := true, laidLooks := .later }
def UseKnownCardSaid : Prop := Claim7.holds Tryz.pinned (.plain (OpenSpec.ofChange useKnownSpec)) useKnownCard

/-- THE TIED CARD OF 'locksmithlaw25.AskOffers'. -/
def askOffersCard : Claim7 := { stood := { row := askOffersRow, standIns := [], harness := (true, "633d59e08bad545cc045897dfc938365f0e995131afb5a918b9267ab608c3b13"), looks := true }, kinds := [], alts := [], laidByText := true, laidKinds := [.pinned, .data, .sentinel, .sentinel, .data, .data, .data], laidTests := true, laidLooks := .later }
def AskOffersCardSaid : Prop := Claim7.holds Tryz.pinned (.plain (OpenSpec.ofChange askOffersSpec)) askOffersCard

/-- THE SECOND FORM's CARD OF 'locksmithlaw19.MintDraws'. -/
def mintDrawsUptoCard : Claim7 := { stood := { row := mintDrawsUptoRow, standIns := [], harness := (true, "633d59e08bad545cc045897dfc938365f0e995131afb5a918b9267ab608c3b13"), looks := true }, kinds := [], alts := [], laidByText := true, laidKinds := [.pinned, .data, .data, .data, .data, .sentinel, .sentinel], laidTests := true, laidLooks := .later }
def MintDrawsUptoCardSaid : Prop := Claim7.holds Tryz.pinned (.plain (OpenSpec.upto mintDrawsSpec)) mintDrawsUptoCard

/-- THE SECOND FORM's CARD OF 'locksmithlaw24.UseKnown'. -/
def useKnownUptoCard : Claim7 := { stood := { row := useKnownUptoRow, standIns := [], harness := (true, "633d59e08bad545cc045897dfc938365f0e995131afb5a918b9267ab608c3b13"), looks := true }, kinds := [], alts := [], laidByText := true, laidKinds := [.pinned, .data, .sentinel, .sentinel, .data, .data, .data], laidTests := true, laidLooks := .later }
def UseKnownUptoCardSaid : Prop := Claim7.holds Tryz.pinned (.plain (OpenSpec.upto useKnownSpec)) useKnownUptoCard

/-- THE SECOND FORM's CARD OF 'locksmithlaw25.AskOffers'. -/
def askOffersUptoCard : Claim7 := { stood := { row := askOffersUptoRow, standIns := [], harness := (true, "633d59e08bad545cc045897dfc938365f0e995131afb5a918b9267ab608c3b13"), looks := true }, kinds := [], alts := [], laidByText := true, laidKinds := [.pinned, .data, .sentinel, .sentinel, .data, .data, .data], laidTests := true, laidLooks := .later }
def AskOffersUptoCardSaid : Prop := Claim7.holds Tryz.pinned (.plain (OpenSpec.upto askOffersSpec)) askOffersUptoCard
end Rows
end Go.Proofs.YtecabdjbhlmilaaGreatDoor
