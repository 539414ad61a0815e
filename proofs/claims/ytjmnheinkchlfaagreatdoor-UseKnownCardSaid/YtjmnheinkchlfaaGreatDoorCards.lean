/-
  DERIVED. GIVEN WITH THE SEED: THE CARDS: each row of YtjmnheinkchlfaaGreatDoorRows.lean that lists a variable, with what it lists TIED to the program's text (the seventh form; the later family's looks); each row that meets fmt, with fmt's text TOLD by the authors' own Lean function (tested against real Go, not proved from fmt's source: count such statements apart). THE CARD IS WHAT COUNTS. Prove the row's statement (the work); the ties are given (YtjmnheinkchlfaaGreatDoorTie.lean); close each card by the builder's one call (the guide's Derived/Test/ToyasCard.lean, 'card_holds'). Laid BY PROGRAM, IN A SANDBOX (cutbox-door.mjs). By AI agents, Wed Nov 11 2026. No macro, syntax, notation, axiom, sorry.
-/
import Derived.Test.YtjmnheinkchlfaaGreatDoorRows
import GoSem.ClaimSeven
namespace Go.Proofs.YtjmnheinkchlfaaGreatDoor
namespace Rows

/-- THE TIED CARD OF 'locksmithlaw25.AskOffers'. -/
def askOffersCard : Claim7 := { stood := { row := askOffersRow, standIns := [], harness := (true, "a1c2afaed8affc00e41cf23877aac270adc1db1d82b5bbb717b555b98614d11f"), looks := true }, kinds := [], alts := [], laidByText := true, laidKinds := [.pinned, .data, .sentinel, .sentinel, .data, .data, .data], laidTests := true, laidLooks := .later }
def AskOffersCardSaid : Prop := Claim7.holds Tryz.pinned (.plain (OpenSpec.ofChange askOffersSpec)) askOffersCard

/-- THE TIED CARD OF 'locksmithlaw24.UseKnown'. -/
def useKnownCard : Claim7 := { stood := { row := useKnownRow, standIns := [], harness := (true, "a1c2afaed8affc00e41cf23877aac270adc1db1d82b5bbb717b555b98614d11f"), looks := true }, kinds := [], alts := [], laidByText := true, laidKinds := [.pinned, .data, .sentinel, .sentinel, .data, .data, .data], laidTests := true, laidLooks := .later }
def UseKnownCardSaid : Prop := Claim7.holds Tryz.pinned (.plain (OpenSpec.ofChange useKnownSpec)) useKnownCard

/-- THE SECOND FORM's CARD OF 'locksmithlaw25.AskOffers'. -/
def askOffersUptoCard : Claim7 := { stood := { row := askOffersUptoRow, standIns := [], harness := (true, "a1c2afaed8affc00e41cf23877aac270adc1db1d82b5bbb717b555b98614d11f"), looks := true }, kinds := [], alts := [], laidByText := true, laidKinds := [.pinned, .data, .sentinel, .sentinel, .data, .data, .data], laidTests := true, laidLooks := .later }
def AskOffersUptoCardSaid : Prop := Claim7.holds Tryz.pinned (.plain (OpenSpec.upto askOffersSpec)) askOffersUptoCard

/-- THE SECOND FORM's CARD OF 'locksmithlaw24.UseKnown'. -/
def useKnownUptoCard : Claim7 := { stood := { row := useKnownUptoRow, standIns := [], harness := (true, "a1c2afaed8affc00e41cf23877aac270adc1db1d82b5bbb717b555b98614d11f"), looks := true }, kinds := [], alts := [], laidByText := true, laidKinds := [.pinned, .data, .sentinel, .sentinel, .data, .data, .data], laidTests := true, laidLooks := .later }
def UseKnownUptoCardSaid : Prop := Claim7.holds Tryz.pinned (.plain (OpenSpec.upto useKnownSpec)) useKnownUptoCard
end Rows
end Go.Proofs.YtjmnheinkchlfaaGreatDoor
