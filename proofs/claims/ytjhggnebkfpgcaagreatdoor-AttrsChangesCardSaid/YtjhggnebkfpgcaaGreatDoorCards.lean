/-
  DERIVED. GIVEN WITH THE SEED: THE CARDS: each row of YtjhggnebkfpgcaaGreatDoorRows.lean that lists a variable, with what it lists TIED to the program's text (the seventh form; the later family's looks); each row that meets fmt, with fmt's text TOLD by the authors' own Lean function (tested against real Go, not proved from fmt's source: count such statements apart). THE CARD IS WHAT COUNTS. Prove the row's statement (the work); the ties are given (YtjhggnebkfpgcaaGreatDoorTie.lean); close each card by the builder's one call (the guide's Derived/Test/ToyasCard.lean, 'card_holds'). Laid BY PROGRAM, IN A SANDBOX (cutbox-door.mjs). By AI agents, Wed Nov 11 2026. No macro, syntax, notation, axiom, sorry.
-/
import Derived.Test.YtjhggnebkfpgcaaGreatDoorRows
import GoSem.ClaimSeven
namespace Go.Proofs.YtjhggnebkfpgcaaGreatDoor
namespace Rows

/-- THE TIED CARD OF 'locksmithlaw13.AttrsSets'. -/
def attrsSetsCard : Claim7 := { stood := { row := attrsSetsRow, standIns := [], harness := (true, "ff3b1766f6e6ac99f41e1628d4ff9bad5dc036d3bec380b43cc61596aae296f2"), looks := true }, kinds := [], alts := [], laidByText := true, laidKinds := [.data, .data, .pinned], laidTests := true, laidLooks := .later }
def AttrsSetsCardSaid : Prop := Claim7.holds Tryz.pinned (.plain (OpenSpec.ofChange attrsSetsSpec)) attrsSetsCard

/-- THE TIED CARD OF 'locksmithlaw13.AttrsSound'. -/
def attrsSoundCard : Claim7 := { stood := { row := attrsSoundRow, standIns := [], harness := (true, "ff3b1766f6e6ac99f41e1628d4ff9bad5dc036d3bec380b43cc61596aae296f2"), looks := true }, kinds := [], alts := [], laidByText := true, laidKinds := [.data, .data, .pinned], laidTests := true, laidLooks := .later }
def AttrsSoundCardSaid : Prop := Claim7.holds Tryz.pinned (.plain (OpenSpec.ofChange attrsSoundSpec)) attrsSoundCard

/-- THE TIED CARD OF 'locksmithlaw13.AttrsChanges'. -/
def attrsChangesCard : Claim7 := { stood := { row := attrsChangesRow, standIns := [], harness := (true, "ff3b1766f6e6ac99f41e1628d4ff9bad5dc036d3bec380b43cc61596aae296f2"), looks := true }, kinds := [], alts := [], laidByText := true, laidKinds := [.data, .data, .pinned], laidTests := true, laidLooks := .later }
def AttrsChangesCardSaid : Prop := Claim7.holds Tryz.pinned (.plain (OpenSpec.ofChange attrsChangesSpec)) attrsChangesCard

/-- THE TIED CARD OF 'locksmithlaw13.AttrsBack'. -/
def attrsBackCard : Claim7 := { stood := { row := attrsBackRow, standIns := [], harness := (true, "ff3b1766f6e6ac99f41e1628d4ff9bad5dc036d3bec380b43cc61596aae296f2"), looks := true }, kinds := [], alts := [], laidByText := true, laidKinds := [.data, .data, .pinned], laidTests := true, laidLooks := .later }
def AttrsBackCardSaid : Prop := Claim7.holds Tryz.pinned (.plain (OpenSpec.ofChange attrsBackSpec)) attrsBackCard

/-- THE TIED CARD OF 'locksmithlaw13.AttrsItems'. -/
def attrsItemsCard : Claim7 := { stood := { row := attrsItemsRow, standIns := [], harness := (true, "ff3b1766f6e6ac99f41e1628d4ff9bad5dc036d3bec380b43cc61596aae296f2"), looks := true }, kinds := [], alts := [], laidByText := true, laidKinds := [.data, .data, .pinned], laidTests := true, laidLooks := .later }
def AttrsItemsCardSaid : Prop := Claim7.holds Tryz.pinned (.plain (OpenSpec.ofChange attrsItemsSpec)) attrsItemsCard

/-- THE TIED CARD OF 'locksmithlaw13.AttrsReadBack'. -/
def attrsReadBackCard : Claim7 := { stood := { row := attrsReadBackRow, standIns := [], harness := (true, "ff3b1766f6e6ac99f41e1628d4ff9bad5dc036d3bec380b43cc61596aae296f2"), looks := true }, kinds := [], alts := [], laidByText := true, laidKinds := [.data, .data, .pinned], laidTests := true, laidLooks := .later }
def AttrsReadBackCardSaid : Prop := Claim7.holds Tryz.pinned (.plain (OpenSpec.ofChange attrsReadBackSpec)) attrsReadBackCard

/-- THE TIED CARD OF 'locksmithlaw13.AttrsIndexed'. -/
def attrsIndexedCard : Claim7 := { stood := { row := attrsIndexedRow, standIns := [], harness := (true, "ff3b1766f6e6ac99f41e1628d4ff9bad5dc036d3bec380b43cc61596aae296f2"), looks := true }, kinds := [], alts := [], laidByText := true, laidKinds := [.data, .pinned], laidTests := true, laidLooks := .later }
def AttrsIndexedCardSaid : Prop := Claim7.holds Tryz.pinned (.plain (OpenSpec.ofChange attrsIndexedSpec)) attrsIndexedCard

/-- THE TIED CARD OF 'locksmithlaw13.AttrsTold'. -/
def attrsToldCard : Claim7 := { stood := { row := attrsToldRow, standIns := [], harness := (true, "ff3b1766f6e6ac99f41e1628d4ff9bad5dc036d3bec380b43cc61596aae296f2"), looks := true }, kinds := [], alts := [], laidByText := true, laidKinds := [.data, .data, .pinned], laidTests := true, laidLooks := .later }
def AttrsToldCardSaid : Prop := Claim7.holds Tryz.pinned (.plain (OpenSpec.ofChange attrsToldSpec)) attrsToldCard

/-- THE TIED CARD OF 'locksmithlaw14.MatchTells'. -/
def matchTellsCard : Claim7 := { stood := { row := matchTellsRow, standIns := [], harness := (true, "ff3b1766f6e6ac99f41e1628d4ff9bad5dc036d3bec380b43cc61596aae296f2"), looks := true }, kinds := [], alts := [], laidByText := true, laidKinds := [.data, .pinned], laidTests := true, laidLooks := .later }
def MatchTellsCardSaid : Prop := Claim7.holds Tryz.pinned (.plain (OpenSpec.ofChange matchTellsSpec)) matchTellsCard

/-- THE TIED CARD OF 'locksmithlaw14.MatchKnown'. -/
def matchKnownCard : Claim7 := { stood := { row := matchKnownRow, standIns := [], harness := (true, "ff3b1766f6e6ac99f41e1628d4ff9bad5dc036d3bec380b43cc61596aae296f2"), looks := true }, kinds := [], alts := [], laidByText := true, laidKinds := [.data, .pinned], laidTests := true, laidLooks := .later }
def MatchKnownCardSaid : Prop := Claim7.holds Tryz.pinned (.plain (OpenSpec.ofChange matchKnownSpec)) matchKnownCard

/-- THE TIED CARD OF 'locksmithlaw14.MatchFinds'. -/
def matchFindsCard : Claim7 := { stood := { row := matchFindsRow, standIns := [], harness := (true, "ff3b1766f6e6ac99f41e1628d4ff9bad5dc036d3bec380b43cc61596aae296f2"), looks := true }, kinds := [], alts := [], laidByText := true, laidKinds := [.data, .data, .pinned], laidTests := true, laidLooks := .later }
def MatchFindsCardSaid : Prop := Claim7.holds Tryz.pinned (.plain (OpenSpec.ofChange matchFindsSpec)) matchFindsCard

/-- THE TIED CARD OF 'locksmithlaw14.MatchAll'. -/
def matchAllCard : Claim7 := { stood := { row := matchAllRow, standIns := [], harness := (true, "ff3b1766f6e6ac99f41e1628d4ff9bad5dc036d3bec380b43cc61596aae296f2"), looks := true }, kinds := [], alts := [], laidByText := true, laidKinds := [.data, .data, .pinned], laidTests := true, laidLooks := .later }
def MatchAllCardSaid : Prop := Claim7.holds Tryz.pinned (.plain (OpenSpec.ofChange matchAllSpec)) matchAllCard

/-- THE SECOND FORM's CARD OF 'locksmithlaw13.AttrsSets'. -/
def attrsSetsUptoCard : Claim7 := { stood := { row := attrsSetsUptoRow, standIns := [], harness := (true, "ff3b1766f6e6ac99f41e1628d4ff9bad5dc036d3bec380b43cc61596aae296f2"), looks := true }, kinds := [], alts := [], laidByText := true, laidKinds := [.data, .data, .pinned], laidTests := true, laidLooks := .later }
def AttrsSetsUptoCardSaid : Prop := Claim7.holds Tryz.pinned (.plain (OpenSpec.upto attrsSetsSpec)) attrsSetsUptoCard

/-- THE SECOND FORM's CARD OF 'locksmithlaw13.AttrsSound'. -/
def attrsSoundUptoCard : Claim7 := { stood := { row := attrsSoundUptoRow, standIns := [], harness := (true, "ff3b1766f6e6ac99f41e1628d4ff9bad5dc036d3bec380b43cc61596aae296f2"), looks := true }, kinds := [], alts := [], laidByText := true, laidKinds := [.data, .data, .pinned], laidTests := true, laidLooks := .later }
def AttrsSoundUptoCardSaid : Prop := Claim7.holds Tryz.pinned (.plain (OpenSpec.upto attrsSoundSpec)) attrsSoundUptoCard

/-- THE SECOND FORM's CARD OF 'locksmithlaw13.AttrsChanges'. -/
def attrsChangesUptoCard : Claim7 := { stood := { row := attrsChangesUptoRow, standIns := [], harness := (true, "ff3b1766f6e6ac99f41e1628d4ff9bad5dc036d3bec380b43cc61596aae296f2"), looks := true }, kinds := [], alts := [], laidByText := true, laidKinds := [.data, .data, .pinned], laidTests := true, laidLooks := .later }
def AttrsChangesUptoCardSaid : Prop := Claim7.holds Tryz.pinned (.plain (OpenSpec.upto attrsChangesSpec)) attrsChangesUptoCard

/-- THE SECOND FORM's CARD OF 'locksmithlaw13.AttrsBack'. -/
def attrsBackUptoCard : Claim7 := { stood := { row := attrsBackUptoRow, standIns := [], harness := (true, "ff3b1766f6e6ac99f41e1628d4ff9bad5dc036d3bec380b43cc61596aae296f2"), looks := true }, kinds := [], alts := [], laidByText := true, laidKinds := [.data, .data, .pinned], laidTests := true, laidLooks := .later }
def AttrsBackUptoCardSaid : Prop := Claim7.holds Tryz.pinned (.plain (OpenSpec.upto attrsBackSpec)) attrsBackUptoCard

/-- THE SECOND FORM's CARD OF 'locksmithlaw13.AttrsItems'. -/
def attrsItemsUptoCard : Claim7 := { stood := { row := attrsItemsUptoRow, standIns := [], harness := (true, "ff3b1766f6e6ac99f41e1628d4ff9bad5dc036d3bec380b43cc61596aae296f2"), looks := true }, kinds := [], alts := [], laidByText := true, laidKinds := [.data, .data, .pinned], laidTests := true, laidLooks := .later }
def AttrsItemsUptoCardSaid : Prop := Claim7.holds Tryz.pinned (.plain (OpenSpec.upto attrsItemsSpec)) attrsItemsUptoCard

/-- THE SECOND FORM's CARD OF 'locksmithlaw13.AttrsReadBack'. -/
def attrsReadBackUptoCard : Claim7 := { stood := { row := attrsReadBackUptoRow, standIns := [], harness := (true, "ff3b1766f6e6ac99f41e1628d4ff9bad5dc036d3bec380b43cc61596aae296f2"), looks := true }, kinds := [], alts := [], laidByText := true, laidKinds := [.data, .data, .pinned], laidTests := true, laidLooks := .later }
def AttrsReadBackUptoCardSaid : Prop := Claim7.holds Tryz.pinned (.plain (OpenSpec.upto attrsReadBackSpec)) attrsReadBackUptoCard

/-- THE SECOND FORM's CARD OF 'locksmithlaw13.AttrsIndexed'. -/
def attrsIndexedUptoCard : Claim7 := { stood := { row := attrsIndexedUptoRow, standIns := [], harness := (true, "ff3b1766f6e6ac99f41e1628d4ff9bad5dc036d3bec380b43cc61596aae296f2"), looks := true }, kinds := [], alts := [], laidByText := true, laidKinds := [.data, .pinned], laidTests := true, laidLooks := .later }
def AttrsIndexedUptoCardSaid : Prop := Claim7.holds Tryz.pinned (.plain (OpenSpec.upto attrsIndexedSpec)) attrsIndexedUptoCard

/-- THE SECOND FORM's CARD OF 'locksmithlaw13.AttrsTold'. -/
def attrsToldUptoCard : Claim7 := { stood := { row := attrsToldUptoRow, standIns := [], harness := (true, "ff3b1766f6e6ac99f41e1628d4ff9bad5dc036d3bec380b43cc61596aae296f2"), looks := true }, kinds := [], alts := [], laidByText := true, laidKinds := [.data, .data, .pinned], laidTests := true, laidLooks := .later }
def AttrsToldUptoCardSaid : Prop := Claim7.holds Tryz.pinned (.plain (OpenSpec.upto attrsToldSpec)) attrsToldUptoCard

/-- THE SECOND FORM's CARD OF 'locksmithlaw14.MatchTells'. -/
def matchTellsUptoCard : Claim7 := { stood := { row := matchTellsUptoRow, standIns := [], harness := (true, "ff3b1766f6e6ac99f41e1628d4ff9bad5dc036d3bec380b43cc61596aae296f2"), looks := true }, kinds := [], alts := [], laidByText := true, laidKinds := [.data, .pinned], laidTests := true, laidLooks := .later }
def MatchTellsUptoCardSaid : Prop := Claim7.holds Tryz.pinned (.plain (OpenSpec.upto matchTellsSpec)) matchTellsUptoCard

/-- THE SECOND FORM's CARD OF 'locksmithlaw14.MatchKnown'. -/
def matchKnownUptoCard : Claim7 := { stood := { row := matchKnownUptoRow, standIns := [], harness := (true, "ff3b1766f6e6ac99f41e1628d4ff9bad5dc036d3bec380b43cc61596aae296f2"), looks := true }, kinds := [], alts := [], laidByText := true, laidKinds := [.data, .pinned], laidTests := true, laidLooks := .later }
def MatchKnownUptoCardSaid : Prop := Claim7.holds Tryz.pinned (.plain (OpenSpec.upto matchKnownSpec)) matchKnownUptoCard

/-- THE SECOND FORM's CARD OF 'locksmithlaw14.MatchFinds'. -/
def matchFindsUptoCard : Claim7 := { stood := { row := matchFindsUptoRow, standIns := [], harness := (true, "ff3b1766f6e6ac99f41e1628d4ff9bad5dc036d3bec380b43cc61596aae296f2"), looks := true }, kinds := [], alts := [], laidByText := true, laidKinds := [.data, .data, .pinned], laidTests := true, laidLooks := .later }
def MatchFindsUptoCardSaid : Prop := Claim7.holds Tryz.pinned (.plain (OpenSpec.upto matchFindsSpec)) matchFindsUptoCard

/-- THE SECOND FORM's CARD OF 'locksmithlaw14.MatchAll'. -/
def matchAllUptoCard : Claim7 := { stood := { row := matchAllUptoRow, standIns := [], harness := (true, "ff3b1766f6e6ac99f41e1628d4ff9bad5dc036d3bec380b43cc61596aae296f2"), looks := true }, kinds := [], alts := [], laidByText := true, laidKinds := [.data, .data, .pinned], laidTests := true, laidLooks := .later }
def MatchAllUptoCardSaid : Prop := Claim7.holds Tryz.pinned (.plain (OpenSpec.upto matchAllSpec)) matchAllUptoCard
end Rows
end Go.Proofs.YtjhggnebkfpgcaaGreatDoor
