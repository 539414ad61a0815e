/-
  DERIVED. GIVEN WITH THE SEED: THE CARDS: each row of YtbhnlgennmmnmaaGreatDoorRows.lean that lists a variable, with what it lists TIED to the program's text (the seventh form; the later family's looks); each row that meets fmt, with fmt's text TOLD by the authors' own Lean function (tested against real Go, not proved from fmt's source: count such statements apart). THE CARD IS WHAT COUNTS. Prove the row's statement (the work); the ties are given (YtbhnlgennmmnmaaGreatDoorTie.lean); close each card by the builder's one call (the guide's Derived/Test/ToyasCard.lean, 'card_holds'). Laid BY PROGRAM, IN A SANDBOX (cutbox-door.mjs). By AI agents, Wed Nov 11 2026. No macro, syntax, notation, axiom, sorry.
-/
import Derived.Test.YtbhnlgennmmnmaaGreatDoorRows
import GoSem.ClaimSeven
namespace Go.Proofs.YtbhnlgennmmnmaaGreatDoor
namespace Rows

/-- THE TIED CARD OF 'locksmithlaw13.AttrsSets'. -/
def attrsSetsCard : Claim7 := { stood := { row := attrsSetsRow, standIns := [], harness := (true, "5e1deea8d6af7dbb17ec12b251b91affb33cbca5dfc56705b36acf7f23b0a8c6"), looks := false }, kinds := [], alts := [], laidByText := true, laidKinds := [.data, .data, .pinned], laidTests := true, laidLooks := .later }
def AttrsSetsCardSaid : Prop := Claim7.holds Tryz.pinned (.plain (OpenSpec.ofChange attrsSetsSpec)) attrsSetsCard

/-- THE TIED CARD OF 'locksmithlaw13.AttrsSound'. -/
def attrsSoundCard : Claim7 := { stood := { row := attrsSoundRow, standIns := [], harness := (true, "5e1deea8d6af7dbb17ec12b251b91affb33cbca5dfc56705b36acf7f23b0a8c6"), looks := false }, kinds := [], alts := [], laidByText := true, laidKinds := [.data, .data, .pinned], laidTests := true, laidLooks := .later }
def AttrsSoundCardSaid : Prop := Claim7.holds Tryz.pinned (.plain (OpenSpec.ofChange attrsSoundSpec)) attrsSoundCard

/-- THE TIED CARD OF 'locksmithlaw13.AttrsChanges'. -/
def attrsChangesCard : Claim7 := { stood := { row := attrsChangesRow, standIns := [], harness := (true, "5e1deea8d6af7dbb17ec12b251b91affb33cbca5dfc56705b36acf7f23b0a8c6"), looks := false }, kinds := [], alts := [], laidByText := true, laidKinds := [.data, .data, .pinned], laidTests := true, laidLooks := .later }
def AttrsChangesCardSaid : Prop := Claim7.holds Tryz.pinned (.plain (OpenSpec.ofChange attrsChangesSpec)) attrsChangesCard

/-- THE TIED CARD OF 'locksmithlaw13.AttrsBack'. -/
def attrsBackCard : Claim7 := { stood := { row := attrsBackRow, standIns := [], harness := (true, "5e1deea8d6af7dbb17ec12b251b91affb33cbca5dfc56705b36acf7f23b0a8c6"), looks := false }, kinds := [], alts := [], laidByText := true, laidKinds := [.data, .data, .pinned], laidTests := true, laidLooks := .later }
def AttrsBackCardSaid : Prop := Claim7.holds Tryz.pinned (.plain (OpenSpec.ofChange attrsBackSpec)) attrsBackCard

/-- THE TIED CARD OF 'locksmithlaw13.AttrsItems'. -/
def attrsItemsCard : Claim7 := { stood := { row := attrsItemsRow, standIns := [], harness := (true, "5e1deea8d6af7dbb17ec12b251b91affb33cbca5dfc56705b36acf7f23b0a8c6"), looks := false }, kinds := [], alts := [], laidByText := true, laidKinds := [.data, .data, .pinned], laidTests := true, laidLooks := .later }
def AttrsItemsCardSaid : Prop := Claim7.holds Tryz.pinned (.plain (OpenSpec.ofChange attrsItemsSpec)) attrsItemsCard

/-- THE TIED CARD OF 'locksmithlaw13.AttrsReadBack'. -/
def attrsReadBackCard : Claim7 := { stood := { row := attrsReadBackRow, standIns := [], harness := (true, "5e1deea8d6af7dbb17ec12b251b91affb33cbca5dfc56705b36acf7f23b0a8c6"), looks := false }, kinds := [], alts := [], laidByText := true, laidKinds := [.data, .data, .pinned], laidTests := true, laidLooks := .later }
def AttrsReadBackCardSaid : Prop := Claim7.holds Tryz.pinned (.plain (OpenSpec.ofChange attrsReadBackSpec)) attrsReadBackCard

/-- THE TIED CARD OF 'locksmithlaw13.AttrsIndexed'. -/
def attrsIndexedCard : Claim7 := { stood := { row := attrsIndexedRow, standIns := [], harness := (true, "5e1deea8d6af7dbb17ec12b251b91affb33cbca5dfc56705b36acf7f23b0a8c6"), looks := false }, kinds := [], alts := [], laidByText := true, laidKinds := [.data, .pinned], laidTests := true, laidLooks := .later }
def AttrsIndexedCardSaid : Prop := Claim7.holds Tryz.pinned (.plain (OpenSpec.ofChange attrsIndexedSpec)) attrsIndexedCard

/-- THE TIED CARD OF 'locksmithlaw13.AttrsTold'. -/
def attrsToldCard : Claim7 := { stood := { row := attrsToldRow, standIns := [], harness := (true, "5e1deea8d6af7dbb17ec12b251b91affb33cbca5dfc56705b36acf7f23b0a8c6"), looks := false }, kinds := [], alts := [], laidByText := true, laidKinds := [.data, .data, .pinned], laidTests := true, laidLooks := .later }
def AttrsToldCardSaid : Prop := Claim7.holds Tryz.pinned (.plain (OpenSpec.ofChange attrsToldSpec)) attrsToldCard

/-- THE TIED CARD OF 'locksmithlaw13.AttrsKnown'. -/
def attrsKnownCard : Claim7 := { stood := { row := attrsKnownRow, standIns := [], harness := (true, "5e1deea8d6af7dbb17ec12b251b91affb33cbca5dfc56705b36acf7f23b0a8c6"), looks := false }, kinds := [], alts := [], laidByText := true, laidKinds := [.data, .pinned], laidTests := true, laidLooks := .later }
def AttrsKnownCardSaid : Prop := Claim7.holds Tryz.pinned (.plain (OpenSpec.ofChange attrsKnownSpec)) attrsKnownCard

/-- THE SECOND FORM's CARD OF 'locksmithlaw13.AttrsSets'. -/
def attrsSetsUptoCard : Claim7 := { stood := { row := attrsSetsUptoRow, standIns := [], harness := (true, "5e1deea8d6af7dbb17ec12b251b91affb33cbca5dfc56705b36acf7f23b0a8c6"), looks := false }, kinds := [], alts := [], laidByText := true, laidKinds := [.data, .data, .pinned], laidTests := true, laidLooks := .later }
def AttrsSetsUptoCardSaid : Prop := Claim7.holds Tryz.pinned (.plain (OpenSpec.upto attrsSetsSpec)) attrsSetsUptoCard

/-- THE SECOND FORM's CARD OF 'locksmithlaw13.AttrsSound'. -/
def attrsSoundUptoCard : Claim7 := { stood := { row := attrsSoundUptoRow, standIns := [], harness := (true, "5e1deea8d6af7dbb17ec12b251b91affb33cbca5dfc56705b36acf7f23b0a8c6"), looks := false }, kinds := [], alts := [], laidByText := true, laidKinds := [.data, .data, .pinned], laidTests := true, laidLooks := .later }
def AttrsSoundUptoCardSaid : Prop := Claim7.holds Tryz.pinned (.plain (OpenSpec.upto attrsSoundSpec)) attrsSoundUptoCard

/-- THE SECOND FORM's CARD OF 'locksmithlaw13.AttrsChanges'. -/
def attrsChangesUptoCard : Claim7 := { stood := { row := attrsChangesUptoRow, standIns := [], harness := (true, "5e1deea8d6af7dbb17ec12b251b91affb33cbca5dfc56705b36acf7f23b0a8c6"), looks := false }, kinds := [], alts := [], laidByText := true, laidKinds := [.data, .data, .pinned], laidTests := true, laidLooks := .later }
def AttrsChangesUptoCardSaid : Prop := Claim7.holds Tryz.pinned (.plain (OpenSpec.upto attrsChangesSpec)) attrsChangesUptoCard

/-- THE SECOND FORM's CARD OF 'locksmithlaw13.AttrsBack'. -/
def attrsBackUptoCard : Claim7 := { stood := { row := attrsBackUptoRow, standIns := [], harness := (true, "5e1deea8d6af7dbb17ec12b251b91affb33cbca5dfc56705b36acf7f23b0a8c6"), looks := false }, kinds := [], alts := [], laidByText := true, laidKinds := [.data, .data, .pinned], laidTests := true, laidLooks := .later }
def AttrsBackUptoCardSaid : Prop := Claim7.holds Tryz.pinned (.plain (OpenSpec.upto attrsBackSpec)) attrsBackUptoCard

/-- THE SECOND FORM's CARD OF 'locksmithlaw13.AttrsItems'. -/
def attrsItemsUptoCard : Claim7 := { stood := { row := attrsItemsUptoRow, standIns := [], harness := (true, "5e1deea8d6af7dbb17ec12b251b91affb33cbca5dfc56705b36acf7f23b0a8c6"), looks := false }, kinds := [], alts := [], laidByText := true, laidKinds := [.data, .data, .pinned], laidTests := true, laidLooks := .later }
def AttrsItemsUptoCardSaid : Prop := Claim7.holds Tryz.pinned (.plain (OpenSpec.upto attrsItemsSpec)) attrsItemsUptoCard

/-- THE SECOND FORM's CARD OF 'locksmithlaw13.AttrsReadBack'. -/
def attrsReadBackUptoCard : Claim7 := { stood := { row := attrsReadBackUptoRow, standIns := [], harness := (true, "5e1deea8d6af7dbb17ec12b251b91affb33cbca5dfc56705b36acf7f23b0a8c6"), looks := false }, kinds := [], alts := [], laidByText := true, laidKinds := [.data, .data, .pinned], laidTests := true, laidLooks := .later }
def AttrsReadBackUptoCardSaid : Prop := Claim7.holds Tryz.pinned (.plain (OpenSpec.upto attrsReadBackSpec)) attrsReadBackUptoCard

/-- THE SECOND FORM's CARD OF 'locksmithlaw13.AttrsIndexed'. -/
def attrsIndexedUptoCard : Claim7 := { stood := { row := attrsIndexedUptoRow, standIns := [], harness := (true, "5e1deea8d6af7dbb17ec12b251b91affb33cbca5dfc56705b36acf7f23b0a8c6"), looks := false }, kinds := [], alts := [], laidByText := true, laidKinds := [.data, .pinned], laidTests := true, laidLooks := .later }
def AttrsIndexedUptoCardSaid : Prop := Claim7.holds Tryz.pinned (.plain (OpenSpec.upto attrsIndexedSpec)) attrsIndexedUptoCard

/-- THE SECOND FORM's CARD OF 'locksmithlaw13.AttrsTold'. -/
def attrsToldUptoCard : Claim7 := { stood := { row := attrsToldUptoRow, standIns := [], harness := (true, "5e1deea8d6af7dbb17ec12b251b91affb33cbca5dfc56705b36acf7f23b0a8c6"), looks := false }, kinds := [], alts := [], laidByText := true, laidKinds := [.data, .data, .pinned], laidTests := true, laidLooks := .later }
def AttrsToldUptoCardSaid : Prop := Claim7.holds Tryz.pinned (.plain (OpenSpec.upto attrsToldSpec)) attrsToldUptoCard

/-- THE SECOND FORM's CARD OF 'locksmithlaw13.AttrsKnown'. -/
def attrsKnownUptoCard : Claim7 := { stood := { row := attrsKnownUptoRow, standIns := [], harness := (true, "5e1deea8d6af7dbb17ec12b251b91affb33cbca5dfc56705b36acf7f23b0a8c6"), looks := false }, kinds := [], alts := [], laidByText := true, laidKinds := [.data, .pinned], laidTests := true, laidLooks := .later }
def AttrsKnownUptoCardSaid : Prop := Claim7.holds Tryz.pinned (.plain (OpenSpec.upto attrsKnownSpec)) attrsKnownUptoCard
end Rows
end Go.Proofs.YtbhnlgennmmnmaaGreatDoor
