/-
  NARROWER THAN 'FOR EVERY INPUT', by the rows' own cells (each row's printed sentence says how): AttrsSets: laid · AttrsSound: laid · AttrsChanges: laid · AttrsBack: laid · AttrsItems: laid · AttrsReadBack: laid · AttrsIndexed: laid · AttrsTold: laid · MatchTells: laid · MatchKnown: laid · MatchFinds: laid · MatchAll: laid.
  DERIVED. THE GIVEN ROWS OF THIS SEAT. 12 by the template 'for every input the law returns true; each argument reads behind the call as it read before'; 0 by the template 'total and deterministic' (their statements: YtjhggnebkfpgcaaGreatDoorTotals.lean).
  GIVEN WITH THE SEED: the statements are not yours to turn. If you find one false, say at which input.
  Laid BY PROGRAM, IN A SANDBOX (cutbox-rows.mjs): the forced cells as the released guide's own fill.sh prints them over the translation 6f18dde09f3d87fd… (all of the seat's roots in one cut). By AI agents, Wed Nov 11 2026. No macro, syntax, notation, axiom, sorry.
-/
import Derived.Test.YtjhggnebkfpgcaaGreatDoorChecked
import GoSem.PinnedTables
import GoSem.Claim
import GoSem.ClaimJoined
import GoSem.ClaimMapViews
import Derived.JoinedTies
import Derived.KernelRfl
namespace Go.Proofs.YtjhggnebkfpgcaaGreatDoor
/- THE CELL 'sum', in the pinned program and in every row, IS THE sha256 OF THE DUMP (.gsa) THAT YtjhggnebkfpgcaaGreatDoorProg.lean LOADS. Nothing in Lean hashes anything: it is a label: what it is worth is what the hold of that sum in a sandbox is worth. -/
noncomputable def Tryz.pinned : Pinned := { name := "ytjhggnebkfpgcaagreatdoor", sum := "6f18dde09f3d87fd4070eee7a0d297a5c8a29c9e593d3ce7afc381682d84051c", checked := Tryz.checked }
namespace Rows
def none {H : Type} : Left H := { results := [], args := [] }

/- WHAT THE LISTED PACKAGE-LEVEL VARIABLES READ AS WHEN THE CALL BEGINS. Each datum BY PROGRAM (the guide's laid-datum.mjs) off the statement by which the dump's own 'gosem.cut.vars' lays the variable. In a bare row this is a premise. The card (YtjhggnebkfpgcaaGreatDoorCards.lean) ties it to the program's text. -/
def laid_unicode_utf8_acceptRanges {H : Type} : DataW H := .agg [.agg [.lit (.int .u8 128), .lit (.int .u8 191)], .agg [.lit (.int .u8 160), .lit (.int .u8 191)], .agg [.lit (.int .u8 128), .lit (.int .u8 159)], .agg [.lit (.int .u8 144), .lit (.int .u8 191)], .agg [.lit (.int .u8 128), .lit (.int .u8 143)], .agg [.lit (.int .u8 0), .lit (.int .u8 0)], .agg [.lit (.int .u8 0), .lit (.int .u8 0)], .agg [.lit (.int .u8 0), .lit (.int .u8 0)], .agg [.lit (.int .u8 0), .lit (.int .u8 0)], .agg [.lit (.int .u8 0), .lit (.int .u8 0)], .agg [.lit (.int .u8 0), .lit (.int .u8 0)], .agg [.lit (.int .u8 0), .lit (.int .u8 0)], .agg [.lit (.int .u8 0), .lit (.int .u8 0)], .agg [.lit (.int .u8 0), .lit (.int .u8 0)], .agg [.lit (.int .u8 0), .lit (.int .u8 0)], .agg [.lit (.int .u8 0), .lit (.int .u8 0)]]
def laid_locksmith_locksmithhand_names {H : Type} : DataW H := .agg [.lit (.string [85, 110, 105, 113, 117, 101, 32, 73, 100, 101, 110, 116, 105, 102, 105, 101, 114]), .lit (.string [78, 97, 109, 101]), .lit (.string [79, 98, 106, 101, 99, 116, 32, 84, 121, 112, 101]), .lit (.string [67, 114, 121, 112, 116, 111, 103, 114, 97, 112, 104, 105, 99, 32, 65, 108, 103, 111, 114, 105, 116, 104, 109]), .lit (.string [67, 114, 121, 112, 116, 111, 103, 114, 97, 112, 104, 105, 99, 32, 76, 101, 110, 103, 116, 104]), .lit (.string [67, 114, 121, 112, 116, 111, 103, 114, 97, 112, 104, 105, 99, 32, 85, 115, 97, 103, 101, 32, 77, 97, 115, 107]), .lit (.string [83, 116, 97, 116, 101]), .lit (.string [73, 110, 105, 116, 105, 97, 108, 32, 68, 97, 116, 101]), .lit (.string [65, 99, 116, 105, 118, 97, 116, 105, 111, 110, 32, 68, 97, 116, 101]), .lit (.string [80, 114, 111, 99, 101, 115, 115, 32, 83, 116, 97, 114, 116, 32, 68, 97, 116, 101]), .lit (.string [80, 114, 111, 116, 101, 99, 116, 32, 83, 116, 111, 112, 32, 68, 97, 116, 101]), .lit (.string [68, 101, 97, 99, 116, 105, 118, 97, 116, 105, 111, 110, 32, 68, 97, 116, 101]), .lit (.string [68, 101, 115, 116, 114, 111, 121, 32, 68, 97, 116, 101]), .lit (.string [67, 111, 109, 112, 114, 111, 109, 105, 115, 101, 32, 79, 99, 99, 117, 114, 114, 101, 110, 99, 101, 32, 68, 97, 116, 101]), .lit (.string [67, 111, 109, 112, 114, 111, 109, 105, 115, 101, 32, 68, 97, 116, 101]), .lit (.string [65, 114, 99, 104, 105, 118, 101, 32, 68, 97, 116, 101]), .lit (.string [76, 97, 115, 116, 32, 67, 104, 97, 110, 103, 101, 32, 68, 97, 116, 101]), .lit (.string [82, 101, 118, 111, 99, 97, 116, 105, 111, 110, 32, 82, 101, 97, 115, 111, 110]), .lit (.string [76, 105, 110, 107]), .lit (.string [85, 115, 97, 103, 101, 32, 76, 105, 109, 105, 116, 115]), .lit (.string [120, 45, 97]), .lit (.string [120, 45, 98]), .lit (.string [120, 45]), .lit (.string [121])]
/-- One of Go's own tables, pinned by name: the form's constant. -/
def laid_unicode_utf8_first : DataW Unit := Go.Pinned.utf8First

/-- 'locksmithlaw13.AttrsSets': WHATEVER THE INPUT: true; the input reads as it did. -/
def attrsSetsSpec : ChangeSpec := { name := "attrsSets", fn := fun _ => fun
  | [d1, d2] => { results := [.lit (.bool true)], args := [d1, d2] }
  | _ => none }
def attrsSetsRow : OpenClaim := { program := "ytjhggnebkfpgcaagreatdoor", sum := "6f18dde09f3d87fd4070eee7a0d297a5c8a29c9e593d3ce7afc381682d84051c", func := "locksmith/locksmithlaw13.AttrsSets", spec := "attrsSets", unfollowed := true, recurses := true, named := ["locksmith/locksmithhand.names", "unicode/utf8.first", "unicode/utf8.acceptRanges"], apart := false, laid := [("unicode/utf8.acceptRanges", laid_unicode_utf8_acceptRanges), ("locksmith/locksmithhand.names", laid_locksmith_locksmithhand_names), ("unicode/utf8.first", laid_unicode_utf8_first)] }
def AttrsSetsSaid : Prop := attrsSetsRow.holds Tryz.pinned (OpenSpec.ofChange attrsSetsSpec)

/-- ITS FALSE NEIGHBOUR: 'it returns false'. Refute it at one input. -/
def attrsSetsWrong : ChangeSpec := { name := "attrsSets", fn := fun _ => fun
  | [d1, d2] => { results := [.lit (.bool false)], args := [d1, d2] }
  | _ => none }
def AttrsSetsWrongFalsely : Prop := attrsSetsRow.holds Tryz.pinned (OpenSpec.ofChange attrsSetsWrong)

/-- 'locksmithlaw13.AttrsSound': WHATEVER THE INPUT: true; the input reads as it did. -/
def attrsSoundSpec : ChangeSpec := { name := "attrsSound", fn := fun _ => fun
  | [d1, d2, d3] => { results := [.lit (.bool true)], args := [d1, d2, d3] }
  | _ => none }
def attrsSoundRow : OpenClaim := { program := "ytjhggnebkfpgcaagreatdoor", sum := "6f18dde09f3d87fd4070eee7a0d297a5c8a29c9e593d3ce7afc381682d84051c", func := "locksmith/locksmithlaw13.AttrsSound", spec := "attrsSound", unfollowed := true, recurses := true, named := ["locksmith/locksmithhand.names", "unicode/utf8.first", "unicode/utf8.acceptRanges"], apart := false, laid := [("unicode/utf8.acceptRanges", laid_unicode_utf8_acceptRanges), ("locksmith/locksmithhand.names", laid_locksmith_locksmithhand_names), ("unicode/utf8.first", laid_unicode_utf8_first)] }
def AttrsSoundSaid : Prop := attrsSoundRow.holds Tryz.pinned (OpenSpec.ofChange attrsSoundSpec)

/-- ITS FALSE NEIGHBOUR: 'it returns false'. Refute it at one input. -/
def attrsSoundWrong : ChangeSpec := { name := "attrsSound", fn := fun _ => fun
  | [d1, d2, d3] => { results := [.lit (.bool false)], args := [d1, d2, d3] }
  | _ => none }
def AttrsSoundWrongFalsely : Prop := attrsSoundRow.holds Tryz.pinned (OpenSpec.ofChange attrsSoundWrong)

/-- 'locksmithlaw13.AttrsChanges': WHATEVER THE INPUT: true; the input reads as it did. -/
def attrsChangesSpec : ChangeSpec := { name := "attrsChanges", fn := fun _ => fun
  | [d1, d2, d3, d4, d5] => { results := [.lit (.bool true)], args := [d1, d2, d3, d4, d5] }
  | _ => none }
def attrsChangesRow : OpenClaim := { program := "ytjhggnebkfpgcaagreatdoor", sum := "6f18dde09f3d87fd4070eee7a0d297a5c8a29c9e593d3ce7afc381682d84051c", func := "locksmith/locksmithlaw13.AttrsChanges", spec := "attrsChanges", unfollowed := true, recurses := true, named := ["locksmith/locksmithhand.names", "unicode/utf8.first", "unicode/utf8.acceptRanges"], apart := false, laid := [("unicode/utf8.acceptRanges", laid_unicode_utf8_acceptRanges), ("locksmith/locksmithhand.names", laid_locksmith_locksmithhand_names), ("unicode/utf8.first", laid_unicode_utf8_first)] }
def AttrsChangesSaid : Prop := attrsChangesRow.holds Tryz.pinned (OpenSpec.ofChange attrsChangesSpec)

/-- ITS FALSE NEIGHBOUR: 'it returns false'. Refute it at one input. -/
def attrsChangesWrong : ChangeSpec := { name := "attrsChanges", fn := fun _ => fun
  | [d1, d2, d3, d4, d5] => { results := [.lit (.bool false)], args := [d1, d2, d3, d4, d5] }
  | _ => none }
def AttrsChangesWrongFalsely : Prop := attrsChangesRow.holds Tryz.pinned (OpenSpec.ofChange attrsChangesWrong)

/-- 'locksmithlaw13.AttrsBack': WHATEVER THE INPUT: true; the input reads as it did. -/
def attrsBackSpec : ChangeSpec := { name := "attrsBack", fn := fun _ => fun
  | [d1, d2, d3] => { results := [.lit (.bool true)], args := [d1, d2, d3] }
  | _ => none }
def attrsBackRow : OpenClaim := { program := "ytjhggnebkfpgcaagreatdoor", sum := "6f18dde09f3d87fd4070eee7a0d297a5c8a29c9e593d3ce7afc381682d84051c", func := "locksmith/locksmithlaw13.AttrsBack", spec := "attrsBack", unfollowed := true, recurses := true, named := ["locksmith/locksmithhand.names", "unicode/utf8.first", "unicode/utf8.acceptRanges"], apart := false, laid := [("unicode/utf8.acceptRanges", laid_unicode_utf8_acceptRanges), ("locksmith/locksmithhand.names", laid_locksmith_locksmithhand_names), ("unicode/utf8.first", laid_unicode_utf8_first)] }
def AttrsBackSaid : Prop := attrsBackRow.holds Tryz.pinned (OpenSpec.ofChange attrsBackSpec)

/-- ITS FALSE NEIGHBOUR: 'it returns false'. Refute it at one input. -/
def attrsBackWrong : ChangeSpec := { name := "attrsBack", fn := fun _ => fun
  | [d1, d2, d3] => { results := [.lit (.bool false)], args := [d1, d2, d3] }
  | _ => none }
def AttrsBackWrongFalsely : Prop := attrsBackRow.holds Tryz.pinned (OpenSpec.ofChange attrsBackWrong)

/-- 'locksmithlaw13.AttrsItems': WHATEVER THE INPUT: true; the input reads as it did. -/
def attrsItemsSpec : ChangeSpec := { name := "attrsItems", fn := fun _ => fun
  | [d1, d2, d3] => { results := [.lit (.bool true)], args := [d1, d2, d3] }
  | _ => none }
def attrsItemsRow : OpenClaim := { program := "ytjhggnebkfpgcaagreatdoor", sum := "6f18dde09f3d87fd4070eee7a0d297a5c8a29c9e593d3ce7afc381682d84051c", func := "locksmith/locksmithlaw13.AttrsItems", spec := "attrsItems", unfollowed := true, recurses := true, named := ["locksmith/locksmithhand.names", "unicode/utf8.first", "unicode/utf8.acceptRanges"], apart := false, laid := [("unicode/utf8.acceptRanges", laid_unicode_utf8_acceptRanges), ("locksmith/locksmithhand.names", laid_locksmith_locksmithhand_names), ("unicode/utf8.first", laid_unicode_utf8_first)] }
def AttrsItemsSaid : Prop := attrsItemsRow.holds Tryz.pinned (OpenSpec.ofChange attrsItemsSpec)

/-- ITS FALSE NEIGHBOUR: 'it returns false'. Refute it at one input. -/
def attrsItemsWrong : ChangeSpec := { name := "attrsItems", fn := fun _ => fun
  | [d1, d2, d3] => { results := [.lit (.bool false)], args := [d1, d2, d3] }
  | _ => none }
def AttrsItemsWrongFalsely : Prop := attrsItemsRow.holds Tryz.pinned (OpenSpec.ofChange attrsItemsWrong)

/-- 'locksmithlaw13.AttrsReadBack': WHATEVER THE INPUT: true; the input reads as it did. -/
def attrsReadBackSpec : ChangeSpec := { name := "attrsReadBack", fn := fun _ => fun
  | [d] => { results := [.lit (.bool true)], args := [d] }
  | _ => none }
def attrsReadBackRow : OpenClaim := { program := "ytjhggnebkfpgcaagreatdoor", sum := "6f18dde09f3d87fd4070eee7a0d297a5c8a29c9e593d3ce7afc381682d84051c", func := "locksmith/locksmithlaw13.AttrsReadBack", spec := "attrsReadBack", unfollowed := true, recurses := true, named := ["locksmith/locksmithhand.names", "unicode/utf8.first", "unicode/utf8.acceptRanges"], apart := false, laid := [("unicode/utf8.acceptRanges", laid_unicode_utf8_acceptRanges), ("locksmith/locksmithhand.names", laid_locksmith_locksmithhand_names), ("unicode/utf8.first", laid_unicode_utf8_first)] }
def AttrsReadBackSaid : Prop := attrsReadBackRow.holds Tryz.pinned (OpenSpec.ofChange attrsReadBackSpec)

/-- ITS FALSE NEIGHBOUR: 'it returns false'. Refute it at one input. -/
def attrsReadBackWrong : ChangeSpec := { name := "attrsReadBack", fn := fun _ => fun
  | [d] => { results := [.lit (.bool false)], args := [d] }
  | _ => none }
def AttrsReadBackWrongFalsely : Prop := attrsReadBackRow.holds Tryz.pinned (OpenSpec.ofChange attrsReadBackWrong)

/-- 'locksmithlaw13.AttrsIndexed': WHATEVER THE INPUT: true; the input reads as it did. -/
def attrsIndexedSpec : ChangeSpec := { name := "attrsIndexed", fn := fun _ => fun
  | [d1, d2] => { results := [.lit (.bool true)], args := [d1, d2] }
  | _ => none }
def attrsIndexedRow : OpenClaim := { program := "ytjhggnebkfpgcaagreatdoor", sum := "6f18dde09f3d87fd4070eee7a0d297a5c8a29c9e593d3ce7afc381682d84051c", func := "locksmith/locksmithlaw13.AttrsIndexed", spec := "attrsIndexed", unfollowed := true, recurses := true, named := ["unicode/utf8.first", "unicode/utf8.acceptRanges"], apart := false, laid := [("unicode/utf8.acceptRanges", laid_unicode_utf8_acceptRanges), ("unicode/utf8.first", laid_unicode_utf8_first)] }
def AttrsIndexedSaid : Prop := attrsIndexedRow.holds Tryz.pinned (OpenSpec.ofChange attrsIndexedSpec)

/-- ITS FALSE NEIGHBOUR: 'it returns false'. Refute it at one input. -/
def attrsIndexedWrong : ChangeSpec := { name := "attrsIndexed", fn := fun _ => fun
  | [d1, d2] => { results := [.lit (.bool false)], args := [d1, d2] }
  | _ => none }
def AttrsIndexedWrongFalsely : Prop := attrsIndexedRow.holds Tryz.pinned (OpenSpec.ofChange attrsIndexedWrong)

/-- 'locksmithlaw13.AttrsTold': WHATEVER THE INPUT: true; the input reads as it did. -/
def attrsToldSpec : ChangeSpec := { name := "attrsTold", fn := fun _ => fun
  | [d1, d2, d3, d4] => { results := [.lit (.bool true)], args := [d1, d2, d3, d4] }
  | _ => none }
def attrsToldRow : OpenClaim := { program := "ytjhggnebkfpgcaagreatdoor", sum := "6f18dde09f3d87fd4070eee7a0d297a5c8a29c9e593d3ce7afc381682d84051c", func := "locksmith/locksmithlaw13.AttrsTold", spec := "attrsTold", unfollowed := true, recurses := true, named := ["locksmith/locksmithhand.names", "unicode/utf8.first", "unicode/utf8.acceptRanges"], apart := false, laid := [("unicode/utf8.acceptRanges", laid_unicode_utf8_acceptRanges), ("locksmith/locksmithhand.names", laid_locksmith_locksmithhand_names), ("unicode/utf8.first", laid_unicode_utf8_first)] }
def AttrsToldSaid : Prop := attrsToldRow.holds Tryz.pinned (OpenSpec.ofChange attrsToldSpec)

/-- ITS FALSE NEIGHBOUR: 'it returns false'. Refute it at one input. -/
def attrsToldWrong : ChangeSpec := { name := "attrsTold", fn := fun _ => fun
  | [d1, d2, d3, d4] => { results := [.lit (.bool false)], args := [d1, d2, d3, d4] }
  | _ => none }
def AttrsToldWrongFalsely : Prop := attrsToldRow.holds Tryz.pinned (OpenSpec.ofChange attrsToldWrong)

/-- 'locksmithlaw14.MatchTells': WHATEVER THE INPUT: true; the input reads as it did. -/
def matchTellsSpec : ChangeSpec := { name := "matchTells", fn := fun _ => fun
  | [d1, d2, d3, d4, d5] => { results := [.lit (.bool true)], args := [d1, d2, d3, d4, d5] }
  | _ => none }
def matchTellsRow : OpenClaim := { program := "ytjhggnebkfpgcaagreatdoor", sum := "6f18dde09f3d87fd4070eee7a0d297a5c8a29c9e593d3ce7afc381682d84051c", func := "locksmith/locksmithlaw14.MatchTells", spec := "matchTells", unfollowed := true, recurses := true, named := ["unicode/utf8.first", "unicode/utf8.acceptRanges"], apart := false, laid := [("unicode/utf8.acceptRanges", laid_unicode_utf8_acceptRanges), ("unicode/utf8.first", laid_unicode_utf8_first)] }
def MatchTellsSaid : Prop := matchTellsRow.holds Tryz.pinned (OpenSpec.ofChange matchTellsSpec)

/-- ITS FALSE NEIGHBOUR: 'it returns false'. Refute it at one input. -/
def matchTellsWrong : ChangeSpec := { name := "matchTells", fn := fun _ => fun
  | [d1, d2, d3, d4, d5] => { results := [.lit (.bool false)], args := [d1, d2, d3, d4, d5] }
  | _ => none }
def MatchTellsWrongFalsely : Prop := matchTellsRow.holds Tryz.pinned (OpenSpec.ofChange matchTellsWrong)

/-- 'locksmithlaw14.MatchKnown': WHATEVER THE INPUT: true; the input reads as it did. -/
def matchKnownSpec : ChangeSpec := { name := "matchKnown", fn := fun _ => fun
  | [] => { results := [.lit (.bool true)], args := [] }
  | _ => none }
def matchKnownRow : OpenClaim := { program := "ytjhggnebkfpgcaagreatdoor", sum := "6f18dde09f3d87fd4070eee7a0d297a5c8a29c9e593d3ce7afc381682d84051c", func := "locksmith/locksmithlaw14.MatchKnown", spec := "matchKnown", unfollowed := true, recurses := true, named := ["unicode/utf8.first", "unicode/utf8.acceptRanges"], apart := false, laid := [("unicode/utf8.acceptRanges", laid_unicode_utf8_acceptRanges), ("unicode/utf8.first", laid_unicode_utf8_first)] }
def MatchKnownSaid : Prop := matchKnownRow.holds Tryz.pinned (OpenSpec.ofChange matchKnownSpec)

/-- ITS FALSE NEIGHBOUR: 'it returns false'. Refute it at one input. -/
def matchKnownWrong : ChangeSpec := { name := "matchKnown", fn := fun _ => fun
  | [] => { results := [.lit (.bool false)], args := [] }
  | _ => none }
def MatchKnownWrongFalsely : Prop := matchKnownRow.holds Tryz.pinned (OpenSpec.ofChange matchKnownWrong)

/-- 'locksmithlaw14.MatchFinds': WHATEVER THE INPUT: true; the input reads as it did. -/
def matchFindsSpec : ChangeSpec := { name := "matchFinds", fn := fun _ => fun
  | [d1, d2, d3, d4, d5] => { results := [.lit (.bool true)], args := [d1, d2, d3, d4, d5] }
  | _ => none }
def matchFindsRow : OpenClaim := { program := "ytjhggnebkfpgcaagreatdoor", sum := "6f18dde09f3d87fd4070eee7a0d297a5c8a29c9e593d3ce7afc381682d84051c", func := "locksmith/locksmithlaw14.MatchFinds", spec := "matchFinds", unfollowed := true, recurses := true, named := ["locksmith/locksmithhand.names", "unicode/utf8.first", "unicode/utf8.acceptRanges"], apart := false, laid := [("unicode/utf8.acceptRanges", laid_unicode_utf8_acceptRanges), ("locksmith/locksmithhand.names", laid_locksmith_locksmithhand_names), ("unicode/utf8.first", laid_unicode_utf8_first)] }
def MatchFindsSaid : Prop := matchFindsRow.holds Tryz.pinned (OpenSpec.ofChange matchFindsSpec)

/-- ITS FALSE NEIGHBOUR: 'it returns false'. Refute it at one input. -/
def matchFindsWrong : ChangeSpec := { name := "matchFinds", fn := fun _ => fun
  | [d1, d2, d3, d4, d5] => { results := [.lit (.bool false)], args := [d1, d2, d3, d4, d5] }
  | _ => none }
def MatchFindsWrongFalsely : Prop := matchFindsRow.holds Tryz.pinned (OpenSpec.ofChange matchFindsWrong)

/-- 'locksmithlaw14.MatchAll': WHATEVER THE INPUT: true; the input reads as it did. -/
def matchAllSpec : ChangeSpec := { name := "matchAll", fn := fun _ => fun
  | [d1, d2, d3] => { results := [.lit (.bool true)], args := [d1, d2, d3] }
  | _ => none }
def matchAllRow : OpenClaim := { program := "ytjhggnebkfpgcaagreatdoor", sum := "6f18dde09f3d87fd4070eee7a0d297a5c8a29c9e593d3ce7afc381682d84051c", func := "locksmith/locksmithlaw14.MatchAll", spec := "matchAll", unfollowed := true, recurses := true, named := ["locksmith/locksmithhand.names", "unicode/utf8.first", "unicode/utf8.acceptRanges"], apart := false, laid := [("unicode/utf8.acceptRanges", laid_unicode_utf8_acceptRanges), ("locksmith/locksmithhand.names", laid_locksmith_locksmithhand_names), ("unicode/utf8.first", laid_unicode_utf8_first)] }
def MatchAllSaid : Prop := matchAllRow.holds Tryz.pinned (OpenSpec.ofChange matchAllSpec)

/-- ITS FALSE NEIGHBOUR: 'it returns false'. Refute it at one input. -/
def matchAllWrong : ChangeSpec := { name := "matchAll", fn := fun _ => fun
  | [d1, d2, d3] => { results := [.lit (.bool false)], args := [d1, d2, d3] }
  | _ => none }
def MatchAllWrongFalsely : Prop := matchAllRow.holds Tryz.pinned (OpenSpec.ofChange matchAllWrong)

/- THE SECOND FORM. 'bulk': how many values and letters a reading holds, each counted each time it is reached (what is shared counts as often as it is met; a slice's spare places count too). A statement '..UptoSaid' is the law's where the arguments, and the package variables that the reading takes, are together of bulk at most 1048576: NARROWER than '..Said'. Prove '..Said' where nothing that the law and all that it calls make is longer than what came in: it says more and counts as full. Else prove '..UptoSaid'. A law counts once. -/
mutual
def uptoBulk {H : Type} : DataW H → Nat
  | .lit (.string bytes) => bytes.length + 1
  | .lit _ => 1
  | .nil => 1
  | .ptr d => uptoBulk d + 1
  | .slice elems spare => uptoBulkAll elems + uptoBulkAll spare + 1
  | .agg parts => uptoBulkAll parts + 1
  | .iface _ d => uptoBulk d + 1
  | .map entries => uptoBulkEntries entries + 1
  | .held _ => 1
def uptoBulkAll {H : Type} : List (DataW H) → Nat
  | [] => 0
  | d :: r => uptoBulk d + uptoBulkAll r
def uptoBulkEntries {H : Type} : List (Lit × DataW H) → Nat
  | [] => 0
  | x :: r => uptoBulkEntry x + uptoBulkEntries r
def uptoBulkEntry {H : Type} : Lit × DataW H → Nat
  | (.string bytes, d) => bytes.length + uptoBulk d + 1
  | (_, d) => uptoBulk d + 1
 end
def uptoSmall : (H : Type) → List (DataW H) → Bool := fun _ ds => decide (uptoBulkAll ds ≤ 1048576)
def OpenSpec.upto (s : _root_.Go.ChangeSpec) : _root_.Go.OpenSpec := { _root_.Go.OpenSpec.ofChange s with cond := some uptoSmall }

/-- 'locksmithlaw13.AttrsSets', WHERE WHAT IT READS IS OF BULK AT MOST 1048576: true; the input reads as it did. -/
def attrsSetsUptoRow : OpenClaim := { program := "ytjhggnebkfpgcaagreatdoor", sum := "6f18dde09f3d87fd4070eee7a0d297a5c8a29c9e593d3ce7afc381682d84051c", func := "locksmith/locksmithlaw13.AttrsSets", spec := "attrsSets", unfollowed := true, recurses := true, named := ["locksmith/locksmithhand.names", "unicode/utf8.first", "unicode/utf8.acceptRanges"], apart := false, laid := [("unicode/utf8.acceptRanges", laid_unicode_utf8_acceptRanges), ("locksmith/locksmithhand.names", laid_locksmith_locksmithhand_names), ("unicode/utf8.first", laid_unicode_utf8_first)], narrowed := true }
def AttrsSetsUptoSaid : Prop := attrsSetsUptoRow.holds Tryz.pinned (OpenSpec.upto attrsSetsSpec)

/-- 'locksmithlaw13.AttrsSound', WHERE WHAT IT READS IS OF BULK AT MOST 1048576: true; the input reads as it did. -/
def attrsSoundUptoRow : OpenClaim := { program := "ytjhggnebkfpgcaagreatdoor", sum := "6f18dde09f3d87fd4070eee7a0d297a5c8a29c9e593d3ce7afc381682d84051c", func := "locksmith/locksmithlaw13.AttrsSound", spec := "attrsSound", unfollowed := true, recurses := true, named := ["locksmith/locksmithhand.names", "unicode/utf8.first", "unicode/utf8.acceptRanges"], apart := false, laid := [("unicode/utf8.acceptRanges", laid_unicode_utf8_acceptRanges), ("locksmith/locksmithhand.names", laid_locksmith_locksmithhand_names), ("unicode/utf8.first", laid_unicode_utf8_first)], narrowed := true }
def AttrsSoundUptoSaid : Prop := attrsSoundUptoRow.holds Tryz.pinned (OpenSpec.upto attrsSoundSpec)

/-- 'locksmithlaw13.AttrsChanges', WHERE WHAT IT READS IS OF BULK AT MOST 1048576: true; the input reads as it did. -/
def attrsChangesUptoRow : OpenClaim := { program := "ytjhggnebkfpgcaagreatdoor", sum := "6f18dde09f3d87fd4070eee7a0d297a5c8a29c9e593d3ce7afc381682d84051c", func := "locksmith/locksmithlaw13.AttrsChanges", spec := "attrsChanges", unfollowed := true, recurses := true, named := ["locksmith/locksmithhand.names", "unicode/utf8.first", "unicode/utf8.acceptRanges"], apart := false, laid := [("unicode/utf8.acceptRanges", laid_unicode_utf8_acceptRanges), ("locksmith/locksmithhand.names", laid_locksmith_locksmithhand_names), ("unicode/utf8.first", laid_unicode_utf8_first)], narrowed := true }
def AttrsChangesUptoSaid : Prop := attrsChangesUptoRow.holds Tryz.pinned (OpenSpec.upto attrsChangesSpec)

/-- 'locksmithlaw13.AttrsBack', WHERE WHAT IT READS IS OF BULK AT MOST 1048576: true; the input reads as it did. -/
def attrsBackUptoRow : OpenClaim := { program := "ytjhggnebkfpgcaagreatdoor", sum := "6f18dde09f3d87fd4070eee7a0d297a5c8a29c9e593d3ce7afc381682d84051c", func := "locksmith/locksmithlaw13.AttrsBack", spec := "attrsBack", unfollowed := true, recurses := true, named := ["locksmith/locksmithhand.names", "unicode/utf8.first", "unicode/utf8.acceptRanges"], apart := false, laid := [("unicode/utf8.acceptRanges", laid_unicode_utf8_acceptRanges), ("locksmith/locksmithhand.names", laid_locksmith_locksmithhand_names), ("unicode/utf8.first", laid_unicode_utf8_first)], narrowed := true }
def AttrsBackUptoSaid : Prop := attrsBackUptoRow.holds Tryz.pinned (OpenSpec.upto attrsBackSpec)

/-- 'locksmithlaw13.AttrsItems', WHERE WHAT IT READS IS OF BULK AT MOST 1048576: true; the input reads as it did. -/
def attrsItemsUptoRow : OpenClaim := { program := "ytjhggnebkfpgcaagreatdoor", sum := "6f18dde09f3d87fd4070eee7a0d297a5c8a29c9e593d3ce7afc381682d84051c", func := "locksmith/locksmithlaw13.AttrsItems", spec := "attrsItems", unfollowed := true, recurses := true, named := ["locksmith/locksmithhand.names", "unicode/utf8.first", "unicode/utf8.acceptRanges"], apart := false, laid := [("unicode/utf8.acceptRanges", laid_unicode_utf8_acceptRanges), ("locksmith/locksmithhand.names", laid_locksmith_locksmithhand_names), ("unicode/utf8.first", laid_unicode_utf8_first)], narrowed := true }
def AttrsItemsUptoSaid : Prop := attrsItemsUptoRow.holds Tryz.pinned (OpenSpec.upto attrsItemsSpec)

/-- 'locksmithlaw13.AttrsReadBack', WHERE WHAT IT READS IS OF BULK AT MOST 1048576: true; the input reads as it did. -/
def attrsReadBackUptoRow : OpenClaim := { program := "ytjhggnebkfpgcaagreatdoor", sum := "6f18dde09f3d87fd4070eee7a0d297a5c8a29c9e593d3ce7afc381682d84051c", func := "locksmith/locksmithlaw13.AttrsReadBack", spec := "attrsReadBack", unfollowed := true, recurses := true, named := ["locksmith/locksmithhand.names", "unicode/utf8.first", "unicode/utf8.acceptRanges"], apart := false, laid := [("unicode/utf8.acceptRanges", laid_unicode_utf8_acceptRanges), ("locksmith/locksmithhand.names", laid_locksmith_locksmithhand_names), ("unicode/utf8.first", laid_unicode_utf8_first)], narrowed := true }
def AttrsReadBackUptoSaid : Prop := attrsReadBackUptoRow.holds Tryz.pinned (OpenSpec.upto attrsReadBackSpec)

/-- 'locksmithlaw13.AttrsIndexed', WHERE WHAT IT READS IS OF BULK AT MOST 1048576: true; the input reads as it did. -/
def attrsIndexedUptoRow : OpenClaim := { program := "ytjhggnebkfpgcaagreatdoor", sum := "6f18dde09f3d87fd4070eee7a0d297a5c8a29c9e593d3ce7afc381682d84051c", func := "locksmith/locksmithlaw13.AttrsIndexed", spec := "attrsIndexed", unfollowed := true, recurses := true, named := ["unicode/utf8.first", "unicode/utf8.acceptRanges"], apart := false, laid := [("unicode/utf8.acceptRanges", laid_unicode_utf8_acceptRanges), ("unicode/utf8.first", laid_unicode_utf8_first)], narrowed := true }
def AttrsIndexedUptoSaid : Prop := attrsIndexedUptoRow.holds Tryz.pinned (OpenSpec.upto attrsIndexedSpec)

/-- 'locksmithlaw13.AttrsTold', WHERE WHAT IT READS IS OF BULK AT MOST 1048576: true; the input reads as it did. -/
def attrsToldUptoRow : OpenClaim := { program := "ytjhggnebkfpgcaagreatdoor", sum := "6f18dde09f3d87fd4070eee7a0d297a5c8a29c9e593d3ce7afc381682d84051c", func := "locksmith/locksmithlaw13.AttrsTold", spec := "attrsTold", unfollowed := true, recurses := true, named := ["locksmith/locksmithhand.names", "unicode/utf8.first", "unicode/utf8.acceptRanges"], apart := false, laid := [("unicode/utf8.acceptRanges", laid_unicode_utf8_acceptRanges), ("locksmith/locksmithhand.names", laid_locksmith_locksmithhand_names), ("unicode/utf8.first", laid_unicode_utf8_first)], narrowed := true }
def AttrsToldUptoSaid : Prop := attrsToldUptoRow.holds Tryz.pinned (OpenSpec.upto attrsToldSpec)

/-- 'locksmithlaw14.MatchTells', WHERE WHAT IT READS IS OF BULK AT MOST 1048576: true; the input reads as it did. -/
def matchTellsUptoRow : OpenClaim := { program := "ytjhggnebkfpgcaagreatdoor", sum := "6f18dde09f3d87fd4070eee7a0d297a5c8a29c9e593d3ce7afc381682d84051c", func := "locksmith/locksmithlaw14.MatchTells", spec := "matchTells", unfollowed := true, recurses := true, named := ["unicode/utf8.first", "unicode/utf8.acceptRanges"], apart := false, laid := [("unicode/utf8.acceptRanges", laid_unicode_utf8_acceptRanges), ("unicode/utf8.first", laid_unicode_utf8_first)], narrowed := true }
def MatchTellsUptoSaid : Prop := matchTellsUptoRow.holds Tryz.pinned (OpenSpec.upto matchTellsSpec)

/-- 'locksmithlaw14.MatchKnown', WHERE WHAT IT READS IS OF BULK AT MOST 1048576: true; the input reads as it did. -/
def matchKnownUptoRow : OpenClaim := { program := "ytjhggnebkfpgcaagreatdoor", sum := "6f18dde09f3d87fd4070eee7a0d297a5c8a29c9e593d3ce7afc381682d84051c", func := "locksmith/locksmithlaw14.MatchKnown", spec := "matchKnown", unfollowed := true, recurses := true, named := ["unicode/utf8.first", "unicode/utf8.acceptRanges"], apart := false, laid := [("unicode/utf8.acceptRanges", laid_unicode_utf8_acceptRanges), ("unicode/utf8.first", laid_unicode_utf8_first)], narrowed := true }
def MatchKnownUptoSaid : Prop := matchKnownUptoRow.holds Tryz.pinned (OpenSpec.upto matchKnownSpec)

/-- 'locksmithlaw14.MatchFinds', WHERE WHAT IT READS IS OF BULK AT MOST 1048576: true; the input reads as it did. -/
def matchFindsUptoRow : OpenClaim := { program := "ytjhggnebkfpgcaagreatdoor", sum := "6f18dde09f3d87fd4070eee7a0d297a5c8a29c9e593d3ce7afc381682d84051c", func := "locksmith/locksmithlaw14.MatchFinds", spec := "matchFinds", unfollowed := true, recurses := true, named := ["locksmith/locksmithhand.names", "unicode/utf8.first", "unicode/utf8.acceptRanges"], apart := false, laid := [("unicode/utf8.acceptRanges", laid_unicode_utf8_acceptRanges), ("locksmith/locksmithhand.names", laid_locksmith_locksmithhand_names), ("unicode/utf8.first", laid_unicode_utf8_first)], narrowed := true }
def MatchFindsUptoSaid : Prop := matchFindsUptoRow.holds Tryz.pinned (OpenSpec.upto matchFindsSpec)

/-- 'locksmithlaw14.MatchAll', WHERE WHAT IT READS IS OF BULK AT MOST 1048576: true; the input reads as it did. -/
def matchAllUptoRow : OpenClaim := { program := "ytjhggnebkfpgcaagreatdoor", sum := "6f18dde09f3d87fd4070eee7a0d297a5c8a29c9e593d3ce7afc381682d84051c", func := "locksmith/locksmithlaw14.MatchAll", spec := "matchAll", unfollowed := true, recurses := true, named := ["locksmith/locksmithhand.names", "unicode/utf8.first", "unicode/utf8.acceptRanges"], apart := false, laid := [("unicode/utf8.acceptRanges", laid_unicode_utf8_acceptRanges), ("locksmith/locksmithhand.names", laid_locksmith_locksmithhand_names), ("unicode/utf8.first", laid_unicode_utf8_first)], narrowed := true }
def MatchAllUptoSaid : Prop := matchAllUptoRow.holds Tryz.pinned (OpenSpec.upto matchAllSpec)

end Rows
end Go.Proofs.YtjhggnebkfpgcaaGreatDoor
