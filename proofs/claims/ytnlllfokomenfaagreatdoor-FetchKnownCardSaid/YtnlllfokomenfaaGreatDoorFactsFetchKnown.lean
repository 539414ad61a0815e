/- What is asked of the row's own cells, one by one. -/
import Derived.Test.YtnlllfokomenfaaGreatDoorRows
import Derived.ProofKit
import Derived.KernelRfl
import Derived.JoinedOf
import Derived.SevenTiedAt
namespace Go.Proofs.YtnlllfokomenfaaGreatDoor
open Go.ChangeShapes Go.WideShapes Go.ChangeAt Go.RowKit

theorem both {a b : Bool} (ha : a = true) (hb : b = true) : (a && b) = true := by rw [ha, hb]; rfl
set_option maxRecDepth 100000 in
theorem fact0 : (Rows.fetchKnownRow.wf (OpenSpec.ofChange Rows.fetchKnownSpec)) = true := by kernel_rfl
set_option maxRecDepth 100000 in
theorem fact1 : (laidOutB Tryz.prog) = true := by kernel_rfl
set_option maxRecDepth 100000 in
theorem fact2 : (mapsRowed Tryz.prog) = true := by kernel_rfl
set_option maxRecDepth 100000 in
theorem fact3 : (Tryz.f3.params.all (Tryz.prog.readableRec ·)) = true := by kernel_rfl
set_option maxRecDepth 100000 in
theorem fact4 : (namedTie Tryz.prog Rows.fetchKnownRow.named Rows.fetchKnownSpec.vars) = true := by kernel_rfl
set_option maxRecDepth 100000 in
theorem fact5 : ((Rows.fetchKnownRow.stops == [])) = true := by kernel_rfl
set_option maxRecDepth 100000 in
theorem fact6 : ((Tryz.prog.stops == [])) = true := by kernel_rfl
set_option maxRecDepth 100000 in
theorem fact7 : ((Rows.fetchKnownRow.knobs == [])) = true := by kernel_rfl
set_option maxRecDepth 100000 in
theorem fact8 : ((Tryz.prog.stopKnobs == [])) = true := by kernel_rfl
set_option maxRecDepth 100000 in
theorem fact9 : ((Rows.fetchKnownRow.inPlace == Tryz.prog.inPlace 3)) = true := by kernel_rfl
set_option maxRecDepth 100000 in
theorem fact10 : ((Rows.fetchKnownRow.unfollowed == Tryz.prog.unfollowed 3)) = true := by kernel_rfl
set_option maxRecDepth 100000 in
theorem fact11 : ((Rows.fetchKnownRow.recurses == Tryz.prog.recurses 3)) = true := by kernel_rfl
set_option maxRecDepth 100000 in
theorem fact12 : ((Rows.fetchKnownRow.named == Tryz.prog.varsNamed 3)) = true := by kernel_rfl
set_option maxRecDepth 100000 in
theorem fact13 : ((Rows.fetchKnownRow.maps == (Tryz.f3.params.toList ++ Rows.fetchKnownSpec.plain.varTypes Tryz.prog).any (Tryz.prog.mapsRec ·))) = true := by kernel_rfl
set_option maxRecDepth 100000 in
theorem fact14 : ((Rows.fetchKnownRow.ifaces == (Tryz.f3.params.toList ++ Rows.fetchKnownSpec.plain.varTypes Tryz.prog).any (Tryz.prog.ifacesRec ·))) = true := by kernel_rfl
set_option maxRecDepth 100000 in
theorem fact15 : ((Rows.fetchKnownRow.mapsOut == Tryz.prog.mapsAmong Tryz.f3.resultTypes.toList)) = true := by kernel_rfl
set_option maxRecDepth 100000 in
theorem fact16 : ((Rows.fetchKnownRow.loops == (Tryz.f3.params.toList ++ Rows.fetchKnownSpec.plain.varTypes Tryz.prog).any (Tryz.prog.loopsFrom ·))) = true := by kernel_rfl
set_option maxRecDepth 100000 in
theorem fact17 : ((Rows.fetchKnownRow.wideKeys == (Tryz.f3.params.toList ++ Rows.fetchKnownSpec.plain.varTypes Tryz.prog ++ Tryz.f3.resultTypes.toList).any (Tryz.prog.wideKeysFrom ·))) = true := by kernel_rfl
set_option maxRecDepth 100000 in
theorem fact18 : (Rows.fetchKnownSpec.vars.all (Tryz.prog.varReadable ·)) = true := by kernel_rfl
set_option maxRecDepth 100000 in
theorem fact19 : (Tryz.f3.resultTypes.all (fun t => Tryz.prog.readableRec t && decide (t < Tryz.prog.types.size))) = true := by kernel_rfl
set_option maxRecDepth 100000 in
theorem fact20 : ((Rows.fetchKnownRow.ifacesOut == Tryz.f3.resultTypes.toList.any (Tryz.prog.ifacesRec ·))) = true := by kernel_rfl
set_option maxRecDepth 100000 in
theorem fact21 : ((Rows.fetchKnownRow.loopsOut == Tryz.f3.resultTypes.toList.any (Tryz.prog.loopsFrom ·))) = true := by kernel_rfl
set_option maxRecDepth 100000 in
theorem fact22 : ((Rows.fetchKnownRow.plainKeys == Tryz.prog.plainKeys)) = true := by kernel_rfl
set_option maxRecDepth 100000 in
theorem fact23 : (Rows.fetchKnownRow.shortTexts.isNone) = true := by kernel_rfl
set_option maxRecDepth 100000 in
theorem fact24 : (Tryz.prog.stopsHeard) = true := by kernel_rfl
set_option maxRecDepth 100000 in
theorem fact25 : (Tryz.prog.mayEnter) = true := by kernel_rfl
set_option maxRecDepth 100000 in
theorem fact26 : ((Rows.fetchKnownRow.lifted == Tryz.prog.liftsFinal)) = true := by kernel_rfl
set_option maxRecDepth 100000 in
theorem fact27 : ((Tryz.prog.make == some Rows.fetchKnownRow.make)) = true := by kernel_rfl
set_option maxRecDepth 100000 in
theorem fact28 : ((Rows.fetchKnownRow.kinds == (if Rows.fetchKnownRow.domain.isEmpty then [] else Tryz.f3.params.toList.map fun t => match Tryz.prog.underlying t with | some (.int k) => some k | _ => none))) = true := by kernel_rfl
set_option maxRecDepth 100000 in
theorem fact29 : ((Rows.fetchKnownRow.pinned == Rows.fetchKnownRow.pinnedBy)) = true := by kernel_rfl
set_option maxRecDepth 100000 in
theorem fact30 : ((Rows.fetchKnownRow.veiled == (Tryz.f3.params.toList ++ Rows.fetchKnownSpec.plain.varTypes Tryz.prog ++ Tryz.f3.resultTypes.toList).any (Tryz.prog.veiledRec ·))) = true := by kernel_rfl
set_option maxRecDepth 100000 in
theorem fact31 : (Rows.fetchKnownRow.veiledFits Tryz.prog Tryz.f3.params.toList (Tryz.f3.params.toList ++ Rows.fetchKnownSpec.plain.varTypes Tryz.prog ++ Tryz.f3.resultTypes.toList)) = true := by kernel_rfl
set_option maxRecDepth 100000 in
theorem q_name : Tryz.pinned.checked.prog.funcNamed Rows.fetchKnownRow.func = some 3 := by kernel_rfl
set_option maxRecDepth 100000 in
theorem q_main : Tryz.pinned.checked.prog.mainIs = some ((true, "2c19a41363eec87ab42284382d09c9cf32c0dd9d666397a2cc11aa5726042418").1, (true, "2c19a41363eec87ab42284382d09c9cf32c0dd9d666397a2cc11aa5726042418").2.toList) := by kernel_rfl
set_option maxRecDepth 100000 in
theorem q_wf : Rows.fetchKnownRow.wfByText (OpenSpec.ofChange Rows.fetchKnownSpec) = true := by kernel_rfl
set_option maxRecDepth 100000 in
theorem q_looks : true = Tryz.pinned.checked.prog.looks [] := by kernel_rfl
set_option maxRecDepth 100000 in
theorem q_goes : false = Rows.fetchKnownRow.goesBy Tryz.pinned.checked.prog := by kernel_rfl
set_option maxRecDepth 100000 in
theorem q_said : Tryz.prog.funcNamed "locksmith/locksmithlaw20.FetchKnown" = some 3 := by kernel_rfl
set_option maxRecDepth 100000 in
theorem q_inst : Tryz.f3.isInstance Tryz.pinned.checked.prog Rows.fetchKnownRow.origin Rows.fetchKnownRow.targs := of_decide_eq_true (by kernel_rfl)
set_option maxRecDepth 100000 in
theorem q_wrap : Tryz.f3.isWrapper Tryz.pinned.checked.prog Rows.fetchKnownRow.wrapper Rows.fetchKnownRow.mainSum := of_decide_eq_true (by kernel_rfl)
set_option maxRecDepth 100000 in
theorem facts : joinedFacts Tryz.prog 3 Tryz.f3 Rows.fetchKnownSpec Rows.fetchKnownRow = true := by
  unfold joinedFacts
  exact (both (both (both (both (both (both (both (both (both (both (both (both (both (both (both (both (both (both (both (both (both (both (both (both (both (both (both (both (both (both (both fact0 fact1) fact2) fact3) fact4) fact5) fact6) fact7) fact8) fact9) fact10) fact11) fact12) fact13) fact14) fact15) fact16) fact17) fact18) fact19) fact20) fact21) fact22) fact23) fact24) fact25) fact26) fact27) fact28) fact29) fact30) fact31)

end Go.Proofs.YtnlllfokomenfaaGreatDoor
