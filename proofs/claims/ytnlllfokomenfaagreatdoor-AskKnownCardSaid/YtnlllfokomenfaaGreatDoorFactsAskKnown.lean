/- What is asked of the row's own cells, one by one. -/
import Derived.Test.YtnlllfokomenfaaGreatDoorRows
import Derived.ProofKit
import Derived.KernelRfl
import Derived.JoinedOf
import Derived.SevenTiedAt
namespace Go.Proofs.YtnlllfokomenfaaGreatDoor
open Go.ChangeShapes Go.WideShapes Go.ChangeAt Go.RowKit

theorem both {a b : Bool} (ha : a = true) (hb : b = true) : (a && b) = true := by rw [ha, hb]; rfl
set_option maxRecDepth 100000 in
theorem fact0 : (Rows.askKnownRow.wf (OpenSpec.ofChange Rows.askKnownSpec)) = true := by kernel_rfl
set_option maxRecDepth 100000 in
theorem fact1 : (laidOutB Tryz.prog) = true := by kernel_rfl
set_option maxRecDepth 100000 in
theorem fact2 : (mapsRowed Tryz.prog) = true := by kernel_rfl
set_option maxRecDepth 100000 in
theorem fact3 : (Tryz.f7.params.all (Tryz.prog.readableRec ·)) = true := by kernel_rfl
set_option maxRecDepth 100000 in
theorem fact4 : (namedTie Tryz.prog Rows.askKnownRow.named Rows.askKnownSpec.vars) = true := by kernel_rfl
set_option maxRecDepth 100000 in
theorem fact5 : ((Rows.askKnownRow.stops == [])) = true := by kernel_rfl
set_option maxRecDepth 100000 in
theorem fact6 : ((Tryz.prog.stops == [])) = true := by kernel_rfl
set_option maxRecDepth 100000 in
theorem fact7 : ((Rows.askKnownRow.knobs == [])) = true := by kernel_rfl
set_option maxRecDepth 100000 in
theorem fact8 : ((Tryz.prog.stopKnobs == [])) = true := by kernel_rfl
set_option maxRecDepth 100000 in
theorem fact9 : ((Rows.askKnownRow.inPlace == Tryz.prog.inPlace 7)) = true := by kernel_rfl
set_option maxRecDepth 100000 in
theorem fact10 : ((Rows.askKnownRow.unfollowed == Tryz.prog.unfollowed 7)) = true := by kernel_rfl
set_option maxRecDepth 100000 in
theorem fact11 : ((Rows.askKnownRow.recurses == Tryz.prog.recurses 7)) = true := by kernel_rfl
set_option maxRecDepth 100000 in
theorem fact12 : ((Rows.askKnownRow.named == Tryz.prog.varsNamed 7)) = true := by kernel_rfl
set_option maxRecDepth 100000 in
theorem fact13 : ((Rows.askKnownRow.maps == (Tryz.f7.params.toList ++ Rows.askKnownSpec.plain.varTypes Tryz.prog).any (Tryz.prog.mapsRec ·))) = true := by kernel_rfl
set_option maxRecDepth 100000 in
theorem fact14 : ((Rows.askKnownRow.ifaces == (Tryz.f7.params.toList ++ Rows.askKnownSpec.plain.varTypes Tryz.prog).any (Tryz.prog.ifacesRec ·))) = true := by kernel_rfl
set_option maxRecDepth 100000 in
theorem fact15 : ((Rows.askKnownRow.mapsOut == Tryz.prog.mapsAmong Tryz.f7.resultTypes.toList)) = true := by kernel_rfl
set_option maxRecDepth 100000 in
theorem fact16 : ((Rows.askKnownRow.loops == (Tryz.f7.params.toList ++ Rows.askKnownSpec.plain.varTypes Tryz.prog).any (Tryz.prog.loopsFrom ·))) = true := by kernel_rfl
set_option maxRecDepth 100000 in
theorem fact17 : ((Rows.askKnownRow.wideKeys == (Tryz.f7.params.toList ++ Rows.askKnownSpec.plain.varTypes Tryz.prog ++ Tryz.f7.resultTypes.toList).any (Tryz.prog.wideKeysFrom ·))) = true := by kernel_rfl
set_option maxRecDepth 100000 in
theorem fact18 : (Rows.askKnownSpec.vars.all (Tryz.prog.varReadable ·)) = true := by kernel_rfl
set_option maxRecDepth 100000 in
theorem fact19 : (Tryz.f7.resultTypes.all (fun t => Tryz.prog.readableRec t && decide (t < Tryz.prog.types.size))) = true := by kernel_rfl
set_option maxRecDepth 100000 in
theorem fact20 : ((Rows.askKnownRow.ifacesOut == Tryz.f7.resultTypes.toList.any (Tryz.prog.ifacesRec ·))) = true := by kernel_rfl
set_option maxRecDepth 100000 in
theorem fact21 : ((Rows.askKnownRow.loopsOut == Tryz.f7.resultTypes.toList.any (Tryz.prog.loopsFrom ·))) = true := by kernel_rfl
set_option maxRecDepth 100000 in
theorem fact22 : ((Rows.askKnownRow.plainKeys == Tryz.prog.plainKeys)) = true := by kernel_rfl
set_option maxRecDepth 100000 in
theorem fact23 : (Rows.askKnownRow.shortTexts.isNone) = true := by kernel_rfl
set_option maxRecDepth 100000 in
theorem fact24 : (Tryz.prog.stopsHeard) = true := by kernel_rfl
set_option maxRecDepth 100000 in
theorem fact25 : (Tryz.prog.mayEnter) = true := by kernel_rfl
set_option maxRecDepth 100000 in
theorem fact26 : ((Rows.askKnownRow.lifted == Tryz.prog.liftsFinal)) = true := by kernel_rfl
set_option maxRecDepth 100000 in
theorem fact27 : ((Tryz.prog.make == some Rows.askKnownRow.make)) = true := by kernel_rfl
set_option maxRecDepth 100000 in
theorem fact28 : ((Rows.askKnownRow.kinds == (if Rows.askKnownRow.domain.isEmpty then [] else Tryz.f7.params.toList.map fun t => match Tryz.prog.underlying t with | some (.int k) => some k | _ => none))) = true := by kernel_rfl
set_option maxRecDepth 100000 in
theorem fact29 : ((Rows.askKnownRow.pinned == Rows.askKnownRow.pinnedBy)) = true := by kernel_rfl
set_option maxRecDepth 100000 in
theorem fact30 : ((Rows.askKnownRow.veiled == (Tryz.f7.params.toList ++ Rows.askKnownSpec.plain.varTypes Tryz.prog ++ Tryz.f7.resultTypes.toList).any (Tryz.prog.veiledRec ·))) = true := by kernel_rfl
set_option maxRecDepth 100000 in
theorem fact31 : (Rows.askKnownRow.veiledFits Tryz.prog Tryz.f7.params.toList (Tryz.f7.params.toList ++ Rows.askKnownSpec.plain.varTypes Tryz.prog ++ Tryz.f7.resultTypes.toList)) = true := by kernel_rfl
set_option maxRecDepth 100000 in
theorem q_name : Tryz.pinned.checked.prog.funcNamed Rows.askKnownRow.func = some 7 := by kernel_rfl
set_option maxRecDepth 100000 in
theorem q_main : Tryz.pinned.checked.prog.mainIs = some ((true, "2c19a41363eec87ab42284382d09c9cf32c0dd9d666397a2cc11aa5726042418").1, (true, "2c19a41363eec87ab42284382d09c9cf32c0dd9d666397a2cc11aa5726042418").2.toList) := by kernel_rfl
set_option maxRecDepth 100000 in
theorem q_wf : Rows.askKnownRow.wfByText (OpenSpec.ofChange Rows.askKnownSpec) = true := by kernel_rfl
set_option maxRecDepth 100000 in
theorem q_looks : true = Tryz.pinned.checked.prog.looks [] := by kernel_rfl
set_option maxRecDepth 100000 in
theorem q_said : Tryz.prog.funcNamed "locksmith/locksmithlaw25.AskKnown" = some 7 := by kernel_rfl
set_option maxRecDepth 100000 in
theorem q_inst : Tryz.f7.isInstance Tryz.pinned.checked.prog Rows.askKnownRow.origin Rows.askKnownRow.targs := of_decide_eq_true (by kernel_rfl)
set_option maxRecDepth 100000 in
theorem q_wrap : Tryz.f7.isWrapper Tryz.pinned.checked.prog Rows.askKnownRow.wrapper Rows.askKnownRow.mainSum := of_decide_eq_true (by kernel_rfl)
theorem goesAt_quiet {P : Program} (h : P.funcs.any Func.goes = false) (s : String) : P.goesAt .entering s = false := by
  have hg : ∀ f, P.goes f = false := fun f => by
    unfold Program.goes
    rw [h, Bool.and_false, Bool.or_false, List.any_eq_false]
    intro g _ hx
    rw [Option.any_eq_true] at hx
    obtain ⟨fn, hfn, hx⟩ := hx
    rw [Array.any_eq_false] at h
    obtain ⟨hlt, he⟩ := Array.getElem?_eq_some_iff.1 hfn
    exact h g hlt (he ▸ hx)
  unfold Program.goesAt Program.goesFrom
  cases P.funcNamed s with
  | none => rfl
  | some f => simp [hg f]
set_option maxRecDepth 100000 in
theorem quiet : Tryz.pinned.checked.prog.funcs.any Func.goes = false := by kernel_rfl
theorem q_goes : false = Rows.askKnownRow.goesBy Tryz.pinned.checked.prog := (goesAt_quiet quiet _).symm
set_option maxRecDepth 100000 in
theorem facts : joinedFacts Tryz.prog 7 Tryz.f7 Rows.askKnownSpec Rows.askKnownRow = true := by
  unfold joinedFacts
  exact (both (both (both (both (both (both (both (both (both (both (both (both (both (both (both (both (both (both (both (both (both (both (both (both (both (both (both (both (both (both (both fact0 fact1) fact2) fact3) fact4) fact5) fact6) fact7) fact8) fact9) fact10) fact11) fact12) fact13) fact14) fact15) fact16) fact17) fact18) fact19) fact20) fact21) fact22) fact23) fact24) fact25) fact26) fact27) fact28) fact29) fact30) fact31)

end Go.Proofs.YtnlllfokomenfaaGreatDoor
