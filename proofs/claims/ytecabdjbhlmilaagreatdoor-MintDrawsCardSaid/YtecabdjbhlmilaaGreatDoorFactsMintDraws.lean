/- What is asked of the row's own cells, one by one. -/
import Derived.Test.YtecabdjbhlmilaaGreatDoorRows
import Derived.ProofKit
import Derived.KernelRfl
import Derived.JoinedOf
import Derived.SevenTiedAt
namespace Go.Proofs.YtecabdjbhlmilaaGreatDoor
open Go.ChangeShapes Go.WideShapes Go.ChangeAt Go.RowKit

theorem both {a b : Bool} (ha : a = true) (hb : b = true) : (a && b) = true := by rw [ha, hb]; rfl
set_option maxRecDepth 100000 in
theorem fact0 : (Rows.mintDrawsRow.wf (OpenSpec.ofChange Rows.mintDrawsSpec)) = true := by kernel_rfl
set_option maxRecDepth 100000 in
theorem fact1 : (laidOutB Tryz.prog) = true := by kernel_rfl
set_option maxRecDepth 100000 in
theorem fact2 : (mapsRowed Tryz.prog) = true := by kernel_rfl
set_option maxRecDepth 100000 in
theorem fact3 : (Tryz.f3.params.all (Tryz.prog.readableRec ·)) = true := by kernel_rfl
set_option maxRecDepth 100000 in
theorem fact4 : (namedTie Tryz.prog Rows.mintDrawsRow.named Rows.mintDrawsSpec.vars) = true := by kernel_rfl
set_option maxRecDepth 100000 in
theorem fact5 : ((Rows.mintDrawsRow.stops == [])) = true := by kernel_rfl
set_option maxRecDepth 100000 in
theorem fact6 : ((Tryz.prog.stops == [])) = true := by kernel_rfl
set_option maxRecDepth 100000 in
theorem fact7 : ((Rows.mintDrawsRow.knobs == [])) = true := by kernel_rfl
set_option maxRecDepth 100000 in
theorem fact8 : ((Tryz.prog.stopKnobs == [])) = true := by kernel_rfl
set_option maxRecDepth 100000 in
theorem fact9 : ((Rows.mintDrawsRow.inPlace == Tryz.prog.inPlace 3)) = true := by kernel_rfl
set_option maxRecDepth 100000 in
theorem fact10 : ((Rows.mintDrawsRow.unfollowed == Tryz.prog.unfollowed 3)) = true := by kernel_rfl
set_option maxRecDepth 100000 in
theorem fact11 : ((Rows.mintDrawsRow.recurses == Tryz.prog.recurses 3)) = true := by kernel_rfl
set_option maxRecDepth 100000 in
theorem fact12 : ((Rows.mintDrawsRow.named == Tryz.prog.varsNamed 3)) = true := by kernel_rfl
set_option maxRecDepth 100000 in
theorem fact13 : ((Rows.mintDrawsRow.maps == (Tryz.f3.params.toList ++ Rows.mintDrawsSpec.plain.varTypes Tryz.prog).any (Tryz.prog.mapsRec ·))) = true := by kernel_rfl
set_option maxRecDepth 100000 in
theorem fact14 : ((Rows.mintDrawsRow.ifaces == (Tryz.f3.params.toList ++ Rows.mintDrawsSpec.plain.varTypes Tryz.prog).any (Tryz.prog.ifacesRec ·))) = true := by kernel_rfl
set_option maxRecDepth 100000 in
theorem fact15 : ((Rows.mintDrawsRow.mapsOut == Tryz.prog.mapsAmong Tryz.f3.resultTypes.toList)) = true := by kernel_rfl
set_option maxRecDepth 100000 in
theorem fact16 : ((Rows.mintDrawsRow.loops == (Tryz.f3.params.toList ++ Rows.mintDrawsSpec.plain.varTypes Tryz.prog).any (Tryz.prog.loopsFrom ·))) = true := by kernel_rfl
set_option maxRecDepth 100000 in
theorem fact17 : ((Rows.mintDrawsRow.wideKeys == (Tryz.f3.params.toList ++ Rows.mintDrawsSpec.plain.varTypes Tryz.prog ++ Tryz.f3.resultTypes.toList).any (Tryz.prog.wideKeysFrom ·))) = true := by kernel_rfl
set_option maxRecDepth 100000 in
theorem fact18 : (Rows.mintDrawsSpec.vars.all (Tryz.prog.varReadable ·)) = true := by kernel_rfl
set_option maxRecDepth 100000 in
theorem fact19 : (Tryz.f3.resultTypes.all (fun t => Tryz.prog.readableRec t && decide (t < Tryz.prog.types.size))) = true := by kernel_rfl
set_option maxRecDepth 100000 in
theorem fact20 : ((Rows.mintDrawsRow.ifacesOut == Tryz.f3.resultTypes.toList.any (Tryz.prog.ifacesRec ·))) = true := by kernel_rfl
set_option maxRecDepth 100000 in
theorem fact21 : ((Rows.mintDrawsRow.loopsOut == Tryz.f3.resultTypes.toList.any (Tryz.prog.loopsFrom ·))) = true := by kernel_rfl
set_option maxRecDepth 100000 in
theorem fact22 : ((Rows.mintDrawsRow.plainKeys == Tryz.prog.plainKeys)) = true := by kernel_rfl
set_option maxRecDepth 100000 in
theorem fact23 : (Rows.mintDrawsRow.shortTexts.isNone) = true := by kernel_rfl
set_option maxRecDepth 100000 in
theorem fact24 : (Tryz.prog.stopsHeard) = true := by kernel_rfl
set_option maxRecDepth 100000 in
theorem fact25 : (Tryz.prog.mayEnter) = true := by kernel_rfl
set_option maxRecDepth 100000 in
theorem fact26 : ((Rows.mintDrawsRow.lifted == Tryz.prog.liftsFinal)) = true := by kernel_rfl
set_option maxRecDepth 100000 in
theorem fact27 : ((Tryz.prog.make == some Rows.mintDrawsRow.make)) = true := by kernel_rfl
set_option maxRecDepth 100000 in
theorem fact28 : ((Rows.mintDrawsRow.kinds == (if Rows.mintDrawsRow.domain.isEmpty then [] else Tryz.f3.params.toList.map fun t => match Tryz.prog.underlying t with | some (.int k) => some k | _ => none))) = true := by kernel_rfl
set_option maxRecDepth 100000 in
theorem fact29 : ((Rows.mintDrawsRow.pinned == Rows.mintDrawsRow.pinnedBy)) = true := by kernel_rfl
set_option maxRecDepth 100000 in
theorem fact30 : ((Rows.mintDrawsRow.veiled == (Tryz.f3.params.toList ++ Rows.mintDrawsSpec.plain.varTypes Tryz.prog ++ Tryz.f3.resultTypes.toList).any (Tryz.prog.veiledRec ·))) = true := by kernel_rfl
set_option maxRecDepth 100000 in
theorem fact31 : (Rows.mintDrawsRow.veiledFits Tryz.prog Tryz.f3.params.toList (Tryz.f3.params.toList ++ Rows.mintDrawsSpec.plain.varTypes Tryz.prog ++ Tryz.f3.resultTypes.toList)) = true := by kernel_rfl
set_option maxRecDepth 100000 in
theorem q_name : Tryz.pinned.checked.prog.funcNamed Rows.mintDrawsRow.func = some 3 := by kernel_rfl
set_option maxRecDepth 100000 in
theorem q_main : Tryz.pinned.checked.prog.mainIs = some ((true, "633d59e08bad545cc045897dfc938365f0e995131afb5a918b9267ab608c3b13").1, (true, "633d59e08bad545cc045897dfc938365f0e995131afb5a918b9267ab608c3b13").2.toList) := by kernel_rfl
set_option maxRecDepth 100000 in
theorem q_wf : Rows.mintDrawsRow.wfByText (OpenSpec.ofChange Rows.mintDrawsSpec) = true := by kernel_rfl
set_option maxRecDepth 100000 in
theorem q_looks : true = Tryz.pinned.checked.prog.looks [] := by kernel_rfl
set_option maxRecDepth 100000 in
theorem q_said : Tryz.prog.funcNamed "locksmith/locksmithlaw19.MintDraws" = some 3 := by kernel_rfl
set_option maxRecDepth 100000 in
theorem q_inst : Tryz.f3.isInstance Tryz.pinned.checked.prog Rows.mintDrawsRow.origin Rows.mintDrawsRow.targs := of_decide_eq_true (by kernel_rfl)
set_option maxRecDepth 100000 in
theorem q_wrap : Tryz.f3.isWrapper Tryz.pinned.checked.prog Rows.mintDrawsRow.wrapper Rows.mintDrawsRow.mainSum := of_decide_eq_true (by kernel_rfl)
theorem goesAt_quiet {P : Program} (h : P.funcs.any Func.goes = false) (s : String) : P.goesAt .entering s = false := by
  have hg : ∀ f, P.goes f = false := fun f => by
    unfold Program.goes
    rw [h, Bool.and_false, Bool.or_false, List.any_eq_false]
    intro g _ hx
    rw [Option.any_eq_true] at hx
    obtain ⟨fn, hfn, hx⟩ := hx
    rw [Array.any_eq_false] at h
    obtain ⟨hlt, he⟩ := Array.getElem?_eq_some_iff.1 hfn
    exact h g hlt (he ▸ hx)
  unfold Program.goesAt Program.goesFrom
  cases P.funcNamed s with
  | none => rfl
  | some f => simp [hg f]
set_option maxRecDepth 100000 in
theorem quiet : Tryz.pinned.checked.prog.funcs.any Func.goes = false := by kernel_rfl
theorem q_goes : false = Rows.mintDrawsRow.goesBy Tryz.pinned.checked.prog := (goesAt_quiet quiet _).symm
set_option maxRecDepth 100000 in
theorem facts : joinedFacts Tryz.prog 3 Tryz.f3 Rows.mintDrawsSpec Rows.mintDrawsRow = true := by
  unfold joinedFacts
  exact (both (both (both (both (both (both (both (both (both (both (both (both (both (both (both (both (both (both (both (both (both (both (both (both (both (both (both (both (both (both (both fact0 fact1) fact2) fact3) fact4) fact5) fact6) fact7) fact8) fact9) fact10) fact11) fact12) fact13) fact14) fact15) fact16) fact17) fact18) fact19) fact20) fact21) fact22) fact23) fact24) fact25) fact26) fact27) fact28) fact29) fact30) fact31)

end Go.Proofs.YtecabdjbhlmilaaGreatDoor
