/- AskKnown, run by the kernel in the abstract machine; its chapter's example is known, parts are run by themselves. -/
import Derived.Test.YtnlllfokomenfaaGreatDoorKnAskKnown
import Derived.KernelRfl
namespace Go.Proofs.YtnlllfokomenfaaGreatDoor
open Go Go.RowKit
open Go.Proofs.Abs
def lA0 : List AV := [(.fsl true [(.agg [(.str [49]), (I 2), (I 0), (I 0), (I 4), .nilsl, (I 2), (.bool false), (I 0), (.bool false), (I 0), (.bool false), (I 0), (.bool false), (I 0), (.bool false), (I 0), (.bool false), (I 0), (.bool false), (I 0), (.bool false), (I 0), (.bool false), (I 0), (.bool false), (I 0), (I 0), (.str []), .nilsl, .nilsl, .nilsl, (.bool true), (I 9), (I 3), (I 1), (.bool false)])]), (I 3)]
def lR0 : AV := (.fsl false [(.agg [(.str [99]), (.bool true), (.fsl false (bsA [0, 0, 0, 0, 0, 0, 0, 3]))]), (.agg [(.str [110]), (.bool true), (.fsl false (bsA [0, 0, 0, 0, 0, 0, 0, 2]))]), (.agg [(.str [111, 49]), (.bool true), (.fsl false (bsA [0, 1, 49, 2, 0, 0, 0, 0, 0, 0, 0, 0, 4, 0, 0, 2, 0, 0, 0, 0, 0, 0, 0, 0, 0, 0, 0, 0, 0, 0, 0, 0, 1, 0, 0, 0, 0, 0, 0, 0, 9, 0, 0, 0, 0, 0, 0, 0, 3, 1, 0]))])])
theorem lok0 : pureQ Tryz.prog optsK 40 56 lA0 lR0 = true := by kernel_rfl
theorem lsem0 : SemCall Tryz.prog optsK.glob 56 lA0 lR0 := semQ (O := optsK) Tryz.mixed (fun _ _ _ h => by cases h) knownCx_ok (fun _ _ h => by cases h) (by kernel_rfl) lok0
def lA1 : List AV := [(.fsl false [(.agg [(.str [99]), (.bool true), (.fsl false (bsA [0, 0, 0, 0, 0, 0, 0, 3]))]), (.agg [(.str [110]), (.bool true), (.fsl false (bsA [0, 0, 0, 0, 0, 0, 0, 2]))]), (.agg [(.str [111, 49]), (.bool true), (.fsl false (bsA [0, 1, 49, 2, 0, 0, 0, 0, 0, 0, 0, 0, 4, 0, 0, 2, 0, 0, 0, 0, 0, 0, 0, 0, 0, 0, 0, 0, 0, 0, 0, 0, 1, 0, 0, 0, 0, 0, 0, 0, 9, 0, 0, 0, 0, 0, 0, 0, 3, 1, 0]))])])]
def lV1 : AV := (.tuple [(.ptr 2494 0), (.bool true)])
def lH1 : Heap := [(2727, some (.cells [(.str [49]), (I 2), (I 0), (I 0), (I 4), (.fsl true []), (I 2), (.bool false), (I 0), (.bool false), (I 0), (.bool false), (I 0), (.bool false), (I 0), (.bool false), (I 0), (.bool false), (I 0), (.bool false), (I 0), (.bool false), (I 0), (.bool false), (I 0), (.bool false), (I 0), (I 0), (.str []), .nilsl, .nilsl, .nilsl, (.bool true), (I 9), (I 3), (I 1), (.bool false)])), (2665, some (.cells [(.str [49]), (I 2), (I 0), (I 0), (I 4), (.fsl true []), (I 2), (.bool false), (I 0), (.bool false), (I 0), (.bool false), (I 0), (.bool false), (I 0), (.bool false), (I 0), (.bool false), (I 0), (.bool false), (I 0), (.bool false), (I 0), (.bool false), (I 0), (.bool false), (I 0), (I 0), (.str []), .nilsl, .nilsl, .nilsl, (.bool true), (I 9), (I 3), (I 1), (.bool false)])), (2646, some (.cells [(.str [49]), (I 2), (I 0), (I 0), (I 4), (.fsl true []), (I 2), (.bool false), (I 0), (.bool false), (I 0), (.bool false), (I 0), (.bool false), (I 0), (.bool false), (I 0), (.bool false), (I 0), (.bool false), (I 0), (.bool false), (I 0), (.bool false), (I 0), (.bool false), (I 0), (I 0), (.str []), .nilsl, .nilsl, .nilsl, (.bool true), (I 9), (I 3), (I 1), (.bool false)])), (2579, some (.cells [(.fsl false []), (.bool false)])), (2522, some (.cells [(.fsl false []), (.bool false)])), (2494, some (.cells [(.rsl true 2727 0 1 37), (I 3), (.int .u64 2), .nilsl, (I 0)]))]
theorem lok1 : allocQ Tryz.prog optsK 40 58 lA1 2491 lV1 lH1 250 = true := by kernel_rfl
theorem lbody1 : BodySem Tryz.prog optsK.glob 58 lA1 [] 2491 lV1 lH1 (2491 + 250) := bodyQ (O := optsK) Tryz.mixed (fun _ _ _ h => by cases h) knownCx_ok (fun _ _ h => by cases h) lok1
noncomputable def lsum (f : FuncId) (args : List AV) : Option AV := match Nat.beq f 56 with
  | true => (match sameL args lA0 with
    | true => some lR0
    | false => none)
  | false => none
theorem lsum_ok : ∀ f args v, lsum f args = some v → SemCall Tryz.prog optsK.glob f args v := by
  intro f args v h
  unfold lsum at h
  split at h
  · rename_i hf
    rw [beq_iff.1 hf]
    split at h
    · rename_i hs
      simp only [Option.some.injEq] at h
      subst h
      rw [sameL_eq _ _ hs]
      exact lsem0
    · skip
      cases h
  · cases h
noncomputable def ltbl (f : FuncId) (args : List AV) (nx : Nat) : Option (AV × Heap × Nat) := match Nat.beq f 58 with
  | true => (match Nat.beq nx 2491 && sameL args lA1 with
    | true => some (lV1, lH1, 250)
    | false => none)
  | false => none
theorem ltbl_ok : ∀ f args nx v H2 m, ltbl f args nx = some (v, H2, m) → BodySem Tryz.prog optsK.glob f args [] nx v H2 (nx + m) := by
  intro f args nx v H2 m h
  unfold ltbl at h
  split at h
  · rename_i hf
    rw [beq_iff.1 hf]
    split at h
    · rename_i hs
      rw [Bool.and_eq_true] at hs
      simp only [Option.some.injEq, Prod.mk.injEq] at h
      obtain ⟨rfl, rfl, rfl⟩ := h
      rw [beq_iff.1 hs.1, sameL_eq _ _ hs.2]
      exact lbody1
    · skip
      cases h
  · cases h
noncomputable def lcx : Caller := ifC (fun f => Nat.beq f 58) (allocC ltbl) knownCx
theorem lcx_ok : CallOk Tryz.prog optsK.glob lcx ∧ CallLoc lcx := ifC_ok (allocC_ok ltbl_ok) knownCx_ok
noncomputable def sumL (f : FuncId) (args : List AV) : Option AV := match Nat.beq f 35, args with
  | true, [] => some (.bool true)
  | _, _ => lsum f args
noncomputable def optsL : Opts := { how := howE, summ := sumL, glob := fun _ => none, lf := 100000, cx := lcx }
theorem optsL_sum : ∀ f args v, optsL.summ f args = some v → SemCall Tryz.prog optsL.glob f args v := by
  intro f args v h
  replace h : sumL f args = some v := h
  unfold sumL at h
  split at h
  · rename_i hf
    simp only [Option.some.injEq] at h
    subst h
    rw [beq_iff.1 hf]
    exact example_sem
  · exact lsum_ok _ _ v h
theorem known_quick : isTrue (runBodyQ Tryz.prog optsL (callQ Tryz.prog optsL 40) 7 [] [] 1) = true := by kernel_rfl
theorem known_calls (w : World) : Calls Tryz.prog 7 #[] w fun e w' => e = .returned (.bool true) ∧ Below w.heap.size w w' :=
  calls_trueQ (O := optsL) Tryz.mixed optsL_sum lcx_ok rfl known_quick

end Go.Proofs.YtnlllfokomenfaaGreatDoor
