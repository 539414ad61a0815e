/- MintKnown, run by the kernel in the abstract machine; its chapter's example is known. -/
import Derived.Test.YtnlllfokomenfaaGreatDoorKnMintKnown
namespace Go.Proofs.YtnlllfokomenfaaGreatDoor
open Go.RowKit
open Go.Proofs.Abs

noncomputable def sumL (f : FuncId) (args : List AV) : Option AV := match Nat.beq f 48, args with
  | true, [] => some (.bool true)
  | _, _ => none
noncomputable def optsL : Opts := { how := hows.get, summ := sumL, glob := fun _ => none, lf := 100000, cx := knownCx }
theorem optsL_sum : ∀ f args v, optsL.summ f args = some v → SemCall Tryz.prog optsL.glob f args v := by
  intro f args v h
  simp only [optsL, sumL] at h
  split at h
  · rename_i hf
    simp only [Option.some.injEq] at h
    subst h
    rw [beq_iff.1 hf]
    exact example_sem
  · cases h
theorem known_quick : isTrue (runBodyQ Tryz.prog optsL (callQ Tryz.prog optsL 40) 9 [] [] 1) = true := by kernel_rfl
theorem known_calls (w : World) : Calls Tryz.prog 9 #[] w fun e w' => e = .returned (.bool true) ∧ Below w.heap.size w w' :=
  calls_trueQ (O := optsL) Tryz.mixed optsL_sum knownCx_ok rfl known_quick

end Go.Proofs.YtnlllfokomenfaaGreatDoor
