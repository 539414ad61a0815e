/- The example of AskKnown's chapter, run by the kernel in the abstract machine; parts of it by themselves. -/
import Derived.Test.YtnlllfokomenfaaGreatDoorHows2
import Derived.Test.YtnlllfokomenfaaGreatDoorE43
import Derived.KernelRfl
namespace Go.Proofs.YtnlllfokomenfaaGreatDoor
open Go Go.RowKit
open Go.Proofs.Abs
/-- Bytes. -/
def bsA (l : List Nat) : List AV := l.map fun n => .int .u8 (.ofNat n)
noncomputable def howE (f : Nat) : How := match Nat.beq f 58 with
  | true => .known
  | false => hows.get f
def kA0 : List AV := [(.fsl true [(.agg [(.str [49]), (I 2), (I 0), (I 0), (I 0), .nilsl, (I 2), (.bool false), (I 0), (.bool false), (I 0), (.bool false), (I 0), (.bool false), (I 0), (.bool false), (I 0), (.bool false), (I 0), (.bool false), (I 0), (.bool false), (I 0), (.bool false), (I 0), (.bool false), (I 0), (I 0), (.str []), .nilsl, .nilsl, .nilsl, (.bool false), (I 0), (I 0), (I 0), (.bool false)]), (.agg [(.str [50]), (I 2), (I 0), (I 0), (I 0), .nilsl, (I 2), (.bool true), (I 5), (.bool false), (I 0), (.bool false), (I 0), (.bool false), (I 0), (.bool false), (I 0), (.bool false), (I 0), (.bool false), (I 0), (.bool false), (I 0), (.bool false), (I 0), (.bool false), (I 0), (I 0), (.str []), .nilsl, .nilsl, .nilsl, (.bool false), (I 0), (I 0), (I 0), (.bool false)])]), (I 3)]
def kR0 : AV := (.fsl false [(.agg [(.str [99]), (.bool true), (.fsl false (bsA [0, 0, 0, 0, 0, 0, 0, 3]))]), (.agg [(.str [110]), (.bool true), (.fsl false (bsA [0, 0, 0, 0, 0, 0, 0, 3]))]), (.agg [(.str [111, 49]), (.bool true), (.fsl false (bsA [0, 1, 49, 2, 0, 0, 0, 0, 0, 0, 0, 0, 0, 0, 0, 2, 0, 0, 0, 0, 0, 0, 0, 0, 0, 0, 0, 0, 0, 0, 0, 0, 0, 0]))]), (.agg [(.str [111, 50]), (.bool true), (.fsl false (bsA [0, 1, 50, 2, 0, 0, 0, 0, 0, 0, 0, 0, 0, 0, 0, 2, 1, 0, 0, 0, 0, 0, 0, 0, 5, 0, 0, 0, 0, 0, 0, 0, 0, 0, 0, 0, 0, 0, 0, 0, 0, 0]))])])
theorem kok0 : pureQ Tryz.prog optsK 40 56 kA0 kR0 = true := by kernel_rfl
theorem ksem0 : SemCall Tryz.prog optsK.glob 56 kA0 kR0 := semQ (O := optsK) Tryz.mixed (fun _ _ _ h => by cases h) knownCx_ok (fun _ _ h => by cases h) (by kernel_rfl) kok0
def kA1 : List AV := [(.fsl false [(.agg [(.str [99]), (.bool true), (.fsl false (bsA [0, 0, 0, 0, 0, 0, 0, 3]))]), (.agg [(.str [110]), (.bool true), (.fsl false (bsA [0, 0, 0, 0, 0, 0, 0, 3]))]), (.agg [(.str [111, 49]), (.bool true), (.fsl false (bsA [0, 1, 49, 2, 0, 0, 0, 0, 0, 0, 0, 0, 0, 0, 0, 2, 0, 0, 0, 0, 0, 0, 0, 0, 0, 0, 0, 0, 0, 0, 0, 0, 0, 0]))]), (.agg [(.str [111, 50]), (.bool true), (.fsl false (bsA [0, 1, 50, 2, 0, 0, 0, 0, 0, 0, 0, 0, 0, 0, 0, 2, 1, 0, 0, 0, 0, 0, 0, 0, 5, 0, 0, 0, 0, 0, 0, 0, 0, 0, 0, 0, 0, 0, 0, 0, 0, 0]))])])]
def kV1 : AV := (.tuple [(.ptr 2986 0), (.bool true)])
def kH1 : Heap := [(3503, some (.cells [(.str [49]), (I 2), (I 0), (I 0), (I 0), (.fsl true []), (I 2), (.bool false), (I 0), (.bool false), (I 0), (.bool false), (I 0), (.bool false), (I 0), (.bool false), (I 0), (.bool false), (I 0), (.bool false), (I 0), (.bool false), (I 0), (.bool false), (I 0), (.bool false), (I 0), (I 0), (.str []), .nilsl, .nilsl, .nilsl, (.bool false), (I 0), (I 0), (I 0), (.bool false), (.str [50]), (I 2), (I 0), (I 0), (I 0), (.fsl true []), (I 2), (.bool true), (I 5), (.bool false), (I 0), (.bool false), (I 0), (.bool false), (I 0), (.bool false), (I 0), (.bool false), (I 0), (.bool false), (I 0), (.bool false), (I 0), (.bool false), (I 0), (.bool false), (I 0), (I 0), (.str []), .nilsl, .nilsl, .nilsl, (.bool false), (I 0), (I 0), (I 0), (.bool false)])), (3281, some (.cells [(.str [50]), (I 2), (I 0), (I 0), (I 0), (.fsl true []), (I 2), (.bool true), (I 5), (.bool false), (I 0), (.bool false), (I 0), (.bool false), (I 0), (.bool false), (I 0), (.bool false), (I 0), (.bool false), (I 0), (.bool false), (I 0), (.bool false), (I 0), (.bool false), (I 0), (I 0), (.str []), .nilsl, .nilsl, .nilsl, (.bool false), (I 0), (I 0), (I 0), (.bool false)])), (3262, some (.cells [(.str [50]), (I 2), (I 0), (I 0), (I 0), (.fsl true []), (I 2), (.bool true), (I 5), (.bool false), (I 0), (.bool false), (I 0), (.bool false), (I 0), (.bool false), (I 0), (.bool false), (I 0), (.bool false), (I 0), (.bool false), (I 0), (.bool false), (I 0), (.bool false), (I 0), (I 0), (.str []), .nilsl, .nilsl, .nilsl, (.bool false), (I 0), (I 0), (I 0), (.bool false)])), (3219, some (.cells [(.str [49]), (I 2), (I 0), (I 0), (I 0), (.fsl true []), (I 2), (.bool false), (I 0), (.bool false), (I 0), (.bool false), (I 0), (.bool false), (I 0), (.bool false), (I 0), (.bool false), (I 0), (.bool false), (I 0), (.bool false), (I 0), (.bool false), (I 0), (.bool false), (I 0), (I 0), (.str []), .nilsl, .nilsl, .nilsl, (.bool false), (I 0), (I 0), (I 0), (.bool false)])), (3157, some (.cells [(.str [49]), (I 2), (I 0), (I 0), (I 0), (.fsl true []), (I 2), (.bool false), (I 0), (.bool false), (I 0), (.bool false), (I 0), (.bool false), (I 0), (.bool false), (I 0), (.bool false), (I 0), (.bool false), (I 0), (.bool false), (I 0), (.bool false), (I 0), (.bool false), (I 0), (I 0), (.str []), .nilsl, .nilsl, .nilsl, (.bool false), (I 0), (I 0), (I 0), (.bool false)])), (3138, some (.cells [(.str [49]), (I 2), (I 0), (I 0), (I 0), (.fsl true []), (I 2), (.bool false), (I 0), (.bool false), (I 0), (.bool false), (I 0), (.bool false), (I 0), (.bool false), (I 0), (.bool false), (I 0), (.bool false), (I 0), (.bool false), (I 0), (.bool false), (I 0), (.bool false), (I 0), (I 0), (.str []), .nilsl, .nilsl, .nilsl, (.bool false), (I 0), (I 0), (I 0), (.bool false)])), (3071, some (.cells [(.fsl false []), (.bool false)])), (3014, some (.cells [(.fsl false []), (.bool false)])), (2986, some (.cells [(.rsl true 3503 0 2 37), (I 3), (.int .u64 3), .nilsl, (I 0)]))]
theorem kok1 : allocQ Tryz.prog optsK 40 58 kA1 2983 kV1 kH1 534 = true := by kernel_rfl
theorem kbody1 : BodySem Tryz.prog optsK.glob 58 kA1 [] 2983 kV1 kH1 (2983 + 534) := bodyQ (O := optsK) Tryz.mixed (fun _ _ _ h => by cases h) knownCx_ok (fun _ _ h => by cases h) kok1
noncomputable def ksum (f : FuncId) (args : List AV) : Option AV := match Nat.beq f 56 with
  | true => (match sameL args kA0 with
    | true => some kR0
    | false => none)
  | false => none
theorem ksum_ok : ∀ f args v, ksum f args = some v → SemCall Tryz.prog optsK.glob f args v := by
  intro f args v h
  unfold ksum at h
  split at h
  · rename_i hf
    rw [beq_iff.1 hf]
    split at h
    · rename_i hs
      simp only [Option.some.injEq] at h
      subst h
      rw [sameL_eq _ _ hs]
      exact ksem0
    · skip
      cases h
  · cases h
noncomputable def ktbl (f : FuncId) (args : List AV) (nx : Nat) : Option (AV × Heap × Nat) := match Nat.beq f 58 with
  | true => (match Nat.beq nx 2983 && sameL args kA1 with
    | true => some (kV1, kH1, 534)
    | false => none)
  | false => none
theorem ktbl_ok : ∀ f args nx v H2 m, ktbl f args nx = some (v, H2, m) → BodySem Tryz.prog optsK.glob f args [] nx v H2 (nx + m) := by
  intro f args nx v H2 m h
  unfold ktbl at h
  split at h
  · rename_i hf
    rw [beq_iff.1 hf]
    split at h
    · rename_i hs
      rw [Bool.and_eq_true] at hs
      simp only [Option.some.injEq, Prod.mk.injEq] at h
      obtain ⟨rfl, rfl, rfl⟩ := h
      rw [beq_iff.1 hs.1, sameL_eq _ _ hs.2]
      exact kbody1
    · skip
      cases h
  · cases h
noncomputable def kcx : Caller := ifC (fun f => Nat.beq f 58) (allocC ktbl) knownCx
theorem kcx_ok : CallOk Tryz.prog optsK.glob kcx ∧ CallLoc kcx := ifC_ok (allocC_ok ktbl_ok) knownCx_ok
noncomputable def optsE : Opts := { how := howE, summ := ksum, glob := fun _ => none, lf := 100000, cx := kcx }
theorem example_quick : isTrue (runBodyQ Tryz.prog optsE (callQ Tryz.prog optsE 40) 35 [] [] 0) = true := by kernel_rfl
theorem example_sem : SemCall Tryz.prog optsK.glob 35 [] (.bool true) := sem_boolQ (O := optsE) Tryz.mixed ksum_ok kcx_ok (fun _ _ h => by cases h) example_quick

end Go.Proofs.YtnlllfokomenfaaGreatDoor
