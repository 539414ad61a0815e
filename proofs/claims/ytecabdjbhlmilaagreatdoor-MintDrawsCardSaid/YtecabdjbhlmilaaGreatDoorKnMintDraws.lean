/- The example of MintDraws's chapter, run by the kernel in the abstract machine. -/
import Derived.Test.YtecabdjbhlmilaaGreatDoorHows2
import Derived.Test.YtecabdjbhlmilaaGreatDoorG5
namespace Go.Proofs.YtecabdjbhlmilaaGreatDoor
open Go.RowKit
open Go.Proofs.Abs

theorem example_quick : isTrue (runBodyQ Tryz.prog optsK (callQ Tryz.prog optsK 40) 7 [] [] 0) = true := by kernel_rfl
theorem example_sem : SemCall Tryz.prog optsK.glob 7 [] (.bool true) := sem_boolQ (O := optsK) Tryz.mixed (fun _ _ _ h => by cases h) knownCx_ok (fun _ _ h => by cases h) example_quick

end Go.Proofs.YtecabdjbhlmilaaGreatDoor
