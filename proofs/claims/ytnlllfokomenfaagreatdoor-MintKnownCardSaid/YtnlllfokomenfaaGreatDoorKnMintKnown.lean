/- The example of MintKnown's chapter, run by the kernel in the abstract machine. -/
import Derived.Test.YtnlllfokomenfaaGreatDoorHows2
import Derived.Test.YtnlllfokomenfaaGreatDoorE42
namespace Go.Proofs.YtnlllfokomenfaaGreatDoor
open Go.RowKit
open Go.Proofs.Abs

theorem example_quick : isTrue (runBodyQ Tryz.prog optsK (callQ Tryz.prog optsK 40) 48 [] [] 0) = true := by kernel_rfl
theorem example_sem : SemCall Tryz.prog optsK.glob 48 [] (.bool true) := sem_boolQ (O := optsK) Tryz.mixed (fun _ _ _ h => by cases h) knownCx_ok (fun _ _ h => by cases h) example_quick

end Go.Proofs.YtnlllfokomenfaaGreatDoor
