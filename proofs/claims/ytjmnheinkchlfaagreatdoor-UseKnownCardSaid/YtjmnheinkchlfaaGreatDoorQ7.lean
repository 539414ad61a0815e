import Derived.Test.YtjmnheinkchlfaaGreatDoorQ4
import Derived.KernelRfl
namespace Go.Proofs.YtjmnheinkchlfaaGreatDoor
open Go.RowKit
open Go.Proofs.Abs
def na:List AV:=[(.fptr gi 0),(.agg (ab [0,0,0,0,0,0,0,0,0,0,0,0,0,0,0,0]))]
def nb:AV:=(.agg (ab [11,155,21,218,75,68,160,245,21,29,207,196,192,31,53,213]))
theorem wA:bn Tryz.prog cP 40 226 na nb=true:=by kernel_rfl
theorem wB:SemCall Tryz.prog optsH.glob 226 na nb:=cn (O:=cP) Tryz.mixed gh d7 (fun _ _ h=>by cases h) (by kernel_rfl) wA
end Go.Proofs.YtjmnheinkchlfaaGreatDoor
