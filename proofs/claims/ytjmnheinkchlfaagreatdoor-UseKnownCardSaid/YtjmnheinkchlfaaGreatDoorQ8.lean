import Derived.Test.YtjmnheinkchlfaaGreatDoorQ4
import Derived.KernelRfl
namespace Go.Proofs.YtjmnheinkchlfaaGreatDoor
open Go.RowKit
open Go.Proofs.Abs
def nc:List AV:=[(.fptr gi 0),(.agg (ab [79,14,52,233,45,18,131,212,84,119,63,19,0,124,215,84]))]
def nd:AV:=(.agg (ab [95,234,44,11,140,33,21,236,119,9,226,212,79,2,141,96]))
theorem wC:bn Tryz.prog cP 40 226 nc nd=true:=by kernel_rfl
theorem wD:SemCall Tryz.prog optsH.glob 226 nc nd:=cn (O:=cP) Tryz.mixed gh d7 (fun _ _ h=>by cases h) (by kernel_rfl) wC
end Go.Proofs.YtjmnheinkchlfaaGreatDoor
