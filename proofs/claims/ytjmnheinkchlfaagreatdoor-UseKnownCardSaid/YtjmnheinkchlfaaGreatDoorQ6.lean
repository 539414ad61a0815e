import Derived.Test.YtjmnheinkchlfaaGreatDoorQ4
import Derived.KernelRfl
namespace Go.Proofs.YtjmnheinkchlfaaGreatDoor
open Go.RowKit
open Go.Proofs.Abs
def m8:List AV:=[(.fptr gi 0),(.agg (ab [129,169,239,187,76,89,227,25,134,147,172,168,156,192,215,125]))]
def m9:AV:=(.agg (ab [1,19,108,108,111,11,11,11,11,11,11,11,11,11,11,11]))
theorem wy:bn Tryz.prog cP 40 228 m8 m9=true:=by kernel_rfl
theorem wz:SemCall Tryz.prog optsH.glob 228 m8 m9:=cn (O:=cP) Tryz.mixed gh d7 (fun _ _ h=>by cases h) (by kernel_rfl) wy
end Go.Proofs.YtjmnheinkchlfaaGreatDoor
