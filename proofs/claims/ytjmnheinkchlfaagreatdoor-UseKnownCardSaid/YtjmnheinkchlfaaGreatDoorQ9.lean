import Derived.Test.YtjmnheinkchlfaaGreatDoorQ4
import Derived.KernelRfl
namespace Go.Proofs.YtjmnheinkchlfaaGreatDoor
open Go.RowKit
open Go.Proofs.Abs
def nf:List AV:=[(.fptr gi 0),(.agg (ab [79,14,51,233,45,18,131,212,84,119,63,19,0,124,215,84]))]
def ng:AV:=(.agg (ab [166,237,148,195,184,25,166,129,108,111,89,152,83,138,162,39]))
theorem wE:bn Tryz.prog cP 40 226 nf ng=true:=by kernel_rfl
theorem wF:SemCall Tryz.prog optsH.glob 226 nf ng:=cn (O:=cP) Tryz.mixed gh d7 (fun _ _ h=>by cases h) (by kernel_rfl) wE
end Go.Proofs.YtjmnheinkchlfaaGreatDoor
