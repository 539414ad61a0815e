import Derived.Test.YtjmnheinkchlfaaGreatDoorQ12
import Derived.KernelRfl
namespace Go.Proofs.YtjmnheinkchlfaaGreatDoor
open Go.RowKit
open Go.Proofs.Abs
noncomputable def oJ:al:={how:=rL,summ:=gj,glob:=fun _=>none,lf:=100000,cx:=j3}
theorem xO:d8 (bY Tryz.prog oJ (bv Tryz.prog oJ 40) 15 [] [] 0)=true:=by kernel_rfl
theorem xP:SemCall Tryz.prog optsH.glob 15 [] (.bool true):=uO (O:=oJ) Tryz.mixed ch rK (fun _ _ h=>by cases h) xO
end Go.Proofs.YtjmnheinkchlfaaGreatDoor
