import Derived.Test.YthikljbjnlibiaaGreatDoorQ8
import Derived.KernelRfl
namespace Go.Proofs.YthikljbjnlibiaaGreatDoor
open Go.RowKit
open Go.Proofs.Abs
theorem u3:gR (ch Tryz.prog (ib ic) (bJ Tryz.prog (ib ic) 40) 47 [] [] 0)=true:=by kernel_rfl
theorem u4:SemCall Tryz.prog optsA.glob 47 [] (.bool true):=pH (O:=ib ic) Tryz.mixed mN (mO qc) cF u3
end Go.Proofs.YthikljbjnlibiaaGreatDoor
