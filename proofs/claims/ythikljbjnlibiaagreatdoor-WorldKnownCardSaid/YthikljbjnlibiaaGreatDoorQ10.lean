import Derived.Test.YthikljbjnlibiaaGreatDoorQ9
import Derived.KernelRfl
namespace Go.Proofs.YthikljbjnlibiaaGreatDoor
open Go.RowKit
open Go.Proofs.Abs
noncomputable def mZ (f:FuncId) (args:List AV):Option AV:=match Nat.beq f 47,args with
 |true,[]=>some (.bool true)
 |_,_=>jA f args
noncomputable def optsL:ar:={how:=p1,summ:=mZ,glob:=gl,lf:=100000,cx:=jB ic}
theorem u5:∀f args v,optsL.summ f args=some v→SemCall Tryz.prog optsL.glob f args v:=by
 intro f args v h
 replace h:mZ f args=some v:=h
 unfold mZ at h
 split at h
 ·rename_i hf
  simp only[Option.some.injEq] at h
  subst h
  rw[beq_iff.1 hf]
  exact u4
 ·exact mN _ _ v h
theorem u6:gR (ch Tryz.prog optsL (bJ Tryz.prog optsL 40) 8 [] [] 0)=true:=by kernel_rfl
theorem u7:SC 8 [] (.bool true):=pH (O:=optsL) Tryz.mixed u5 (mO qc) cF u6
end Go.Proofs.YthikljbjnlibiaaGreatDoor
