import Derived.Test.YtjmnheinkchlfaaGreatDoorQ13
import Derived.KernelRfl
namespace Go.Proofs.YtjmnheinkchlfaaGreatDoor
open Go.RowKit
open Go.Proofs.Abs
noncomputable def oK (f:FuncId) (args:List AV):Option AV:=match Nat.beq f 15,args with
 |true,[]=>some (.bool true)
 |_,_=>gj f args
noncomputable def optsL:al:={how:=rL,summ:=oK,glob:=fun _=>none,lf:=100000,cx:=j3}
theorem xQ:∀f args v,optsL.summ f args=some v→SemCall Tryz.prog optsL.glob f args v:=by
 intro f args v h
 replace h:oK f args=some v:=h
 unfold oK at h
 split at h
 ·rename_i hf
  simp only[Option.some.injEq] at h
  subst h
  rw[beq_iff.1 hf]
  exact xP
 ·exact ch _ _ v h
theorem xR:d8 (bY Tryz.prog optsL (bv Tryz.prog optsL 40) 4 [] [] 1)=true:=by kernel_rfl
theorem xS (w:World):Calls Tryz.prog 4 #[] w fun e w'=>e= .returned (.bool true)∧Below w.heap.size w w':=
 uN (O:=optsL) Tryz.mixed xQ rK rfl xR
end Go.Proofs.YtjmnheinkchlfaaGreatDoor
