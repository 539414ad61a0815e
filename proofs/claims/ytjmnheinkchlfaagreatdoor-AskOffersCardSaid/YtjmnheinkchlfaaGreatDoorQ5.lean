import Derived.Test.YtjmnheinkchlfaaGreatDoorQ2
import Derived.Test.YtjmnheinkchlfaaGreatDoorQ4
import Derived.Test.YtjmnheinkchlfaaGreatDoorG5
import Derived.KernelRfl
namespace Go.Proofs.YtjmnheinkchlfaaGreatDoor
open Go.RowKit
open Go.Proofs.Abs
def qk:List Nat:=[115,116,117,118]
noncomputable def zp (f:Nat):lR:=match cz qk f with
 |true=> .pure
 |false=>hows.get f
noncomputable def ql (f:FuncId) (args:List AV):Option AV:=match cz qk f with
 |true=>match args with
  |[.fsl _ []]=>some (.fsl false [])
  |_=>none
 |false=>none
theorem Gk:∀f,cz qk f=true→SemCall Tryz.prog optsH.glob f [.fsl false []] (.fsl false []):=by
 intro f h
 have hm:f=115∨f=116∨f=117∨f=118:=by
  have:=memN_iff.1 h
  simpa [qk] using this
 rcases hm with rfl|rfl|rfl|rfl
 ·exact xJ (l:=[]) (fun _ h=>by cases h) rfl (Nat.zero_le _)
 ·exact DC (l:=[]) (fun _ h=>by cases h) rfl (Nat.zero_le _)
 ·exact DG (l:=[]) (fun _ h=>by cases h) rfl (Nat.zero_le _)
 ·exact DK (l:=[]) (fun _ h=>by cases h) rfl (Nat.zero_le _)
theorem qm:∀f args v,ql f args=some v→SemCall Tryz.prog optsH.glob f args v:=by
 intro f args v h
 unfold ql at h
 split at h
 ·rename_i hf
  split at h
  ·rename_i b
   simp only[Option.some.injEq] at h
   subst h
   exact (Gk f hf).wkA (.cons .row .nil)
  ·cases h
 ·cases h
noncomputable def optsA:aH:={how:=zp,summ:=ql,glob:=fun _=>none,lf:=100000,cx:=m4}
theorem Gl:oU Tryz.prog optsA 40 5 [.nilsl,I 5] 7 (.tuple [.ptr 1682 0,.ptr 1897 0]) (li 1897) 2027=true:=by kernel_rfl
theorem Gm:BodySem Tryz.prog opts0.glob 5 [.nilsl,I 5] [] 7 (.tuple [.ptr 1682 0,.ptr 1897 0]) (li 1897) (7+2027):=wX (O:=optsA) Tryz.mixed qm o6 (fun _ _ h=>by cases h) Gl
end Go.Proofs.YtjmnheinkchlfaaGreatDoor
