import Derived.Test.YtjmnheinkchlfaaGreatDoorQ2
import Derived.Test.YtjmnheinkchlfaaGreatDoorG5
import Derived.KernelRfl
namespace Go.Proofs.YtjmnheinkchlfaaGreatDoor
open Go.RowKit
open Go.Proofs.Abs
def dx:List Nat:=[115,116,117,118]
noncomputable def ep (f:FuncId) (args:List AV):Option AV:=match a7 dx f with
 |true=>match args with
  |[.fsl _ []]=>some (.fsl false [])
  |_=>none
 |false=>none
theorem wG:∀f,a7 dx f=true→SemCall Tryz.prog optsH.glob f [.fsl false []] (.fsl false []):=by
 intro f h
 have hm:f=115∨f=116∨f=117∨f=118:=by
  have:=memN_iff.1 h
  simpa [dx] using this
 rcases hm with rfl|rfl|rfl|rfl
 ·exact vp (l:=[]) (fun _ h=>by cases h) rfl (Nat.zero_le _)
 ·exact vu (l:=[]) (fun _ h=>by cases h) rfl (Nat.zero_le _)
 ·exact vz (l:=[]) (fun _ h=>by cases h) rfl (Nat.zero_le _)
 ·exact vD (l:=[]) (fun _ h=>by cases h) rfl (Nat.zero_le _)
theorem wH:∀f args v,ep f args=some v→SemCall Tryz.prog optsH.glob f args v:=by
 intro f args v h
 unfold ep at h
 split at h
 ·rename_i hf
  split at h
  ·rename_i b
   simp only[Option.some.injEq] at h
   subst h
   exact (wG f hf).wkA (.cons .row .nil)
  ·cases h
 ·cases h
end Go.Proofs.YtjmnheinkchlfaaGreatDoor
