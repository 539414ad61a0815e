/- Law 13's own example holds. -/
import Derived.Test.YtjhggnebkfpgcaaGreatDoorOkay
import Derived.KernelRfl
namespace Go.Proofs.YtjhggnebkfpgcaaGreatDoor
open Go Go.RowKit
open Go.Proofs.Abs
noncomputable def optsB : Opts := { how := fun f => match memN [119, 120, 121, 151, 191, 193, 194] f with | true => .fresh | false => match memN [102, 104, 144, 145, 214, 215] f with | true => .keep | false => .pure, summ := fun _ _ => none, glob := gl, lf := 100000 }
theorem known_sem : SC 21 [] (.bool true) :=
 sem_of_calls (O := optsB) (n := 20) Tryz.mixed (fun _ _ _ h => by cases h) noCall_ok' gl_closed fun id h nx => pureT_ok (O := optsB) (n := 19) (T := []) (F := []) rfl rfl (by kernel_rfl) trivial id h nx
theorem fits_obC (o : Ob) : fitsT Tryz.prog 33 (.agg (obC o)) 37 = true := by kernel_rfl
end Go.Proofs.YtjhggnebkfpgcaaGreatDoor
