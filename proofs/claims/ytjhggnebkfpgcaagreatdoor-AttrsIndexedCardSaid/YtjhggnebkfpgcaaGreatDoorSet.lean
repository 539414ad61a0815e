/- What is set, added, modified, deleted, as the program does it. -/
import Derived.Test.YtjhggnebkfpgcaaGreatDoorDoer
import Derived.KernelRfl
namespace Go.Proofs.YtjhggnebkfpgcaaGreatDoor
open Go Go.RowKit
open Go.Proofs.Abs
theorem rowO_some (k : Kd) : rowO (some k) = fiT (rowC k) := rfl
theorem fits_row (k : Kd) : fitsT Tryz.prog 89 (.agg (rowC k)) 12 = true := by
 have h : allOne (rowC k) = true := by
  cases k with
  | dat k =>
   have h1 : (addD k).one = true := by unfold addD; split <;> rfl
   have h2 : (remD k).one = true := by unfold remD; split <;> rfl
   simp only [rowC, allOne, addK, modK, remK, h1, h2, getF, rightF, putF, dropF, roomF, fnA, fnC, one_str, one_int, one_bool, Bool.true_and, Bool.and_true]
   rfl
  | _ => rfl
 exact fits_agg rowT rfl h
inductive Wh where
 | nil | alw | young | used | full
end Go.Proofs.YtjhggnebkfpgcaaGreatDoor
