/- What rows' methods answer. -/
import Derived.Test.YtjhggnebkfpgcaaGreatDoorSems
import Derived.KernelRfl
namespace Go.Proofs.YtjhggnebkfpgcaaGreatDoor
open Go Go.RowKit
open Go.Proofs.Abs
theorem rowT : isAggA Tryz.prog 89 = some true := by kernel_rfl
def hdK (k : Kd) : RowH := ⟨nameK k, typeK k, manyK k, setK k⟩
theorem rowC_eq (k : Kd) : rowC k = rowW (hdK k) (addK k) (modK k) (remK k) (getF k) (rightF k) (putF k) (dropF k) (roomF k) := rfl
theorem rowC_get (k : Kd) : rowC k = rowW (hdK k) (addK k) (modK k) (remK k) (fnC (gfn k) (gcp k)) (rightF k) (putF k) (dropF k) (roomF k) := by rw [rowC_eq, getF_eq]
theorem closed_rowC (k : Kd) : closedAll (rowC k) = true := closed_row k
theorem closed_roc (k : Kd) (o : Ob) {c : List AV} (h : closedAll c = true) : closedAll (.agg (rowC k) :: obA o :: c) = true := by
 have h1 := closed_rowC k
 have h2 := closed_oc o h
 rw [closedAll, closedA, h1, h2]; rfl
structure OkG (o : Ob) (k : Kd) : Prop where
 n : (getK o k).length ≤ 1000
 i : ∀ x ∈ getK o k, okI big x
end Go.Proofs.YtjhggnebkfpgcaaGreatDoor
