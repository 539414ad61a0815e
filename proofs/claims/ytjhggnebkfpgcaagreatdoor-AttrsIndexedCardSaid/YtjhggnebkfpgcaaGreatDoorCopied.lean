/- The shape of an item; what a copy of an item is. -/
import Derived.Test.YtjhggnebkfpgcaaGreatDoorClone
import Derived.KernelRfl
namespace Go.Proofs.YtjhggnebkfpgcaaGreatDoor
open Go Go.RowKit
open Go.Proofs.Abs
theorem closed_flat : ∀ {l : List AV}, closedAll l = true → (∀ e ∈ l, closedAll e.cells = true) → closedAll (flat l) = true
  | [], _, _ => rfl
  | a :: t, h, h2 => by
    simp only [closedAll, Bool.and_eq_true] at h
    have := closed_flat h.2 fun e he => h2 e (by simp [he])
    have h1 := h2 a (by simp)
    simp only [flat]
    exact closed_app h1 this
 where
  closed_app : ∀ {a b : List AV}, closedAll a = true → closedAll b = true → closedAll (a ++ b) = true
    | [], _, _, h => h
    | x :: r, _, h, h' => by
      simp only [closedAll, Bool.and_eq_true] at h
      simp only [List.cons_append, closedAll, h.1, closed_app h.2 h', Bool.and_self]
end Go.Proofs.YtjhggnebkfpgcaaGreatDoor
