/- What slices.Clone answers, for each kind of element. -/
import Derived.Test.YtjhggnebkfpgcaaGreatDoorSame
import Derived.KernelRfl
namespace Go.Proofs.YtjhggnebkfpgcaaGreatDoor
open Go Go.RowKit
open Go.Proofs.Abs
end Go.Proofs.YtjhggnebkfpgcaaGreatDoor
