/- What the closures do that put and drop. -/
import Derived.Test.YtjhggnebkfpgcaaGreatDoorCus
import Derived.KernelRfl
namespace Go.Proofs.YtjhggnebkfpgcaaGreatDoor
open Go Go.RowKit
open Go.Proofs.Abs
end Go.Proofs.YtjhggnebkfpgcaaGreatDoor
