/- An object is the same as itself, says the reference. -/
import Derived.Test.YtjhggnebkfpgcaaGreatDoorOf2
import Derived.Test.YtjhggnebkfpgcaaGreatDoorObj2
import Derived.KernelRfl
namespace Go.Proofs.YtjhggnebkfpgcaaGreatDoor
open Go Go.RowKit
open Go.Proofs.Abs
end Go.Proofs.YtjhggnebkfpgcaaGreatDoor
