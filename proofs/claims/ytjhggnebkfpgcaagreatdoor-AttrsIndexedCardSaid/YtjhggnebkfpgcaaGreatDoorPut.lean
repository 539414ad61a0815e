/- Parts put into rows, and dropped: rows of few parts. -/
import Derived.Test.YtjhggnebkfpgcaaGreatDoorTexts
import Derived.KernelRfl
namespace Go.Proofs.YtjhggnebkfpgcaaGreatDoor
open Go Go.RowKit
open Go.Proofs.Abs
end Go.Proofs.YtjhggnebkfpgcaaGreatDoor
