/- Set, Add, Modify, Delete, over rows whose closures are open. -/
import Derived.Test.YtjhggnebkfpgcaaGreatDoorMore
import Derived.KernelRfl
namespace Go.Proofs.YtjhggnebkfpgcaaGreatDoor
open Go Go.RowKit
open Go.Proofs.Abs
def fiT (W : List AV) : AV := .tuple [.agg W, .bool true]
end Go.Proofs.YtjhggnebkfpgcaaGreatDoor
