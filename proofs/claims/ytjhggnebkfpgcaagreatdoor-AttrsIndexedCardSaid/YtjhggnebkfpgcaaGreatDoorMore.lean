/- Rows' methods: over rows whose closures are open. -/
import Derived.Test.YtjhggnebkfpgcaaGreatDoorPlaces
import Derived.Test.YtjhggnebkfpgcaaGreatDoorG5
import Derived.KernelRfl
namespace Go.Proofs.YtjhggnebkfpgcaaGreatDoor
open Go Go.RowKit
open Go.Proofs.Abs
structure RowH where
 nm : List UInt8
 ty : Int
 many : Bool
 set : Bool
def rowW (h : RowH) (A1 A2 A3 G R P D RM : AV) : List AV := [.str h.nm, I h.ty, .bool h.many, .bool h.set, A1, A2, A3, G, R, P, D, RM]
end Go.Proofs.YtjhggnebkfpgcaaGreatDoor
