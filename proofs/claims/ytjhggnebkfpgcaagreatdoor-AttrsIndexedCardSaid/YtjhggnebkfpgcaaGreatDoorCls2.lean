/- Whether Values may be put; what is allowed. -/
import Derived.Test.YtjhggnebkfpgcaaGreatDoorCls
import Derived.KernelRfl
namespace Go.Proofs.YtjhggnebkfpgcaaGreatDoor
open Go Go.RowKit
open Go.Proofs.Abs
def gfn : Kd → Nat
 | .uid => 127
 | .nam => 166
 | .typ => 130
 | .sta => 134
 | .dat _ => 172
 | .why => 138
 | .lnk => 178
 | .lim => 184
 | .cus _ => 150
 | _ => 161
def gcp : Kd → List AV
 | .dat k => [.fptr [nI k] 0]
 | .cus s => [.fptr [.str s] 0]
 | .alg => [.fptr [atF .alg] 0, .fptr [I 1] 0, .fptr [I 5] 0]
 | .len => [.fptr [atF .len] 0, .fptr [I 1] 0, .fptr [I 2] 0]
 | .mask => [.fptr [atF .mask] 0, .fptr [I 0] 0, .fptr [I 2] 0]
 | _ => []
theorem getF_eq (k : Kd) : getF k = fnC (gfn k) (gcp k) := by cases k <;> rfl
end Go.Proofs.YtjhggnebkfpgcaaGreatDoor
