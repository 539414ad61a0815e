/- Items: the same. -/
import Derived.Test.YtjhggnebkfpgcaaGreatDoorBs
import Derived.Test.YtjhggnebkfpgcaaGreatDoorG5
import Derived.KernelRfl
namespace Go.Proofs.YtjhggnebkfpgcaaGreatDoor
open Go Go.RowKit
open Go.Proofs.Abs
abbrev big : Nat := 1099511627776
def itF (t y n : Int) (D K : List AV) : List AV := [I t, I y, I n, .fsl false D, .fsl false K]
theorem its_length (l : List It) : (itAs l).length = l.length := by simp [itAs_map]
theorem itA_F (t y n : Int) (d : List UInt8) (ks : List It) : itA (.mk t y n d ks) = .agg (itF t y n (toBytes d) (itAs ks)) := rfl
theorem idxI {f : Bool} {ks : List It} {i : Nat} {t y n : Int} {d : List UInt8} {l : List It} (hx : ks[i]? = some (.mk t y n d l)) : indexAddrA Tryz.prog 35 (.fsl f (itAs ks)) (.int .i64 (.ofNat i)) = some (.fptr (itF t y n (toBytes d) (itAs l)) 0) :=
 fsl_index (v := itA (.mk t y n d l)) (e := 37) (sz := 5) (by kernel_rfl) (by kernel_rfl) (by rw [itAs_map, List.getElem?_map, hx]; rfl) rfl
end Go.Proofs.YtjhggnebkfpgcaaGreatDoor
