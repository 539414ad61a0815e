/- Attributes laid as items, and read: what the functions answer. -/
import Derived.Test.YtjhggnebkfpgcaaGreatDoorBase
namespace Go.Proofs.YtjhggnebkfpgcaaGreatDoor
open Go.Proofs.Abs

/-- A Value, as the statements make them. -/
inductive Vl where
  | num (k n : Int)
  | text (s : List UInt8)
  | reason (n : Int)
  | link (n : Int) (s : List UInt8)
  | limits (a b c : Int)

/-- The texts that stand in Values. -/
def texts : List (List UInt8) := [[111, 110, 101], [116, 119, 111], [116, 104, 114, 101, 101], [102, 111, 117, 114], [], [53], [49], [50], [51], [52], [54], [55], [57, 57], [120]]
def item (t k n : Int) (d l : AV) : AV := .agg [I t, I k, I n, d, l]
def raw (s : List UInt8) : AV := .fsl false (toBytes s)
def cop : List UInt8 → AV
  | [] => .fsl true []
  | s => raw s
def Vl.av (b : Bool) (d : List UInt8 → AV) : Vl → AV
  | .num k n => item 4325387 k n .nilsl .nilsl
  | .text s => item 4325387 7 0 (d s) .nilsl
  | .reason n => item 4325387 1 0 .nilsl (.fsl b [item 4325506 5 n .nilsl .nilsl])
  | .link n s => item 4325387 1 0 .nilsl (.fsl b [item 4325451 5 n .nilsl .nilsl, item 4325452 7 0 (d s) .nilsl])
  | .limits x y z => item 4325387 1 0 .nilsl (.fsl b [item 4325527 3 x .nilsl .nilsl, item 4325526 3 y .nilsl .nilsl, item 4325528 5 z .nilsl .nilsl])
def Vl.may : Vl → Prop
  | .text s => s ∈ texts
  | .link _ s => s ∈ texts
  | _ => True

variable {G : Glob} {n : Nat}

theorem copied_raw (v : Vl) (hv : v.may) : Says G (n + 6) 88 [v.av true raw] (v.av false cop) := by
  cases v with
  | num k x => exact pureT_ok (O := opts G) (T := []) (F := []) rfl rfl (by kernel_rfl) trivial
  | text s =>
    simp only [Vl.may, texts, List.mem_cons, List.not_mem_nil, or_false] at hv
    rcases hv with rfl | rfl | rfl | rfl | rfl | rfl | rfl | rfl | rfl | rfl | rfl | rfl | rfl | rfl <;> exact pureT_ok (O := opts G) (T := []) (F := []) rfl rfl (by kernel_rfl) trivial
  | reason x => exact pureT_ok (O := opts G) (T := []) (F := []) rfl rfl (by kernel_rfl) trivial
  | link x s =>
    simp only [Vl.may, texts, List.mem_cons, List.not_mem_nil, or_false] at hv
    rcases hv with rfl | rfl | rfl | rfl | rfl | rfl | rfl | rfl | rfl | rfl | rfl | rfl | rfl | rfl <;> exact pureT_ok (O := opts G) (T := []) (F := []) rfl rfl (by kernel_rfl) trivial
  | limits x y z => exact pureT_ok (O := opts G) (T := []) (F := []) rfl rfl (by kernel_rfl) trivial

theorem copied_cop (v : Vl) (hv : v.may) : Says G (n + 6) 88 [v.av false cop] (v.av false cop) := by
  cases v with
  | num k x => exact pureT_ok (O := opts G) (T := []) (F := []) rfl rfl (by kernel_rfl) trivial
  | text s =>
    simp only [Vl.may, texts, List.mem_cons, List.not_mem_nil, or_false] at hv
    rcases hv with rfl | rfl | rfl | rfl | rfl | rfl | rfl | rfl | rfl | rfl | rfl | rfl | rfl | rfl <;> exact pureT_ok (O := opts G) (T := []) (F := []) rfl rfl (by kernel_rfl) trivial
  | reason x => exact pureT_ok (O := opts G) (T := []) (F := []) rfl rfl (by kernel_rfl) trivial
  | link x s =>
    simp only [Vl.may, texts, List.mem_cons, List.not_mem_nil, or_false] at hv
    rcases hv with rfl | rfl | rfl | rfl | rfl | rfl | rfl | rfl | rfl | rfl | rfl | rfl | rfl | rfl <;> exact pureT_ok (O := opts G) (T := []) (F := []) rfl rfl (by kernel_rfl) trivial
  | limits x y z => exact pureT_ok (O := opts G) (T := []) (F := []) rfl rfl (by kernel_rfl) trivial

end Go.Proofs.YtjhggnebkfpgcaaGreatDoor
