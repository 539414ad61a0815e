/- ttlv.Same of a Value and its copy. -/
import Derived.Test.YtjhggnebkfpgcaaGreatDoorBack1
namespace Go.Proofs.YtjhggnebkfpgcaaGreatDoor
open Go.Proofs.Abs
variable {G : Glob} {n : Nat}

theorem beqInt_self (a : Int) : beqInt a a = true := by cases a <;> simp [beqInt]

theorem same_leaf (t k x : Int) : Says G (n + 3) 33 [item t k x .nilsl .nilsl, item t k x .nilsl .nilsl] (.bool true) :=
  pureT_ok (O := opts G) (T := [(1, 4, .b true), (1, 10, .b true), (1, 17, .b true)]) (F := [.beq x x true, .beq k k true, .beq t t true]) rfl rfl (by kernel_rfl) ⟨beqInt_self x, beqInt_self k, beqInt_self t, trivial⟩

theorem same_text {s : List UInt8} (t : Int) (hv : s ∈ texts) : Says G (n + 3) 33 [item t 7 0 (raw s) .nilsl, item t 7 0 (cop s) .nilsl] (.bool true) := by
  simp only [texts, List.mem_cons, List.not_mem_nil, or_false] at hv
  rcases hv with rfl | rfl | rfl | rfl | rfl | rfl | rfl | rfl | rfl | rfl | rfl | rfl | rfl | rfl <;> exact pureT_ok (O := opts G) (T := [(1, 4, .b true)]) (F := [.beq t t true]) rfl rfl (by kernel_rfl) ⟨beqInt_self t, trivial⟩

abbrev same33 : AV := .func (.func 33) [] []

theorem same_copy (v : Vl) (hv : v.may) : Says G (n + 5) 33 [v.av true raw, v.av false cop] (.bool true) := by
  cases v with
  | num k x => exact same_leaf (n := n + 2) _ _ _
  | text s => exact same_text (n := n + 2) _ hv
  | reason x =>
    have e : Says G (n + 4) 85 [.fsl true [item 4325506 5 x .nilsl .nilsl], .fsl false [item 4325506 5 x .nilsl .nilsl], same33] (.bool true) :=
      pureT_ok (O := opts G) (T := [(7, 3, .c (.bool true))]) (F := [.call 33 [item 4325506 5 x .nilsl .nilsl, item 4325506 5 x .nilsl .nilsl] (.bool true)]) rfl rfl (by kernel_rfl) ⟨same_leaf _ _ _, trivial⟩
    exact pureT_ok (O := opts G) (T := [(1, 31, .c (.bool true))]) (F := [.call 85 [.fsl true [item 4325506 5 x .nilsl .nilsl], .fsl false [item 4325506 5 x .nilsl .nilsl], same33] (.bool true)]) rfl rfl (by kernel_rfl) ⟨e, trivial⟩
  | link x s =>
    have e : Says G (n + 4) 85 [.fsl true [item 4325451 5 x .nilsl .nilsl, item 4325452 7 0 (raw s) .nilsl], .fsl false [item 4325451 5 x .nilsl .nilsl, item 4325452 7 0 (cop s) .nilsl], same33] (.bool true) := by
      have h2 := same_text (G := G) (n := n) 4325452 hv
      have h1 := same_leaf (G := G) (n := n) 4325451 5 x
      simp only [Vl.may, texts, List.mem_cons, List.not_mem_nil, or_false] at hv
      rcases hv with rfl | rfl | rfl | rfl | rfl | rfl | rfl | rfl | rfl | rfl | rfl | rfl | rfl | rfl <;>
      exact pureT_ok (O := opts G) (T := [(7, 3, .c (.bool true)), (7, 3, .c (.bool true))]) (F := [.call 33 [item 4325452 7 0 (raw _) .nilsl, item 4325452 7 0 (cop _) .nilsl] (.bool true), .call 33 [item 4325451 5 x .nilsl .nilsl, item 4325451 5 x .nilsl .nilsl] (.bool true)]) rfl rfl (by kernel_rfl) ⟨h2, h1, trivial⟩
    simp only [Vl.may, texts, List.mem_cons, List.not_mem_nil, or_false] at hv
    rcases hv with rfl | rfl | rfl | rfl | rfl | rfl | rfl | rfl | rfl | rfl | rfl | rfl | rfl | rfl <;>
    exact pureT_ok (O := opts G) (T := [(1, 31, .c (.bool true))]) (F := [.call 85 [.fsl true [item 4325451 5 x .nilsl .nilsl, item 4325452 7 0 (raw _) .nilsl], .fsl false [item 4325451 5 x .nilsl .nilsl, item 4325452 7 0 (cop _) .nilsl], same33] (.bool true)]) rfl rfl (by kernel_rfl) ⟨e, trivial⟩
  | limits x y z =>
    have e : Says G (n + 4) 85 [.fsl true [item 4325527 3 x .nilsl .nilsl, item 4325526 3 y .nilsl .nilsl, item 4325528 5 z .nilsl .nilsl], .fsl false [item 4325527 3 x .nilsl .nilsl, item 4325526 3 y .nilsl .nilsl, item 4325528 5 z .nilsl .nilsl], same33] (.bool true) :=
      pureT_ok (O := opts G) (T := [(7, 3, .c (.bool true)), (7, 3, .c (.bool true)), (7, 3, .c (.bool true))]) (F := [.call 33 [item 4325528 5 z .nilsl .nilsl, item 4325528 5 z .nilsl .nilsl] (.bool true), .call 33 [item 4325526 3 y .nilsl .nilsl, item 4325526 3 y .nilsl .nilsl] (.bool true), .call 33 [item 4325527 3 x .nilsl .nilsl, item 4325527 3 x .nilsl .nilsl] (.bool true)]) rfl rfl (by kernel_rfl) ⟨same_leaf _ _ _, same_leaf _ _ _, same_leaf _ _ _, trivial⟩
    exact pureT_ok (O := opts G) (T := [(1, 31, .c (.bool true))]) (F := [.call 85 [.fsl true [item 4325527 3 x .nilsl .nilsl, item 4325526 3 y .nilsl .nilsl, item 4325528 5 z .nilsl .nilsl], .fsl false [item 4325527 3 x .nilsl .nilsl, item 4325526 3 y .nilsl .nilsl, item 4325528 5 z .nilsl .nilsl], same33] (.bool true)]) rfl rfl (by kernel_rfl) ⟨e, trivial⟩

end Go.Proofs.YtjhggnebkfpgcaaGreatDoor
