/- The texts that are met. -/
import Derived.Test.YtjhggnebkfpgcaaGreatDoorKinds
import Derived.Test.YtjhggnebkfpgcaaGreatDoorG5
import Derived.KernelRfl
namespace Go.Proofs.YtjhggnebkfpgcaaGreatDoor
open Go Go.RowKit
open Go.Proofs.Abs
noncomputable def optsK : Opts := { how := fun f => match memN [119, 120, 121, 193, 194, 191] f with | true => .keep | false => .pure, summ := fun _ _ => none, glob := gl, lf := 100000 }
set_option maxRecDepth 20000 in
theorem ansK {f : FuncId} {args : List AV} {v : AV} (hcl : closedAll args = true) (h : ansQ Tryz.prog optsK 40 f args = some v) (hv : closedA v = true) : SC f args v :=
 ansQ_sem (O := optsK) Tryz.mixed (fun _ _ _ h => by cases h) gl_closed noCall_ok' hcl h hv
def texts : List (List UInt8) := [[111, 110, 101], [116, 119, 111], [116, 104, 114, 101, 101], [102, 111, 117, 114], [102, 105, 118, 101], [], [53], [49], [50], [51], [52], [54], [55], [57, 57], [120], [49, 50, 51, 52, 53, 54, 55, 56], [109], [108, 111, 115, 116]]
def cusB : List UInt8 → Bool
 | 120 :: 45 :: _ => true
 | _ => false
theorem cu0 : ansQ Tryz.prog optsK 40 111 [.str [85, 110, 105, 113, 117, 101, 32, 73, 100, 101, 110, 116, 105, 102, 105, 101, 114]] = some (.bool false) := by kernel_rfl
theorem cu1 : ansQ Tryz.prog optsK 40 111 [.str [78, 97, 109, 101]] = some (.bool false) := by kernel_rfl
theorem cu2 : ansQ Tryz.prog optsK 40 111 [.str [79, 98, 106, 101, 99, 116, 32, 84, 121, 112, 101]] = some (.bool false) := by kernel_rfl
theorem cu3 : ansQ Tryz.prog optsK 40 111 [.str [67, 114, 121, 112, 116, 111, 103, 114, 97, 112, 104, 105, 99, 32, 65, 108, 103, 111, 114, 105, 116, 104, 109]] = some (.bool false) := by kernel_rfl
theorem cu4 : ansQ Tryz.prog optsK 40 111 [.str [67, 114, 121, 112, 116, 111, 103, 114, 97, 112, 104, 105, 99, 32, 76, 101, 110, 103, 116, 104]] = some (.bool false) := by kernel_rfl
theorem cu5 : ansQ Tryz.prog optsK 40 111 [.str [67, 114, 121, 112, 116, 111, 103, 114, 97, 112, 104, 105, 99, 32, 85, 115, 97, 103, 101, 32, 77, 97, 115, 107]] = some (.bool false) := by kernel_rfl
theorem cu6 : ansQ Tryz.prog optsK 40 111 [.str [83, 116, 97, 116, 101]] = some (.bool false) := by kernel_rfl
theorem cu7 : ansQ Tryz.prog optsK 40 111 [.str [73, 110, 105, 116, 105, 97, 108, 32, 68, 97, 116, 101]] = some (.bool false) := by kernel_rfl
theorem cu8 : ansQ Tryz.prog optsK 40 111 [.str [65, 99, 116, 105, 118, 97, 116, 105, 111, 110, 32, 68, 97, 116, 101]] = some (.bool false) := by kernel_rfl
theorem cu9 : ansQ Tryz.prog optsK 40 111 [.str [80, 114, 111, 99, 101, 115, 115, 32, 83, 116, 97, 114, 116, 32, 68, 97, 116, 101]] = some (.bool false) := by kernel_rfl
theorem cu10 : ansQ Tryz.prog optsK 40 111 [.str [80, 114, 111, 116, 101, 99, 116, 32, 83, 116, 111, 112, 32, 68, 97, 116, 101]] = some (.bool false) := by kernel_rfl
theorem cu11 : ansQ Tryz.prog optsK 40 111 [.str [68, 101, 97, 99, 116, 105, 118, 97, 116, 105, 111, 110, 32, 68, 97, 116, 101]] = some (.bool false) := by kernel_rfl
theorem cu12 : ansQ Tryz.prog optsK 40 111 [.str [68, 101, 115, 116, 114, 111, 121, 32, 68, 97, 116, 101]] = some (.bool false) := by kernel_rfl
theorem cu13 : ansQ Tryz.prog optsK 40 111 [.str [67, 111, 109, 112, 114, 111, 109, 105, 115, 101, 32, 79, 99, 99, 117, 114, 114, 101, 110, 99, 101, 32, 68, 97, 116, 101]] = some (.bool false) := by kernel_rfl
theorem cu14 : ansQ Tryz.prog optsK 40 111 [.str [67, 111, 109, 112, 114, 111, 109, 105, 115, 101, 32, 68, 97, 116, 101]] = some (.bool false) := by kernel_rfl
theorem cu15 : ansQ Tryz.prog optsK 40 111 [.str [65, 114, 99, 104, 105, 118, 101, 32, 68, 97, 116, 101]] = some (.bool false) := by kernel_rfl
theorem cu16 : ansQ Tryz.prog optsK 40 111 [.str [76, 97, 115, 116, 32, 67, 104, 97, 110, 103, 101, 32, 68, 97, 116, 101]] = some (.bool false) := by kernel_rfl
theorem cu17 : ansQ Tryz.prog optsK 40 111 [.str [82, 101, 118, 111, 99, 97, 116, 105, 111, 110, 32, 82, 101, 97, 115, 111, 110]] = some (.bool false) := by kernel_rfl
theorem cu18 : ansQ Tryz.prog optsK 40 111 [.str [76, 105, 110, 107]] = some (.bool false) := by kernel_rfl
theorem cu19 : ansQ Tryz.prog optsK 40 111 [.str [85, 115, 97, 103, 101, 32, 76, 105, 109, 105, 116, 115]] = some (.bool false) := by kernel_rfl
theorem cu20 : ansQ Tryz.prog optsK 40 111 [.str [120, 45, 97]] = some (.bool true) := by kernel_rfl
theorem cu21 : ansQ Tryz.prog optsK 40 111 [.str [120, 45, 98]] = some (.bool true) := by kernel_rfl
theorem cu22 : ansQ Tryz.prog optsK 40 111 [.str [120, 45]] = some (.bool true) := by kernel_rfl
theorem cu23 : ansQ Tryz.prog optsK 40 111 [.str [121]] = some (.bool false) := by kernel_rfl
theorem cus_sem : ∀ s ∈ nameL, SC 111 [.str s] (.bool (cusB s)) := by
 simp only [nameL, List.forall_mem_cons]
 exact ⟨ansK rfl cu0 rfl, ansK rfl cu1 rfl, ansK rfl cu2 rfl, ansK rfl cu3 rfl, ansK rfl cu4 rfl, ansK rfl cu5 rfl, ansK rfl cu6 rfl, ansK rfl cu7 rfl, ansK rfl cu8 rfl, ansK rfl cu9 rfl, ansK rfl cu10 rfl, ansK rfl cu11 rfl, ansK rfl cu12 rfl, ansK rfl cu13 rfl, ansK rfl cu14 rfl, ansK rfl cu15 rfl, ansK rfl cu16 rfl, ansK rfl cu17 rfl, ansK rfl cu18 rfl, ansK rfl cu19 rfl, ansK rfl cu20 rfl, ansK rfl cu21 rfl, ansK rfl cu22 rfl, ansK rfl cu23 rfl, fun _ h => by cases h⟩
end Go.Proofs.YtjhggnebkfpgcaaGreatDoor
