/- What walks over this program lean on. -/
import Derived.Test.YtjhggnebkfpgcaaGreatDoorProg
import Derived.Test.YtjhggnebkfpgcaaGreatDoorG5
import Derived.KernelRfl
namespace Go.Proofs.YtjhggnebkfpgcaaGreatDoor
open Go Go.RowKit
open Go.Proofs.Abs
abbrev I (n : Int) : AV := .int .i64 n
def nameL : List (List UInt8) := [[85, 110, 105, 113, 117, 101, 32, 73, 100, 101, 110, 116, 105, 102, 105, 101, 114], [78, 97, 109, 101], [79, 98, 106, 101, 99, 116, 32, 84, 121, 112, 101], [67, 114, 121, 112, 116, 111, 103, 114, 97, 112, 104, 105, 99, 32, 65, 108, 103, 111, 114, 105, 116, 104, 109], [67, 114, 121, 112, 116, 111, 103, 114, 97, 112, 104, 105, 99, 32, 76, 101, 110, 103, 116, 104], [67, 114, 121, 112, 116, 111, 103, 114, 97, 112, 104, 105, 99, 32, 85, 115, 97, 103, 101, 32, 77, 97, 115, 107], [83, 116, 97, 116, 101], [73, 110, 105, 116, 105, 97, 108, 32, 68, 97, 116, 101], [65, 99, 116, 105, 118, 97, 116, 105, 111, 110, 32, 68, 97, 116, 101], [80, 114, 111, 99, 101, 115, 115, 32, 83, 116, 97, 114, 116, 32, 68, 97, 116, 101], [80, 114, 111, 116, 101, 99, 116, 32, 83, 116, 111, 112, 32, 68, 97, 116, 101], [68, 101, 97, 99, 116, 105, 118, 97, 116, 105, 111, 110, 32, 68, 97, 116, 101], [68, 101, 115, 116, 114, 111, 121, 32, 68, 97, 116, 101], [67, 111, 109, 112, 114, 111, 109, 105, 115, 101, 32, 79, 99, 99, 117, 114, 114, 101, 110, 99, 101, 32, 68, 97, 116, 101], [67, 111, 109, 112, 114, 111, 109, 105, 115, 101, 32, 68, 97, 116, 101], [65, 114, 99, 104, 105, 118, 101, 32, 68, 97, 116, 101], [76, 97, 115, 116, 32, 67, 104, 97, 110, 103, 101, 32, 68, 97, 116, 101], [82, 101, 118, 111, 99, 97, 116, 105, 111, 110, 32, 82, 101, 97, 115, 111, 110], [76, 105, 110, 107], [85, 115, 97, 103, 101, 32, 76, 105, 109, 105, 116, 115], [120, 45, 97], [120, 45, 98], [120, 45], [121]]
def gl : Glob := fun _ => none
theorem Tryz.mixed : Tryz.prog.follows .mixedOrders = true := by kernel_rfl
noncomputable def opts0 : Opts := { how := fun _ => .pure, summ := fun _ _ => none, glob := gl, lf := 100000 }
theorem gl_closed : ∀ g l, gl g = some l → closedAll l = true := fun _ _ h => by cases h
theorem base0 : Base Tryz.prog opts0 40 := base_of Tryz.mixed (fun _ _ _ h => by cases h) gl_closed
theorem sum0 : ∀ f args v, opts0.summ f args = some v → SemCall Tryz.prog opts0.glob f args v := fun _ _ _ h => by cases h
noncomputable def aid0 : Aid := aidOf (fun _ _ => none) (fun _ => none)
theorem aidOk0 : AidOk Tryz.prog opts0 aid0 := aidOf_ok sum0
noncomputable def aidJ (hint : List (Nat × Nat × Hint)) (ls : List (Nat × LoopS)) (sem : SemT) (pure all : List Nat) : Aid := aidI Tryz.prog opts0 40 (manyH hint) (manyL ls) sem (manyI pure all)
theorem aidJ_ok {hint : List (Nat × Nat × Hint)} {ls : List (Nat × LoopS)} {sem : SemT} {pure all : List Nat} : AidOk Tryz.prog opts0 (aidJ hint ls sem pure all) := aidI_ok base0 sum0
abbrev zL : List AV := [AV.str [], I 0, I 0, I 0, I 0, AV.nilsl, I 0, AV.bool false, I 0, AV.bool false, I 0, AV.bool false, I 0, AV.bool false, I 0, AV.bool false, I 0, AV.bool false, I 0, AV.bool false, I 0, AV.bool false, I 0, AV.bool false, I 0, AV.bool false, I 0, I 0, AV.str [], AV.nilsl, AV.nilsl, AV.nilsl, AV.bool false, I 0, I 0, I 0, AV.bool false]
abbrev SC := SemCall Tryz.prog opts0.glob
end Go.Proofs.YtjhggnebkfpgcaaGreatDoor
