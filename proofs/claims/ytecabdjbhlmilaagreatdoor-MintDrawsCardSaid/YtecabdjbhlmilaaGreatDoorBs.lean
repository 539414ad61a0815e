/- What walks over this program lean on. -/
import Derived.Test.YtecabdjbhlmilaaGreatDoorProg
import Derived.Test.YtecabdjbhlmilaaGreatDoorG5
import Derived.KernelRfl
namespace Go.Proofs.YtecabdjbhlmilaaGreatDoor
open Go Go.RowKit
open Go.Proofs.Abs

theorem Tryz.mixed : Tryz.prog.follows .mixedOrders = true := by kernel_rfl
noncomputable def opts0 : Opts := { how := fun _ => .pure, summ := fun _ _ => none, glob := fun _ => none, lf := 100000 }
theorem base0 : Base Tryz.prog opts0 40 := base_of Tryz.mixed (fun _ _ _ h => by cases h) (fun _ _ h => by cases h)
abbrev I (n : Int) : AV := .int .i64 n
theorem sum0 : ∀ f args v, opts0.summ f args = some v → SemCall Tryz.prog opts0.glob f args v := fun _ _ _ h => by cases h
noncomputable def aid0 : Aid := aidOf (fun _ _ => none) (fun _ => none)
theorem aidOk0 : AidOk Tryz.prog opts0 aid0 := aidOf_ok sum0
/-- Help with hints, with loops, with what calls answer, and with functions that are followed: pure ones, and others. -/
noncomputable def aidJ (hint : List (Nat × Nat × Hint)) (ls : List (Nat × LoopS)) (sem : SemT) (pure all : List Nat) : Aid := aidI Tryz.prog opts0 40 (manyH hint) (manyL ls) sem (manyI pure all)
theorem aidJ_ok {hint : List (Nat × Nat × Hint)} {ls : List (Nat × LoopS)} {sem : SemT} {pure all : List Nat} : AidOk Tryz.prog opts0 (aidJ hint ls sem pure all) := aidI_ok base0 sum0

end Go.Proofs.YtecabdjbhlmilaaGreatDoor
