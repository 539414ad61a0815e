/- Attributes as items, items as attributes: what the functions answer. -/
import Derived.Test.YtjhggnebkfpgcaaGreatDoorCopied
import Derived.KernelRfl
namespace Go.Proofs.YtjhggnebkfpgcaaGreatDoor
open Go Go.RowKit
open Go.Proofs.Abs

/-- An attribute. -/
structure At where
  name : List UInt8
  idx : Int
  v : It
def itC : It → List AV
  | .mk t y n df d kf ks => [I t, I y, I n, rowV df (toBytes d), rowV kf (itAs ks)]
theorem itA_C (x : It) : itA x = .agg (itC x) := by cases x; rfl
def atA (a : At) : AV := .agg (.str a.name :: I a.idx :: itC a.v)

theorem kid1_fn (t y n : Int) (D K D' K' : AV) (Q : AV → Heap → Nat → Prop) : fnK Tryz.prog opts0 40 (aidJ [] [] (manyS [(160, .agg [I t, I y, I n, D', K'])]) [] []) 122 [.agg [I 0, I 0, I 0, .nilsl, .fsl true [.agg [I t, I y, I n, D, K]]], I t] [] 0 Q =
    (oblB (fitsT Tryz.prog 37 (AV.agg [AV.int IntKind.i64 t, AV.int IntKind.i64 y, AV.int IntKind.i64 n, D, K]) 5) (mtB (beqInt t t) (SemCall Tryz.prog opts0.glob 160 [AV.agg [AV.int IntKind.i64 t, AV.int IntKind.i64 y, AV.int IntKind.i64 n, D, K]] (AV.agg [AV.int IntKind.i64 t, AV.int IntKind.i64 y, AV.int IntKind.i64 n, D', K']) ∧ oblB (fitsT Tryz.prog 37 (AV.agg [AV.int IntKind.i64 t, AV.int IntKind.i64 y, AV.int IntKind.i64 n, D', K']) 5) (Q (AV.tuple [AV.agg [AV.int IntKind.i64 t, AV.int IntKind.i64 y, AV.int IntKind.i64 n, D', K'], AV.bool true]) [(10, some (Blk.cells [AV.int IntKind.i64 t, AV.int IntKind.i64 y, AV.int IntKind.i64 n, D, K])), (1, some (Blk.cells [AV.int IntKind.i64 t, AV.int IntKind.i64 y, AV.int IntKind.i64 n, D', K'])), (0, some (Blk.cells [AV.int IntKind.i64 0, AV.int IntKind.i64 0, AV.int IntKind.i64 0, AV.nilsl, AV.fsl true [AV.agg [AV.int IntKind.i64 t, AV.int IntKind.i64 y, AV.int IntKind.i64 n, D, K]]]))] 20)) (Q (AV.tuple [AV.agg [AV.int IntKind.i64 0, AV.int IntKind.i64 0, AV.int IntKind.i64 0, AV.nilsl, AV.nilsl], AV.bool false]) [(10, some (Blk.cells [AV.int IntKind.i64 t, AV.int IntKind.i64 y, AV.int IntKind.i64 n, D, K])), (1, some (Blk.cells [AV.int IntKind.i64 0, AV.int IntKind.i64 0, AV.int IntKind.i64 0, AV.nilsl, AV.nilsl])), (0, some (Blk.cells [AV.int IntKind.i64 0, AV.int IntKind.i64 0, AV.int IntKind.i64 0, AV.nilsl, AV.fsl true [AV.agg [AV.int IntKind.i64 t, AV.int IntKind.i64 y, AV.int IntKind.i64 n, D, K]]]))] 22))) := by kernel_rfl
theorem acop_fn (t y n : Int) (D K D' K' : AV) (Q : AV → Heap → Nat → Prop) : fnK Tryz.prog opts0 40 (aidJ [] [] (manyS [(122, .tuple [.agg [I t, I y, I n, D', K'], .bool true])]) [] []) 88 [.agg [I t, I y, I n, D, K]] [] 0 Q =
    (SemCall Tryz.prog opts0.glob 122 [AV.agg [AV.int IntKind.i64 0, AV.int IntKind.i64 0, AV.int IntKind.i64 0, AV.nilsl, AV.fsl true [AV.agg [AV.int IntKind.i64 t, AV.int IntKind.i64 y, AV.int IntKind.i64 n, D, K]]], AV.int IntKind.i64 t] (AV.tuple [AV.agg [AV.int IntKind.i64 t, AV.int IntKind.i64 y, AV.int IntKind.i64 n, D', K'], AV.bool true]) ∧ oblB (fitsT Tryz.prog 37 (AV.agg [AV.int IntKind.i64 t, AV.int IntKind.i64 y, AV.int IntKind.i64 n, D', K']) 5) (oblB (fitsT Tryz.prog 37 (AV.agg [AV.int IntKind.i64 t, AV.int IntKind.i64 y, AV.int IntKind.i64 n, D', K']) 5) (Q (AV.agg [AV.int IntKind.i64 t, AV.int IntKind.i64 y, AV.int IntKind.i64 n, D', K']) [(11, some (Blk.cells [AV.int IntKind.i64 t, AV.int IntKind.i64 y, AV.int IntKind.i64 n, D', K'])), (1, some (Blk.cells [AV.int IntKind.i64 t, AV.int IntKind.i64 y, AV.int IntKind.i64 n, D', K'])), (0, some (Blk.cells [AV.int IntKind.i64 t, AV.int IntKind.i64 y, AV.int IntKind.i64 n, D, K]))] 16))) := by kernel_rfl
theorem lay_fn (s : List UInt8) (i t y n : Int) (D K D' K' : AV) (Q : AV → Heap → Nat → Prop) : fnK Tryz.prog opts0 40 (aidJ [] [] (manyS [(88, .agg [I t, I y, I n, D', K'])]) [] []) 36 [.agg [.str s, I i, I t, I y, I n, D, K]] [] 0 Q =
    (mtB (!beqInt i 0) (SemCall Tryz.prog opts0.glob 88 [AV.agg [AV.int IntKind.i64 t, AV.int IntKind.i64 y, AV.int IntKind.i64 n, D, K]] (AV.agg [AV.int IntKind.i64 t, AV.int IntKind.i64 y, AV.int IntKind.i64 n, D', K']) ∧ oblB (allSize 5 [AV.agg [AV.int IntKind.i64 t, AV.int IntKind.i64 y, AV.int IntKind.i64 n, D', K']] && (((lenN [AV.agg [AV.int IntKind.i64 4325386, AV.int IntKind.i64 7, AV.int IntKind.i64 0, AV.fsl false (toBytes s), AV.nilsl]] + lenN [AV.agg [AV.int IntKind.i64 4325385, AV.int IntKind.i64 2, AV.int IntKind.i64 i, AV.nilsl, AV.nilsl]] + lenN [AV.agg [AV.int IntKind.i64 t, AV.int IntKind.i64 y, AV.int IntKind.i64 n, D', K']]) * 72).ble 140737488355328 && (allOne (flat [AV.agg [AV.int IntKind.i64 t, AV.int IntKind.i64 y, AV.int IntKind.i64 n, D', K']]) && true))) (Q (AV.agg [AV.int IntKind.i64 4325384, AV.int IntKind.i64 1, AV.int IntKind.i64 0, AV.nilsl, AV.rsl true 28 0 (lenN [AV.agg [AV.int IntKind.i64 4325386, AV.int IntKind.i64 7, AV.int IntKind.i64 0, AV.fsl false (toBytes s), AV.nilsl]] + lenN [AV.agg [AV.int IntKind.i64 4325385, AV.int IntKind.i64 2, AV.int IntKind.i64 i, AV.nilsl, AV.nilsl]] + lenN [AV.agg [AV.int IntKind.i64 t, AV.int IntKind.i64 y, AV.int IntKind.i64 n, D', K']]) 5]) [(28, some (Blk.cells [AV.int IntKind.i64 4325386, AV.int IntKind.i64 7, AV.int IntKind.i64 0, AV.fsl false (toBytes s), AV.nilsl, AV.int IntKind.i64 4325385, AV.int IntKind.i64 2, AV.int IntKind.i64 i, AV.nilsl, AV.nilsl, AV.int IntKind.i64 t, AV.int IntKind.i64 y, AV.int IntKind.i64 n, D', K'])), (19, none), (8, some (Blk.cells [AV.int IntKind.i64 4325384, AV.int IntKind.i64 1, AV.int IntKind.i64 0, AV.nilsl, AV.rsl true 28 0 (lenN [AV.agg [AV.int IntKind.i64 4325386, AV.int IntKind.i64 7, AV.int IntKind.i64 0, AV.fsl false (toBytes s), AV.nilsl]] + lenN [AV.agg [AV.int IntKind.i64 4325385, AV.int IntKind.i64 2, AV.int IntKind.i64 i, AV.nilsl, AV.nilsl]] + lenN [AV.agg [AV.int IntKind.i64 t, AV.int IntKind.i64 y, AV.int IntKind.i64 n, D', K']]) 5])), (1, some (Blk.cells [AV.int IntKind.i64 4325384, AV.int IntKind.i64 1, AV.int IntKind.i64 0, AV.nilsl, AV.rsl true 28 0 (lenN [AV.agg [AV.int IntKind.i64 4325386, AV.int IntKind.i64 7, AV.int IntKind.i64 0, AV.fsl false (toBytes s), AV.nilsl]] + lenN [AV.agg [AV.int IntKind.i64 4325385, AV.int IntKind.i64 2, AV.int IntKind.i64 i, AV.nilsl, AV.nilsl]] + lenN [AV.agg [AV.int IntKind.i64 t, AV.int IntKind.i64 y, AV.int IntKind.i64 n, D', K']]) 5])), (0, some (Blk.cells [AV.str s, AV.int IntKind.i64 i, AV.int IntKind.i64 t, AV.int IntKind.i64 y, AV.int IntKind.i64 n, D, K]))] 33)) (SemCall Tryz.prog opts0.glob 88 [AV.agg [AV.int IntKind.i64 t, AV.int IntKind.i64 y, AV.int IntKind.i64 n, D, K]] (AV.agg [AV.int IntKind.i64 t, AV.int IntKind.i64 y, AV.int IntKind.i64 n, D', K']) ∧ Q (AV.agg [AV.int IntKind.i64 4325384, AV.int IntKind.i64 1, AV.int IntKind.i64 0, AV.nilsl, AV.rsl true 19 0 (lenN [AV.agg [AV.int IntKind.i64 4325386, AV.int IntKind.i64 7, AV.int IntKind.i64 0, AV.fsl false (toBytes s), AV.nilsl]] + lenN [AV.agg [AV.int IntKind.i64 t, AV.int IntKind.i64 y, AV.int IntKind.i64 n, D', K']]) 5]) [(19, some (Blk.cells (flat [AV.agg [AV.int IntKind.i64 4325386, AV.int IntKind.i64 7, AV.int IntKind.i64 0, AV.fsl false (toBytes s), AV.nilsl]] ++ flat [AV.agg [AV.int IntKind.i64 t, AV.int IntKind.i64 y, AV.int IntKind.i64 n, D', K']]))), (8, some (Blk.cells [AV.int IntKind.i64 4325384, AV.int IntKind.i64 1, AV.int IntKind.i64 0, AV.nilsl, AV.rsl true 19 0 (lenN [AV.agg [AV.int IntKind.i64 4325386, AV.int IntKind.i64 7, AV.int IntKind.i64 0, AV.fsl false (toBytes s), AV.nilsl]] + lenN [AV.agg [AV.int IntKind.i64 t, AV.int IntKind.i64 y, AV.int IntKind.i64 n, D', K']]) 5])), (1, some (Blk.cells [AV.int IntKind.i64 4325384, AV.int IntKind.i64 1, AV.int IntKind.i64 0, AV.nilsl, AV.rsl true 19 0 (lenN [AV.agg [AV.int IntKind.i64 4325386, AV.int IntKind.i64 7, AV.int IntKind.i64 0, AV.fsl false (toBytes s), AV.nilsl]] + lenN [AV.agg [AV.int IntKind.i64 t, AV.int IntKind.i64 y, AV.int IntKind.i64 n, D', K']]) 5])), (0, some (Blk.cells [AV.str s, AV.int IntKind.i64 i, AV.int IntKind.i64 t, AV.int IntKind.i64 y, AV.int IntKind.i64 n, D, K]))] 24)) := by kernel_rfl
theorem layr_fn (s : List UInt8) (i t y n : Int) (D K : AV) (Q : AV → Heap → Nat → Prop) : fnK Tryz.prog opts0 40 (aidJ [] [] noSem [86, 87] []) 34 [.agg [.str s, I i, I t, I y, I n, D, K]] [] 0 Q =
    (mtB (!beqInt i 0) (oblB (allSize 5 [AV.agg [AV.int IntKind.i64 t, AV.int IntKind.i64 y, AV.int IntKind.i64 n, D, K]] && (((lenN [AV.agg [AV.int IntKind.i64 4325386, AV.int IntKind.i64 7, AV.int IntKind.i64 0, AV.fsl false (toBytes s), AV.nilsl]] + lenN [AV.agg [AV.int IntKind.i64 4325385, AV.int IntKind.i64 2, AV.int IntKind.i64 i, AV.nilsl, AV.nilsl]] + lenN [AV.agg [AV.int IntKind.i64 t, AV.int IntKind.i64 y, AV.int IntKind.i64 n, D, K]]) * 72).ble 140737488355328 && (allOne (flat [AV.agg [AV.int IntKind.i64 t, AV.int IntKind.i64 y, AV.int IntKind.i64 n, D, K]]) && true))) (Q (AV.agg [AV.int IntKind.i64 4325384, AV.int IntKind.i64 1, AV.int IntKind.i64 0, AV.nilsl, AV.rsl true 38 0 (lenN [AV.agg [AV.int IntKind.i64 4325386, AV.int IntKind.i64 7, AV.int IntKind.i64 0, AV.fsl false (toBytes s), AV.nilsl]] + lenN [AV.agg [AV.int IntKind.i64 4325385, AV.int IntKind.i64 2, AV.int IntKind.i64 i, AV.nilsl, AV.nilsl]] + lenN [AV.agg [AV.int IntKind.i64 t, AV.int IntKind.i64 y, AV.int IntKind.i64 n, D, K]]) 5]) [(38, some (Blk.cells [AV.int IntKind.i64 4325386, AV.int IntKind.i64 7, AV.int IntKind.i64 0, AV.fsl false (toBytes s), AV.nilsl, AV.int IntKind.i64 4325385, AV.int IntKind.i64 2, AV.int IntKind.i64 i, AV.nilsl, AV.nilsl, AV.int IntKind.i64 t, AV.int IntKind.i64 y, AV.int IntKind.i64 n, D, K])), (27, some (Blk.cells [AV.int IntKind.i64 4325385, AV.int IntKind.i64 2, AV.int IntKind.i64 i, AV.nilsl, AV.nilsl])), (24, none), (9, some (Blk.cells [AV.int IntKind.i64 4325386, AV.int IntKind.i64 7, AV.int IntKind.i64 0, AV.fsl false (toBytes s), AV.nilsl])), (7, some (Blk.cells [AV.int IntKind.i64 4325384, AV.int IntKind.i64 1, AV.int IntKind.i64 0, AV.nilsl, AV.rsl true 38 0 (lenN [AV.agg [AV.int IntKind.i64 4325386, AV.int IntKind.i64 7, AV.int IntKind.i64 0, AV.fsl false (toBytes s), AV.nilsl]] + lenN [AV.agg [AV.int IntKind.i64 4325385, AV.int IntKind.i64 2, AV.int IntKind.i64 i, AV.nilsl, AV.nilsl]] + lenN [AV.agg [AV.int IntKind.i64 t, AV.int IntKind.i64 y, AV.int IntKind.i64 n, D, K]]) 5])), (1, some (Blk.cells [AV.int IntKind.i64 4325384, AV.int IntKind.i64 1, AV.int IntKind.i64 0, AV.nilsl, AV.rsl true 38 0 (lenN [AV.agg [AV.int IntKind.i64 4325386, AV.int IntKind.i64 7, AV.int IntKind.i64 0, AV.fsl false (toBytes s), AV.nilsl]] + lenN [AV.agg [AV.int IntKind.i64 4325385, AV.int IntKind.i64 2, AV.int IntKind.i64 i, AV.nilsl, AV.nilsl]] + lenN [AV.agg [AV.int IntKind.i64 t, AV.int IntKind.i64 y, AV.int IntKind.i64 n, D, K]]) 5])), (0, some (Blk.cells [AV.str s, AV.int IntKind.i64 i, AV.int IntKind.i64 t, AV.int IntKind.i64 y, AV.int IntKind.i64 n, D, K]))] 43)) (Q (AV.agg [AV.int IntKind.i64 4325384, AV.int IntKind.i64 1, AV.int IntKind.i64 0, AV.nilsl, AV.rsl true 23 0 (lenN [AV.agg [AV.int IntKind.i64 4325386, AV.int IntKind.i64 7, AV.int IntKind.i64 0, AV.fsl false (toBytes s), AV.nilsl]] + lenN [AV.agg [AV.int IntKind.i64 t, AV.int IntKind.i64 y, AV.int IntKind.i64 n, D, K]]) 5]) [(23, some (Blk.cells (flat [AV.agg [AV.int IntKind.i64 4325386, AV.int IntKind.i64 7, AV.int IntKind.i64 0, AV.fsl false (toBytes s), AV.nilsl]] ++ flat [AV.agg [AV.int IntKind.i64 t, AV.int IntKind.i64 y, AV.int IntKind.i64 n, D, K]]))), (9, some (Blk.cells [AV.int IntKind.i64 4325386, AV.int IntKind.i64 7, AV.int IntKind.i64 0, AV.fsl false (toBytes s), AV.nilsl])), (7, some (Blk.cells [AV.int IntKind.i64 4325384, AV.int IntKind.i64 1, AV.int IntKind.i64 0, AV.nilsl, AV.rsl true 23 0 (lenN [AV.agg [AV.int IntKind.i64 4325386, AV.int IntKind.i64 7, AV.int IntKind.i64 0, AV.fsl false (toBytes s), AV.nilsl]] + lenN [AV.agg [AV.int IntKind.i64 t, AV.int IntKind.i64 y, AV.int IntKind.i64 n, D, K]]) 5])), (1, some (Blk.cells [AV.int IntKind.i64 4325384, AV.int IntKind.i64 1, AV.int IntKind.i64 0, AV.nilsl, AV.rsl true 23 0 (lenN [AV.agg [AV.int IntKind.i64 4325386, AV.int IntKind.i64 7, AV.int IntKind.i64 0, AV.fsl false (toBytes s), AV.nilsl]] + lenN [AV.agg [AV.int IntKind.i64 t, AV.int IntKind.i64 y, AV.int IntKind.i64 n, D, K]]) 5])), (0, some (Blk.cells [AV.str s, AV.int IntKind.i64 i, AV.int IntKind.i64 t, AV.int IntKind.i64 y, AV.int IntKind.i64 n, D, K]))] 28)) := by kernel_rfl
theorem is_fn (t y n tag kind : Int) (D K : AV) (d k : Nat) (Q : AV → Heap → Nat → Prop) : fnK Tryz.prog opts0 40 (aidJ [(2, 16, .res (I (.ofNat k))), (2, 25, .res (I (.ofNat d)))] [] noSem [] []) 90 [.agg [I t, I y, I n, D, K], I tag, I kind] [] 0 Q =
    (mtB (beqInt t tag) (mtB (beqInt y kind) (mtB (beqInt kind 1) (mtB (beqInt kind 7) (mtB (!beqInt kind 7) (mtB (!beqInt kind 1) (Q (AV.bool true) [(0, some (Blk.cells [AV.int IntKind.i64 t, AV.int IntKind.i64 y, AV.int IntKind.i64 n, D, K]))] 48) (Q (AV.bool (beqInt n 0)) [(0, some (Blk.cells [AV.int IntKind.i64 t, AV.int IntKind.i64 y, AV.int IntKind.i64 n, D, K]))] 48)) (Q (AV.bool (beqInt n 0)) [(0, some (Blk.cells [AV.int IntKind.i64 t, AV.int IntKind.i64 y, AV.int IntKind.i64 n, D, K]))] 48)) (builtinA Tryz.prog Builtin.len { toList := [23] } [D] = some (Eff.val (AV.int IntKind.i64 (Int.ofNat d))) ∧ mtB (beqInt (Int.ofNat d) 0) (mtB (!beqInt kind 7) (mtB (!beqInt kind 1) (Q (AV.bool true) [(0, some (Blk.cells [AV.int IntKind.i64 t, AV.int IntKind.i64 y, AV.int IntKind.i64 n, D, K]))] 48) (Q (AV.bool (beqInt n 0)) [(0, some (Blk.cells [AV.int IntKind.i64 t, AV.int IntKind.i64 y, AV.int IntKind.i64 n, D, K]))] 48)) (Q (AV.bool (beqInt n 0)) [(0, some (Blk.cells [AV.int IntKind.i64 t, AV.int IntKind.i64 y, AV.int IntKind.i64 n, D, K]))] 48)) (Q (AV.bool false) [(0, some (Blk.cells [AV.int IntKind.i64 t, AV.int IntKind.i64 y, AV.int IntKind.i64 n, D, K]))] 48))) (builtinA Tryz.prog Builtin.len { toList := [35] } [K] = some (Eff.val (AV.int IntKind.i64 (Int.ofNat k))) ∧ mtB (beqInt (Int.ofNat k) 0) (mtB (beqInt kind 7) (mtB (!beqInt kind 7) (mtB (!beqInt kind 1) (Q (AV.bool true) [(0, some (Blk.cells [AV.int IntKind.i64 t, AV.int IntKind.i64 y, AV.int IntKind.i64 n, D, K]))] 48) (Q (AV.bool (beqInt n 0)) [(0, some (Blk.cells [AV.int IntKind.i64 t, AV.int IntKind.i64 y, AV.int IntKind.i64 n, D, K]))] 48)) (Q (AV.bool (beqInt n 0)) [(0, some (Blk.cells [AV.int IntKind.i64 t, AV.int IntKind.i64 y, AV.int IntKind.i64 n, D, K]))] 48)) (builtinA Tryz.prog Builtin.len { toList := [23] } [D] = some (Eff.val (AV.int IntKind.i64 (Int.ofNat d))) ∧ mtB (beqInt (Int.ofNat d) 0) (mtB (!beqInt kind 7) (mtB (!beqInt kind 1) (Q (AV.bool true) [(0, some (Blk.cells [AV.int IntKind.i64 t, AV.int IntKind.i64 y, AV.int IntKind.i64 n, D, K]))] 48) (Q (AV.bool (beqInt n 0)) [(0, some (Blk.cells [AV.int IntKind.i64 t, AV.int IntKind.i64 y, AV.int IntKind.i64 n, D, K]))] 48)) (Q (AV.bool (beqInt n 0)) [(0, some (Blk.cells [AV.int IntKind.i64 t, AV.int IntKind.i64 y, AV.int IntKind.i64 n, D, K]))] 48)) (Q (AV.bool false) [(0, some (Blk.cells [AV.int IntKind.i64 t, AV.int IntKind.i64 y, AV.int IntKind.i64 n, D, K]))] 48))) (Q (AV.bool false) [(0, some (Blk.cells [AV.int IntKind.i64 t, AV.int IntKind.i64 y, AV.int IntKind.i64 n, D, K]))] 48))) (Q (AV.bool false) [(0, some (Blk.cells [AV.int IntKind.i64 t, AV.int IntKind.i64 y, AV.int IntKind.i64 n, D, K]))] 48)) (Q (AV.bool false) [(0, some (Blk.cells [AV.int IntKind.i64 t, AV.int IntKind.i64 y, AV.int IntKind.i64 n, D, K]))] 48)) := by kernel_rfl


theorem closed_itC (x : It) : closedAll (itC x) = true := by
  have := closed_it x
  rw [itA_C] at this
  exact this
theorem one_itC (x : It) : allOne (itC x) = true := by cases x; simp [itC, allOne]
theorem len_itC (x : It) : Nat.beq (lenN (itC x)) 5 = true := by cases x; rfl
theorem closed_at (a : At) : closedA (atA a) = true := by simp only [atA, closedA, closedAll, closed_itC, Bool.and_self]

set_option maxRecDepth 20000 in
theorem kid1_sem {x : It} (h : okI big x) {t : Int} (ht : t = (match x with | .mk t _ _ _ _ _ _ => t)) : SemCall Tryz.prog opts0.glob 122 [.agg [I 0, I 0, I 0, .nilsl, .fsl true [itA x]], I t] (.tuple [itA (copyI x), .bool true]) := by
  subst ht
  have hc := copied_sem x h
  obtain ⟨t, y, n, df, d, kf, ks⟩ := x
  rw [copyI_mk] at hc ⊢
  refine fnK_sem (A := aidJ [] [] (manyS [(160, itA (.mk t y n (copyDF df d) d (copyKF ks) (copyIs ks)))]) [] []) base0 aidJ_ok (fnLs_of (LsOk.no rfl)) (by simp [closedAll, closed_it, closedA]) ?_
  simp only [itA] at hc ⊢
  rw [kid1_fn]
  refine oblB_of (fits_agg itemT rfl (by simp [allOne])) (mtB_of (fun _ => And.intro hc (oblB_of (fits_agg itemT rfl (by simp [allOne])) ?_)) (fun h => ?_))
  · exact fin_closed (by have := closed_it (copyI (.mk t y n df d kf ks)); simpa [copyI, itA, closedA, closedAll] using this)
  · rw [beqInt_false] at h; exact absurd rfl h

set_option maxRecDepth 20000 in
theorem acop_sem {x : It} (h : okI big x) : SemCall Tryz.prog opts0.glob 88 [itA x] (itA (copyI x)) := by
  have hc := kid1_sem h rfl
  obtain ⟨t, y, n, df, d, kf, ks⟩ := x
  simp only at hc
  rw [copyI_mk] at hc ⊢
  refine fnK_sem (A := aidJ [] [] (manyS [(122, .tuple [itA (.mk t y n (copyDF df d) d (copyKF ks) (copyIs ks)), .bool true])]) [] []) base0 aidJ_ok (fnLs_of (LsOk.no rfl)) (by simp [closedAll, closed_it, closedA]) ?_
  simp only [itA] at hc ⊢
  rw [acop_fn]
  refine And.intro hc (oblB_of (fits_agg itemT rfl (by simp [allOne])) (oblB_of (fits_agg itemT rfl (by simp [allOne])) ?_))
  exact fin_closed (by have := closed_it (copyI (.mk t y n df d kf ks)); simpa [copyI, itA, closedA, closedAll] using this)

/-- A row of items becomes part of an item. -/
theorem frz_item {m : Nat} {H : Heap} {a b c : Int} {id len : Nat} {cs : List AV} {ks : List It} (hm : Nat.blt id m = false) (hg : hget H id = some (.cells cs)) (hc : cs = flat (itAs ks)) (hl : len = ks.length) :
    Frz m H (.agg [I a, I b, I c, .nilsl, .rsl true id 0 len 5]) (itA (.mk a b c none [] (some false) ks)) := by
  simp only [itA, rowN, rowS]
  exact Frz.agg (FrzL.cons (Frz.closed _ rfl) (FrzL.cons (Frz.closed _ rfl) (FrzL.cons (Frz.closed _ rfl) (FrzL.cons (Frz.closed _ rfl) (FrzL.cons (Frz.row (es := itAs ks) hm hg hc (by rw [hl, its_length]) goodEl_its (closed_its _)) FrzL.nil)))))
def nameI (s : List UInt8) : It := .mk 4325386 7 0 (some false) s none []
def idxI (i : Int) : It := .mk 4325385 2 i none [] none []
/-- An attribute laid. -/
def layKids (a : At) (v : It) : List It := match beqInt a.idx 0 with
  | true => [nameI a.name, v]
  | false => [nameI a.name, idxI a.idx, v]
def layP (a : At) : It := .mk 4325384 1 0 none [] (some false) (layKids a (copyI a.v))
def layR (a : At) : It := .mk 4325384 1 0 none [] (some false) (layKids a a.v)

set_option maxRecDepth 20000 in
theorem lay_sem {a : At} (h : okI big a.v) : SemCall Tryz.prog opts0.glob 36 [atA a] (itA (layP a)) := by
  obtain ⟨s, i, x⟩ := a
  have hc := acop_sem h
  have hcl := closed_at ⟨s, i, x⟩
  obtain ⟨t, y, n, df, d, kf, ks⟩ := x
  simp only [layP, layKids]
  simp only at hc
  rw [copyI_mk] at hc ⊢
  refine fnK_sem (A := aidJ [] [] (manyS [(88, itA (.mk t y n (copyDF df d) d (copyKF ks) (copyIs ks)))]) [] []) base0 aidJ_ok (fnLs_of (LsOk.no rfl)) (by simp [closedAll, hcl]) ?_
  simp only [atA, itC]
  simp only [itA] at hc ⊢
  rw [lay_fn]
  refine mtB_of (fun e => And.intro hc (oblB_of ?_ ?_)) (fun e => And.intro hc ?_)
  · simp [allSize, lenN, AV.cells, flat, allOne]
  · rw [Bool.not_eq_true'] at e
    rw [e]
    refine fin_frz (r := itA (.mk 4325384 1 0 none [] (some false) [nameI s, idxI i, .mk t y n (copyDF df d) d (copyKF ks) (copyIs ks)])) (frz_item rfl rfl ?_ rfl) (closed_it _)
    simp [itAs, itA, nameI, idxI, flat, AV.cells]
  · rw [Bool.not_eq_false'] at e
    rw [e]
    refine fin_frz (r := itA (.mk 4325384 1 0 none [] (some false) [nameI s, .mk t y n (copyDF df d) d (copyKF ks) (copyIs ks)])) (frz_item rfl rfl ?_ rfl) (closed_it _)
    simp [itAs, itA, nameI, flat, AV.cells]

set_option maxRecDepth 20000 in
theorem layr_sem {a : At} : SemCall Tryz.prog opts0.glob 34 [atA a] (itA (layR a)) := by
  obtain ⟨s, i, x⟩ := a
  have hcl := closed_at ⟨s, i, x⟩
  obtain ⟨t, y, n, df, d, kf, ks⟩ := x
  simp only [layR, layKids]
  refine fnK_sem (A := aidJ [] [] noSem [86, 87] []) base0 aidJ_ok (fnLs_of (LsOk.no rfl)) (by simp [closedAll, hcl]) ?_
  simp only [atA, itC]
  rw [layr_fn]
  refine mtB_of (fun e => oblB_of ?_ ?_) (fun e => ?_)
  · simp [allSize, lenN, AV.cells, flat, allOne]
  · rw [Bool.not_eq_true'] at e
    rw [e]
    refine fin_frz (r := itA (.mk 4325384 1 0 none [] (some false) [nameI s, idxI i, .mk t y n df d kf ks])) (frz_item rfl rfl ?_ rfl) (closed_it _)
    simp [itAs, itA, nameI, idxI, flat, AV.cells]
  · rw [Bool.not_eq_false'] at e
    rw [e]
    refine fin_frz (r := itA (.mk 4325384 1 0 none [] (some false) [nameI s, .mk t y n df d kf ks])) (frz_item rfl rfl ?_ rfl) (closed_it _)
    simp [itAs, itA, nameI, flat, AV.cells]

/-- The same, as the document says it. -/
def isB (t y n tag kind : Int) (d k : Nat) : Bool := beqInt t tag && (beqInt y kind && ((beqInt kind 1 || beqInt (.ofNat k) 0) && ((beqInt kind 7 || beqInt (.ofNat d) 0) && ((!beqInt kind 7 && !beqInt kind 1) || beqInt n 0))))
def isI : It → Int → Int → Bool
  | .mk t y n _ d _ k, tag, kind => isB t y n tag kind d.length k.length
theorem is_sem {x : It} (tag kind : Int) (h : okI big x) : SemCall Tryz.prog opts0.glob 90 [itA x, I tag, I kind] (.bool (isI x tag kind)) := by
  obtain ⟨t, y, n, df, d, kf, ks⟩ := x
  refine fnK_sem (A := aidJ [(2, 16, .res (I (.ofNat ks.length))), (2, 25, .res (I (.ofNat d.length)))] [] noSem [] []) base0 aidJ_ok (fnLs_of (LsOk.no rfl)) (by simp [closedAll, closed_it, closedA]) ?_
  simp only [itA]
  rw [is_fn]
  have hk := lenK h.2.1
  have hd := lenD h.1
  simp only [hk, hd, true_and]
  repeat' refine mtB_of (fun _ => ?_) (fun _ => ?_)
  all_goals exact fin_bool (by simp_all [isI, isB])

end Go.Proofs.YtjhggnebkfpgcaaGreatDoor
