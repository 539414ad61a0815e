/- The shape of an item. -/
import Derived.Test.YtjhggnebkfpgcaaGreatDoorItems
import Derived.KernelRfl
namespace Go.Proofs.YtjhggnebkfpgcaaGreatDoor
open Go Go.RowKit
open Go.Proofs.Abs

noncomputable def shA (d k : Nat) : Aid := aidS (manyH [(2, 15, .res (I (.ofNat k))), (2, 24, .res (I (.ofNat d)))]) (fun _ => none) noSem
theorem shape_fn (t y n tag kind : Int) (D K : AV) (d k : Nat) (Q : AV → Heap → Nat → Prop) : fnK Tryz.prog opts0 40 (shA d k) 89 [.agg [I t, I y, I n, D, K], I tag, I kind] [] 0 Q =
    (mtB (beqInt kind 7) (mtB (beqInt t tag) (mtB (beqInt y kind) (mtB (beqInt kind 1) (mtB (!beqInt kind 1) (Q (AV.bool (beqInt n 0)) [(0, some (Blk.cells [AV.int IntKind.i64 t, AV.int IntKind.i64 y, AV.int IntKind.i64 n, D, K]))] 54) (Q (AV.bool (beqInt n 0)) [(0, some (Blk.cells [AV.int IntKind.i64 t, AV.int IntKind.i64 y, AV.int IntKind.i64 n, D, K]))] 54)) (builtinA Tryz.prog Builtin.len { toList := [35] } [K] = some (Eff.val (AV.int IntKind.i64 (Int.ofNat k))) ∧ mtB (beqInt (Int.ofNat k) 0) (mtB (!beqInt kind 1) (Q (AV.bool (beqInt n 0)) [(0, some (Blk.cells [AV.int IntKind.i64 t, AV.int IntKind.i64 y, AV.int IntKind.i64 n, D, K]))] 54) (Q (AV.bool (beqInt n 0)) [(0, some (Blk.cells [AV.int IntKind.i64 t, AV.int IntKind.i64 y, AV.int IntKind.i64 n, D, K]))] 54)) (Q (AV.bool false) [(0, some (Blk.cells [AV.int IntKind.i64 t, AV.int IntKind.i64 y, AV.int IntKind.i64 n, D, K]))] 54))) (Q (AV.bool false) [(0, some (Blk.cells [AV.int IntKind.i64 t, AV.int IntKind.i64 y, AV.int IntKind.i64 n, D, K]))] 54)) (Q (AV.bool false) [(0, some (Blk.cells [AV.int IntKind.i64 t, AV.int IntKind.i64 y, AV.int IntKind.i64 n, D, K]))] 54)) (mtB (beqInt t tag) (mtB (beqInt y kind) (mtB (beqInt kind 1) (mtB (beqInt kind 8) (mtB (!beqInt kind 1) (mtB (!beqInt kind 8) (Q (AV.bool true) [(0, some (Blk.cells [AV.int IntKind.i64 t, AV.int IntKind.i64 y, AV.int IntKind.i64 n, D, K]))] 54) (Q (AV.bool (beqInt n 0)) [(0, some (Blk.cells [AV.int IntKind.i64 t, AV.int IntKind.i64 y, AV.int IntKind.i64 n, D, K]))] 54)) (Q (AV.bool (beqInt n 0)) [(0, some (Blk.cells [AV.int IntKind.i64 t, AV.int IntKind.i64 y, AV.int IntKind.i64 n, D, K]))] 54)) (builtinA Tryz.prog Builtin.len { toList := [23] } [D] = some (Eff.val (AV.int IntKind.i64 (Int.ofNat d))) ∧ mtB (beqInt (Int.ofNat d) 0) (mtB (!beqInt kind 1) (mtB (!beqInt kind 8) (Q (AV.bool true) [(0, some (Blk.cells [AV.int IntKind.i64 t, AV.int IntKind.i64 y, AV.int IntKind.i64 n, D, K]))] 54) (Q (AV.bool (beqInt n 0)) [(0, some (Blk.cells [AV.int IntKind.i64 t, AV.int IntKind.i64 y, AV.int IntKind.i64 n, D, K]))] 54)) (Q (AV.bool (beqInt n 0)) [(0, some (Blk.cells [AV.int IntKind.i64 t, AV.int IntKind.i64 y, AV.int IntKind.i64 n, D, K]))] 54)) (Q (AV.bool false) [(0, some (Blk.cells [AV.int IntKind.i64 t, AV.int IntKind.i64 y, AV.int IntKind.i64 n, D, K]))] 54))) (builtinA Tryz.prog Builtin.len { toList := [35] } [K] = some (Eff.val (AV.int IntKind.i64 (Int.ofNat k))) ∧ mtB (beqInt (Int.ofNat k) 0) (mtB (beqInt kind 8) (mtB (!beqInt kind 1) (mtB (!beqInt kind 8) (Q (AV.bool true) [(0, some (Blk.cells [AV.int IntKind.i64 t, AV.int IntKind.i64 y, AV.int IntKind.i64 n, D, K]))] 54) (Q (AV.bool (beqInt n 0)) [(0, some (Blk.cells [AV.int IntKind.i64 t, AV.int IntKind.i64 y, AV.int IntKind.i64 n, D, K]))] 54)) (Q (AV.bool (beqInt n 0)) [(0, some (Blk.cells [AV.int IntKind.i64 t, AV.int IntKind.i64 y, AV.int IntKind.i64 n, D, K]))] 54)) (builtinA Tryz.prog Builtin.len { toList := [23] } [D] = some (Eff.val (AV.int IntKind.i64 (Int.ofNat d))) ∧ mtB (beqInt (Int.ofNat d) 0) (mtB (!beqInt kind 1) (mtB (!beqInt kind 8) (Q (AV.bool true) [(0, some (Blk.cells [AV.int IntKind.i64 t, AV.int IntKind.i64 y, AV.int IntKind.i64 n, D, K]))] 54) (Q (AV.bool (beqInt n 0)) [(0, some (Blk.cells [AV.int IntKind.i64 t, AV.int IntKind.i64 y, AV.int IntKind.i64 n, D, K]))] 54)) (Q (AV.bool (beqInt n 0)) [(0, some (Blk.cells [AV.int IntKind.i64 t, AV.int IntKind.i64 y, AV.int IntKind.i64 n, D, K]))] 54)) (Q (AV.bool false) [(0, some (Blk.cells [AV.int IntKind.i64 t, AV.int IntKind.i64 y, AV.int IntKind.i64 n, D, K]))] 54))) (Q (AV.bool false) [(0, some (Blk.cells [AV.int IntKind.i64 t, AV.int IntKind.i64 y, AV.int IntKind.i64 n, D, K]))] 54))) (Q (AV.bool false) [(0, some (Blk.cells [AV.int IntKind.i64 t, AV.int IntKind.i64 y, AV.int IntKind.i64 n, D, K]))] 54)) (Q (AV.bool false) [(0, some (Blk.cells [AV.int IntKind.i64 t, AV.int IntKind.i64 y, AV.int IntKind.i64 n, D, K]))] 54))) := by kernel_rfl

/-- Has an item a tag and a type, and nothing beside? -/
def dataK (kind : Int) : Bool := beqInt kind 7 || beqInt kind 8
def shapeB (t y n tag kind : Int) (d k : Nat) : Bool := beqInt t tag && (beqInt y kind && ((beqInt kind 1 || beqInt (.ofNat k) 0) && ((dataK kind || beqInt (.ofNat d) 0) && ((!beqInt kind 1 && !dataK kind) || beqInt n 0))))
def shapeI : It → Int → Int → Bool
  | .mk t y n _ d _ k, tag, kind => shapeB t y n tag kind d.length k.length

theorem lenK {f : Option Bool} {l : List It} (hf : f = none → l = []) : builtinA Tryz.prog .len #[35] [rowV f (itAs l)] = some (.val (.int .i64 (.ofNat l.length))) := by
  rw [rowV_len (t := 35) (e := 37) rfl (by kernel_rfl) (fun h => by rw [hf h]; rfl), itAs_map, List.length_map]
theorem lenD {f : Option Bool} {l : List UInt8} (hf : f = none → l = []) : builtinA Tryz.prog .len #[23] [rowV f (toBytes l)] = some (.val (.int .i64 (.ofNat l.length))) := by
  rw [rowV_len (t := 23) (e := 5) rfl (by kernel_rfl) (fun h => by rw [hf h]; rfl), ← lenN_eq, lenN_toBytes]

theorem shape_sem {x : It} (tag kind : Int) (h : okI big x) : SemCall Tryz.prog opts0.glob 89 [itA x, I tag, I kind] (.bool (shapeI x tag kind)) := by
  obtain ⟨t, y, n, df, d, kf, ks⟩ := x
  refine fnK_sem (A := shA d.length ks.length) base0 (aidS_ok sum0) (fnLs_of (LsOk.no rfl)) (by simp [closedAll, closed_it, closedA]) ?_
  simp only [itA]
  rw [shape_fn]
  have hk := lenK h.2.1
  have hd := lenD h.1
  simp only [hk, hd, true_and]
  repeat' refine mtB_of (fun _ => ?_) (fun _ => ?_)
  all_goals exact fin_bool (by simp_all [shapeI, shapeB, dataK])

end Go.Proofs.YtjhggnebkfpgcaaGreatDoor
