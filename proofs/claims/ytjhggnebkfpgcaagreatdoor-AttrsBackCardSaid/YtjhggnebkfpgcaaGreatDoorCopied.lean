/- The shape of an item; what a copy of an item is. -/
import Derived.Test.YtjhggnebkfpgcaaGreatDoorClone
import Derived.KernelRfl
namespace Go.Proofs.YtjhggnebkfpgcaaGreatDoor
open Go Go.RowKit
open Go.Proofs.Abs
theorem shape_fn (t y n tag kind : Int) (D K : List AV) (Q : AV → Heap → Nat → Prop) : fnK Tryz.prog opts0 40 aid0 89 [.agg (itF t y n D K), I tag, I kind] [] 0 Q =
  (mtB (beqInt kind 7) (mtB (beqInt t tag) (mtB (beqInt y kind) (mtB (beqInt kind 1) (mtB (!beqInt kind 1) (Q (AV.bool (beqInt n 0)) [(0, some (Blk.cells [I t, I y, I n, AV.fsl false D, AV.fsl false K]))] 54) (Q (AV.bool (beqInt n 0)) [(0, some (Blk.cells [I t, I y, I n, AV.fsl false D, AV.fsl false K]))] 54)) (mtB (beqInt (Int.ofNat (lenN K)) 0) (mtB (!beqInt kind 1) (Q (AV.bool (beqInt n 0)) [(0, some (Blk.cells [I t, I y, I n, AV.fsl false D, AV.fsl false K]))] 54) (Q (AV.bool (beqInt n 0)) [(0, some (Blk.cells [I t, I y, I n, AV.fsl false D, AV.fsl false K]))] 54)) (Q (AV.bool false) [(0, some (Blk.cells [I t, I y, I n, AV.fsl false D, AV.fsl false K]))] 54))) (Q (AV.bool false) [(0, some (Blk.cells [I t, I y, I n, AV.fsl false D, AV.fsl false K]))] 54)) (Q (AV.bool false) [(0, some (Blk.cells [I t, I y, I n, AV.fsl false D, AV.fsl false K]))] 54)) (mtB (beqInt t tag) (mtB (beqInt y kind) (mtB (beqInt kind 1) (mtB (beqInt kind 8) (mtB (!beqInt kind 1) (mtB (!beqInt kind 8) (Q (AV.bool true) [(0, some (Blk.cells [I t, I y, I n, AV.fsl false D, AV.fsl false K]))] 54) (Q (AV.bool (beqInt n 0)) [(0, some (Blk.cells [I t, I y, I n, AV.fsl false D, AV.fsl false K]))] 54)) (Q (AV.bool (beqInt n 0)) [(0, some (Blk.cells [I t, I y, I n, AV.fsl false D, AV.fsl false K]))] 54)) (mtB (beqInt (Int.ofNat (lenN D)) 0) (mtB (!beqInt kind 1) (mtB (!beqInt kind 8) (Q (AV.bool true) [(0, some (Blk.cells [I t, I y, I n, AV.fsl false D, AV.fsl false K]))] 54) (Q (AV.bool (beqInt n 0)) [(0, some (Blk.cells [I t, I y, I n, AV.fsl false D, AV.fsl false K]))] 54)) (Q (AV.bool (beqInt n 0)) [(0, some (Blk.cells [I t, I y, I n, AV.fsl false D, AV.fsl false K]))] 54)) (Q (AV.bool false) [(0, some (Blk.cells [I t, I y, I n, AV.fsl false D, AV.fsl false K]))] 54))) (mtB (beqInt (Int.ofNat (lenN K)) 0) (mtB (beqInt kind 8) (mtB (!beqInt kind 1) (mtB (!beqInt kind 8) (Q (AV.bool true) [(0, some (Blk.cells [I t, I y, I n, AV.fsl false D, AV.fsl false K]))] 54) (Q (AV.bool (beqInt n 0)) [(0, some (Blk.cells [I t, I y, I n, AV.fsl false D, AV.fsl false K]))] 54)) (Q (AV.bool (beqInt n 0)) [(0, some (Blk.cells [I t, I y, I n, AV.fsl false D, AV.fsl false K]))] 54)) (mtB (beqInt (Int.ofNat (lenN D)) 0) (mtB (!beqInt kind 1) (mtB (!beqInt kind 8) (Q (AV.bool true) [(0, some (Blk.cells [I t, I y, I n, AV.fsl false D, AV.fsl false K]))] 54) (Q (AV.bool (beqInt n 0)) [(0, some (Blk.cells [I t, I y, I n, AV.fsl false D, AV.fsl false K]))] 54)) (Q (AV.bool (beqInt n 0)) [(0, some (Blk.cells [I t, I y, I n, AV.fsl false D, AV.fsl false K]))] 54)) (Q (AV.bool false) [(0, some (Blk.cells [I t, I y, I n, AV.fsl false D, AV.fsl false K]))] 54))) (Q (AV.bool false) [(0, some (Blk.cells [I t, I y, I n, AV.fsl false D, AV.fsl false K]))] 54))) (Q (AV.bool false) [(0, some (Blk.cells [I t, I y, I n, AV.fsl false D, AV.fsl false K]))] 54)) (Q (AV.bool false) [(0, some (Blk.cells [I t, I y, I n, AV.fsl false D, AV.fsl false K]))] 54))) := by kernel_rfl
def dataK (kind : Int) : Bool := beqInt kind 7 || beqInt kind 8
def shapeB (t y n tag kind : Int) (d k : Nat) : Bool := beqInt t tag && (beqInt y kind && ((beqInt kind 1 || beqInt (.ofNat k) 0) && ((dataK kind || beqInt (.ofNat d) 0) && ((!beqInt kind 1 && !dataK kind) || beqInt n 0))))
def shapeI : It → Int → Int → Bool
 | .mk t y n d k, tag, kind => shapeB t y n tag kind d.length k.length
theorem shape_sem (x : It) (tag kind : Int) : SC 89 [itA x, I tag, I kind] (.bool (shapeI x tag kind)) := by
 obtain ⟨t, y, n, d, ks⟩ := x
 refine fnK_sem (A := aid0) base0 aidOk0 (fnLs_of (LsOk.no rfl)) (by simp [closedAll, closed_it, closedA]) ?_
 rw [itA_F, shape_fn]
 simp only [lenN_toBytes]
 simp only [lenN_eq, its_length]
 repeat' refine mtB_of (fun _ => ?_) (fun _ => ?_)
 all_goals exact fin_bool (by simp_all [shapeI, shapeB, dataK])
theorem closed_flat : ∀ {l : List AV}, closedAll l = true → (∀ e ∈ l, closedAll e.cells = true) → closedAll (flat l) = true
  | [], _, _ => rfl
  | a :: t, h, h2 => by
    simp only [closedAll, Bool.and_eq_true] at h
    have := closed_flat h.2 fun e he => h2 e (by simp [he])
    have h1 := h2 a (by simp)
    simp only [flat]
    exact closed_app h1 this
 where
  closed_app : ∀ {a b : List AV}, closedAll a = true → closedAll b = true → closedAll (a ++ b) = true
    | [], _, _, h => h
    | x :: r, _, h, h' => by
      simp only [closedAll, Bool.and_eq_true] at h
      simp only [List.cons_append, closedAll, h.1, closed_app h.2 h', Bool.and_self]
end Go.Proofs.YtjhggnebkfpgcaaGreatDoor
