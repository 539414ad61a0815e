/- What is picked, and what is drawn. -/
import Derived.Test.YtecabdjbhlmilaaGreatDoorBs
import Derived.Test.YtecabdjbhlmilaaGreatDoorG5
import Derived.KernelRfl
namespace Go.Proofs.YtecabdjbhlmilaaGreatDoor
open Go Go.RowKit
open Go.Proofs.Abs

theorem pick_fn (n : Int) (Q : AV → Heap → Nat → Prop) : fnK Tryz.prog opts0 40 aid0 6 [I n, I 50] [] 0 Q =
    (mtB (ltInt (n.tmod 50) 0) (Q (AV.int IntKind.i64 (wrapA IntKind.i64 (n.tmod 50 + 50))) [] 13) (Q (AV.int IntKind.i64 (n.tmod 50)) [] 9)) := by kernel_rfl
theorem draw_fn (x y : AV) (f : Bool) (es : List AV) (n p : Nat) (Q : AV → Heap → Nat → Prop) : fnK Tryz.prog opts0 40 aid0 8 [.agg [x, .fsl f es, y], I (.ofNat n), I (.ofNat p)] [] 0 Q =
    (mtB (ltInt 1048576 (Int.ofNat n)) (Q AV.nilsl [(0, some (Blk.cells [x, AV.fsl f es, y]))] 9) (oblB (nonneg (Int.ofNat n) && (nonneg (Int.ofNat n) && ((Int.ofNat n).toNat.ble (Int.ofNat n).toNat && (1 * (Int.ofNat n).toNat).ble 281474976710656 && (Int.ofNat n).toNat.ble 9223372036854775807 && true && true))) (mtB (ltInt (Int.ofNat p) (Int.ofNat (lenN es))) (oblB (nonneg (Int.ofNat p) && (headSize 1 es && (p.ble (lenN es) && (lenN es).ble (lenN es)))) (oblB (allSize 1 (List.take (lenN es - p) (List.drop p es)) && allOne (flat (List.take (lenN es - p) (List.drop p es)))) (oblB ((0 + lenN (List.take (min (lenN (List.take (lenN es - p) (List.drop p es))) (Int.ofNat n).toNat * 1) (flat (List.take (lenN es - p) (List.drop p es))))).ble (lenN (flat (repE (AV.int IntKind.u8 0) (Int.ofNat n).toNat)))) (Q (AV.rsl true 9 0 (Int.ofNat n).toNat 1) [(9, some (Blk.cells (List.take (min (lenN (List.take (lenN es - p) (List.drop p es))) (Int.ofNat n).toNat * 1) (flat (List.take (lenN es - p) (List.drop p es))) ++ List.drop (0 + lenN (List.take (min (lenN (List.take (lenN es - p) (List.drop p es))) (Int.ofNat n).toNat * 1) (flat (List.take (lenN es - p) (List.drop p es))))) (flat (repE (AV.int IntKind.u8 0) (Int.ofNat n).toNat))))), (0, some (Blk.cells [x, AV.fsl f es, y]))] 28)))) (Q (AV.rsl true 9 0 (Int.ofNat n).toNat 1) [(9, some (Blk.cells (flat (repE (AV.int IntKind.u8 0) (Int.ofNat n).toNat)))), (0, some (Blk.cells [x, AV.fsl f es, y]))] 22)))) := by kernel_rfl
theorem draw_nil (x y : AV) (n p : Nat) (Q : AV → Heap → Nat → Prop) : fnK Tryz.prog opts0 40 aid0 8 [.agg [x, .nilsl, y], I (.ofNat n), I (.ofNat p)] [] 0 Q =
    (mtB (ltInt 1048576 (Int.ofNat n)) (Q AV.nilsl [(0, some (Blk.cells [x, AV.nilsl, y]))] 9) (oblB (nonneg (Int.ofNat n) && (nonneg (Int.ofNat n) && ((Int.ofNat n).toNat.ble (Int.ofNat n).toNat && (1 * (Int.ofNat n).toNat).ble 281474976710656 && (Int.ofNat n).toNat.ble 9223372036854775807 && true && true))) (Q (AV.rsl true 9 0 (Int.ofNat n).toNat 1) [(9, some (Blk.cells (flat (repE (AV.int IntKind.u8 0) (Int.ofNat n).toNat)))), (0, some (Blk.cells [x, AV.nilsl, y]))] 22))) := by kernel_rfl

/-- What is picked of fifty. -/
def pickN (n : Int) : Nat := (n % 50).toNat
theorem pickN_lt (n : Int) : pickN n < 50 := by unfold pickN; omega
theorem tmod_of (n : Int) : n.tmod 50 = n % 50 ∨ (n.tmod 50 = n % 50 - 50 ∧ 0 < n % 50) := by
  rw [Int.tmod_eq_emod]
  split
  · exact .inl (by omega)
  · rename_i h
    simp only [not_or] at h
    have := h.2
    refine .inr ⟨by omega, by omega⟩
theorem pick_sem (n : Int) : SemCall Tryz.prog opts0.glob 6 [I n, I 50] (I (.ofNat (pickN n))) := by
  refine fnK_sem (A := aid0) base0 aidOk0 (fnLs_none fun _ => rfl) (by simp [closedA, closedAll]) ?_
  rw [pick_fn]
  have ht := tmod_of n
  refine mtB_of (fun h => ?_) (fun h => ?_)
  · have h := ltInt_iff.1 h
    have e : wrapA .i64 (n.tmod 50 + 50) = .ofNat (pickN n) := by
      rw [wrapA_i64 (by omega) (by omega)]
      show n.tmod 50 + 50 = ((n % 50).toNat : Int)
      omega
    rw [e]
    exact ⟨⟨1, rfl⟩, rfl⟩
  · have h := ltInt_false.1 h
    have e : n.tmod 50 = .ofNat (pickN n) := by
      show n.tmod 50 = ((n % 50).toNat : Int)
      omega
    rw [e]
    exact ⟨⟨1, rfl⟩, rfl⟩

/-- What is drawn. -/
def drawN (l : List UInt8) (n p : Nat) : List UInt8 := (l.drop p).take n ++ List.replicate (n - (l.length - p)) 0
theorem drawN_length (l : List UInt8) (n p : Nat) : (drawN l n p).length = n := by simp [drawN]; omega
theorem draw_sem {x y : AV} {f : Bool} {l : List UInt8} {n p : Nat} (hx : closedA x = true) (hy : closedA y = true) (hn : n ≤ 1048576) (_hl : l.length ≤ 9223372036854775807) :
    SemCall Tryz.prog opts0.glob 8 [.agg [x, .fsl f (toBytes l), y], I (.ofNat n), I (.ofNat p)] (.fsl false (toBytes (drawN l n p))) := by
  refine fnK_sem (A := aid0) base0 aidOk0 (fnLs_none fun _ => rfl) (by simp [closedA, closedAll, hx, hy]) ?_
  rw [draw_fn]
  refine mtB_of (fun h => ?_) (fun h => ?_)
  · have h : (1048576 : Int) < n := ltInt_iff.1 h
    omega
  refine oblB_iff.2 ⟨?_, ?_⟩
  · simp only [Int.ofNat_eq_natCast, Int.toNat_natCast, nonneg_iff.2 (Int.natCast_nonneg n), Bool.true_and, Bool.and_true, Bool.and_eq_true]
    exact ⟨⟨Nat.ble_eq_true_of_le (Nat.le_refl _), Nat.ble_eq_true_of_le (by omega)⟩, Nat.ble_eq_true_of_le (by omega)⟩
  have hrep : flat (repE (.int .u8 0) n) = toBytes (List.replicate n 0) := by rw [repE_zero, flat_toBytes]
  refine mtB_of (fun h => ?_) (fun h => ?_)
  · have h : (p : Int) < lenN (toBytes l) := ltInt_iff.1 h
    rw [lenN_toBytes] at h
    have hp : p < l.length := by omega
    refine oblB_iff.2 ⟨?_, ?_⟩
    · rw [lenN_toBytes, headSize_toBytes]
      simp only [Int.ofNat_eq_natCast, nonneg_iff.2 (Int.natCast_nonneg p), Bool.true_and, Bool.and_eq_true]
      exact ⟨Nat.ble_eq_true_of_le (by omega), Nat.ble_eq_true_of_le (Nat.le_refl _)⟩
    have e1 : List.take (lenN (toBytes l) - p) (List.drop p (toBytes l)) = toBytes (l.drop p) := by
      rw [lenN_toBytes, toBytes_drop, toBytes_take]
      show toBytes (List.take (l.length - p) (l.drop p)) = _
      rw [List.take_of_length_le (by simp)]
    rw [e1]
    refine oblB_iff.2 ⟨by simp, ?_⟩
    have e2 : List.take (min (lenN (toBytes (l.drop p))) (Int.ofNat n).toNat * 1) (flat (toBytes (l.drop p))) = toBytes ((l.drop p).take n) := by
      rw [lenN_toBytes, flat_toBytes, toBytes_take]
      show toBytes (List.take (min (l.drop p).length n * 1) (l.drop p)) = _
      congr 1
      rw [Nat.mul_one, ← List.take_eq_take_min.symm]
      simp [Nat.min_comm]
    rw [e2]
    have e3 : flat (repE (.int .u8 0) (Int.ofNat n).toNat) = toBytes (List.replicate n 0) := hrep
    rw [e3]
    refine oblB_iff.2 ⟨?_, ?_⟩
    · rw [lenN_toBytes, lenN_toBytes]
      exact Nat.ble_eq_true_of_le (by simp; omega)
    refine ⟨?_, ?_⟩
    · refine Frz.out (Frz.bytes rfl rfl ?_ (drawN_length l n p).symm)
      rw [lenN_toBytes, toBytes_drop, ← toBytes_append]
      congr 1
      unfold drawN
      congr 1
      simp
      omega
    · simp [closedA]
  · have h : (lenN (toBytes l) : Int) ≤ p := ltInt_false.1 h
    rw [lenN_toBytes] at h
    have hp : l.length ≤ p := by omega
    refine ⟨?_, ?_⟩
    · refine Frz.out (Frz.bytes rfl rfl ?_ (drawN_length l n p).symm)
      have e3 : flat (repE (.int .u8 0) (Int.ofNat n).toNat) = toBytes (List.replicate n 0) := hrep
      rw [e3]
      congr 1
      unfold drawN
      rw [List.drop_of_length_le hp, show l.length - p = 0 by omega]
      simp
    · simp [closedA]
theorem draw_sem_nil {x y : AV} {n p : Nat} (hx : closedA x = true) (hy : closedA y = true) (hn : n ≤ 1048576) :
    SemCall Tryz.prog opts0.glob 8 [.agg [x, .nilsl, y], I (.ofNat n), I (.ofNat p)] (.fsl false (toBytes (drawN [] n p))) := by
  refine fnK_sem (A := aid0) base0 aidOk0 (fnLs_none fun _ => rfl) (by simp [closedA, closedAll, hx, hy]) ?_
  rw [draw_nil]
  refine mtB_of (fun h => ?_) (fun h => ?_)
  · have h : (1048576 : Int) < n := ltInt_iff.1 h
    omega
  refine oblB_iff.2 ⟨?_, ?_⟩
  · simp only [Int.ofNat_eq_natCast, Int.toNat_natCast, nonneg_iff.2 (Int.natCast_nonneg n), Bool.true_and, Bool.and_true, Bool.and_eq_true]
    exact ⟨⟨Nat.ble_eq_true_of_le (Nat.le_refl _), Nat.ble_eq_true_of_le (by omega)⟩, Nat.ble_eq_true_of_le (by omega)⟩
  have hrep : flat (repE (.int .u8 0) n) = toBytes (List.replicate n 0) := by rw [repE_zero, flat_toBytes]
  refine ⟨?_, ?_⟩
  · refine Frz.out (Frz.bytes rfl rfl ?_ (drawN_length [] n p).symm)
    have e3 : flat (repE (.int .u8 0) (Int.ofNat n).toNat) = toBytes (List.replicate n 0) := hrep
    rw [e3]
    congr 1
    simp [drawN]
  · simp [closedA]

end Go.Proofs.YtecabdjbhlmilaaGreatDoor
