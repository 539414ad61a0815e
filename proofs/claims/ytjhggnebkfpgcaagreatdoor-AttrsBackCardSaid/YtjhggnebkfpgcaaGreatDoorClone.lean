/- What slices.Clone answers, for each kind of element. -/
import Derived.Test.YtjhggnebkfpgcaaGreatDoorSame
import Derived.KernelRfl
namespace Go.Proofs.YtjhggnebkfpgcaaGreatDoor
open Go Go.RowKit
open Go.Proofs.Abs
theorem cloneB0 (Q : AV → Heap → Nat → Prop) : fnK Tryz.prog opts0 40 aid0 118 [.nilsl] [] 0 Q =
  (Q AV.nilsl [] 4) := by kernel_rfl
theorem cloneB1 (Q : AV → Heap → Nat → Prop) : fnK Tryz.prog opts0 40 aid0 118 [.nesl] [] 0 Q =
  (Q (AV.fsl true []) [] 7) := by kernel_rfl
theorem cloneB2 (a : AV) (es : List AV) (Q : AV → Heap → Nat → Prop) : fnK Tryz.prog opts0 40 aid0 118 [.fsl false (a :: es)] [] 0 Q =
  (oblB (allSize 1 (a :: es) && (((0 + lenN (a :: es)) * 1).ble 140737488355328 && true)) (Q (AV.rsl true 5 0 (0 + lenN (a :: es)) 1) [(5, some (Blk.cells (flat (a :: es))))] 7)) := by kernel_rfl
theorem cloneB_sem {l : List AV} (hl : ∀ e ∈ l, goodEl 1 e) (hc : closedAll l = true) (hn : l.length ≤ big) : SC 118 [.fsl false l] (.fsl false l) := by
 cases l with
 | nil =>
  refine SemCall.empty (sem_at (A := aid0) (r := .nilsl) aidOk0 (fnLs_of (LsOk.no rfl)) rfl ?_ .nil) (sem_at (A := aid0) (r := .fsl true []) aidOk0 (fnLs_of (LsOk.no rfl)) rfl ?_ .full)
  ·rw [cloneB0]; exact fin_closed rfl
  ·rw [cloneB1]; exact fin_closed rfl
 | cons a es =>
  have hcl : closedAll [.fsl false (a :: es)] = true := by rw [closedAll, closedA, hc]; rfl
  refine sem_at (A := aid0) (r := .fsl false (a :: es)) aidOk0 (fnLs_of (LsOk.no rfl)) hcl ?_ (.refl _)
  rw [cloneB2]
  have h1 : allSize 1 (a :: es) = true := allSize_iff.2 fun e he => (hl e he).1
  refine oblB_iff.2 ⟨?_, ?_⟩
  ·have hn : es.length + 1 ≤ 1099511627776 := hn
   simp only [Bool.and_eq_true, Nat.ble_eq, lenN_eq] at h1 ⊢
   first | exact ⟨h1, by omega⟩ | exact ⟨h1, by simp only [List.length_cons]; omega⟩ | (simp_all; omega)
  ·exact fin_frz (Frz.row rfl rfl rfl (by first | rfl | simp [lenN_eq]) hl hc) hc
theorem cloneS0 (Q : AV → Heap → Nat → Prop) : fnK Tryz.prog opts0 40 aid0 119 [.nilsl] [] 0 Q =
  (Q AV.nilsl [] 4) := by kernel_rfl
theorem cloneS1 (Q : AV → Heap → Nat → Prop) : fnK Tryz.prog opts0 40 aid0 119 [.nesl] [] 0 Q =
  (Q (AV.fsl true []) [] 7) := by kernel_rfl
theorem cloneS2 (a : AV) (es : List AV) (Q : AV → Heap → Nat → Prop) : fnK Tryz.prog opts0 40 aid0 119 [.fsl false (a :: es)] [] 0 Q =
  (oblB (allSize 1 (a :: es) && (((0 + lenN (a :: es)) * 16).ble 140737488355328 && true)) (Q (AV.rsl true 5 0 (0 + lenN (a :: es)) 1) [(5, some (Blk.cells (flat (a :: es))))] 7)) := by kernel_rfl
theorem cloneS_sem {l : List AV} (hl : ∀ e ∈ l, goodEl 1 e) (hc : closedAll l = true) (hn : l.length ≤ big) : SC 119 [.fsl false l] (.fsl false l) := by
 cases l with
 | nil =>
  refine SemCall.empty (sem_at (A := aid0) (r := .nilsl) aidOk0 (fnLs_of (LsOk.no rfl)) rfl ?_ .nil) (sem_at (A := aid0) (r := .fsl true []) aidOk0 (fnLs_of (LsOk.no rfl)) rfl ?_ .full)
  ·rw [cloneS0]; exact fin_closed rfl
  ·rw [cloneS1]; exact fin_closed rfl
 | cons a es =>
  have hcl : closedAll [.fsl false (a :: es)] = true := by rw [closedAll, closedA, hc]; rfl
  refine sem_at (A := aid0) (r := .fsl false (a :: es)) aidOk0 (fnLs_of (LsOk.no rfl)) hcl ?_ (.refl _)
  rw [cloneS2]
  have h1 : allSize 1 (a :: es) = true := allSize_iff.2 fun e he => (hl e he).1
  refine oblB_iff.2 ⟨?_, ?_⟩
  ·have hn : es.length + 1 ≤ 1099511627776 := hn
   simp only [Bool.and_eq_true, Nat.ble_eq, lenN_eq] at h1 ⊢
   first | exact ⟨h1, by omega⟩ | exact ⟨h1, by simp only [List.length_cons]; omega⟩ | (simp_all; omega)
  ·exact fin_frz (Frz.row rfl rfl rfl (by first | rfl | simp [lenN_eq]) hl hc) hc
theorem cloneL0 (Q : AV → Heap → Nat → Prop) : fnK Tryz.prog opts0 40 aid0 120 [.nilsl] [] 0 Q =
  (Q AV.nilsl [] 4) := by kernel_rfl
theorem cloneL1 (Q : AV → Heap → Nat → Prop) : fnK Tryz.prog opts0 40 aid0 120 [.nesl] [] 0 Q =
  (Q (AV.fsl true []) [] 7) := by kernel_rfl
theorem cloneL2 (a : AV) (es : List AV) (Q : AV → Heap → Nat → Prop) : fnK Tryz.prog opts0 40 aid0 120 [.fsl false (a :: es)] [] 0 Q =
  (oblB (allSize 2 (a :: es) && (((0 + lenN (a :: es)) * 24).ble 140737488355328 && true)) (Q (AV.rsl true 5 0 (0 + lenN (a :: es)) 2) [(5, some (Blk.cells (flat (a :: es))))] 7)) := by kernel_rfl
theorem cloneL_sem {l : List AV} (hl : ∀ e ∈ l, goodEl 2 e) (hc : closedAll l = true) (hn : l.length ≤ big) : SC 120 [.fsl false l] (.fsl false l) := by
 cases l with
 | nil =>
  refine SemCall.empty (sem_at (A := aid0) (r := .nilsl) aidOk0 (fnLs_of (LsOk.no rfl)) rfl ?_ .nil) (sem_at (A := aid0) (r := .fsl true []) aidOk0 (fnLs_of (LsOk.no rfl)) rfl ?_ .full)
  ·rw [cloneL0]; exact fin_closed rfl
  ·rw [cloneL1]; exact fin_closed rfl
 | cons a es =>
  have hcl : closedAll [.fsl false (a :: es)] = true := by rw [closedAll, closedA, hc]; rfl
  refine sem_at (A := aid0) (r := .fsl false (a :: es)) aidOk0 (fnLs_of (LsOk.no rfl)) hcl ?_ (.refl _)
  rw [cloneL2]
  have h1 : allSize 2 (a :: es) = true := allSize_iff.2 fun e he => (hl e he).1
  refine oblB_iff.2 ⟨?_, ?_⟩
  ·have hn : es.length + 1 ≤ 1099511627776 := hn
   simp only [Bool.and_eq_true, Nat.ble_eq, lenN_eq] at h1 ⊢
   first | exact ⟨h1, by omega⟩ | exact ⟨h1, by simp only [List.length_cons]; omega⟩ | (simp_all; omega)
  ·exact fin_frz (Frz.row rfl rfl rfl (by first | rfl | simp [lenN_eq]) hl hc) hc
theorem cloneC0 (Q : AV → Heap → Nat → Prop) : fnK Tryz.prog opts0 40 aid0 121 [.nilsl] [] 0 Q =
  (Q AV.nilsl [] 4) := by kernel_rfl
theorem cloneC1 (Q : AV → Heap → Nat → Prop) : fnK Tryz.prog opts0 40 aid0 121 [.nesl] [] 0 Q =
  (Q (AV.fsl true []) [] 7) := by kernel_rfl
theorem cloneC2 (a : AV) (es : List AV) (Q : AV → Heap → Nat → Prop) : fnK Tryz.prog opts0 40 aid0 121 [.fsl false (a :: es)] [] 0 Q =
  (oblB (allSize 2 (a :: es) && (((0 + lenN (a :: es)) * 32).ble 140737488355328 && true)) (Q (AV.rsl true 5 0 (0 + lenN (a :: es)) 2) [(5, some (Blk.cells (flat (a :: es))))] 7)) := by kernel_rfl
theorem cloneC_sem {l : List AV} (hl : ∀ e ∈ l, goodEl 2 e) (hc : closedAll l = true) (hn : l.length ≤ big) : SC 121 [.fsl false l] (.fsl false l) := by
 cases l with
 | nil =>
  refine SemCall.empty (sem_at (A := aid0) (r := .nilsl) aidOk0 (fnLs_of (LsOk.no rfl)) rfl ?_ .nil) (sem_at (A := aid0) (r := .fsl true []) aidOk0 (fnLs_of (LsOk.no rfl)) rfl ?_ .full)
  ·rw [cloneC0]; exact fin_closed rfl
  ·rw [cloneC1]; exact fin_closed rfl
 | cons a es =>
  have hcl : closedAll [.fsl false (a :: es)] = true := by rw [closedAll, closedA, hc]; rfl
  refine sem_at (A := aid0) (r := .fsl false (a :: es)) aidOk0 (fnLs_of (LsOk.no rfl)) hcl ?_ (.refl _)
  rw [cloneC2]
  have h1 : allSize 2 (a :: es) = true := allSize_iff.2 fun e he => (hl e he).1
  refine oblB_iff.2 ⟨?_, ?_⟩
  ·have hn : es.length + 1 ≤ 1099511627776 := hn
   simp only [Bool.and_eq_true, Nat.ble_eq, lenN_eq] at h1 ⊢
   first | exact ⟨h1, by omega⟩ | exact ⟨h1, by simp only [List.length_cons]; omega⟩ | (simp_all; omega)
  ·exact fin_frz (Frz.row rfl rfl rfl (by first | rfl | simp [lenN_eq]) hl hc) hc
end Go.Proofs.YtjhggnebkfpgcaaGreatDoor
