/- What slices.Clone answers, for each kind of element. -/
import Derived.Test.YtjhggnebkfpgcaaGreatDoorShape
import Derived.KernelRfl
namespace Go.Proofs.YtjhggnebkfpgcaaGreatDoor
open Go Go.RowKit
open Go.Proofs.Abs

/-- How a copy of a row lies. -/
def cloneF : Option Bool → List AV → Option Bool
  | none, _ => none
  | some _, [] => some true
  | some _, _ :: _ => some false

theorem cloneB0 (Q : AV → Heap → Nat → Prop) : fnK Tryz.prog opts0 40 aid0 118 [.nilsl] [] 0 Q =
    (Q AV.nilsl [] 4) := by kernel_rfl
theorem cloneB1 (f : Bool) (Q : AV → Heap → Nat → Prop) : fnK Tryz.prog opts0 40 aid0 118 [.fsl f []] [] 0 Q =
    (Q (AV.fsl true []) [] 7) := by kernel_rfl
theorem cloneB2 (f : Bool) (a : AV) (es : List AV) (Q : AV → Heap → Nat → Prop) : fnK Tryz.prog opts0 40 aid0 118 [.fsl f (a :: es)] [] 0 Q =
    (oblB (allSize 1 (a :: es) && (((0 + lenN (a :: es)) * 1).ble 140737488355328 && true)) (Q (AV.rsl true 5 0 (0 + lenN (a :: es)) 1) [(5, some (Blk.cells (flat (a :: es))))] 7)) := by kernel_rfl
theorem cloneB_sem {f : Option Bool} {l : List AV} (hf : f = none → l = []) (hl : ∀ e ∈ l, goodEl 1 e) (hc : closedAll l = true) (hn : l.length ≤ big) : SemCall Tryz.prog opts0.glob 118 [rowV f l] (rowV (cloneF f l) l) := by
  have hcl : closedAll [rowV f l] = true := by simp [closedAll, closed_rowA hc]
  cases f with
  | none =>
    obtain rfl := hf rfl
    refine fnK_sem (A := aid0) base0 aidOk0 (fnLs_of (LsOk.no rfl)) hcl ?_
    simp only [rowV, cloneB0]
    exact fin_closed rfl
  | some f => cases l with
    | nil =>
      refine fnK_sem (A := aid0) base0 aidOk0 (fnLs_of (LsOk.no rfl)) hcl ?_
      simp only [rowV, cloneB1]
      exact fin_closed rfl
    | cons a es =>
      refine fnK_sem (A := aid0) base0 aidOk0 (fnLs_of (LsOk.no rfl)) hcl ?_
      simp only [rowV, cloneB2]
      have h1 : allSize 1 (a :: es) = true := allSize_iff.2 fun e he => (hl e he).1
      refine oblB_iff.2 ⟨?_, ?_⟩
      · have hn : es.length + 1 ≤ 1099511627776 := hn
        simp only [Bool.and_eq_true, Nat.ble_eq, lenN_eq] at h1 ⊢
        first | exact ⟨h1, by omega⟩ | exact ⟨h1, by simp only [List.length_cons]; omega⟩ | (simp_all; omega)
      · exact fin_frz (Frz.row rfl rfl rfl (by first | rfl | simp [lenN_eq]) hl hc) hc

theorem cloneS0 (Q : AV → Heap → Nat → Prop) : fnK Tryz.prog opts0 40 aid0 119 [.nilsl] [] 0 Q =
    (Q AV.nilsl [] 4) := by kernel_rfl
theorem cloneS1 (f : Bool) (Q : AV → Heap → Nat → Prop) : fnK Tryz.prog opts0 40 aid0 119 [.fsl f []] [] 0 Q =
    (Q (AV.fsl true []) [] 7) := by kernel_rfl
theorem cloneS2 (f : Bool) (a : AV) (es : List AV) (Q : AV → Heap → Nat → Prop) : fnK Tryz.prog opts0 40 aid0 119 [.fsl f (a :: es)] [] 0 Q =
    (oblB (allSize 1 (a :: es) && (((0 + lenN (a :: es)) * 16).ble 140737488355328 && true)) (Q (AV.rsl true 5 0 (0 + lenN (a :: es)) 1) [(5, some (Blk.cells (flat (a :: es))))] 7)) := by kernel_rfl
theorem cloneS_sem {f : Option Bool} {l : List AV} (hf : f = none → l = []) (hl : ∀ e ∈ l, goodEl 1 e) (hc : closedAll l = true) (hn : l.length ≤ big) : SemCall Tryz.prog opts0.glob 119 [rowV f l] (rowV (cloneF f l) l) := by
  have hcl : closedAll [rowV f l] = true := by simp [closedAll, closed_rowA hc]
  cases f with
  | none =>
    obtain rfl := hf rfl
    refine fnK_sem (A := aid0) base0 aidOk0 (fnLs_of (LsOk.no rfl)) hcl ?_
    simp only [rowV, cloneS0]
    exact fin_closed rfl
  | some f => cases l with
    | nil =>
      refine fnK_sem (A := aid0) base0 aidOk0 (fnLs_of (LsOk.no rfl)) hcl ?_
      simp only [rowV, cloneS1]
      exact fin_closed rfl
    | cons a es =>
      refine fnK_sem (A := aid0) base0 aidOk0 (fnLs_of (LsOk.no rfl)) hcl ?_
      simp only [rowV, cloneS2]
      have h1 : allSize 1 (a :: es) = true := allSize_iff.2 fun e he => (hl e he).1
      refine oblB_iff.2 ⟨?_, ?_⟩
      · have hn : es.length + 1 ≤ 1099511627776 := hn
        simp only [Bool.and_eq_true, Nat.ble_eq, lenN_eq] at h1 ⊢
        first | exact ⟨h1, by omega⟩ | exact ⟨h1, by simp only [List.length_cons]; omega⟩ | (simp_all; omega)
      · exact fin_frz (Frz.row rfl rfl rfl (by first | rfl | simp [lenN_eq]) hl hc) hc

theorem cloneL0 (Q : AV → Heap → Nat → Prop) : fnK Tryz.prog opts0 40 aid0 120 [.nilsl] [] 0 Q =
    (Q AV.nilsl [] 4) := by kernel_rfl
theorem cloneL1 (f : Bool) (Q : AV → Heap → Nat → Prop) : fnK Tryz.prog opts0 40 aid0 120 [.fsl f []] [] 0 Q =
    (Q (AV.fsl true []) [] 7) := by kernel_rfl
theorem cloneL2 (f : Bool) (a : AV) (es : List AV) (Q : AV → Heap → Nat → Prop) : fnK Tryz.prog opts0 40 aid0 120 [.fsl f (a :: es)] [] 0 Q =
    (oblB (allSize 2 (a :: es) && (((0 + lenN (a :: es)) * 24).ble 140737488355328 && true)) (Q (AV.rsl true 5 0 (0 + lenN (a :: es)) 2) [(5, some (Blk.cells (flat (a :: es))))] 7)) := by kernel_rfl
theorem cloneL_sem {f : Option Bool} {l : List AV} (hf : f = none → l = []) (hl : ∀ e ∈ l, goodEl 2 e) (hc : closedAll l = true) (hn : l.length ≤ big) : SemCall Tryz.prog opts0.glob 120 [rowV f l] (rowV (cloneF f l) l) := by
  have hcl : closedAll [rowV f l] = true := by simp [closedAll, closed_rowA hc]
  cases f with
  | none =>
    obtain rfl := hf rfl
    refine fnK_sem (A := aid0) base0 aidOk0 (fnLs_of (LsOk.no rfl)) hcl ?_
    simp only [rowV, cloneL0]
    exact fin_closed rfl
  | some f => cases l with
    | nil =>
      refine fnK_sem (A := aid0) base0 aidOk0 (fnLs_of (LsOk.no rfl)) hcl ?_
      simp only [rowV, cloneL1]
      exact fin_closed rfl
    | cons a es =>
      refine fnK_sem (A := aid0) base0 aidOk0 (fnLs_of (LsOk.no rfl)) hcl ?_
      simp only [rowV, cloneL2]
      have h1 : allSize 2 (a :: es) = true := allSize_iff.2 fun e he => (hl e he).1
      refine oblB_iff.2 ⟨?_, ?_⟩
      · have hn : es.length + 1 ≤ 1099511627776 := hn
        simp only [Bool.and_eq_true, Nat.ble_eq, lenN_eq] at h1 ⊢
        first | exact ⟨h1, by omega⟩ | exact ⟨h1, by simp only [List.length_cons]; omega⟩ | (simp_all; omega)
      · exact fin_frz (Frz.row rfl rfl rfl (by first | rfl | simp [lenN_eq]) hl hc) hc

theorem cloneC0 (Q : AV → Heap → Nat → Prop) : fnK Tryz.prog opts0 40 aid0 121 [.nilsl] [] 0 Q =
    (Q AV.nilsl [] 4) := by kernel_rfl
theorem cloneC1 (f : Bool) (Q : AV → Heap → Nat → Prop) : fnK Tryz.prog opts0 40 aid0 121 [.fsl f []] [] 0 Q =
    (Q (AV.fsl true []) [] 7) := by kernel_rfl
theorem cloneC2 (f : Bool) (a : AV) (es : List AV) (Q : AV → Heap → Nat → Prop) : fnK Tryz.prog opts0 40 aid0 121 [.fsl f (a :: es)] [] 0 Q =
    (oblB (allSize 2 (a :: es) && (((0 + lenN (a :: es)) * 32).ble 140737488355328 && true)) (Q (AV.rsl true 5 0 (0 + lenN (a :: es)) 2) [(5, some (Blk.cells (flat (a :: es))))] 7)) := by kernel_rfl
theorem cloneC_sem {f : Option Bool} {l : List AV} (hf : f = none → l = []) (hl : ∀ e ∈ l, goodEl 2 e) (hc : closedAll l = true) (hn : l.length ≤ big) : SemCall Tryz.prog opts0.glob 121 [rowV f l] (rowV (cloneF f l) l) := by
  have hcl : closedAll [rowV f l] = true := by simp [closedAll, closed_rowA hc]
  cases f with
  | none =>
    obtain rfl := hf rfl
    refine fnK_sem (A := aid0) base0 aidOk0 (fnLs_of (LsOk.no rfl)) hcl ?_
    simp only [rowV, cloneC0]
    exact fin_closed rfl
  | some f => cases l with
    | nil =>
      refine fnK_sem (A := aid0) base0 aidOk0 (fnLs_of (LsOk.no rfl)) hcl ?_
      simp only [rowV, cloneC1]
      exact fin_closed rfl
    | cons a es =>
      refine fnK_sem (A := aid0) base0 aidOk0 (fnLs_of (LsOk.no rfl)) hcl ?_
      simp only [rowV, cloneC2]
      have h1 : allSize 2 (a :: es) = true := allSize_iff.2 fun e he => (hl e he).1
      refine oblB_iff.2 ⟨?_, ?_⟩
      · have hn : es.length + 1 ≤ 1099511627776 := hn
        simp only [Bool.and_eq_true, Nat.ble_eq, lenN_eq] at h1 ⊢
        first | exact ⟨h1, by omega⟩ | exact ⟨h1, by simp only [List.length_cons]; omega⟩ | (simp_all; omega)
      · exact fin_frz (Frz.row rfl rfl rfl (by first | rfl | simp [lenN_eq]) hl hc) hc

end Go.Proofs.YtjhggnebkfpgcaaGreatDoor
