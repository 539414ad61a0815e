/- What the product tells of a name; is a kind one of many? -/
import Derived.Test.YtjhggnebkfpgcaaGreatDoorOf
import Derived.KernelRfl
namespace Go.Proofs.YtjhggnebkfpgcaaGreatDoor
set_option maxRecDepth 20000
open Go Go.RowKit
open Go.Proofs.Abs
noncomputable def ofQ (row : AV) (f : Bool) (Ls : List AV) : Aid := aidJ [] [] (manyF [(61, fun _ => some (.tuple [row, .bool f])), (83, fun _ => some (.fsl false Ls))]) [] []
theorem ofn_some (h : RowH) (a m re g r p d ro : AV) (Ls : List AV) (s : List UInt8) (o : Ob) (M N L C : AV) (Q : AV → Prop) : fnK Tryz.prog opts0 40 (ofQ (.agg (rowW h a m re g r p d ro)) true Ls) 32 [.agg (obF o M N L C), .str s] [] 0 (fun v _ _ => Q v) =
  (SC 61 [AV.str s] (AV.tuple [AV.agg [AV.str h.1, I h.2, AV.bool h.3, AV.bool h.4, a, m, re, g, r, p, d, ro], AV.bool true]) ∧ oblB (fitsT Tryz.prog 89 (AV.agg [AV.str h.1, I h.2, AV.bool h.3, AV.bool h.4, a, m, re, g, r, p, d, ro]) 12) (SC 83 [AV.agg [AV.str h.1, I h.2, AV.bool h.3, AV.bool h.4, a, m, re, g, r, p, d, ro], AV.agg (obF o M N L C)] (AV.fsl false Ls) ∧ Q (AV.fsl false Ls))) := by kernel_rfl
theorem ofn_none (h : RowH) (a m re g r p d ro : AV) (Ls : List AV) (s : List UInt8) (o : Ob) (M N L C : AV) (Q : AV → Prop) : fnK Tryz.prog opts0 40 (ofQ (.agg (rowW h a m re g r p d ro)) false Ls) 32 [.agg (obF o M N L C), .str s] [] 0 (fun v _ _ => Q v) =
  (SC 61 [AV.str s] (AV.tuple [AV.agg [AV.str h.1, I h.2, AV.bool h.3, AV.bool h.4, a, m, re, g, r, p, d, ro], AV.bool false]) ∧ oblB (fitsT Tryz.prog 89 (AV.agg [AV.str h.1, I h.2, AV.bool h.3, AV.bool h.4, a, m, re, g, r, p, d, ro]) 12) (Q AV.nilsl)) := by kernel_rfl
theorem many_fn (h : RowH) (a m re g r p d ro : AV) (f : Bool) (s : List UInt8) (Q : AV → Prop) : fnK Tryz.prog opts0 40 (ofQ (.agg (rowW h a m re g r p d ro)) f []) 42 [.str s] [] 0 (fun v _ _ => Q v) =
  (SC 61 [AV.str s] (AV.tuple [AV.agg [AV.str h.1, I h.2, AV.bool h.3, AV.bool h.4, a, m, re, g, r, p, d, ro], AV.bool f]) ∧ oblB (fitsT Tryz.prog 89 (AV.agg [AV.str h.1, I h.2, AV.bool h.3, AV.bool h.4, a, m, re, g, r, p, d, ro]) 12) (Q (AV.bool h.3))) := by kernel_rfl
theorem findL_mem {s : List UInt8} : ∀ {l : List Kd} {k : Kd}, findL s l = some k → k ∈ l ∧ nameK k = s
 | [], _, h => by cases h
 | a :: r, k, h => by
  simp only [findL] at h
  split at h
  ·rename_i e
   cases h
   exact ⟨by simp, beqBytes_iff.1 e⟩
  ·obtain ⟨h1, h2⟩ := findL_mem h
   exact ⟨by simp [h1], h2⟩
theorem find_kd {c : Bool} {s : List UInt8} {k : Kd} (h : findK c s = some k) : kdB k = true ∧ nameK k = s := by
 unfold findK at h
 split at h
 ·cases h; exact ⟨rfl, rfl⟩
 ·obtain ⟨h1, h2⟩ := findL_mem h
  exact ⟨(by decide : ∀ k ∈ kinds, kdB k = true) k h1, h2⟩
def ofS (c : Bool) (o : Ob) (s : List UInt8) : List At := match findK c s with
 | none => []
 | some k => tellL s (getK o k) 0
theorem fits_rowZ : fitsT Tryz.prog 89 rowZ 12 = true := by kernel_rfl
theorem ofn_sem {c : Bool} {o : Ob} (ho : FitO o) {s : List UInt8} (hc : SC 111 [.str s] (.bool c)) (hg : ∀ k, OkG o k) : SC 32 [obA o, .str s] (.fsl false ((ofS c o s).map atA)) := by
 have hf := find_sem hc
 have hcl := closed_oc o (c := [.str s]) rfl
 unfold ofS
 cases hk : findK c s with
 | none =>
  dsimp only
  rw [hk] at hf
  refine fnK_semE (A := ofQ rowZ false []) base0 aidJ_ok (fnLs_of (LsOk.no rfl)) hcl ?_
  have e : rowZ = .agg (rowW ⟨[], 0, false, false⟩ .nilFunc .nilFunc .nilFunc .nilFunc .nilFunc .nilFunc .nilFunc .nilFunc) := rfl
  rw [rowO, e] at hf
  have hz := fits_rowZ
  rw [e] at hz ⊢
  simp only [obA, obC]
  rw [ofn_none]
  exact ⟨hf, oblB_of hz ⟨rfl, .nil⟩⟩
 | some k =>
  dsimp only
  rw [hk] at hf
  obtain ⟨h1, h2⟩ := find_kd hk
  have hof := of_sem h1 ho (hg k)
  have hfit := fits_row k
  rw [h2] at hof
  refine fnK_semE (A := ofQ (.agg (rowC k)) true ((tellL s (getK o k) 0).map atA)) base0 aidJ_ok (fnLs_of (LsOk.no rfl)) hcl ?_
  rw [rowO_some, fiT] at hf
  rw [rowC_eq] at hf hof hfit ⊢
  simp only [obA, obC] at hof ⊢
  rw [ofn_some]
  exact ⟨hf, oblB_of hfit ⟨hof, end_self (closed_ats _)⟩⟩
def manyS' (c : Bool) (s : List UInt8) : Bool := match findK c s with
 | none => false
 | some k => manyK k
theorem many_sem {c : Bool} {s : List UInt8} (hc : SC 111 [.str s] (.bool c)) : SC 42 [.str s] (.bool (manyS' c s)) := by
 have hf := find_sem hc
 unfold manyS'
 cases hk : findK c s with
 | none =>
  dsimp only
  rw [hk] at hf
  refine fnK_semE (A := ofQ rowZ false []) base0 aidJ_ok (fnLs_of (LsOk.no rfl)) rfl ?_
  have e : rowZ = .agg (rowW ⟨[], 0, false, false⟩ .nilFunc .nilFunc .nilFunc .nilFunc .nilFunc .nilFunc .nilFunc .nilFunc) := rfl
  rw [rowO, e] at hf
  have hz := fits_rowZ
  rw [e] at hz ⊢
  rw [many_fn]
  exact ⟨hf, oblB_of hz (end_self rfl)⟩
 | some k =>
  dsimp only
  rw [hk] at hf
  have hfit := fits_row k
  refine fnK_semE (A := ofQ (.agg (rowC k)) true []) base0 aidJ_ok (fnLs_of (LsOk.no rfl)) rfl ?_
  rw [rowO_some, fiT] at hf
  rw [rowC_eq] at hf hfit ⊢
  rw [many_fn]
  exact ⟨hf, oblB_of hfit (end_self rfl)⟩
end Go.Proofs.YtjhggnebkfpgcaaGreatDoor
