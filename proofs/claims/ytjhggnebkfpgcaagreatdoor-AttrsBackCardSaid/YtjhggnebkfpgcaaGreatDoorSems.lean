/- What the closures answer and do, all kinds. -/
import Derived.Test.YtjhggnebkfpgcaaGreatDoorPuts
import Derived.KernelRfl
namespace Go.Proofs.YtjhggnebkfpgcaaGreatDoor
open Go Go.RowKit
open Go.Proofs.Abs
structure FitO (o : Ob) : Prop where
 n : o.names.length ≤ 6
 l : o.links.length ≤ 8
 c : o.cust.length ≤ 6
 m : o.mat.length ≤ big
def kdB : Kd → Bool
 | .dat k => Nat.blt k 10
 | _ => true
theorem closed_o (o : Ob) : closedAll [obA o] = true := closed_one (closed_obC o)
theorem closed_oc (o : Ob) {c : List AV} (h : closedAll c = true) : closedAll (obA o :: c) = true := by
 have := closed_obC o
 simp only [closedAll, obA, closedA, this, h, Bool.and_self]
theorem g_uid_sem (o : Ob) : SC 127 [obA o] (.fsl false (itAs (getK o .uid))) := by
 refine fnK_semE (A := aidJ [] [] noSem inlG []) base0 aidJ_ok (fnLs_of (LsOk.no rfl)) (closed_o o) ?_
 simp only [obA, obC]
 rw [g_uid]
 refine ⟨by simp [closedAll, closedA], ?_⟩
 simp only [getK, txt, vlV, itAs, itA]
 (repeat (first | exact Wk.refl _ | exact WkL.refl _ | exact Wk.nil | exact Wk.row | exact WkE.refl _ | exact WkL.nil | exact WkE.nil | apply Wk.agg | apply Wk.tuple | apply WkL.cons | apply Wk.rows | apply WkE.consA))
theorem g_typ_sem (o : Ob) : SC 130 [obA o] (.fsl false (itAs (getK o .typ))) := by
 refine fnK_semE (A := aidJ [] [] noSem inlG []) base0 aidJ_ok (fnLs_of (LsOk.no rfl)) (closed_o o) ?_
 simp only [obA, obC]
 rw [g_typ]
 refine ⟨by simp [closedAll, closedA], ?_⟩
 simp only [getK, numI, vlV, itAs, itA, toBytes]
 (repeat (first | exact Wk.refl _ | exact WkL.refl _ | exact Wk.nil | exact Wk.row | exact WkE.refl _ | exact WkL.nil | exact WkE.nil | apply Wk.agg | apply Wk.tuple | apply WkL.cons | apply Wk.rows | apply WkE.consA))
theorem g_sta_sem (o : Ob) : SC 134 [obA o] (.fsl false (itAs (getK o .sta))) := by
 refine fnK_semE (A := aidJ [] [] noSem inlG []) base0 aidJ_ok (fnLs_of (LsOk.no rfl)) (closed_o o) ?_
 simp only [obA, obC]
 rw [g_sta]
 refine ⟨by simp [closedAll, closedA], ?_⟩
 simp only [getK, numI, vlV, itAs, itA, toBytes]
 (repeat (first | exact Wk.refl _ | exact WkL.refl _ | exact Wk.nil | exact Wk.row | exact WkE.refl _ | exact WkL.nil | exact WkE.nil | apply Wk.agg | apply Wk.tuple | apply WkL.cons | apply Wk.rows | apply WkE.consA))
theorem g_alg_sem (o : Ob) : SC 161 [obA o, .fptr [atF .alg] 0, .fptr [I 1] 0, .fptr [I 5] 0] (.fsl false (itAs (getK o .alg))) := by
 refine fnK_semE (A := aidJ [] [] noSem inlG inlA) base0 aidJ_ok (fnLs_of (LsOk.no rfl)) (closed_oc o rfl) ?_
 simp only [obA, obC, atF]
 rw [g_alg]
 refine mtB_of (fun e => ?_) (fun e => ?_)
 all_goals
  refine ⟨by simp [closedAll, closedA], ?_⟩
  simp only [getK, oneL, numI, vlV, itAs, itA, toBytes, e]
  (repeat (first | exact Wk.refl _ | exact WkL.refl _ | exact Wk.nil | exact Wk.row | exact WkE.refl _ | exact WkL.nil | exact WkE.nil | apply Wk.agg | apply Wk.tuple | apply WkL.cons | apply Wk.rows | apply WkE.consA))
theorem g_len_sem (o : Ob) : SC 161 [obA o, .fptr [atF .len] 0, .fptr [I 1] 0, .fptr [I 2] 0] (.fsl false (itAs (getK o .len))) := by
 refine fnK_semE (A := aidJ [] [] noSem inlG inlA) base0 aidJ_ok (fnLs_of (LsOk.no rfl)) (closed_oc o rfl) ?_
 simp only [obA, obC, atF]
 rw [g_len]
 refine mtB_of (fun e => ?_) (fun e => ?_)
 all_goals
  refine ⟨by simp [closedAll, closedA], ?_⟩
  simp only [getK, oneL, numI, vlV, itAs, itA, toBytes, e]
  (repeat (first | exact Wk.refl _ | exact WkL.refl _ | exact Wk.nil | exact Wk.row | exact WkE.refl _ | exact WkL.nil | exact WkE.nil | apply Wk.agg | apply Wk.tuple | apply WkL.cons | apply Wk.rows | apply WkE.consA))
theorem g_mask_sem (o : Ob) : SC 161 [obA o, .fptr [atF .mask] 0, .fptr [I 0] 0, .fptr [I 2] 0] (.fsl false (itAs (getK o .mask))) := by
 refine fnK_semE (A := aidJ [] [] noSem inlG inlA) base0 aidJ_ok (fnLs_of (LsOk.no rfl)) (closed_oc o rfl) ?_
 simp only [obA, obC, atF]
 rw [g_mask]
 refine mtB_of (fun e => ?_) (fun e => ?_)
 all_goals
  refine ⟨by simp [closedAll, closedA], ?_⟩
  simp only [getK, numI, vlV, itAs, itA, toBytes]
  (repeat (first | exact Wk.refl _ | exact WkL.refl _ | exact Wk.nil | exact Wk.row | exact WkE.refl _ | exact WkL.nil | exact WkE.nil | apply Wk.agg | apply Wk.tuple | apply WkL.cons | apply Wk.rows | apply WkE.consA))
theorem g_dat0_sem (o : Ob) : SC 172 [obA o, .fptr [nI 0] 0] (.fsl false (itAs (getK o (.dat 0)))) := by
 refine fnK_semE (A := aidJ [] [] noSem inlG []) base0 aidJ_ok (fnLs_of (LsOk.no rfl)) (closed_oc o rfl) ?_
 have h := g_dat0 o (matA o) (namA o) (lnkA o) (cusA o) (endV (.fsl false (itAs (getK o (.dat 0)))))
 simp only [obA, obC]
 rw [show (nI 0 : AV) = I 0 from rfl, h]
 refine mtB_of (fun e => ?_) (fun e => ?_)
 all_goals
  refine ⟨by simp [closedAll, closedA], ?_⟩
  first | rw [Bool.not_eq_true'] at e | rw [Bool.not_eq_false'] at e
  simp only [getK, oneL, dateAt, numI, vlV, itAs, itA, toBytes, e]
  (repeat (first | exact Wk.refl _ | exact WkL.refl _ | exact Wk.nil | exact Wk.row | exact WkE.refl _ | exact WkL.nil | exact WkE.nil | apply Wk.agg | apply Wk.tuple | apply WkL.cons | apply Wk.rows | apply WkE.consA))
theorem g_dat1_sem (o : Ob) : SC 172 [obA o, .fptr [nI 1] 0] (.fsl false (itAs (getK o (.dat 1)))) := by
 refine fnK_semE (A := aidJ [] [] noSem inlG []) base0 aidJ_ok (fnLs_of (LsOk.no rfl)) (closed_oc o rfl) ?_
 have h := g_dat1 o (matA o) (namA o) (lnkA o) (cusA o) (endV (.fsl false (itAs (getK o (.dat 1)))))
 simp only [obA, obC]
 rw [show (nI 1 : AV) = I 1 from rfl, h]
 refine mtB_of (fun e => ?_) (fun e => ?_)
 all_goals
  refine ⟨by simp [closedAll, closedA], ?_⟩
  first | rw [Bool.not_eq_true'] at e | rw [Bool.not_eq_false'] at e
  simp only [getK, oneL, dateAt, numI, vlV, itAs, itA, toBytes, e]
  (repeat (first | exact Wk.refl _ | exact WkL.refl _ | exact Wk.nil | exact Wk.row | exact WkE.refl _ | exact WkL.nil | exact WkE.nil | apply Wk.agg | apply Wk.tuple | apply WkL.cons | apply Wk.rows | apply WkE.consA))
theorem g_dat2_sem (o : Ob) : SC 172 [obA o, .fptr [nI 2] 0] (.fsl false (itAs (getK o (.dat 2)))) := by
 refine fnK_semE (A := aidJ [] [] noSem inlG []) base0 aidJ_ok (fnLs_of (LsOk.no rfl)) (closed_oc o rfl) ?_
 have h := g_dat2 o (matA o) (namA o) (lnkA o) (cusA o) (endV (.fsl false (itAs (getK o (.dat 2)))))
 simp only [obA, obC]
 rw [show (nI 2 : AV) = I 2 from rfl, h]
 refine mtB_of (fun e => ?_) (fun e => ?_)
 all_goals
  refine ⟨by simp [closedAll, closedA], ?_⟩
  first | rw [Bool.not_eq_true'] at e | rw [Bool.not_eq_false'] at e
  simp only [getK, oneL, dateAt, numI, vlV, itAs, itA, toBytes, e]
  (repeat (first | exact Wk.refl _ | exact WkL.refl _ | exact Wk.nil | exact Wk.row | exact WkE.refl _ | exact WkL.nil | exact WkE.nil | apply Wk.agg | apply Wk.tuple | apply WkL.cons | apply Wk.rows | apply WkE.consA))
theorem g_dat3_sem (o : Ob) : SC 172 [obA o, .fptr [nI 3] 0] (.fsl false (itAs (getK o (.dat 3)))) := by
 refine fnK_semE (A := aidJ [] [] noSem inlG []) base0 aidJ_ok (fnLs_of (LsOk.no rfl)) (closed_oc o rfl) ?_
 have h := g_dat3 o (matA o) (namA o) (lnkA o) (cusA o) (endV (.fsl false (itAs (getK o (.dat 3)))))
 simp only [obA, obC]
 rw [show (nI 3 : AV) = I 3 from rfl, h]
 refine mtB_of (fun e => ?_) (fun e => ?_)
 all_goals
  refine ⟨by simp [closedAll, closedA], ?_⟩
  first | rw [Bool.not_eq_true'] at e | rw [Bool.not_eq_false'] at e
  simp only [getK, oneL, dateAt, numI, vlV, itAs, itA, toBytes, e]
  (repeat (first | exact Wk.refl _ | exact WkL.refl _ | exact Wk.nil | exact Wk.row | exact WkE.refl _ | exact WkL.nil | exact WkE.nil | apply Wk.agg | apply Wk.tuple | apply WkL.cons | apply Wk.rows | apply WkE.consA))
theorem g_dat4_sem (o : Ob) : SC 172 [obA o, .fptr [nI 4] 0] (.fsl false (itAs (getK o (.dat 4)))) := by
 refine fnK_semE (A := aidJ [] [] noSem inlG []) base0 aidJ_ok (fnLs_of (LsOk.no rfl)) (closed_oc o rfl) ?_
 have h := g_dat4 o (matA o) (namA o) (lnkA o) (cusA o) (endV (.fsl false (itAs (getK o (.dat 4)))))
 simp only [obA, obC]
 rw [show (nI 4 : AV) = I 4 from rfl, h]
 refine mtB_of (fun e => ?_) (fun e => ?_)
 all_goals
  refine ⟨by simp [closedAll, closedA], ?_⟩
  first | rw [Bool.not_eq_true'] at e | rw [Bool.not_eq_false'] at e
  simp only [getK, oneL, dateAt, numI, vlV, itAs, itA, toBytes, e]
  (repeat (first | exact Wk.refl _ | exact WkL.refl _ | exact Wk.nil | exact Wk.row | exact WkE.refl _ | exact WkL.nil | exact WkE.nil | apply Wk.agg | apply Wk.tuple | apply WkL.cons | apply Wk.rows | apply WkE.consA))
theorem g_dat5_sem (o : Ob) : SC 172 [obA o, .fptr [nI 5] 0] (.fsl false (itAs (getK o (.dat 5)))) := by
 refine fnK_semE (A := aidJ [] [] noSem inlG []) base0 aidJ_ok (fnLs_of (LsOk.no rfl)) (closed_oc o rfl) ?_
 have h := g_dat5 o (matA o) (namA o) (lnkA o) (cusA o) (endV (.fsl false (itAs (getK o (.dat 5)))))
 simp only [obA, obC]
 rw [show (nI 5 : AV) = I 5 from rfl, h]
 refine mtB_of (fun e => ?_) (fun e => ?_)
 all_goals
  refine ⟨by simp [closedAll, closedA], ?_⟩
  first | rw [Bool.not_eq_true'] at e | rw [Bool.not_eq_false'] at e
  simp only [getK, oneL, dateAt, numI, vlV, itAs, itA, toBytes, e]
  (repeat (first | exact Wk.refl _ | exact WkL.refl _ | exact Wk.nil | exact Wk.row | exact WkE.refl _ | exact WkL.nil | exact WkE.nil | apply Wk.agg | apply Wk.tuple | apply WkL.cons | apply Wk.rows | apply WkE.consA))
theorem g_dat6_sem (o : Ob) : SC 172 [obA o, .fptr [nI 6] 0] (.fsl false (itAs (getK o (.dat 6)))) := by
 refine fnK_semE (A := aidJ [] [] noSem inlG []) base0 aidJ_ok (fnLs_of (LsOk.no rfl)) (closed_oc o rfl) ?_
 have h := g_dat6 o (matA o) (namA o) (lnkA o) (cusA o) (endV (.fsl false (itAs (getK o (.dat 6)))))
 simp only [obA, obC]
 rw [show (nI 6 : AV) = I 6 from rfl, h]
 refine mtB_of (fun e => ?_) (fun e => ?_)
 all_goals
  refine ⟨by simp [closedAll, closedA], ?_⟩
  first | rw [Bool.not_eq_true'] at e | rw [Bool.not_eq_false'] at e
  simp only [getK, oneL, dateAt, numI, vlV, itAs, itA, toBytes, e]
  (repeat (first | exact Wk.refl _ | exact WkL.refl _ | exact Wk.nil | exact Wk.row | exact WkE.refl _ | exact WkL.nil | exact WkE.nil | apply Wk.agg | apply Wk.tuple | apply WkL.cons | apply Wk.rows | apply WkE.consA))
theorem g_dat7_sem (o : Ob) : SC 172 [obA o, .fptr [nI 7] 0] (.fsl false (itAs (getK o (.dat 7)))) := by
 refine fnK_semE (A := aidJ [] [] noSem inlG []) base0 aidJ_ok (fnLs_of (LsOk.no rfl)) (closed_oc o rfl) ?_
 have h := g_dat7 o (matA o) (namA o) (lnkA o) (cusA o) (endV (.fsl false (itAs (getK o (.dat 7)))))
 simp only [obA, obC]
 rw [show (nI 7 : AV) = I 7 from rfl, h]
 refine mtB_of (fun e => ?_) (fun e => ?_)
 all_goals
  refine ⟨by simp [closedAll, closedA], ?_⟩
  first | rw [Bool.not_eq_true'] at e | rw [Bool.not_eq_false'] at e
  simp only [getK, oneL, dateAt, numI, vlV, itAs, itA, toBytes, e]
  (repeat (first | exact Wk.refl _ | exact WkL.refl _ | exact Wk.nil | exact Wk.row | exact WkE.refl _ | exact WkL.nil | exact WkE.nil | apply Wk.agg | apply Wk.tuple | apply WkL.cons | apply Wk.rows | apply WkE.consA))
theorem g_dat8_sem (o : Ob) : SC 172 [obA o, .fptr [nI 8] 0] (.fsl false (itAs (getK o (.dat 8)))) := by
 refine fnK_semE (A := aidJ [] [] noSem inlG []) base0 aidJ_ok (fnLs_of (LsOk.no rfl)) (closed_oc o rfl) ?_
 have h := g_dat8 o (matA o) (namA o) (lnkA o) (cusA o) (endV (.fsl false (itAs (getK o (.dat 8)))))
 simp only [obA, obC]
 rw [show (nI 8 : AV) = I 8 from rfl, h]
 refine mtB_of (fun e => ?_) (fun e => ?_)
 all_goals
  refine ⟨by simp [closedAll, closedA], ?_⟩
  first | rw [Bool.not_eq_true'] at e | rw [Bool.not_eq_false'] at e
  simp only [getK, oneL, dateAt, numI, vlV, itAs, itA, toBytes, e]
  (repeat (first | exact Wk.refl _ | exact WkL.refl _ | exact Wk.nil | exact Wk.row | exact WkE.refl _ | exact WkL.nil | exact WkE.nil | apply Wk.agg | apply Wk.tuple | apply WkL.cons | apply Wk.rows | apply WkE.consA))
theorem g_dat9_sem (o : Ob) : SC 172 [obA o, .fptr [nI 9] 0] (.fsl false (itAs (getK o (.dat 9)))) := by
 refine fnK_semE (A := aidJ [] [] noSem inlG []) base0 aidJ_ok (fnLs_of (LsOk.no rfl)) (closed_oc o rfl) ?_
 have h := g_dat9 o (matA o) (namA o) (lnkA o) (cusA o) (endV (.fsl false (itAs (getK o (.dat 9)))))
 simp only [obA, obC]
 rw [show (nI 9 : AV) = I 9 from rfl, h]
 refine mtB_of (fun e => ?_) (fun e => ?_)
 all_goals
  refine ⟨by simp [closedAll, closedA], ?_⟩
  first | rw [Bool.not_eq_true'] at e | rw [Bool.not_eq_false'] at e
  simp only [getK, oneL, dateAt, numI, vlV, itAs, itA, toBytes, e]
  (repeat (first | exact Wk.refl _ | exact WkL.refl _ | exact Wk.nil | exact Wk.row | exact WkE.refl _ | exact WkL.nil | exact WkE.nil | apply Wk.agg | apply Wk.tuple | apply WkL.cons | apply Wk.rows | apply WkE.consA))
theorem g_lim_sem (o : Ob) : SC 184 [obA o] (.fsl false (itAs (getK o .lim))) := by
 refine fnK_semE (A := aidJ [] [] noSem inlG []) base0 aidJ_ok (fnLs_of (LsOk.no rfl)) (closed_o o) ?_
 simp only [obA, obC]
 rw [g_lim]
 refine mtB_of (fun e => ?_) (fun e => ?_)
 all_goals
  refine ⟨by simp [closedAll, closedA], ?_⟩
  first | rw [Bool.not_eq_true'] at e | rw [Bool.not_eq_false'] at e
  simp only [getK, oneL, limI, whl, prt, vlV, itAs, itA, toBytes, e]
  (repeat (first | exact Wk.refl _ | exact WkL.refl _ | exact Wk.nil | exact Wk.row | exact WkE.refl _ | exact WkL.nil | exact WkE.nil | apply Wk.agg | apply Wk.tuple | apply WkL.cons | apply Wk.rows | apply WkE.consA))
theorem g_why_sem (o : Ob) : SC 138 [obA o] (.fsl false (itAs (getK o .why))) := by
 refine fnK_semX (A := aidJ [] [] noSem inlG []) base0 aidJ_ok (fnLs_of (LsOk.no rfl)) (closed_o o) ?_
 simp only [obA, obC]
 rw [g_why]
 refine mtB_of (fun e => mtB_of (fun e2 => ?_) (fun e2 => ?_)) (fun e => mtB_of (fun e2 => ?_) (fun e2 => ?_))
 ·refine ⟨.nilsl, ⟨1, rfl⟩, rfl, ?_⟩
  rw [Bool.not_eq_true'] at e2
  simp only [getK, oneL, e2, itAs]
  exact .nil
 ·rw [Bool.not_eq_false'] at e2
  have hm : msgI o.msg = [.mk 4325504 7 0 o.msg []] := by
   cases hm : o.msg with
   | nil => rw [hm] at e; cases e
   | cons a r => rfl
  refine ⟨.fsl true [.agg [I 4325387, I 1, I 0, .nilsl, .fsl false [.agg [I 4325506, I 5, I o.why, .nilsl, .nilsl], .agg [I 4325504, I 7, I 0, .fsl false (toBytes o.msg), .nilsl]]]], Frz.out (Frz.fsl (FrzL.cons (Frz.agg (FrzL.cons (Frz.closed _ rfl) (FrzL.cons (Frz.closed _ rfl) (FrzL.cons (Frz.closed _ rfl) (FrzL.cons (Frz.closed _ rfl) (FrzL.cons (Frz.row (es := [.agg [I 4325506, I 5, I o.why, .nilsl, .nilsl], .agg [I 4325504, I 7, I 0, .fsl false (toBytes o.msg), .nilsl]]) rfl rfl rfl rfl ?_ ?_) FrzL.nil)))))) FrzL.nil)), ?_, ?_⟩
  ·simp only [List.forall_mem_cons]; exact ⟨⟨rfl, rfl⟩, ⟨rfl, rfl⟩, fun _ h => by cases h⟩
  ·simp [closedAll, closedA]
  ·simp [closedAll, closedA]
  ·simp only [getK, oneL, e2, whyI, hm, whl, prt, vlV, itAs, itA, toBytes]
   (repeat (first | exact Wk.refl _ | exact WkL.refl _ | exact Wk.nil | exact Wk.row | exact WkE.refl _ | exact WkL.nil | exact WkE.nil | apply Wk.agg | apply Wk.tuple | apply WkL.cons | apply Wk.rows | apply WkE.consA))
 ·refine ⟨.nilsl, ⟨1, rfl⟩, rfl, ?_⟩
  rw [Bool.not_eq_true'] at e2
  simp only [getK, oneL, e2, itAs]
  exact .nil
 ·rw [Bool.not_eq_false'] at e2
  have hm : msgI o.msg = [] := by
   cases hm : o.msg with
   | nil => rfl
   | cons a r => rw [hm] at e; cases e
  refine ⟨_, Frz.out (Frz.closed _ ?_), ?_, ?_⟩
  ·simp [closedAll, closedA]
  ·simp [closedAll, closedA]
  ·simp only [getK, oneL, e2, whyI, hm, whl, prt, vlV, itAs, itA, toBytes]
   (repeat (first | exact Wk.refl _ | exact WkL.refl _ | exact Wk.nil | exact Wk.row | exact WkE.refl _ | exact WkL.nil | exact WkE.nil | apply Wk.agg | apply Wk.tuple | apply WkL.cons | apply Wk.rows | apply WkE.consA))
theorem get_sem {k : Kd} (hk : kdB k = true) {o : Ob} (ho : FitO o) : SC (gfn k) (obA o :: gcp k) (.fsl false (itAs (getK o k))) := by
 cases k with
 | uid => exact g_uid_sem o
 | nam => exact gN_sem o (closed_mat o) (closed_lnk o) (closed_cusA o) o.names ho.n
 | typ => exact g_typ_sem o
 | alg => exact g_alg_sem o
 | len => exact g_len_sem o
 | mask => exact g_mask_sem o
 | sta => exact g_sta_sem o
 | why => exact g_why_sem o
 | lnk => exact gL_sem o (closed_mat o) (closed_nam o) (closed_cusA o) o.links ho.l
 | lim => exact g_lim_sem o
 | cus s => exact g_cus_sem o s (by have := ho.c; show _ ≤ 1099511627776; omega)
 | dat k =>
  match k, hk with
  | 0, _ => exact g_dat0_sem o
  | 1, _ => exact g_dat1_sem o
  | 2, _ => exact g_dat2_sem o
  | 3, _ => exact g_dat3_sem o
  | 4, _ => exact g_dat4_sem o
  | 5, _ => exact g_dat5_sem o
  | 6, _ => exact g_dat6_sem o
  | 7, _ => exact g_dat7_sem o
  | 8, _ => exact g_dat8_sem o
  | 9, _ => exact g_dat9_sem o
  | k + 10, hk => exact absurd (blt_iff.1 hk) (by omega)
def placeAt (o : Ob) (s : List UInt8) (i : Nat) : Nat := ((placesL s o.cust 0 ++ [o.cust.length])[i]?).getD 0
def kid (v : It) (i : Nat) : It := ((itK v)[i]?).getD v
def putK (o : Ob) (i : Nat) (v : It) : Kd → Ob
 | .nam => { o with names := putL o.names i (itD v) }
 | .alg => { o with alg := itN v }
 | .len => { o with len := itN v }
 | .mask => { o with mask := itN v }
 | .dat k => setDate o ⟨true, itN v⟩ k
 | .lnk => { o with links := putL o.links i ⟨itN (kid v 0), itD (kid v 1)⟩ }
 | .lim => { o with lh := true, lt := itN (kid v 0), lc := itN (kid v 1), lu := itN (kid v 2) }
 | .cus s => { o with cust := putL o.cust (placeAt o s i) ⟨s, itD v⟩ }
 | _ => o
def dropK (o : Ob) (i : Nat) : Kd → Ob
 | .nam => { o with names := dropL o.names i }
 | .dat k => setDate o ⟨false, 0⟩ k
 | .lnk => { o with links := dropL o.links i }
 | .lim => { o with lh := false, lt := 0, lc := 0, lu := 0 }
 | .cus s => { o with cust := dropL o.cust (((placesL s o.cust 0)[i]?).getD 0) }
 | _ => o
def idxOk (o : Ob) (j : Nat) : Kd → Prop
 | .nam => j ≤ o.names.length ∧ j < 6
 | .lnk => j ≤ o.links.length ∧ j < 8
 | .cus s => j < (placesL s o.cust 0).length ∨ j = (placesL s o.cust 0).length ∧ o.cust.length < 6
 | _ => True
def pfn : Kd → Nat
 | .nam => 168
 | .dat _ => 174
 | .lnk => 180
 | .lim => 187
 | .cus _ => 154
 | _ => 164
def pcp : Kd → List AV
 | .dat k => [.fptr [nI k] 0]
 | .cus s => [.fptr [.str s] 0]
 | .alg => [.fptr [atF .alg] 0]
 | .len => [.fptr [atF .len] 0]
 | .mask => [.fptr [atF .mask] 0]
 | _ => []
theorem putF_eq {k : Kd} (h : putB k = true) : putF k = fnC (pfn k) (pcp k) := by cases k <;> first | rfl | cases h
def dfn : Kd → Nat
 | .nam => 170
 | .dat _ => 175
 | .lnk => 182
 | .lim => 188
 | _ => 156
def dcp : Kd → List AV
 | .dat k => [.fptr [nI k] 0]
 | .cus s => [.fptr [.str s] 0]
 | _ => []
def dropB : Kd → Bool
 | .nam | .lnk | .lim | .cus _ => true
 | .dat k => Nat.beq k 2 || Nat.beq k 3
 | _ => false
theorem dropF_eq {k : Kd} (h : dropB k = true) : dropF k = fnC (dfn k) (dcp k) := by cases k <;> first | rfl | cases h
theorem end_obj {k b nx2 m : Nat} {h : Heap} {O O' : List AV} (hb : Nat.blt b k = true) (hm : Nat.ble m nx2 = true) (hg : hget h b = some (.cells O)) (e : O = O') (hc : closedAll O' = true) : EndB k (.tuple []) [(b, some (.cells O'))] nx2 (.tuple []) h m := by
 subst e
 exact ⟨hm, ⟨.tuple [], Frz.closed _ rfl, .refl _⟩, ⟨hb, .cells O, .cells O, hg, FrzL.closed _ hc, .refl _⟩, trivial⟩
abbrev PutSem (f : Nat) (c : List AV) (o : Ob) (j : Nat) (v : It) (o' : Ob) : Prop := BodySem Tryz.prog opts0.glob f (.ptr 1 0 :: nI j :: itA v :: c) [(1, some (.cells (obC o)))] 15 (.tuple []) [(1, some (.cells (obC o')))] 115
abbrev DropSem (f : Nat) (c : List AV) (o : Ob) (j : Nat) (o' : Ob) : Prop := BodySem Tryz.prog opts0.glob f (.ptr 0 0 :: nI j :: c) [(0, some (.cells (obC o)))] 86 (.tuple []) [(0, some (.cells (obC o')))] 186
theorem p_nam_sem {o : Ob} (ho : FitO o) {j : Nat} (h1 : j ≤ o.names.length) (h2 : j < 6) (v : It) : PutSem 168 [] o j v (putK o j v .nam) := by
 have hp := putS_sem o.names j (itD v) h1 ho.n h2
 obtain ⟨t, y, n, d, ks⟩ := v
 refine fnK_bodyX (k := 2) (A := aidJ [] [] (manyS [(169, .fsl false ((putL o.names j d).map .str))]) [] []) base0 aidJ_ok (fnLs_of (LsOk.no rfl)) ?_
 rw [itA_F]
 simp only [obC, nI]
 rw [p_nam]
 refine oblB_of (by simp) ⟨by rw [strOf_toBytes]; exact hp, ?_⟩
 exact end_obj rfl rfl rfl rfl (closed_obC _)
theorem p_dat1_sem (o : Ob) (j : Nat) (v : It) : PutSem 174 [.fptr [nI 1] 0] o j v (putK o j v (.dat 1)) := by
 obtain ⟨t, y, n, d, ks⟩ := v
 refine fnK_bodyX (k := 2) (A := aid0) base0 aidOk0 (fnLs_of (LsOk.no rfl)) ?_
 rw [itA_F, show (nI 1 : AV) = I 1 from rfl]
 simp only [obC, nI]
 rw [p_dat1]
 exact end_obj rfl rfl rfl rfl (closed_obC _)
theorem p_dat2_sem (o : Ob) (j : Nat) (v : It) : PutSem 174 [.fptr [nI 2] 0] o j v (putK o j v (.dat 2)) := by
 obtain ⟨t, y, n, d, ks⟩ := v
 refine fnK_bodyX (k := 2) (A := aid0) base0 aidOk0 (fnLs_of (LsOk.no rfl)) ?_
 rw [itA_F, show (nI 2 : AV) = I 2 from rfl]
 simp only [obC, nI]
 rw [p_dat2]
 exact end_obj rfl rfl rfl rfl (closed_obC _)
theorem p_dat3_sem (o : Ob) (j : Nat) (v : It) : PutSem 174 [.fptr [nI 3] 0] o j v (putK o j v (.dat 3)) := by
 obtain ⟨t, y, n, d, ks⟩ := v
 refine fnK_bodyX (k := 2) (A := aid0) base0 aidOk0 (fnLs_of (LsOk.no rfl)) ?_
 rw [itA_F, show (nI 3 : AV) = I 3 from rfl]
 simp only [obC, nI]
 rw [p_dat3]
 exact end_obj rfl rfl rfl rfl (closed_obC _)
theorem p_dat4_sem (o : Ob) (j : Nat) (v : It) : PutSem 174 [.fptr [nI 4] 0] o j v (putK o j v (.dat 4)) := by
 obtain ⟨t, y, n, d, ks⟩ := v
 refine fnK_bodyX (k := 2) (A := aid0) base0 aidOk0 (fnLs_of (LsOk.no rfl)) ?_
 rw [itA_F, show (nI 4 : AV) = I 4 from rfl]
 simp only [obC, nI]
 rw [p_dat4]
 exact end_obj rfl rfl rfl rfl (closed_obC _)
theorem p_alg_sem (o : Ob) (j : Nat) (v : It) : PutSem 164 [.fptr [atF .alg] 0] o j v (putK o j v .alg) := by
 obtain ⟨t, y, n, d, ks⟩ := v
 refine fnK_bodyX (k := 2) (A := aidJ [] [] noSem [132] []) base0 aidJ_ok (fnLs_of (LsOk.no rfl)) ?_
 rw [itA_F]
 simp only [obC, nI, atF]
 rw [p_alg]
 exact end_obj rfl rfl rfl rfl (closed_obC _)
theorem p_len_sem (o : Ob) (j : Nat) (v : It) : PutSem 164 [.fptr [atF .len] 0] o j v (putK o j v .len) := by
 obtain ⟨t, y, n, d, ks⟩ := v
 refine fnK_bodyX (k := 2) (A := aidJ [] [] noSem [133] []) base0 aidJ_ok (fnLs_of (LsOk.no rfl)) ?_
 rw [itA_F]
 simp only [obC, nI, atF]
 rw [p_len]
 exact end_obj rfl rfl rfl rfl (closed_obC _)
theorem p_mask_sem (o : Ob) (j : Nat) (v : It) : PutSem 164 [.fptr [atF .mask] 0] o j v (putK o j v .mask) := by
 obtain ⟨t, y, n, d, ks⟩ := v
 refine fnK_bodyX (k := 2) (A := aidJ [] [] noSem [124] []) base0 aidJ_ok (fnLs_of (LsOk.no rfl)) ?_
 rw [itA_F]
 simp only [obC, nI, atF]
 rw [p_mask]
 exact end_obj rfl rfl rfl rfl (closed_obC _)
theorem p_lnk_sem {o : Ob} (ho : FitO o) {j : Nat} (h1 : j ≤ o.links.length) (h2 : j < 8) {v : It} (hv : lkB (itK v) = true) : PutSem 180 [] o j v (putK o j v .lnk) := by
 obtain ⟨t, y, n, d, ks⟩ := v
 match ks, hv with
 | [⟨t0, y0, n0, d0, k0⟩, ⟨t1, y1, n1, d1, k1⟩], _ =>
  have hp := putL_sem o.links j ⟨n0, d1⟩ h1 ho.l h2
  refine fnK_bodyX (k := 2) (A := plkA (itF t0 y0 n0 (toBytes d0) (itAs k0)) (itF t1 y1 n1 (toBytes d1) (itAs k1)) ((putL o.links j ⟨n0, d1⟩).map lkA)) base0 aidJ_ok (fnLs_of (LsOk.no rfl)) ?_
  rw [itA_F]
  simp only [obC, nI]
  rw [p_lnk]
  refine ⟨idxI (i := 0) rfl, idxI (i := 1) rfl, oblB_of (by simp) ⟨by rw [strOf_toBytes]; exact hp, ?_⟩⟩
  exact end_obj rfl rfl rfl rfl (closed_obC _)
theorem p_lim_sem (o : Ob) (j : Nat) {v : It} (hv : liB (itK v) = true) : PutSem 187 [] o j v (putK o j v .lim) := by
 obtain ⟨t, y, n, d, ks⟩ := v
 match ks, hv with
 | [⟨t0, y0, n0, d0, k0⟩, ⟨t1, y1, n1, d1, k1⟩, ⟨t2, y2, n2, d2, k2⟩], _ =>
  refine fnK_bodyX (k := 2) (A := pliA (itF t0 y0 n0 (toBytes d0) (itAs k0)) (itF t1 y1 n1 (toBytes d1) (itAs k1)) (itF t2 y2 n2 (toBytes d2) (itAs k2))) base0 aidJ_ok (fnLs_of (LsOk.no rfl)) ?_
  rw [itA_F]
  simp only [obC, nI]
  rw [p_lim]
  refine ⟨idxI (i := 0) rfl, idxI (i := 1) rfl, idxI (i := 2) rfl, ?_⟩
  exact end_obj rfl rfl rfl rfl (closed_obC _)
theorem intT : isAggA Tryz.prog 3 = some false := by kernel_rfl
theorem part_nI {l : List Nat} {j q : Nat} (h : l[j]? = some q) : partA Tryz.prog 3 (l.map nI) j = some (nI q) := by
 simp only [partA, intT, getN_eq, List.getElem?_map, h, Option.map_some]
theorem idxR {own : Bool} {id len j : Nat} (h : j < len) : indexAddrA Tryz.prog 190 (.rsl own id 0 len 1) (.int .i64 (.ofNat j)) = some (.ptr id j) := by
 have h1 : Tryz.prog.underlying 190 = some (.slice 3) := by kernel_rfl
 have h2 : sizeA Tryz.prog 3 = some 1 := by kernel_rfl
 simp only [indexAddrA, natOf, h1, h2, Option.bind_eq_bind, Option.bind_some, blt_iff.2 h, Bool.true_and, Nat.zero_add, Nat.mul_one]
 rfl
theorem place_le {o : Ob} {s : List UInt8} {j : Nat} (h : j ≤ (placesL s o.cust 0).length) : (placesL s o.cust 0 ++ [o.cust.length])[j]? = some (placeAt o s j) ∧ placeAt o s j ≤ o.cust.length ∧ (j < (placesL s o.cust 0).length → placeAt o s j < o.cust.length) := by
 have hj : j < (placesL s o.cust 0 ++ [o.cust.length]).length := by simp; omega
 have e := List.getElem?_eq_getElem hj
 have e2 : (placesL s o.cust 0 ++ [o.cust.length])[j]? = some (placeAt o s j) := by rw [e, placeAt, e]; rfl
 refine ⟨e2, ?_, fun hlt => ?_⟩
 ·have hm := List.mem_of_getElem? e2
  rcases List.mem_append.1 hm with hm | hm
  ·have := placesL_lt s o.cust 0 _ hm; omega
  ·simp at hm; omega
 ·rw [List.getElem?_append_left hlt] at e2
  have := placesL_lt s o.cust 0 _ (List.mem_of_getElem? e2)
  omega
set_option maxRecDepth 20000 in
theorem p_cus_sem {o : Ob} (ho : FitO o) {j : Nat} {s : List UInt8} (hj : idxOk o j (.cus s)) (v : It) : PutSem 154 [.fptr [.str s] 0] o j v (putK o j v (.cus s)) := by
 have hb : o.cust.length ≤ big := by have := ho.c; show _ ≤ 1099511627776; omega
 have hpl := places_body o (M := matA o) (N := namA o) (L := lnkA o) s 29 (closed_mat o) (closed_nam o) (closed_lnk o) hb
 have hln := placesL_len s o.cust 0
 have hj' : j ≤ (placesL s o.cust 0).length := by rcases hj with h | h <;> omega
 obtain ⟨e1, e2, e3⟩ := place_le hj'
 have hq : placeAt o s j < 6 := by
  have := ho.c
  rcases hj with h | h
  ·have := e3 h; omega
  ·omega
 have hput := putC_sem o.cust (placeAt o s j) ⟨s, itD v⟩ e2 ho.c hq
 obtain ⟨t, y, n, d, ks⟩ := v
 have hlen : lenN (o.cust.map cuA) = o.cust.length := by rw [lenN_eq, List.length_map]
 simp only [putK]
 revert hpl e1 hln hput hj'
 generalize placeAt o s j = q
 cases placesL s o.cust 0 with
 | nil =>
  intro hpl hln hj' e1 hput
  obtain rfl : j = 0 := by simpa using hj'
  refine fnK_bodyX (k := 2) (A := aidJ [(2, 7, .res (.ptr 27 0)), (2, 8, .ld (nI q))] [] (pcS [] ((putL o.cust q ⟨s, d⟩).map cuA)) [] []) base0 aidJ_ok (fnLs_of (LsOk.no rfl)) ?_
  rw [itA_F, show (nI 0 : AV) = I (.ofNat 0) from rfl]
  simp only [obC, cusA]
  rw [p_cus0 (_b := 0)]
  rw [hlen]
  refine ⟨hpl, idxR (by simp [lenN]), part_nI (l := [o.cust.length]) e1, oblB_of (by simp) ⟨by rw [strOf_toBytes]; exact hput, ?_⟩⟩
  exact end_obj rfl rfl rfl rfl (closed_obC _)
 | cons p r =>
  intro hpl hln hj' e1 hput
  refine fnK_bodyX (k := 2) (A := aidJ [(2, 7, .res (.ptr 27 j)), (2, 8, .ld (nI q))] [] (pcS ((p :: r).map nI) ((putL o.cust q ⟨s, d⟩).map cuA)) [] []) base0 aidJ_ok (fnLs_of (LsOk.no rfl)) ?_
  rw [itA_F, show (nI j : AV) = I (.ofNat j) from rfl, List.map_cons]
  simp only [obC, cusA]
  rw [p_cus1 (_b := 0), hlen]
  have hl2 : lenN (nI p :: r.map nI) = r.length + 1 := by rw [lenN_eq]; simp
  have hc6 := ho.c
  simp only [List.length_cons] at hln hj'
  refine ⟨?_, oblB_of ?_ (oblB_of (by rw [Nat.mul_one]; exact beq_iff.2 rfl) ⟨?_, ?_, oblB_of (by simp) ⟨by rw [strOf_toBytes]; exact hput, ?_⟩⟩)⟩
  ·rw [hl2]; exact hpl
  ·rw [hl2]
   have : (r.length + 1 + 1) * 8 ≤ 140737488355328 := by omega
   simp only [Bool.and_eq_true, Nat.ble_eq]
   exact ⟨rfl, this, rfl, trivial⟩
  ·refine idxR ?_
   rw [hl2]
   show j < r.length + 1 + 1
   omega
  ·have := part_nI (l := p :: r ++ [o.cust.length]) e1
   simpa [nI, flat, AV.cells] using this
  ·exact end_obj rfl rfl rfl rfl (closed_obC _)
theorem put_sem {k : Kd} (hk : setK k = true) {o : Ob} (ho : FitO o) {j : Nat} (hj : idxOk o j k) {v : It} (hv : rightK o v k = true) : PutSem (pfn k) (pcp k) o j v (putK o j v k) := by
 cases k with
 | nam => exact p_nam_sem ho hj.1 hj.2 v
 | alg => exact p_alg_sem o j v
 | len => exact p_len_sem o j v
 | mask => exact p_mask_sem o j v
 | lnk =>
  simp only [rightK, Bool.and_eq_true] at hv
  exact p_lnk_sem ho hj.1 hj.2 hv.2
 | lim =>
  simp only [rightK, Bool.and_eq_true] at hv
  exact p_lim_sem o j hv.2.1
 | cus s => exact p_cus_sem ho hj v
 | dat k =>
  match k, hk with
  | 1, _ => exact p_dat1_sem o j v
  | 2, _ => exact p_dat2_sem o j v
  | 3, _ => exact p_dat3_sem o j v
  | 4, _ => exact p_dat4_sem o j v
  | k + 5, hk =>
   simp only [setK, setD, Bool.and_eq_true, Nat.ble_eq] at hk
   omega
 | _ => cases hk
theorem d_dat2_sem (o : Ob) (j : Nat) : DropSem 175 [.fptr [nI 2] 0] o j (dropK o j (.dat 2)) := by
 refine fnK_bodyX (k := 1) (A := aid0) base0 aidOk0 (fnLs_of (LsOk.no rfl)) ?_
 rw [show (nI 2 : AV) = I 2 from rfl]
 simp only [obC, nI]
 rw [d_dat2]
 exact end_obj rfl rfl rfl rfl (closed_obC _)
theorem d_dat3_sem (o : Ob) (j : Nat) : DropSem 175 [.fptr [nI 3] 0] o j (dropK o j (.dat 3)) := by
 refine fnK_bodyX (k := 1) (A := aid0) base0 aidOk0 (fnLs_of (LsOk.no rfl)) ?_
 rw [show (nI 3 : AV) = I 3 from rfl]
 simp only [obC, nI]
 rw [d_dat3]
 exact end_obj rfl rfl rfl rfl (closed_obC _)
theorem d_lim_sem (o : Ob) (j : Nat) : DropSem 188 [] o j (dropK o j .lim) := by
 refine fnK_bodyX (k := 1) (A := aid0) base0 aidOk0 (fnLs_of (LsOk.no rfl)) ?_
 simp only [obC, nI]
 rw [d_lim]
 exact end_obj rfl rfl rfl rfl (closed_obC _)
theorem d_nam_sem {o : Ob} (ho : FitO o) {j : Nat} (h : j < o.names.length) : DropSem 170 [] o j (dropK o j .nam) := by
 refine fnK_bodyX (k := 1) (A := aidJ [] [] (manyS [(171, .fsl false ((dropL o.names j).map .str))]) [] []) base0 aidJ_ok (fnLs_of (LsOk.no rfl)) ?_
 simp only [obC, nI]
 rw [d_nam]
 exact ⟨dropS_sem o.names j h ho.n, end_obj rfl rfl rfl rfl (closed_obC _)⟩
theorem d_lnk_sem {o : Ob} (ho : FitO o) {j : Nat} (h : j < o.links.length) : DropSem 182 [] o j (dropK o j .lnk) := by
 refine fnK_bodyX (k := 1) (A := aidJ [] [] (manyS [(183, .fsl false ((dropL o.links j).map lkA))]) [] []) base0 aidJ_ok (fnLs_of (LsOk.no rfl)) ?_
 simp only [obC, nI]
 rw [d_lnk]
 exact ⟨dropL_sem o.links j h ho.l, end_obj rfl rfl rfl rfl (closed_obC _)⟩
theorem d_cus_sem {o : Ob} (ho : FitO o) {j : Nat} {s : List UInt8} (h : j < (placesL s o.cust 0).length) : DropSem 156 [.fptr [.str s] 0] o j (dropK o j (.cus s)) := by
 have hb : o.cust.length ≤ big := by have := ho.c; show _ ≤ 1099511627776; omega
 have e := List.getElem?_eq_getElem h
 have hq := placesL_lt s o.cust 0 _ (List.getElem_mem h)
 have hd : dropK o j (.cus s) = { o with cust := dropL o.cust (placesL s o.cust 0)[j] } := by simp only [dropK, e]; rfl
 rw [hd]
 revert e hq
 generalize (placesL s o.cust 0)[j] = q
 intro e hq
 refine fnK_bodyX (k := 1) (A := dcA ((placesL s o.cust 0).map nI) ((dropL o.cust q).map cuA) q) base0 aidJ_ok (fnLs_of (LsOk.no rfl)) ?_
 simp only [obC, nI]
 rw [d_cus]
 exact ⟨places_sem o s (closed_mat o) (closed_nam o) (closed_lnk o) hb, idxP e, dropC_sem o.cust q (by omega) ho.c, end_obj rfl rfl rfl rfl (closed_obC _)⟩
theorem cus_len (o : Ob) (s : List UInt8) : (getK o (.cus s)).length = (placesL s o.cust 0).length := by
 have h := texts_at s o.cust []
 simp only [List.length_nil, List.nil_append] at h
 have h := congrArg List.length h
 simp only [List.length_map] at h
 simp only [getK, List.length_map, h]
theorem drop_sem {k : Kd} (hk : dropB k = true) {o : Ob} (ho : FitO o) {j : Nat} (hj : j < (getK o k).length) : DropSem (dfn k) (dcp k) o j (dropK o j k) := by
 cases k with
 | nam => exact d_nam_sem ho (by simpa [getK] using hj)
 | lnk => exact d_lnk_sem ho (by simpa [getK] using hj)
 | lim => exact d_lim_sem o j
 | cus s => exact d_cus_sem ho (by rw [cus_len] at hj; exact hj)
 | dat k =>
  simp only [dropB, Bool.or_eq_true] at hk
  rcases hk with h | h
  ·obtain rfl := beq_iff.1 h; exact d_dat2_sem o j
  ·obtain rfl := beq_iff.1 h; exact d_dat3_sem o j
 | _ => cases hk
theorem w_always_sem (o : Ob) : SC 158 [obA o] (.bool true) := by
 refine fnK_semV (A := aid0) base0 aidOk0 (fnLs_of (LsOk.no rfl)) (closed_o o) rfl ?_
 simp only [obA, obC]
 rw [w_always]
 skip
 all_goals first | rfl | simp_all
theorem w_young_sem (o : Ob) : SC 125 [obA o] (.bool (beqInt o.st 1)) := by
 refine fnK_semV (A := aid0) base0 aidOk0 (fnLs_of (LsOk.no rfl)) (closed_o o) rfl ?_
 simp only [obA, obC]
 rw [w_young]
 skip
 all_goals first | rfl | simp_all
theorem w_used_sem (o : Ob) : SC 137 [obA o] (.bool (beqInt o.st 1 || beqInt o.st 2)) := by
 refine fnK_semV (A := aid0) base0 aidOk0 (fnLs_of (LsOk.no rfl)) (closed_o o) rfl ?_
 simp only [obA, obC]
 rw [w_used]
 repeat' refine mtB_of (fun _ => ?_) (fun _ => ?_)
 all_goals first | rfl | simp_all
theorem w_full_sem (o : Ob) : SC 189 [obA o] (.bool (beqInt o.lc o.lt)) := by
 refine fnK_semV (A := aid0) base0 aidOk0 (fnLs_of (LsOk.no rfl)) (closed_o o) rfl ?_
 simp only [obA, obC]
 rw [w_full]
 skip
 all_goals first | rfl | simp_all
theorem w_roomN_sem (o : Ob) : SC 165 [obA o] (.bool (Nat.blt o.names.length 6)) := by
 refine fnK_semV (A := aid0) base0 aidOk0 (fnLs_of (LsOk.no rfl)) (closed_o o) rfl ?_
 simp only [obA, obC, namA, lnkA, cusA]
 rw [w_roomN]
 rw [lenN_eq, List.length_map]
 refine congrArg AV.bool ?_
 rw [Bool.eq_iff_iff, ltInt_iff, blt_iff]
 simp only [Int.ofNat_eq_natCast]
 omega
theorem w_roomL_sem (o : Ob) : SC 177 [obA o] (.bool (Nat.blt o.links.length 8)) := by
 refine fnK_semV (A := aid0) base0 aidOk0 (fnLs_of (LsOk.no rfl)) (closed_o o) rfl ?_
 simp only [obA, obC, namA, lnkA, cusA]
 rw [w_roomL]
 rw [lenN_eq, List.length_map]
 refine congrArg AV.bool ?_
 rw [Bool.eq_iff_iff, ltInt_iff, blt_iff]
 simp only [Int.ofNat_eq_natCast]
 omega
theorem w_roomC_sem (o : Ob) : SC 149 [obA o] (.bool (Nat.blt o.cust.length 6)) := by
 refine fnK_semV (A := aid0) base0 aidOk0 (fnLs_of (LsOk.no rfl)) (closed_o o) rfl ?_
 simp only [obA, obC, namA, lnkA, cusA]
 rw [w_roomC]
 rw [lenN_eq, List.length_map]
 refine congrArg AV.bool ?_
 rw [Bool.eq_iff_iff, ltInt_iff, blt_iff]
 simp only [Int.ofNat_eq_natCast]
 omega
end Go.Proofs.YtjhggnebkfpgcaaGreatDoor
