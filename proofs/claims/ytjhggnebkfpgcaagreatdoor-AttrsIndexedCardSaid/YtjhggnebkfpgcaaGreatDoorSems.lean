/- What the closures answer and do, all kinds. -/
import Derived.Test.YtjhggnebkfpgcaaGreatDoorPuts
import Derived.KernelRfl
namespace Go.Proofs.YtjhggnebkfpgcaaGreatDoor
open Go Go.RowKit
open Go.Proofs.Abs
structure FitO (o : Ob) : Prop where
 n : o.names.length ≤ 6
 l : o.links.length ≤ 8
 c : o.cust.length ≤ 6
 m : o.mat.length ≤ big
def kdB : Kd → Bool
 | .dat k => Nat.blt k 10
 | _ => true
theorem closed_o (o : Ob) : closedAll [obA o] = true := closed_one (closed_obC o)
theorem closed_oc (o : Ob) {c : List AV} (h : closedAll c = true) : closedAll (obA o :: c) = true := by
 have := closed_obC o
 simp only [closedAll, obA, closedA, this, h, Bool.and_self]
theorem g_uid_sem (o : Ob) : SC 127 [obA o] (.fsl false (itAs (getK o .uid))) := by
 refine fnK_semE (A := aidJ [] [] noSem inlG []) base0 aidJ_ok (fnLs_of (LsOk.no rfl)) (closed_o o) ?_
 simp only [obA, obC]
 rw [g_uid]
 refine ⟨by simp [closedAll, closedA], ?_⟩
 simp only [getK, txt, vlV, itAs, itA]
 (repeat (first | exact Wk.refl _ | exact WkL.refl _ | exact Wk.nil | exact Wk.row | exact WkE.refl _ | exact WkL.nil | exact WkE.nil | apply Wk.agg | apply Wk.tuple | apply WkL.cons | apply Wk.rows | apply WkE.consA))
theorem g_typ_sem (o : Ob) : SC 130 [obA o] (.fsl false (itAs (getK o .typ))) := by
 refine fnK_semE (A := aidJ [] [] noSem inlG []) base0 aidJ_ok (fnLs_of (LsOk.no rfl)) (closed_o o) ?_
 simp only [obA, obC]
 rw [g_typ]
 refine ⟨by simp [closedAll, closedA], ?_⟩
 simp only [getK, numI, vlV, itAs, itA, toBytes]
 (repeat (first | exact Wk.refl _ | exact WkL.refl _ | exact Wk.nil | exact Wk.row | exact WkE.refl _ | exact WkL.nil | exact WkE.nil | apply Wk.agg | apply Wk.tuple | apply WkL.cons | apply Wk.rows | apply WkE.consA))
theorem g_sta_sem (o : Ob) : SC 134 [obA o] (.fsl false (itAs (getK o .sta))) := by
 refine fnK_semE (A := aidJ [] [] noSem inlG []) base0 aidJ_ok (fnLs_of (LsOk.no rfl)) (closed_o o) ?_
 simp only [obA, obC]
 rw [g_sta]
 refine ⟨by simp [closedAll, closedA], ?_⟩
 simp only [getK, numI, vlV, itAs, itA, toBytes]
 (repeat (first | exact Wk.refl _ | exact WkL.refl _ | exact Wk.nil | exact Wk.row | exact WkE.refl _ | exact WkL.nil | exact WkE.nil | apply Wk.agg | apply Wk.tuple | apply WkL.cons | apply Wk.rows | apply WkE.consA))
theorem g_alg_sem (o : Ob) : SC 161 [obA o, .fptr [atF .alg] 0, .fptr [I 1] 0, .fptr [I 5] 0] (.fsl false (itAs (getK o .alg))) := by
 refine fnK_semE (A := aidJ [] [] noSem inlG inlA) base0 aidJ_ok (fnLs_of (LsOk.no rfl)) (closed_oc o rfl) ?_
 simp only [obA, obC, atF]
 rw [g_alg]
 refine mtB_of (fun e => ?_) (fun e => ?_)
 all_goals
  refine ⟨by simp [closedAll, closedA], ?_⟩
  simp only [getK, oneL, numI, vlV, itAs, itA, toBytes, e]
  (repeat (first | exact Wk.refl _ | exact WkL.refl _ | exact Wk.nil | exact Wk.row | exact WkE.refl _ | exact WkL.nil | exact WkE.nil | apply Wk.agg | apply Wk.tuple | apply WkL.cons | apply Wk.rows | apply WkE.consA))
theorem g_len_sem (o : Ob) : SC 161 [obA o, .fptr [atF .len] 0, .fptr [I 1] 0, .fptr [I 2] 0] (.fsl false (itAs (getK o .len))) := by
 refine fnK_semE (A := aidJ [] [] noSem inlG inlA) base0 aidJ_ok (fnLs_of (LsOk.no rfl)) (closed_oc o rfl) ?_
 simp only [obA, obC, atF]
 rw [g_len]
 refine mtB_of (fun e => ?_) (fun e => ?_)
 all_goals
  refine ⟨by simp [closedAll, closedA], ?_⟩
  simp only [getK, oneL, numI, vlV, itAs, itA, toBytes, e]
  (repeat (first | exact Wk.refl _ | exact WkL.refl _ | exact Wk.nil | exact Wk.row | exact WkE.refl _ | exact WkL.nil | exact WkE.nil | apply Wk.agg | apply Wk.tuple | apply WkL.cons | apply Wk.rows | apply WkE.consA))
theorem g_mask_sem (o : Ob) : SC 161 [obA o, .fptr [atF .mask] 0, .fptr [I 0] 0, .fptr [I 2] 0] (.fsl false (itAs (getK o .mask))) := by
 refine fnK_semE (A := aidJ [] [] noSem inlG inlA) base0 aidJ_ok (fnLs_of (LsOk.no rfl)) (closed_oc o rfl) ?_
 simp only [obA, obC, atF]
 rw [g_mask]
 refine mtB_of (fun e => ?_) (fun e => ?_)
 all_goals
  refine ⟨by simp [closedAll, closedA], ?_⟩
  simp only [getK, numI, vlV, itAs, itA, toBytes]
  (repeat (first | exact Wk.refl _ | exact WkL.refl _ | exact Wk.nil | exact Wk.row | exact WkE.refl _ | exact WkL.nil | exact WkE.nil | apply Wk.agg | apply Wk.tuple | apply WkL.cons | apply Wk.rows | apply WkE.consA))
theorem g_dat0_sem (o : Ob) : SC 172 [obA o, .fptr [nI 0] 0] (.fsl false (itAs (getK o (.dat 0)))) := by
 refine fnK_semE (A := aidJ [] [] noSem inlG []) base0 aidJ_ok (fnLs_of (LsOk.no rfl)) (closed_oc o rfl) ?_
 have h := g_dat0 o (matA o) (namA o) (lnkA o) (cusA o) (endV (.fsl false (itAs (getK o (.dat 0)))))
 simp only [obA, obC]
 rw [show (nI 0 : AV) = I 0 from rfl, h]
 refine mtB_of (fun e => ?_) (fun e => ?_)
 all_goals
  refine ⟨by simp [closedAll, closedA], ?_⟩
  first | rw [Bool.not_eq_true'] at e | rw [Bool.not_eq_false'] at e
  simp only [getK, oneL, dateAt, numI, vlV, itAs, itA, toBytes, e]
  (repeat (first | exact Wk.refl _ | exact WkL.refl _ | exact Wk.nil | exact Wk.row | exact WkE.refl _ | exact WkL.nil | exact WkE.nil | apply Wk.agg | apply Wk.tuple | apply WkL.cons | apply Wk.rows | apply WkE.consA))
theorem g_dat1_sem (o : Ob) : SC 172 [obA o, .fptr [nI 1] 0] (.fsl false (itAs (getK o (.dat 1)))) := by
 refine fnK_semE (A := aidJ [] [] noSem inlG []) base0 aidJ_ok (fnLs_of (LsOk.no rfl)) (closed_oc o rfl) ?_
 have h := g_dat1 o (matA o) (namA o) (lnkA o) (cusA o) (endV (.fsl false (itAs (getK o (.dat 1)))))
 simp only [obA, obC]
 rw [show (nI 1 : AV) = I 1 from rfl, h]
 refine mtB_of (fun e => ?_) (fun e => ?_)
 all_goals
  refine ⟨by simp [closedAll, closedA], ?_⟩
  first | rw [Bool.not_eq_true'] at e | rw [Bool.not_eq_false'] at e
  simp only [getK, oneL, dateAt, numI, vlV, itAs, itA, toBytes, e]
  (repeat (first | exact Wk.refl _ | exact WkL.refl _ | exact Wk.nil | exact Wk.row | exact WkE.refl _ | exact WkL.nil | exact WkE.nil | apply Wk.agg | apply Wk.tuple | apply WkL.cons | apply Wk.rows | apply WkE.consA))
theorem g_dat2_sem (o : Ob) : SC 172 [obA o, .fptr [nI 2] 0] (.fsl false (itAs (getK o (.dat 2)))) := by
 refine fnK_semE (A := aidJ [] [] noSem inlG []) base0 aidJ_ok (fnLs_of (LsOk.no rfl)) (closed_oc o rfl) ?_
 have h := g_dat2 o (matA o) (namA o) (lnkA o) (cusA o) (endV (.fsl false (itAs (getK o (.dat 2)))))
 simp only [obA, obC]
 rw [show (nI 2 : AV) = I 2 from rfl, h]
 refine mtB_of (fun e => ?_) (fun e => ?_)
 all_goals
  refine ⟨by simp [closedAll, closedA], ?_⟩
  first | rw [Bool.not_eq_true'] at e | rw [Bool.not_eq_false'] at e
  simp only [getK, oneL, dateAt, numI, vlV, itAs, itA, toBytes, e]
  (repeat (first | exact Wk.refl _ | exact WkL.refl _ | exact Wk.nil | exact Wk.row | exact WkE.refl _ | exact WkL.nil | exact WkE.nil | apply Wk.agg | apply Wk.tuple | apply WkL.cons | apply Wk.rows | apply WkE.consA))
theorem g_dat3_sem (o : Ob) : SC 172 [obA o, .fptr [nI 3] 0] (.fsl false (itAs (getK o (.dat 3)))) := by
 refine fnK_semE (A := aidJ [] [] noSem inlG []) base0 aidJ_ok (fnLs_of (LsOk.no rfl)) (closed_oc o rfl) ?_
 have h := g_dat3 o (matA o) (namA o) (lnkA o) (cusA o) (endV (.fsl false (itAs (getK o (.dat 3)))))
 simp only [obA, obC]
 rw [show (nI 3 : AV) = I 3 from rfl, h]
 refine mtB_of (fun e => ?_) (fun e => ?_)
 all_goals
  refine ⟨by simp [closedAll, closedA], ?_⟩
  first | rw [Bool.not_eq_true'] at e | rw [Bool.not_eq_false'] at e
  simp only [getK, oneL, dateAt, numI, vlV, itAs, itA, toBytes, e]
  (repeat (first | exact Wk.refl _ | exact WkL.refl _ | exact Wk.nil | exact Wk.row | exact WkE.refl _ | exact WkL.nil | exact WkE.nil | apply Wk.agg | apply Wk.tuple | apply WkL.cons | apply Wk.rows | apply WkE.consA))
theorem g_dat4_sem (o : Ob) : SC 172 [obA o, .fptr [nI 4] 0] (.fsl false (itAs (getK o (.dat 4)))) := by
 refine fnK_semE (A := aidJ [] [] noSem inlG []) base0 aidJ_ok (fnLs_of (LsOk.no rfl)) (closed_oc o rfl) ?_
 have h := g_dat4 o (matA o) (namA o) (lnkA o) (cusA o) (endV (.fsl false (itAs (getK o (.dat 4)))))
 simp only [obA, obC]
 rw [show (nI 4 : AV) = I 4 from rfl, h]
 refine mtB_of (fun e => ?_) (fun e => ?_)
 all_goals
  refine ⟨by simp [closedAll, closedA], ?_⟩
  first | rw [Bool.not_eq_true'] at e | rw [Bool.not_eq_false'] at e
  simp only [getK, oneL, dateAt, numI, vlV, itAs, itA, toBytes, e]
  (repeat (first | exact Wk.refl _ | exact WkL.refl _ | exact Wk.nil | exact Wk.row | exact WkE.refl _ | exact WkL.nil | exact WkE.nil | apply Wk.agg | apply Wk.tuple | apply WkL.cons | apply Wk.rows | apply WkE.consA))
theorem g_dat5_sem (o : Ob) : SC 172 [obA o, .fptr [nI 5] 0] (.fsl false (itAs (getK o (.dat 5)))) := by
 refine fnK_semE (A := aidJ [] [] noSem inlG []) base0 aidJ_ok (fnLs_of (LsOk.no rfl)) (closed_oc o rfl) ?_
 have h := g_dat5 o (matA o) (namA o) (lnkA o) (cusA o) (endV (.fsl false (itAs (getK o (.dat 5)))))
 simp only [obA, obC]
 rw [show (nI 5 : AV) = I 5 from rfl, h]
 refine mtB_of (fun e => ?_) (fun e => ?_)
 all_goals
  refine ⟨by simp [closedAll, closedA], ?_⟩
  first | rw [Bool.not_eq_true'] at e | rw [Bool.not_eq_false'] at e
  simp only [getK, oneL, dateAt, numI, vlV, itAs, itA, toBytes, e]
  (repeat (first | exact Wk.refl _ | exact WkL.refl _ | exact Wk.nil | exact Wk.row | exact WkE.refl _ | exact WkL.nil | exact WkE.nil | apply Wk.agg | apply Wk.tuple | apply WkL.cons | apply Wk.rows | apply WkE.consA))
theorem g_dat6_sem (o : Ob) : SC 172 [obA o, .fptr [nI 6] 0] (.fsl false (itAs (getK o (.dat 6)))) := by
 refine fnK_semE (A := aidJ [] [] noSem inlG []) base0 aidJ_ok (fnLs_of (LsOk.no rfl)) (closed_oc o rfl) ?_
 have h := g_dat6 o (matA o) (namA o) (lnkA o) (cusA o) (endV (.fsl false (itAs (getK o (.dat 6)))))
 simp only [obA, obC]
 rw [show (nI 6 : AV) = I 6 from rfl, h]
 refine mtB_of (fun e => ?_) (fun e => ?_)
 all_goals
  refine ⟨by simp [closedAll, closedA], ?_⟩
  first | rw [Bool.not_eq_true'] at e | rw [Bool.not_eq_false'] at e
  simp only [getK, oneL, dateAt, numI, vlV, itAs, itA, toBytes, e]
  (repeat (first | exact Wk.refl _ | exact WkL.refl _ | exact Wk.nil | exact Wk.row | exact WkE.refl _ | exact WkL.nil | exact WkE.nil | apply Wk.agg | apply Wk.tuple | apply WkL.cons | apply Wk.rows | apply WkE.consA))
theorem g_dat7_sem (o : Ob) : SC 172 [obA o, .fptr [nI 7] 0] (.fsl false (itAs (getK o (.dat 7)))) := by
 refine fnK_semE (A := aidJ [] [] noSem inlG []) base0 aidJ_ok (fnLs_of (LsOk.no rfl)) (closed_oc o rfl) ?_
 have h := g_dat7 o (matA o) (namA o) (lnkA o) (cusA o) (endV (.fsl false (itAs (getK o (.dat 7)))))
 simp only [obA, obC]
 rw [show (nI 7 : AV) = I 7 from rfl, h]
 refine mtB_of (fun e => ?_) (fun e => ?_)
 all_goals
  refine ⟨by simp [closedAll, closedA], ?_⟩
  first | rw [Bool.not_eq_true'] at e | rw [Bool.not_eq_false'] at e
  simp only [getK, oneL, dateAt, numI, vlV, itAs, itA, toBytes, e]
  (repeat (first | exact Wk.refl _ | exact WkL.refl _ | exact Wk.nil | exact Wk.row | exact WkE.refl _ | exact WkL.nil | exact WkE.nil | apply Wk.agg | apply Wk.tuple | apply WkL.cons | apply Wk.rows | apply WkE.consA))
theorem g_dat8_sem (o : Ob) : SC 172 [obA o, .fptr [nI 8] 0] (.fsl false (itAs (getK o (.dat 8)))) := by
 refine fnK_semE (A := aidJ [] [] noSem inlG []) base0 aidJ_ok (fnLs_of (LsOk.no rfl)) (closed_oc o rfl) ?_
 have h := g_dat8 o (matA o) (namA o) (lnkA o) (cusA o) (endV (.fsl false (itAs (getK o (.dat 8)))))
 simp only [obA, obC]
 rw [show (nI 8 : AV) = I 8 from rfl, h]
 refine mtB_of (fun e => ?_) (fun e => ?_)
 all_goals
  refine ⟨by simp [closedAll, closedA], ?_⟩
  first | rw [Bool.not_eq_true'] at e | rw [Bool.not_eq_false'] at e
  simp only [getK, oneL, dateAt, numI, vlV, itAs, itA, toBytes, e]
  (repeat (first | exact Wk.refl _ | exact WkL.refl _ | exact Wk.nil | exact Wk.row | exact WkE.refl _ | exact WkL.nil | exact WkE.nil | apply Wk.agg | apply Wk.tuple | apply WkL.cons | apply Wk.rows | apply WkE.consA))
theorem g_dat9_sem (o : Ob) : SC 172 [obA o, .fptr [nI 9] 0] (.fsl false (itAs (getK o (.dat 9)))) := by
 refine fnK_semE (A := aidJ [] [] noSem inlG []) base0 aidJ_ok (fnLs_of (LsOk.no rfl)) (closed_oc o rfl) ?_
 have h := g_dat9 o (matA o) (namA o) (lnkA o) (cusA o) (endV (.fsl false (itAs (getK o (.dat 9)))))
 simp only [obA, obC]
 rw [show (nI 9 : AV) = I 9 from rfl, h]
 refine mtB_of (fun e => ?_) (fun e => ?_)
 all_goals
  refine ⟨by simp [closedAll, closedA], ?_⟩
  first | rw [Bool.not_eq_true'] at e | rw [Bool.not_eq_false'] at e
  simp only [getK, oneL, dateAt, numI, vlV, itAs, itA, toBytes, e]
  (repeat (first | exact Wk.refl _ | exact WkL.refl _ | exact Wk.nil | exact Wk.row | exact WkE.refl _ | exact WkL.nil | exact WkE.nil | apply Wk.agg | apply Wk.tuple | apply WkL.cons | apply Wk.rows | apply WkE.consA))
theorem g_lim_sem (o : Ob) : SC 184 [obA o] (.fsl false (itAs (getK o .lim))) := by
 refine fnK_semE (A := aidJ [] [] noSem inlG []) base0 aidJ_ok (fnLs_of (LsOk.no rfl)) (closed_o o) ?_
 simp only [obA, obC]
 rw [g_lim]
 refine mtB_of (fun e => ?_) (fun e => ?_)
 all_goals
  refine ⟨by simp [closedAll, closedA], ?_⟩
  first | rw [Bool.not_eq_true'] at e | rw [Bool.not_eq_false'] at e
  simp only [getK, oneL, limI, whl, prt, vlV, itAs, itA, toBytes, e]
  (repeat (first | exact Wk.refl _ | exact WkL.refl _ | exact Wk.nil | exact Wk.row | exact WkE.refl _ | exact WkL.nil | exact WkE.nil | apply Wk.agg | apply Wk.tuple | apply WkL.cons | apply Wk.rows | apply WkE.consA))
theorem g_why_sem (o : Ob) : SC 138 [obA o] (.fsl false (itAs (getK o .why))) := by
 refine fnK_semX (A := aidJ [] [] noSem inlG []) base0 aidJ_ok (fnLs_of (LsOk.no rfl)) (closed_o o) ?_
 simp only [obA, obC]
 rw [g_why]
 refine mtB_of (fun e => mtB_of (fun e2 => ?_) (fun e2 => ?_)) (fun e => mtB_of (fun e2 => ?_) (fun e2 => ?_))
 ·refine ⟨.nilsl, ⟨1, rfl⟩, rfl, ?_⟩
  rw [Bool.not_eq_true'] at e2
  simp only [getK, oneL, e2, itAs]
  exact .nil
 ·rw [Bool.not_eq_false'] at e2
  have hm : msgI o.msg = [.mk 4325504 7 0 o.msg []] := by
   cases hm : o.msg with
   | nil => rw [hm] at e; cases e
   | cons a r => rfl
  refine ⟨.fsl true [.agg [I 4325387, I 1, I 0, .nilsl, .fsl false [.agg [I 4325506, I 5, I o.why, .nilsl, .nilsl], .agg [I 4325504, I 7, I 0, .fsl false (toBytes o.msg), .nilsl]]]], Frz.out (Frz.fsl (FrzL.cons (Frz.agg (FrzL.cons (Frz.closed _ rfl) (FrzL.cons (Frz.closed _ rfl) (FrzL.cons (Frz.closed _ rfl) (FrzL.cons (Frz.closed _ rfl) (FrzL.cons (Frz.row (es := [.agg [I 4325506, I 5, I o.why, .nilsl, .nilsl], .agg [I 4325504, I 7, I 0, .fsl false (toBytes o.msg), .nilsl]]) rfl rfl rfl rfl ?_ ?_) FrzL.nil)))))) FrzL.nil)), ?_, ?_⟩
  ·simp only [List.forall_mem_cons]; exact ⟨⟨rfl, rfl⟩, ⟨rfl, rfl⟩, fun _ h => by cases h⟩
  ·simp [closedAll, closedA]
  ·simp [closedAll, closedA]
  ·simp only [getK, oneL, e2, whyI, hm, whl, prt, vlV, itAs, itA, toBytes]
   (repeat (first | exact Wk.refl _ | exact WkL.refl _ | exact Wk.nil | exact Wk.row | exact WkE.refl _ | exact WkL.nil | exact WkE.nil | apply Wk.agg | apply Wk.tuple | apply WkL.cons | apply Wk.rows | apply WkE.consA))
 ·refine ⟨.nilsl, ⟨1, rfl⟩, rfl, ?_⟩
  rw [Bool.not_eq_true'] at e2
  simp only [getK, oneL, e2, itAs]
  exact .nil
 ·rw [Bool.not_eq_false'] at e2
  have hm : msgI o.msg = [] := by
   cases hm : o.msg with
   | nil => rfl
   | cons a r => rw [hm] at e; cases e
  refine ⟨_, Frz.out (Frz.closed _ ?_), ?_, ?_⟩
  ·simp [closedAll, closedA]
  ·simp [closedAll, closedA]
  ·simp only [getK, oneL, e2, whyI, hm, whl, prt, vlV, itAs, itA, toBytes]
   (repeat (first | exact Wk.refl _ | exact WkL.refl _ | exact Wk.nil | exact Wk.row | exact WkE.refl _ | exact WkL.nil | exact WkE.nil | apply Wk.agg | apply Wk.tuple | apply WkL.cons | apply Wk.rows | apply WkE.consA))
theorem get_sem {k : Kd} (hk : kdB k = true) {o : Ob} (ho : FitO o) : SC (gfn k) (obA o :: gcp k) (.fsl false (itAs (getK o k))) := by
 cases k with
 | uid => exact g_uid_sem o
 | nam => exact gN_sem o (closed_mat o) (closed_lnk o) (closed_cusA o) o.names ho.n
 | typ => exact g_typ_sem o
 | alg => exact g_alg_sem o
 | len => exact g_len_sem o
 | mask => exact g_mask_sem o
 | sta => exact g_sta_sem o
 | why => exact g_why_sem o
 | lnk => exact gL_sem o (closed_mat o) (closed_nam o) (closed_cusA o) o.links ho.l
 | lim => exact g_lim_sem o
 | cus s => exact g_cus_sem o s (by have := ho.c; show _ ≤ 1099511627776; omega)
 | dat k =>
  match k, hk with
  | 0, _ => exact g_dat0_sem o
  | 1, _ => exact g_dat1_sem o
  | 2, _ => exact g_dat2_sem o
  | 3, _ => exact g_dat3_sem o
  | 4, _ => exact g_dat4_sem o
  | 5, _ => exact g_dat5_sem o
  | 6, _ => exact g_dat6_sem o
  | 7, _ => exact g_dat7_sem o
  | 8, _ => exact g_dat8_sem o
  | 9, _ => exact g_dat9_sem o
  | k + 10, hk => exact absurd (blt_iff.1 hk) (by omega)
end Go.Proofs.YtjhggnebkfpgcaaGreatDoor
