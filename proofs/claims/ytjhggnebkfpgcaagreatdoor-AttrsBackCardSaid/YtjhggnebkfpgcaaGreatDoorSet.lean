/- What is set, added, modified, deleted, as the program does it. -/
import Derived.Test.YtjhggnebkfpgcaaGreatDoorDoer
import Derived.KernelRfl
namespace Go.Proofs.YtjhggnebkfpgcaaGreatDoor
set_option maxRecDepth 20000
open Go Go.RowKit
open Go.Proofs.Abs
def dt0 : Dt := ⟨false, 0⟩
def zO : Ob := ⟨[], 0, 0, 0, 0, [], 0, dt0, dt0, dt0, dt0, dt0, dt0, dt0, dt0, dt0, dt0, 0, [], [], [], [], false, 0, 0, 0, false⟩
def ansA (p : Ob × Int) : AV := .tuple [obA p.1, I p.2]
theorem closed_ans (p : Ob × Int) : closedA (ansA p) = true := by
 have := closed_obC p.1
 simp only [ansA, obA, closedA, closedAll, this, Bool.and_self]
theorem wk_z (r : Int) : Wk (.tuple [.agg (obF zO .nilsl .nilsl .nilsl .nilsl), I r]) (ansA (zO, r)) := by
 refine .tuple (.cons (.agg ?_) (.refl _))
 simp only [obC, obF, matA, namA, lnkA, cusA]
 (repeat (first | exact Wk.refl _ | exact WkL.refl _ | exact Wk.nil | exact Wk.row | exact WkE.refl _ | exact WkL.nil | exact WkE.nil | apply Wk.agg | apply Wk.tuple | apply WkL.cons | apply Wk.rows | apply WkE.consA))
theorem end_z (r : Int) : endV (ansA (zO, r)) (.tuple [.agg (obF zO .nilsl .nilsl .nilsl .nilsl), I r]) := ⟨rfl, wk_z r⟩
theorem end_o (o : Ob) (r : Int) : endV (ansA (o, r)) (.tuple [.agg (obC o), I r]) := end_self (closed_ans (o, r))
theorem atA_F (s : List UInt8) (i t y n : Int) (d : List UInt8) (ks : List It) : atA ⟨s, i, .mk t y n d ks⟩ = .agg (.str s :: I i :: itF t y n (toBytes d) (itAs ks)) := rfl
def laidK (o : Ob) (k : Kd) (j : Nat) (v : It) : Ob × Int := match soundB (putK o j v k) with
 | true => (putK o j v k, 0)
 | false => (zO, 7)
theorem set_put {k : Kd} (h : setK k = true) : putB k = true := by cases k <;> first | rfl | cases h
theorem set_kd {k : Kd} (h : setK k = true) : kdB k = true := by
 cases k with
 | dat k =>
  simp only [setK, setD, Bool.and_eq_true, Nat.ble_eq] at h
  exact blt_iff.2 (by omega)
 | _ => rfl
theorem rowC_laid {k : Kd} (h : putB k = true) : rowC k = rowW (hdK k) (addK k) (modK k) (remK k) (getF k) (rightF k) (fnC (pfn k) (pcp k)) (dropF k) (roomF k) := by rw [rowC_eq, putF_eq h]
theorem laid_sem {k : Kd} (hk : setK k = true) {o : Ob} (ho : FitO o) {s : List UInt8} {j : Nat} (hj : idxOk o j k) {v : It} (hv : rightK o v k = true) : SC 73 [.agg (rowC k), obA o, atA ⟨s, .ofNat j, v⟩] (ansA (laidK o k j v)) := by
 have hp := put_sem hk ho hj hv
 have hs := sound_sem (putK o j v k)
 have hc := copy_sem ho
 have hcl := closed_roc k o (c := [atA ⟨s, .ofNat j, v⟩]) (by simp [closedAll, closed_atA])
 simp only [laidK]
 revert hp hs
 generalize putK o j v k = o'
 intro hp hs
 obtain ⟨t, y, n, d, ks⟩ := v
 rw [rowC_laid (set_put hk), atA_F] at hcl ⊢
 refine fnK_semE (A := aidJ [] [] (laA (obC o) (obC o') (soundB o')) [] []) base0 aidJ_ok (fnLs_of (LsOk.no rfl)) hcl ?_
 simp only [PutSem, nI, itA_F] at hp
 simp only [obA] at hc hs ⊢
 have h := fits_ob o
 have h' := fits_ob o'
 simp only [obC] at hp hc hs h h' ⊢
 rw [laid_fn]
 refine ⟨hc, oblB_of h ⟨hp, hs, mtB_of (fun e => ?_) (fun e => oblB_of h' ?_)⟩⟩
 ·rw [Bool.not_eq_true'] at e
  rw [e]; exact end_z 7
 ·rw [Bool.not_eq_false'] at e
  rw [e]; exact end_o o' 0
def roomK (o : Ob) : Kd → Bool
 | .nam => Nat.blt o.names.length 6
 | .lnk => Nat.blt o.links.length 8
 | .cus _ => Nat.blt o.cust.length 6
 | _ => true
def mfn : Kd → Nat
 | .nam => 165
 | .lnk => 177
 | _ => 149
theorem roomF_many {k : Kd} (h : manyK k = true) : roomF k = fnA (mfn k) := by cases k <;> first | rfl | cases h
theorem roomF_one {k : Kd} (h : manyK k = false) : roomF k = .nilFunc := by cases k <;> first | rfl | cases h
theorem room_sem {k : Kd} (h : manyK k = true) (o : Ob) : SC (mfn k) [obA o] (.bool (roomK o k)) := by
 cases k with
 | nam => exact w_roomN_sem o
 | lnk => exact w_roomL_sem o
 | cus s => exact w_roomC_sem o
 | _ => cases h
def moreK (o : Ob) (k : Kd) (a : At) : Ob × Int :=
 match beqInt a.idx (match manyK k with | true => .ofNat (thereK o k) | false => 0) with
 | false => (zO, 14)
 | true => match !manyK k && ltInt 0 (.ofNat (thereK o k)) with
  | true => (zO, 11)
  | false => match rightK o a.v k with
   | false => (zO, 7)
   | true => match roomK o k with
    | false => (zO, 12)
    | true => match twiceK o k a.v (-1) with
     | true => (zO, 11)
     | false => laidK o k (match manyK k with | true => thereK o k | false => 0) a.v
theorem rowC_more {k : Kd} (h : putB k = true) : rowC k = rowW (hdK k) (addK k) (modK k) (remK k) (getF k) (fnC (rfn k) (rcp k)) (putF k) (dropF k) (roomF k) := by rw [rowC_eq, rightF_eq h]
theorem idx_more {k : Kd} {o : Ob} (hm : manyK k = true) (hr : roomK o k = true) : idxOk o (thereK o k) k := by
 cases k with
 | nam =>
  have h := blt_iff.1 hr
  have : thereK o .nam = o.names.length := by
   simp only [thereK, getK, manyK, typeK]
   cases hn : o.names with
   | nil => rfl
   | cons a r => cases r <;> simp [thereL]
  exact ⟨by omega, by omega⟩
 | lnk =>
  have h := blt_iff.1 hr
  have : thereK o .lnk = o.links.length := by
   simp only [thereK, getK, manyK, typeK]
   cases hn : o.links with
   | nil => rfl
   | cons a r => cases r <;> simp [thereL]
  exact ⟨by omega, by omega⟩
 | cus s =>
  have h := blt_iff.1 hr
  have hl := cus_len o s
  refine .inr ⟨?_, h⟩
  rw [← hl]
  simp only [thereK, manyK, typeK]
  match getK o (.cus s) with
  | [] => rfl
  | [_] => rfl
  | _ :: _ :: _ => rfl
 | _ => cases hm
theorem idx_one {k : Kd} {o : Ob} (hm : manyK k = false) (j : Nat) : idxOk o j k := by cases k <;> first | trivial | cases hm
theorem more_sem {k : Kd} (hk : setK k = true) {o : Ob} (ho : FitO o) (hg : OkG o k) {a : At} (ha : txI a.v) : SC 62 [.agg (rowC k), obA o, atA a] (ansA (moreK o k a)) := by
 have h1 := there_sem (set_kd hk) ho
 have h2 := right_sem (set_put hk) o a.v ha
 have h3 := twice_sem (set_kd hk) ho hg a.v (-1)
 have hcl := closed_roc k o (c := [atA a]) (by simp [closedAll, closed_atA])
 have hlaid : rightK o a.v k = true → roomK o k = true → beqInt a.idx (match manyK k with | true => .ofNat (thereK o k) | false => 0) = true → SC 73 [.agg (rowC k), obA o, atA a] (ansA (laidK o k (match manyK k with | true => thereK o k | false => 0) a.v)) := fun e1 e2 e3 => by
  rw [beqInt_iff] at e3
  obtain ⟨s, i, v⟩ := a
  simp only at e3
  cases hm : manyK k with
  | true =>
   rw [hm] at e3
   subst e3
   exact laid_sem hk ho (idx_more hm e2) e1
  | false =>
   rw [hm] at e3
   subst e3
   exact laid_sem hk ho (idx_one hm 0) e1
 obtain ⟨s, i, v⟩ := a
 simp only [moreK] at hlaid h2 h3 ⊢
 revert hlaid
 generalize laidK o k (match manyK k with | true => thereK o k | false => 0) v = la
 obtain ⟨o', e'⟩ := la
 intro hlaid
 obtain ⟨t, y, n, d, ks⟩ := v
 rw [rowC_more (set_put hk)] at hcl h1 h3 hlaid ⊢
 rw [atA_F] at hcl hlaid ⊢
 rw [itA_F] at h2 h3
 have hf' := fits_ob o'
 have hro := @room_sem k
 have hro1 := @roomF_many k
 have hro0 := @roomF_one k
 have hmd : (hdK k).many = manyK k := rfl
 revert h1 h2 h3 hlaid hro
 generalize rightK o (.mk t y n d ks) k = right
 generalize thereK o k = th
 generalize twiceK o k (.mk t y n d ks) (-1) = twice
 intro h1 h2 h3 hlaid hro
 cases hm : manyK k with
 | true =>
  have hr := hro hm o
  rw [hm] at hmd
  rw [hro1 hm] at hcl h1 h3 hlaid ⊢
  simp only [hm] at hlaid ⊢
  revert hr hlaid
  generalize roomK o k = room
  intro hr hlaid
  refine fnK_semE (A := aidJ [] [] (moA (.ofNat th) right room twice (.tuple [.agg (obC o'), I e'])) [70] []) base0 aidJ_ok (fnLs_of (LsOk.no rfl)) hcl ?_
  simp only [ansA, obA] at h1 h2 h3 hlaid hr
  simp only [obA]
  simp only [obC] at h1 h2 h3 hlaid hr hf' ⊢
  rw [more_fn]
  refine ⟨h1, ?_⟩
  refine mtB_of (fun e => by rw [hmd] at e; cases e) (fun _ => ?_)
  refine mtB_of (fun e => by rw [hmd] at e; cases e) (fun _ => ?_)
  refine ⟨h2, hr, h3, mtB_of (fun e => ?_) (fun e => mtB_of (fun e2 => ?_) (fun e2 => mtB_of (fun e3 => ?_) (fun e3 => mtB_of (fun e4 => ?_) (fun e4 => ?_))))⟩
  ·rw [Bool.not_eq_true'] at e; rw [e]; exact end_z 14
  ·rw [Bool.not_eq_false'] at e; rw [Bool.not_eq_true'] at e2; rw [e, e2]; exact end_z 7
  ·rw [Bool.not_eq_false'] at e e2; rw [Bool.not_eq_true'] at e3; rw [e, e2, e3]; exact end_z 12
  ·rw [Bool.not_eq_false'] at e e2 e3; rw [e, e2, e3, e4]; exact end_z 11
  ·rw [Bool.not_eq_false'] at e e2 e3
   rw [e, e2, e3, e4]
   exact ⟨hlaid e2 e3 e, oblB_of hf' (end_o o' e')⟩
 | false =>
  rw [hm] at hmd
  have hroo : roomK o k = true := by cases k <;> first | rfl | cases hm
  rw [hro0 hm] at hcl h1 h3 hlaid ⊢
  simp only [hm, hroo] at hlaid ⊢
  refine fnK_semE (A := aidJ [] [] (moA (.ofNat th) right true twice (.tuple [.agg (obC o'), I e'])) [70] []) base0 aidJ_ok (fnLs_of (LsOk.no rfl)) hcl ?_
  simp only [ansA, obA] at h1 h2 h3 hlaid
  simp only [obA]
  simp only [obC] at h1 h2 h3 hlaid hf' ⊢
  rw [more_fn0]
  refine ⟨h1, ?_⟩
  refine mtB_of (fun _ => ?_) (fun e => by rw [hmd] at e; cases e)
  refine mtB_of (fun _ => ?_) (fun e => by rw [hmd] at e; cases e)
  refine ⟨h2, h3, mtB_of (fun e => ?_) (fun e => mtB_of (fun e1 => ?_) (fun e1 => mtB_of (fun e2 => ?_) (fun e2 => mtB_of (fun e4 => ?_) (fun e4 => ?_))))⟩
  ·rw [Bool.not_eq_true'] at e; rw [e]; exact end_z 14
  ·rw [Bool.not_eq_false'] at e; rw [e]; simp only [e1, Bool.not_false, Bool.and_true]; exact end_z 11
  ·rw [Bool.not_eq_false'] at e; rw [Bool.not_eq_true'] at e2; rw [e, e2]; simp only [e1, Bool.and_false]; exact end_z 7
  ·rw [Bool.not_eq_false'] at e e2; rw [e, e2, e4]; simp only [e1, Bool.and_false]; exact end_z 11
  ·rw [Bool.not_eq_false'] at e e2
   rw [e, e2, e4]
   simp only [e1, Bool.and_false]
   exact ⟨hlaid e2 trivial e, oblB_of hf' (end_o o' e')⟩
theorem rowO_some (k : Kd) : rowO (some k) = fiT (rowC k) := rfl
theorem fits_row (k : Kd) : fitsT Tryz.prog 89 (.agg (rowC k)) 12 = true := by
 have h : allOne (rowC k) = true := by
  cases k with
  | dat k =>
   have h1 : (addD k).one = true := by unfold addD; split <;> rfl
   have h2 : (remD k).one = true := by unfold remD; split <;> rfl
   simp only [rowC, allOne, addK, modK, remK, h1, h2, getF, rightF, putF, dropF, roomF, fnA, fnC, one_str, one_int, one_bool, Bool.true_and, Bool.and_true]
   rfl
  | _ => rfl
 exact fits_agg rowT rfl h
theorem closed_oa (o : Ob) (a : At) {c : List AV} (h : closedAll c = true) : closedAll (obA o :: atA a :: c) = true := closed_oc o (by rw [closedAll, closed_atA, h]; rfl)
inductive Wh where
 | nil | alw | young | used | full
def whA : Wh → AV
 | .nil => .nilFunc
 | .alw => alw
 | .young => youngA
 | .used => usedA
 | .full => fnA 189
def whF : Wh → Nat
 | .young => 125
 | .used => 137
 | .full => 189
 | _ => 158
def whN : Wh → Bool
 | .nil => false
 | _ => true
def whB (o : Ob) : Wh → Bool
 | .young => beqInt o.st 1
 | .used => beqInt o.st 1 || beqInt o.st 2
 | .full => beqInt o.lc o.lt
 | _ => true
theorem whA_eq {w : Wh} (h : whN w = true) : whA w = fnA (whF w) := by cases w <;> first | rfl | cases h
theorem wh_sem {w : Wh} (h : whN w = true) (o : Ob) : SC (whF w) [obA o] (.bool (whB o w)) := by
 cases w with
 | nil => cases h
 | alw => exact w_always_sem o
 | young => exact w_young_sem o
 | used => exact w_used_sem o
 | full => exact w_full_sem o
def addD' : Nat → Wh
 | 1 | 2 => .young
 | 3 | 4 => .used
 | _ => .nil
def addW : Kd → Wh
 | .nam | .lnk | .cus _ | .lim => .alw
 | .dat k => addD' k
 | _ => .nil
def remD' : Nat → Wh
 | 2 => .young
 | 3 => .used
 | _ => .nil
def remW : Kd → Wh
 | .nam | .lnk | .cus _ => .alw
 | .lim => .full
 | .dat k => remD' k
 | _ => .nil
theorem addD_eq (k : Nat) : addD k = whA (addD' k) := by unfold addD addD'; split <;> simp_all [whA]
theorem remD_eq (k : Nat) : remD k = whA (remD' k) := by unfold remD remD'; split <;> simp_all [whA]
theorem addK_eq (k : Kd) : addK k = whA (addW k) := by cases k <;> first | rfl | exact addD_eq _
theorem remK_eq (k : Kd) : remK k = whA (remW k) := by cases k <;> first | rfl | exact remD_eq _
theorem addD_set {k : Nat} (h : whN (addD' k) = true) : setD k = true := by
 unfold addD' at h
 split at h <;> first | rfl | cases h
theorem add_set {k : Kd} (h : whN (addW k) = true) : setK k = true := by cases k <;> first | rfl | cases h | exact addD_set h
theorem rem_drop {k : Kd} (h : whN (remW k) = true) : dropB k = true := by
 cases k with
 | dat k =>
  simp only [remW] at h
  unfold remD' at h
  split at h <;> first | rfl | cases h
 | _ => first | rfl | cases h
theorem drop_kd {k : Kd} (h : dropB k = true) : kdB k = true := by
 cases k with
 | dat k =>
  simp only [dropB, Bool.or_eq_true] at h
  rcases h with h | h <;> (obtain rfl := beq_iff.1 h; rfl)
 | _ => first | rfl | cases h
def chg (p : Ob × Int) (now : Int) : Ob × Int := match beqInt p.2 0 with
 | false => (zO, p.2)
 | true => ({ p.1 with d9 := ⟨true, now⟩ }, 0)
def addS (c : Bool) (o : Ob) (a : At) (now : Int) : Ob × Int := match findK c a.name with
 | none => (zO, 7)
 | some k => match whN (addW k) with
  | false => (zO, 7)
  | true => match o.arch with
   | true => (zO, 13)
   | false => match whB o (addW k) with
    | false => (zO, 11)
    | true => chg (moreK o k a) now
theorem rowC_add {k : Kd} (h : whN (addW k) = true) : rowC k = rowW (hdK k) (fnA (whF (addW k))) (modK k) (remK k) (getF k) (rightF k) (putF k) (dropF k) (roomF k) := by rw [rowC_eq, addK_eq, whA_eq h]
theorem rowC_add0 {k : Kd} (h : whN (addW k) = false) : rowC k = rowW (hdK k) .nilFunc (modK k) (remK k) (getF k) (rightF k) (putF k) (dropF k) (roomF k) := by
 have : addW k = .nil := by cases hw : addW k <;> rw [hw] at h <;> first | rfl | cases h
 rw [rowC_eq, addK_eq, this]; rfl
theorem add_sem {c : Bool} {o : Ob} (ho : FitO o) {a : At} {now : Int} (hc : SC 111 [.str a.name] (.bool c)) (hg : ∀ k, OkG o k) (ha : txI a.v) : SC 24 [obA o, atA a, I now] (ansA (addS c o a now)) := by
 have hf := find_sem hc
 have hcl := closed_oa o a (c := [I now]) rfl
 simp only [addS]
 revert hf
 cases hk : findK c a.name with
 | none =>
  intro hf
  obtain ⟨s, i, ⟨t, y, n, d, ks⟩⟩ := a
  rw [atA_F] at hcl ⊢
  refine fnK_semE (A := aidJ [] [] (adA (rowO none) .nilsl true) [] []) base0 aidJ_ok (fnLs_of (LsOk.no rfl)) hcl ?_
  simp only [obA, obC]
  rw [add_none]
  exact ⟨hf, end_z 7⟩
 | some k =>
  intro hf
  dsimp only
  rw [rowO_some] at hf
  have hfr := fits_row k
  cases hw : whN (addW k) with
  | false =>
   obtain ⟨s, i, ⟨t, y, n, d, ks⟩⟩ := a
   rw [atA_F] at hcl ⊢
   rw [rowC_add0 hw] at hf hfr
   refine fnK_semE (A := aidJ [] [] (adA (fiT (rowW (hdK k) .nilFunc (modK k) (remK k) (getF k) (rightF k) (putF k) (dropF k) (roomF k))) .nilsl true) [] []) base0 aidJ_ok (fnLs_of (LsOk.no rfl)) hcl ?_
   simp only [obA, obC]
   rw [add_nil]
   exact ⟨hf, oblB_of hfr (end_z 7)⟩
  | true =>
   have hm := more_sem (add_set hw) ho (hg k) ha
   have hwh := wh_sem hw o
   obtain ⟨s, i, ⟨t, y, n, d, ks⟩⟩ := a
   revert hm
   generalize moreK o k ⟨s, i, .mk t y n d ks⟩ = la
   obtain ⟨o', e'⟩ := la
   intro hm
   have hf' := fits_ob o'
   have hf2 := fits_ob { o' with d9 := ⟨true, now⟩ }
   rw [atA_F] at hcl hm ⊢
   rw [rowC_add hw] at hf hm hfr
   simp only at hf
   simp only [chg]
   revert hwh
   generalize whB o (addW k) = may
   intro hwh
   refine fnK_semE (A := aidJ [] [] (adA (fiT (rowW (hdK k) (fnA (whF (addW k))) (modK k) (remK k) (getF k) (rightF k) (putF k) (dropF k) (roomF k))) (.tuple [.agg (obC o'), I e']) may) [70, 71] []) base0 aidJ_ok (fnLs_of (LsOk.no rfl)) hcl ?_
   simp only [ansA, obA] at hm hwh
   simp only [obA]
   simp only [obC] at hm hf' hf2 hwh ⊢
   rw [add_fn]
   refine ⟨hf, oblB_of hfr ⟨hwh, mtB_of (fun e => ?_) (fun e => mtB_of (fun e2 => ?_) (fun e2 => ⟨hm, oblB_of hf' (mtB_of (fun e3 => ?_) (fun e3 => oblB_of hf2 (oblB_of hf2 ?_)))⟩))⟩⟩
   ·rw [e]; (try dsimp only); exact end_z 13
   ·rw [Bool.not_eq_true'] at e2; rw [e, e2]; (try dsimp only); exact end_z 11
   ·rw [Bool.not_eq_false'] at e2; rw [Bool.not_eq_true'] at e3; rw [e, e2, e3]; (try dsimp only); exact end_z e'
   ·rw [Bool.not_eq_false'] at e2 e3
    rw [e, e2, e3]
    try dsimp only
    exact end_o { o' with d9 := ⟨true, now⟩ } 0
def delS (c : Bool) (o : Ob) (s : List UInt8) (i : Int) (now : Int) : Ob × Int := match findK c s with
 | none => (zO, 7)
 | some k => match whN (remW k) with
  | false => (zO, 7)
  | true => match o.arch with
   | true => (zO, 13)
   | false => match ltInt i 0 || !ltInt i (.ofNat (getK o k).length) with
    | true => (zO, 1)
    | false => match whB o (remW k) with
     | false => (zO, 11)
     | true => ({ dropK o i.toNat k with d9 := ⟨true, now⟩ }, 0)
theorem rowC_del {k : Kd} (h : whN (remW k) = true) : rowC k = rowW (hdK k) (addK k) (modK k) (fnA (whF (remW k))) (fnC (gfn k) (gcp k)) (rightF k) (putF k) (fnC (dfn k) (dcp k)) (roomF k) := by rw [rowC_eq, remK_eq, whA_eq h, getF_eq, dropF_eq (rem_drop h)]
theorem rowC_del0 {k : Kd} (h : whN (remW k) = false) : rowC k = rowW (hdK k) (addK k) (modK k) .nilFunc (getF k) (rightF k) (putF k) (dropF k) (roomF k) := by
 have : remW k = .nil := by cases hw : remW k <;> rw [hw] at h <;> first | rfl | cases h
 rw [rowC_eq, remK_eq, this]; rfl
theorem del_sem {c : Bool} {o : Ob} (ho : FitO o) {s : List UInt8} {i now : Int} (hc : SC 111 [.str s] (.bool c)) : SC 30 [obA o, .str s, I i, I now] (ansA (delS c o s i now)) := by
 have hf := find_sem hc
 have hcl := closed_oc o (c := [.str s, I i, I now]) rfl
 simp only [delS]
 revert hf
 cases hk : findK c s with
 | none =>
  intro hf
  refine fnK_semE (A := aidJ [] [] (adA (rowO none) .nilsl true) [] []) base0 aidJ_ok (fnLs_of (LsOk.no rfl)) hcl ?_
  simp only [obA, obC]
  rw [del_none]
  exact ⟨hf, end_z 7⟩
 | some k =>
  intro hf
  dsimp only
  rw [rowO_some] at hf
  have hfr := fits_row k
  cases hw : whN (remW k) with
  | false =>
   rw [rowC_del0 hw] at hf hfr
   refine fnK_semE (A := aidJ [] [] (adA (fiT (rowW (hdK k) (addK k) (modK k) .nilFunc (getF k) (rightF k) (putF k) (dropF k) (roomF k))) .nilsl true) [] []) base0 aidJ_ok (fnLs_of (LsOk.no rfl)) hcl ?_
   simp only [obA, obC]
   rw [del_nil]
   exact ⟨hf, oblB_of hfr (end_z 7)⟩
  | true =>
   dsimp only
   have hdk := rem_drop hw
   have hge := get_sem (drop_kd hdk) ho
   have hwh := wh_sem hw o
   have hcp := copy_sem ho
   have hlen : lenN (itAs (getK o k)) = (getK o k).length := by rw [lenN_eq, its_length]
   have hdr : ltInt i 0 = false → ltInt i (.ofNat (getK o k).length) = true → BodySem Tryz.prog opts0.glob (dfn k) (.ptr 0 0 :: I i :: dcp k) [(0, some (.cells (obC o)))] 86 (.tuple []) [(0, some (.cells (obC (dropK o i.toNat k))))] 186 := fun h1 h2 => by
    have h1 := ltInt_false.1 h1
    have h2 := ltInt_iff.1 h2
    simp only [Int.ofNat_eq_natCast] at h1 h2
    have := drop_sem hdk ho (j := i.toNat) (by omega)
    simp only [DropSem, nI] at this
    rw [show (Int.ofNat i.toNat : Int) = i from by simp only [Int.ofNat_eq_natCast]; omega] at this
    exact this
   have hfo := fits_ob o
   revert hdr
   generalize dropK o i.toNat k = o'
   intro hdr
   have hf' := fits_ob o'
   have hf2 := fits_ob { o' with d9 := ⟨true, now⟩ }
   rw [rowC_del hw] at hf hfr
   revert hwh
   generalize whB o (remW k) = may
   intro hwh
   refine fnK_semE (A := aidJ [] [] (deA (fiT (rowW (hdK k) (addK k) (modK k) (fnA (whF (remW k))) (fnC (gfn k) (gcp k)) (rightF k) (putF k) (fnC (dfn k) (dcp k)) (roomF k))) (itAs (getK o k)) may (obC o) (obC o')) [70, 71] []) base0 aidJ_ok (fnLs_of (LsOk.no rfl)) hcl ?_
   simp only [obA] at hwh hge hcp
   simp only [obA]
   simp only [obC] at hdr hf' hf2 hwh hge hcp hfo ⊢
   rw [del_fn, hlen]
   refine ⟨hf, oblB_of hfr ⟨hge, mtB_of (fun e0 => ⟨hwh, mtB_of (fun e => ?_) (fun e => ?_)⟩) (fun e0 => ⟨hwh, mtB_of (fun e => ?_) (fun e => mtB_of (fun e1 => ?_) (fun e1 => mtB_of (fun e2 => ?_) (fun e2 => ⟨hcp, oblB_of hfo ⟨hdr e0 ?_, oblB_of hf' (oblB_of hf2 (oblB_of hf2 ?_))⟩⟩)))⟩)⟩⟩
   ·rw [e]; (try dsimp only); exact end_z 13
   ·rw [e, e0]; (try simp only [Bool.true_or]); exact end_z 1
   ·rw [e]; (try dsimp only); exact end_z 13
   ·rw [e, e0, e1]; (try simp only [Bool.or_true]); exact end_z 1
   ·rw [Bool.not_eq_true'] at e2; rw [Bool.not_eq_false'] at e1; rw [e, e0, e1, e2]; (try dsimp only); exact end_z 11
   ·rw [Bool.not_eq_false'] at e1; exact e1
   ·rw [Bool.not_eq_false'] at e2
    rw [Bool.not_eq_false'] at e1
    rw [e, e0, e1, e2]
    try dsimp only
    exact end_o { o' with d9 := ⟨true, now⟩ } 0
end Go.Proofs.YtjhggnebkfpgcaaGreatDoor
