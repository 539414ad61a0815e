/- What rows' methods answer. -/
import Derived.Test.YtjhggnebkfpgcaaGreatDoorSems
import Derived.KernelRfl
namespace Go.Proofs.YtjhggnebkfpgcaaGreatDoor
set_option maxRecDepth 20000
open Go Go.RowKit
open Go.Proofs.Abs
theorem sound_fn (o : Ob) (M N L C : AV) (Q : AV → Prop) : fnK Tryz.prog opts0 40 (aidJ [] [] noSem [] [74]) 26 [.agg (obF o M N L C)] [] 0 (fun v _ _ => Q v) =
  (mtB (!o.d1.1) (mtB (!o.d1.1) (mtB (!o.d3.1) (mtB (!o.d2.1) (Q (AV.bool true)) (mtB (!o.d3.1) (Q (AV.bool true)) (Q (AV.bool !ltInt o.d3.2 o.d2.2)))) (mtB (!o.d4.1) (mtB (!o.d2.1) (Q (AV.bool true)) (mtB (!o.d3.1) (Q (AV.bool true)) (Q (AV.bool !ltInt o.d3.2 o.d2.2)))) (mtB (!ltInt o.d4.2 o.d3.2) (mtB (!o.d2.1) (Q (AV.bool true)) (mtB (!o.d3.1) (Q (AV.bool true)) (Q (AV.bool !ltInt o.d3.2 o.d2.2)))) (Q (AV.bool false))))) (mtB (!o.d2.1) (mtB (!o.d3.1) (mtB (!o.d2.1) (Q (AV.bool true)) (mtB (!o.d3.1) (Q (AV.bool true)) (Q (AV.bool !ltInt o.d3.2 o.d2.2)))) (mtB (!o.d4.1) (mtB (!o.d2.1) (Q (AV.bool true)) (mtB (!o.d3.1) (Q (AV.bool true)) (Q (AV.bool !ltInt o.d3.2 o.d2.2)))) (mtB (!ltInt o.d4.2 o.d3.2) (mtB (!o.d2.1) (Q (AV.bool true)) (mtB (!o.d3.1) (Q (AV.bool true)) (Q (AV.bool !ltInt o.d3.2 o.d2.2)))) (Q (AV.bool false))))) (mtB (!ltInt o.d2.2 o.d1.2) (mtB (!o.d3.1) (mtB (!o.d2.1) (Q (AV.bool true)) (mtB (!o.d3.1) (Q (AV.bool true)) (Q (AV.bool !ltInt o.d3.2 o.d2.2)))) (mtB (!o.d4.1) (mtB (!o.d2.1) (Q (AV.bool true)) (mtB (!o.d3.1) (Q (AV.bool true)) (Q (AV.bool !ltInt o.d3.2 o.d2.2)))) (mtB (!ltInt o.d4.2 o.d3.2) (mtB (!o.d2.1) (Q (AV.bool true)) (mtB (!o.d3.1) (Q (AV.bool true)) (Q (AV.bool !ltInt o.d3.2 o.d2.2)))) (Q (AV.bool false))))) (Q (AV.bool false))))) (mtB (!o.d4.1) (mtB (!o.d1.1) (mtB (!o.d3.1) (mtB (!o.d2.1) (Q (AV.bool true)) (mtB (!o.d3.1) (Q (AV.bool true)) (Q (AV.bool !ltInt o.d3.2 o.d2.2)))) (mtB (!o.d4.1) (mtB (!o.d2.1) (Q (AV.bool true)) (mtB (!o.d3.1) (Q (AV.bool true)) (Q (AV.bool !ltInt o.d3.2 o.d2.2)))) (mtB (!ltInt o.d4.2 o.d3.2) (mtB (!o.d2.1) (Q (AV.bool true)) (mtB (!o.d3.1) (Q (AV.bool true)) (Q (AV.bool !ltInt o.d3.2 o.d2.2)))) (Q (AV.bool false))))) (mtB (!o.d2.1) (mtB (!o.d3.1) (mtB (!o.d2.1) (Q (AV.bool true)) (mtB (!o.d3.1) (Q (AV.bool true)) (Q (AV.bool !ltInt o.d3.2 o.d2.2)))) (mtB (!o.d4.1) (mtB (!o.d2.1) (Q (AV.bool true)) (mtB (!o.d3.1) (Q (AV.bool true)) (Q (AV.bool !ltInt o.d3.2 o.d2.2)))) (mtB (!ltInt o.d4.2 o.d3.2) (mtB (!o.d2.1) (Q (AV.bool true)) (mtB (!o.d3.1) (Q (AV.bool true)) (Q (AV.bool !ltInt o.d3.2 o.d2.2)))) (Q (AV.bool false))))) (mtB (!ltInt o.d2.2 o.d1.2) (mtB (!o.d3.1) (mtB (!o.d2.1) (Q (AV.bool true)) (mtB (!o.d3.1) (Q (AV.bool true)) (Q (AV.bool !ltInt o.d3.2 o.d2.2)))) (mtB (!o.d4.1) (mtB (!o.d2.1) (Q (AV.bool true)) (mtB (!o.d3.1) (Q (AV.bool true)) (Q (AV.bool !ltInt o.d3.2 o.d2.2)))) (mtB (!ltInt o.d4.2 o.d3.2) (mtB (!o.d2.1) (Q (AV.bool true)) (mtB (!o.d3.1) (Q (AV.bool true)) (Q (AV.bool !ltInt o.d3.2 o.d2.2)))) (Q (AV.bool false))))) (Q (AV.bool false))))) (mtB (!ltInt o.d4.2 o.d1.2) (mtB (!o.d1.1) (mtB (!o.d3.1) (mtB (!o.d2.1) (Q (AV.bool true)) (mtB (!o.d3.1) (Q (AV.bool true)) (Q (AV.bool !ltInt o.d3.2 o.d2.2)))) (mtB (!o.d4.1) (mtB (!o.d2.1) (Q (AV.bool true)) (mtB (!o.d3.1) (Q (AV.bool true)) (Q (AV.bool !ltInt o.d3.2 o.d2.2)))) (mtB (!ltInt o.d4.2 o.d3.2) (mtB (!o.d2.1) (Q (AV.bool true)) (mtB (!o.d3.1) (Q (AV.bool true)) (Q (AV.bool !ltInt o.d3.2 o.d2.2)))) (Q (AV.bool false))))) (mtB (!o.d2.1) (mtB (!o.d3.1) (mtB (!o.d2.1) (Q (AV.bool true)) (mtB (!o.d3.1) (Q (AV.bool true)) (Q (AV.bool !ltInt o.d3.2 o.d2.2)))) (mtB (!o.d4.1) (mtB (!o.d2.1) (Q (AV.bool true)) (mtB (!o.d3.1) (Q (AV.bool true)) (Q (AV.bool !ltInt o.d3.2 o.d2.2)))) (mtB (!ltInt o.d4.2 o.d3.2) (mtB (!o.d2.1) (Q (AV.bool true)) (mtB (!o.d3.1) (Q (AV.bool true)) (Q (AV.bool !ltInt o.d3.2 o.d2.2)))) (Q (AV.bool false))))) (mtB (!ltInt o.d2.2 o.d1.2) (mtB (!o.d3.1) (mtB (!o.d2.1) (Q (AV.bool true)) (mtB (!o.d3.1) (Q (AV.bool true)) (Q (AV.bool !ltInt o.d3.2 o.d2.2)))) (mtB (!o.d4.1) (mtB (!o.d2.1) (Q (AV.bool true)) (mtB (!o.d3.1) (Q (AV.bool true)) (Q (AV.bool !ltInt o.d3.2 o.d2.2)))) (mtB (!ltInt o.d4.2 o.d3.2) (mtB (!o.d2.1) (Q (AV.bool true)) (mtB (!o.d3.1) (Q (AV.bool true)) (Q (AV.bool !ltInt o.d3.2 o.d2.2)))) (Q (AV.bool false))))) (Q (AV.bool false))))) (Q (AV.bool false))))) := by kernel_rfl
theorem copy_fn (o : Ob) (M N L C : AV) (Q : AV → Prop) : fnK Tryz.prog opts0 40 (aidJ [] [] (manyS [(118, M), (119, N), (120, L), (121, C)]) [] []) 82 [.agg (obF o M N L C)] [] 0 (fun v _ _ => Q v) =
  (SC 118 [M] M ∧ SC 119 [N] N ∧ SC 120 [L] L ∧ SC 121 [C] C ∧ oblB (fitsT Tryz.prog 23 M 1) (oblB (fitsT Tryz.prog 27 N 1) (oblB (fitsT Tryz.prog 28 L 1) (oblB (fitsT Tryz.prog 29 C 1) (oblB (fitsT Tryz.prog 33 (AV.agg (obF o M N L C)) 37) (Q (AV.agg (obF o M N L C)))))))) := by kernel_rfl
def aheadB (x y : Dt) : Bool := !x.has || (!y.has || !ltInt y.t x.t)
def soundB (o : Ob) : Bool := aheadB o.d1 o.d4 && (aheadB o.d1 o.d2 && (aheadB o.d3 o.d4 && aheadB o.d2 o.d3))
theorem sound_sem (o : Ob) : SC 26 [obA o] (.bool (soundB o)) := by
 refine fnK_semV (A := aidJ [] [] noSem [] [74]) base0 aidJ_ok (fnLs_of (LsOk.no rfl)) (closed_o o) rfl ?_
 simp only [obA, obC]
 rw [sound_fn]
 repeat' refine mtB_of (fun _ => ?_) (fun _ => ?_)
 all_goals
  refine congrArg AV.bool ?_
  simp_all [soundB, aheadB]
theorem objT : isAggA Tryz.prog 33 = some true := by kernel_rfl
theorem rowT : isAggA Tryz.prog 89 = some true := by kernel_rfl
theorem fits_ob (o : Ob) : fitsT Tryz.prog 33 (.agg (obC o)) 37 = true := fits_agg objT (len_obC o) (one_obC o)
theorem namT : isAggA Tryz.prog 27 = some false := by kernel_rfl
theorem lnkT : isAggA Tryz.prog 28 = some false := by kernel_rfl
theorem cusT : isAggA Tryz.prog 29 = some false := by kernel_rfl
theorem bytT : isAggA Tryz.prog 23 = some false := by kernel_rfl
theorem good_map {α : Type} {f : α → AV} {n : Nat} (h : ∀ x, goodEl n (f x)) : ∀ l : List α, ∀ e ∈ l.map f, goodEl n e := fun l e he => by
 obtain ⟨x, _, rfl⟩ := List.mem_map.1 he
 exact h x
theorem copy_sem {o : Ob} (ho : FitO o) : SC 82 [obA o] (obA o) := by
 have h1 : SC 118 [matA o] (matA o) := cloneB_sem goodEl_toBytes (closedAll_toBytes _) (by rw [← lenN_eq, lenN_toBytes]; exact ho.m)
 have hn := ho.n
 have hl := ho.l
 have hc := ho.c
 have h2 : SC 119 [namA o] (namA o) := cloneS_sem (good_map (f := .str) (n := 1) (fun _ => ⟨rfl, rfl⟩) _) (closed_strs _) (by rw [List.length_map]; show _ ≤ 1099511627776; omega)
 have h3 : SC 120 [lnkA o] (lnkA o) := cloneL_sem (good_map (f := lkA) (n := 2) (fun _ => ⟨rfl, rfl⟩) _) (closed_lks _) (by rw [List.length_map]; show _ ≤ 1099511627776; omega)
 have h4 : SC 121 [cusA o] (cusA o) := cloneC_sem (good_map (f := cuA) (n := 2) (fun _ => ⟨rfl, rfl⟩) _) (closed_cus _) (by rw [List.length_map]; show _ ≤ 1099511627776; omega)
 refine fnK_semV (A := aidJ [] [] (manyS [(118, matA o), (119, namA o), (120, lnkA o), (121, cusA o)]) [] []) base0 aidJ_ok (fnLs_of (LsOk.no rfl)) (closed_o o) (closed_ob o) ?_
 simp only [obA, obC]
 rw [copy_fn]
 exact ⟨h1, h2, h3, h4, oblB_of (fits_one bytT rfl) (oblB_of (fits_one namT rfl) (oblB_of (fits_one lnkT rfl) (oblB_of (fits_one cusT rfl) (oblB_of (fits_ob o) rfl))))⟩
def hdK (k : Kd) : RowH := ⟨nameK k, typeK k, manyK k, setK k⟩
theorem rowC_eq (k : Kd) : rowC k = rowW (hdK k) (addK k) (modK k) (remK k) (getF k) (rightF k) (putF k) (dropF k) (roomF k) := rfl
theorem rowC_get (k : Kd) : rowC k = rowW (hdK k) (addK k) (modK k) (remK k) (fnC (gfn k) (gcp k)) (rightF k) (putF k) (dropF k) (roomF k) := by rw [rowC_eq, getF_eq]
theorem closed_rowC (k : Kd) : closedAll (rowC k) = true := closed_row k
def thereL (many : Bool) (ty : Int) : List It → Nat
 | [x] => match many || (!beqInt ty 2 || !beqInt (itN x) 0) with
  | true => 1
  | false => 0
 | l => l.length
def thereK (o : Ob) (k : Kd) : Nat := thereL (manyK k) (typeK k) (getK o k)
theorem closed_roc (k : Kd) (o : Ob) {c : List AV} (h : closedAll c = true) : closedAll (.agg (rowC k) :: obA o :: c) = true := by
 have h1 := closed_rowC k
 have h2 := closed_oc o h
 rw [closedAll, closedA, h1, h2]; rfl
theorem there_sem {k : Kd} (hk : kdB k = true) {o : Ob} (ho : FitO o) : SC 113 [.agg (rowC k), obA o] (I (.ofNat (thereK o k))) := by
 have hg := get_sem hk ho
 have hcl := closed_roc k o (c := []) rfl
 simp only [thereK]
 rw [rowC_get] at hcl ⊢
 revert hg
 generalize getK o k = l
 intro hg
 match l, hg with
 | [], hg =>
  refine fnK_semV (A := thA [] (itF 0 0 0 [] [])) base0 aidJ_ok (fnLs_of (LsOk.no rfl)) hcl rfl ?_
  simp only [obA, obC] at hg ⊢
  rw [there_fn]
  refine ⟨hg, mtB_of (fun _ => mtB_of (fun e => by cases e) (fun _ => rfl)) (fun _ => rfl)⟩
 | [⟨t, y, n, d, ks⟩], hg =>
  refine fnK_semV (A := thA (itAs [⟨t, y, n, d, ks⟩]) (itF t y n (toBytes d) (itAs ks))) base0 aidJ_ok (fnLs_of (LsOk.no rfl)) hcl rfl ?_
  simp only [obA, obC] at hg ⊢
  rw [there_fn]
  have hh : ∀ m ty, (hdK k).many = m → (hdK k).ty = ty → manyK k = m ∧ typeK k = ty := fun m ty h1 h2 => ⟨h1, h2⟩
  refine ⟨hg, mtB_of (fun e1 => mtB_of (fun _ => mtB_of (fun e2 => ⟨idxI (i := 0) rfl, mtB_of (fun e3 => ?_) (fun e3 => ?_)⟩) (fun e2 => ?_)) (fun e => by cases e)) (fun e1 => ?_)⟩
  all_goals
   simp only [hdK] at *
   simp_all [thereL, itN, itAs, lenN]
 | a :: b :: r, hg =>
  refine fnK_semV (A := thA (itAs (a :: b :: r)) (itF 0 0 0 [] [])) base0 aidJ_ok (fnLs_of (LsOk.no rfl)) hcl rfl ?_
  simp only [obA, obC] at hg ⊢
  rw [there_fn]
  have hl : lenN (itAs (a :: b :: r)) = r.length + 2 := by rw [lenN_eq, its_length]; rfl
  rw [hl]
  refine ⟨hg, mtB_of (fun e1 => mtB_of (fun e => ?_) (fun _ => rfl)) (fun _ => rfl)⟩
  rw [beqInt_iff] at e
  have e : ((r.length + 2 : Nat) : Int) = 1 := e
  omega
def twiceL (v : It) (but : Int) : List It → Nat → Bool
 | [], _ => false
 | x :: r, i => (!beqInt (.ofNat i) but && sameI x v) || twiceL v but r (i + 1)
def twiceK (o : Ob) (k : Kd) (v : It) (but : Int) : Bool := manyK k && twiceL v but (getK o k) 0
theorem tw_loop {h : RowH} {A1 A2 A3 Ge R P D RM : AV} {l : List It} {t y n : Int} {d : List UInt8} {ks : List It} {but : Int} {Q : AExit → St → Prop} (hW : closedAll (rowW h A1 A2 A3 Ge R P D RM) = true) (hb : l.length ≤ 1000) (hl : ∀ x ∈ l, okI big x) :
  ∀ i, i ≤ l.length → (mtB (h.many && twiceL (.mk t y n d ks) but (l.drop i) i) (Q .ret (twF true).st) (Q (.exit 0) (twF false).st) → ALp Tryz.prog opts0.glob 0 (lpCode Tryz.prog 72 3) (twV (rowW h A1 A2 A3 Ge R P D RM) (itAs l) t y n (toBytes d) (itAs ks) but i).st Q) := by
 have hG := closed_its l
 have hK : closedAll (itF t y n (toBytes d) (itAs ks)) = true := by have := closed_it (.mk t y n d ks); exact this
 have hlen : lenN (itAs l) = l.length := by rw [lenN_eq, its_length]
 refine count_up _ (fun hq => ?_) (fun i hi ih hq => ?_)
 ·refine ALp.round (A := twA (itF 0 0 0 [] []) true) (V1 := twV (rowW h A1 A2 A3 Ge R P D RM) (itAs l) t y n (toBytes d) (itAs ks) but 0) (V2 := twV (rowW h A1 A2 A3 Ge R P D RM) (itAs l) t y n (toBytes d) (itAs ks) but 0) (F := twF false) (lk := [(0, 0), (1, 1)]) (lk' := []) base0 aidJ_ok (LsOk.no rfl) .refl ?_
  rw [tw_round]
  refine mtB_of (fun e => ?_) (fun _ => ?_)
  ·have e := ltInt_iff.1 e
   simp only [hlen, Int.ofNat_eq_natCast] at e
   omega
  ·rw [List.drop_of_length_le (by omega), twiceL, Bool.and_false] at hq
   exact ⟨⟨⟨⟨rfl, rfl⟩, trivial⟩, trivial, trivial⟩, hq⟩
 ·have g1 := List.getElem?_eq_getElem hi
  have hok := hl _ (List.getElem_mem hi)
  rw [List.drop_eq_getElem_cons hi, twiceL] at hq
  revert g1 hq hok
  generalize l[i] = x
  intro hq g1 hok
  have hs := tsame_sem x (.mk t y n d ks) hok
  obtain ⟨a, b, c, e', f'⟩ := x
  revert hs hq
  generalize sameI (.mk a b c e' f') (.mk t y n d ks) = r
  intro hq hs
  rw [itA_F, itA_F] at hs
  cases hr : (!beqInt (.ofNat i) but && (h.many && r)) with
  | true =>
   have h3 : beqInt (.ofNat i) but = false ∧ h.many = true ∧ r = true := by simpa using hr
   rw [h3.1, h3.2.1, h3.2.2] at hq
   refine ALp.round (A := twA (itF a b c (toBytes e') (itAs f')) r) (V1 := twV (rowW h A1 A2 A3 Ge R P D RM) (itAs l) t y n (toBytes d) (itAs ks) but (i + 1)) (V2 := twV (rowW h A1 A2 A3 Ge R P D RM) (itAs l) t y n (toBytes d) (itAs ks) but (i + 1)) (F := twF true) (lk := [(0, 0), (1, 1)]) (lk' := []) base0 aidJ_ok (LsOk.no rfl) .refl ?_
   rw [tw_round]
   refine mtB_of (fun _ => ⟨idxI g1, mtB_of (fun _ => mtB_of (fun _ => ⟨hs, mtB_of (fun _ => ⟨⟨⟨⟨rfl, rfl⟩, trivial⟩, trivial, trivial⟩, hq⟩) (fun e => ?_)⟩) (fun e => ?_)) (fun e => ?_)⟩) (fun e => ?_)
   ·rw [h3.2.2] at e; cases e
   ·rw [h3.2.1] at e; cases e
   ·rw [h3.1] at e; cases e
   ·have e := ltInt_false.1 e
    simp only [hlen, Int.ofNat_eq_natCast] at e
    omega
  | false =>
   have hq' : mtB (h.many && twiceL (.mk t y n d ks) but (l.drop (i + 1)) (i + 1)) (Q .ret (twF true).st) (Q (.exit 0) (twF false).st) := by
    have : (h.many && (!beqInt (.ofNat i) but && r || twiceL (.mk t y n d ks) but (l.drop (i + 1)) (i + 1))) = (h.many && twiceL (.mk t y n d ks) but (l.drop (i + 1)) (i + 1)) := by
     revert hr
     cases beqInt (.ofNat i) but <;> cases h.many <;> cases r <;> simp
    rw [this] at hq
    exact hq
   have hnext := ih hq'
   have hw : wrapA .i64 (Int.ofNat i + 1) = Int.ofNat (i + 1) := wrapA_i64 (by simp; omega) (by simp; omega)
   refine ALp.round (A := twA (itF a b c (toBytes e') (itAs f')) r) (V1 := twV (rowW h A1 A2 A3 Ge R P D RM) (itAs l) t y n (toBytes d) (itAs ks) but (i + 1)) (V2 := twV (rowW h A1 A2 A3 Ge R P D RM) (itAs l) t y n (toBytes d) (itAs ks) but (i + 1)) (F := twF false) (lk := [(0, 0), (1, 1)]) (lk' := []) base0 aidJ_ok (LsOk.no rfl) .refl ?_
   rw [tw_round, hw]
   have hsee : ((((I but = I but ∧ closedA (I but) = true) ∧ (AV.bool false = .bool false ∧ true = true) ∧ (AV.fsl false (itAs l) = .fsl false (itAs l) ∧ closedA (.fsl false (itAs l)) = true) ∧ (I (.ofNat (lenN (itAs l))) = I (.ofNat (lenN (itAs l))) ∧ closedA (I (.ofNat (lenN (itAs l)))) = true) ∧ (I (Int.ofNat (i + 1)) = I (.ofNat (i + 1)) ∧ closedA (I (.ofNat (i + 1))) = true) ∧ True))) := ⟨⟨rfl, rfl⟩, ⟨rfl, rfl⟩, ⟨rfl, hG⟩, ⟨rfl, rfl⟩, ⟨rfl, rfl⟩, trivial⟩
   refine mtB_of (fun _ => ⟨idxI g1, mtB_of (fun e1 => mtB_of (fun e2 => ⟨hs, mtB_of (fun e3 => ?_) (fun _ => ?_)⟩) (fun _ => ?_)) (fun _ => ?_)⟩) (fun e => ?_)
   ·rw [Bool.not_eq_true'] at e1
    rw [e1, e2, e3] at hr; cases hr
   ·exact ⟨⟨hsee, ⟨⟨rfl, rfl⟩, ⟨rfl, rfl⟩, trivial⟩, ⟨rfl, hW⟩, ⟨rfl, hK⟩, trivial⟩, hnext⟩
   ·exact ⟨⟨hsee, ⟨⟨rfl, rfl⟩, ⟨rfl, rfl⟩, trivial⟩, ⟨rfl, hW⟩, ⟨rfl, hK⟩, trivial⟩, hnext⟩
   ·exact ⟨⟨hsee, ⟨⟨rfl, rfl⟩, ⟨rfl, rfl⟩, trivial⟩, ⟨rfl, hW⟩, ⟨rfl, hK⟩, trivial⟩, hnext⟩
   ·have e := ltInt_false.1 e
    simp only [hlen, Int.ofNat_eq_natCast] at e
    omega
theorem tw_at : loopsAt (fnCode Tryz.prog 72) 3 = [lpCode Tryz.prog 72 3] := by kernel_rfl
structure OkG (o : Ob) (k : Kd) : Prop where
 n : (getK o k).length ≤ 1000
 i : ∀ x ∈ getK o k, okI big x
theorem twice_sem {k : Kd} (hk : kdB k = true) {o : Ob} (ho : FitO o) (hg : OkG o k) (v : It) (but : Int) : SC 72 [.agg (rowC k), obA o, itA v, I but] (.bool (twiceK o k v but)) := by
 have hs := get_sem hk ho
 have hcl := closed_roc k o (c := [itA v, I but]) (by simp [closedAll, closed_it, closedA])
 have hW := closed_rowC k
 rw [rowC_get] at hcl hW ⊢
 obtain ⟨t, y, n, d, ks⟩ := v
 rw [itA_F] at hcl ⊢
 have hK : closedAll (itF t y n (toBytes d) (itAs ks)) = true := by have := closed_it (.mk t y n d ks); exact this
 refine fnK_semV (A := aidJ [] [(3, twL (rowW (hdK k) (addK k) (modK k) (remK k) (fnC (gfn k) (gcp k)) (rightF k) (putF k) (dropF k) (roomF k)) (itAs (getK o k)) t y n (toBytes d) (itAs ks) but (twiceK o k (.mk t y n d ks) but))] (fun _ _ _ _ => some (.val (.fsl false (itAs (getK o k))))) [] []) base0 aidJ_ok
  (fnLs_of (LsOk.at1 rfl tw_at fun st Q hs => .seen base0.glob hs.1 (tw_loop hW hg.n hg.i 0 (Nat.zero_le _) hs.2))) hcl rfl ?_
 simp only [obA, obC] at hs ⊢
 rw [tw_fn]
 refine ⟨hs, ⟨⟨⟨rfl, rfl⟩, ⟨rfl, rfl⟩, ⟨rfl, closed_its _⟩, ⟨rfl, rfl⟩, ⟨rfl, rfl⟩, trivial⟩, ⟨⟨rfl, rfl⟩, ⟨rfl, rfl⟩, trivial⟩, ⟨rfl, hW⟩, ⟨rfl, hK⟩, trivial⟩, mtB_of (fun e => by rw [e]) (fun e => by rw [e])⟩
end Go.Proofs.YtjhggnebkfpgcaaGreatDoor
