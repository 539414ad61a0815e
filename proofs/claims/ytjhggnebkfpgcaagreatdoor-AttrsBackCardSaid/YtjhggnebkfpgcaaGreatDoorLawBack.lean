/- AttrsBack: the law's run. -/
import Derived.Test.YtjhggnebkfpgcaaGreatDoorBack
import Derived.Test.YtjhggnebkfpgcaaGreatDoorKno
import Derived.KernelRfl
namespace Go.Proofs.YtjhggnebkfpgcaaGreatDoor
open Go Go.RowKit
open Go.Proofs.Abs
noncomputable def bkS (O P Qo : List AV) (s : List UInt8) (idx t y n : Int) (D K Ls Ms : List AV) (r e : Int) (sm so eq : Bool) : SemT := fun f args h nx => match Nat.beq f 32 with
 | true => match Nat.ble nx 20 with
  | true => some (.val (.fsl false Ls))
  | false => some (.val (.fsl false Ms))
 | false => manyF [(22, fun _ => some (.agg O)), (16, fun _ => some (.agg (.str s :: I idx :: itF t y n D K))), (24, fun _ => some (.tuple [.agg P, I r])), (21, fun _ => some (.bool true)), (33, fun _ => some (.bool sm)), (26, fun _ => some (.bool so)), (30, fun _ => some (.tuple [.agg Qo, I e])), (20, fun _ => some (.bool eq))] f args h nx
noncomputable def bkA (c O P Qo : List AV) (s : List UInt8) (idx t y n : Int) (D K Ls Ms : List AV) (r e : Int) (sm so eq : Bool) : Aid := aidJ [(8, 9, .res (.fptr c 0))] [] (bkS O P Qo s idx t y n D K Ls Ms r e sm so eq) [] []
theorem bk_fn (x z : Rw) (Rs : List AV) (o p q : Ob) (M N L C Mp Np Lp Cp Mq Nq Lq Cq : AV) (s s' : List UInt8) (idx t y n idx' t' y' n' : Int) (D K D' K' Ls Ms : List AV) (r e : Int) (sm so eq : Bool) (Q : AV → Prop) : fnK Tryz.prog opts0 40 (bkA (.str s' :: I idx' :: itF t' y' n' D' K') (obF o M N L C) (obF p Mp Np Lp Cp) (obF q Mq Nq Lq Cq) s idx t y n D K Ls Ms r e sm so eq) 6 [rwA x, .fsl false Rs, rwA z] [] 0 (fun v _ _ => Q v) =
  (SC 22 [AV.agg [I x.1, I x.2, I x.3, I x.4], AV.fsl false Rs] (AV.agg (obF o M N L C)) ∧ oblB (fitsT Tryz.prog 33 (AV.agg (obF o M N L C)) 37) (SC 16 [AV.agg [I z.1, I z.2, I z.3, I z.4]] (AV.agg [AV.str s, I idx, I t, I y, I n, AV.fsl false D, AV.fsl false K]) ∧ SC 32 [AV.agg (obF o M N L C), AV.str s] (AV.fsl false Ls) ∧ SC 24 [AV.agg (obF o M N L C), AV.agg [AV.str s, I (Int.ofNat (lenN Ls)), I t, I y, I n, AV.fsl false D, AV.fsl false K], I 9] (AV.tuple [AV.agg (obF p Mp Np Lp Cp), I r]) ∧ oblB (fitsT Tryz.prog 33 (AV.agg (obF p Mp Np Lp Cp)) 37) (SC 21 [] (AV.bool true) ∧ mtB (!beqInt r 0) (SC 21 [] (AV.bool true) ∧ Q (AV.bool true)) (SC 32 [AV.agg (obF p Mp Np Lp Cp), AV.str s] (AV.fsl false Ms) ∧ mtB (!ltInt (Int.ofNat (lenN Ls)) (Int.ofNat (lenN Ms))) (Q (AV.bool false)) (indexAddrA Tryz.prog 43 (AV.fsl false Ms) (I (Int.ofNat (lenN Ls))) = some (AV.fptr [AV.str s', I idx', I t', I y', I n', AV.fsl false D', AV.fsl false K'] 0) ∧ SC 33 [AV.agg [I t', I y', I n', AV.fsl false D', AV.fsl false K'], AV.agg [I t, I y, I n, AV.fsl false D, AV.fsl false K]] (AV.bool sm) ∧ mtB (!sm) (Q (AV.bool false)) (mtB (!beqInt p.d9.2 9) (Q (AV.bool false)) (SC 26 [AV.agg (obF p Mp Np Lp Cp)] (AV.bool so) ∧ mtB (!so) (Q (AV.bool false)) (SC 30 [AV.agg (obF p Mp Np Lp Cp), AV.str s, I (Int.ofNat (lenN Ls)), I 9] (AV.tuple [AV.agg (obF q Mq Nq Lq Cq), I e]) ∧ oblB (fitsT Tryz.prog 33 (AV.agg (obF q Mq Nq Lq Cq)) 37) (mtB (!beqInt e 0) (mtB (beqBytes s [65, 99, 116, 105, 118, 97, 116, 105, 111, 110, 32, 68, 97, 116, 101]) (Q (AV.bool true)) (Q (AV.bool (beqBytes s [68, 101, 97, 99, 116, 105, 118, 97, 116, 105, 111, 110, 32, 68, 97, 116, 101])))) (SC 20 [AV.agg (obF { q with d9 := ⟨o.d9.1, o.d9.2⟩ } Mq Nq Lq Cq), AV.agg (obF o M N L C)] (AV.bool eq) ∧ Q (AV.bool eq))))))))))) := by kernel_rfl
theorem idxA {f : Bool} {l : List At} {i : Nat} {s : List UInt8} {k t y n : Int} {d : List UInt8} {ks : List It} (hx : l[i]? = some ⟨s, k, .mk t y n d ks⟩) : indexAddrA Tryz.prog 43 (.fsl f (l.map atA)) (.int .i64 (.ofNat i)) = some (.fptr (.str s :: I k :: itF t y n (toBytes d) (itAs ks)) 0) :=
 fsl_index (v := atA ⟨s, k, .mk t y n d ks⟩) (e := 39) (sz := 7) (by kernel_rfl) (by kernel_rfl) (by rw [List.getElem?_map, hx]; rfl) rfl
theorem ob_d9 {q o : Ob} (h : { q with d9 := o.d9 } = o) : obF { q with d9 := o.d9 } (matA q) (namA q) (lnkA q) (cusA q) = obC o := congrArg obC h
set_option maxRecDepth 20000 in
theorem law_sem (x : Rw) (l : List Rw) (z : Rw) : SC 6 [rwA x, .fsl false (l.map rwA), rwA z] (.bool true) := by
 obtain ⟨o, ho, hob⟩ := object_sem x l
 have ok := okay_of ho
 have ha : txI (attrI z).v := value_tx _ _
 have hv : okI big (attrI z).v := value_ok _ _
 have hc := cus_sem _ (ofL_mem nameL [] z.k (by simp [nameL]))
 have hat := attr_sem z
 have hR := closed_rws l
 have hcl : closedAll [rwA x, .fsl false (l.map rwA), rwA z] = true := by simp only [closedAll, closedA, hR, rwA, rwC, Bool.and_self]
 have hs : (attrI z).name = ofL nameL [] z.k := rfl
 rw [← hs] at hc
 revert ha hv hat hc
 generalize attrI z = a
 obtain ⟨s, idx, v⟩ := a
 intro ha hv hc hat
 simp only at ha hv hc
 generalize cusB s = c at hc
 have hof := ofn_sem ok.fit hc ok.g
 have hadd := add_sem (a := ⟨s, .ofNat (ofS c o s).length, v⟩) (now := 9) ok.fit hc ok.g ha
 have haok := add_ok (c := c) (a := ⟨s, .ofNat (ofS c o s).length, v⟩) ok ha 9
 have hlaw := back_law (c := c) (s := s) (v := v) ho.i.z
 have hlen : lenN ((ofS c o s).map atA) = (ofS c o s).length := by rw [lenN_eq, List.length_map]
 have hsame := tsame_sem v v hv
 rw [sameI_refl] at hsame
 revert hadd haok hlaw
 generalize hp : addS c o ⟨s, .ofNat (ofS c o s).length, v⟩ 9 = p
 obtain ⟨p, r⟩ := p
 intro hadd haok hlaw
 simp only at hlaw
 obtain ⟨t, y, n, d, ks⟩ := v
 by_cases hr : r = 0
 ·subst hr
  obtain ⟨p', e1, e2, e3, e4, e5⟩ := hlaw rfl
  obtain rfl : p = p' := (Prod.mk.inj e1).1
  have okp := (haok rfl).1
  have hof2 := ofn_sem okp.fit hc okp.g
  have hso := sound_sem p
  rw [e4] at hso
  have hdel := del_sem (i := .ofNat (ofS c o s).length) (now := 9) okp.fit hc
  have hix := idxA (f := false) e2
  have hlt := (List.getElem?_eq_some_iff.1 e2).1
  have hlen2 : lenN ((ofS c p s).map atA) = (ofS c p s).length := by rw [lenN_eq, List.length_map]
  have h9 : beqInt p.d9.t 9 = true := by rw [e3]; rfl
  have fo := fits_obC o
  have fp := fits_obC p
  rcases e5 with ⟨q, e5, e6⟩ | ⟨e5, e6⟩
  ·rw [e5] at hdel
   have fq := fits_obC q
   refine fnK_semV (A := bkA (.str s :: I (.ofNat (ofS c o s).length) :: itF t y n (toBytes d) (itAs ks)) (obC o) (obC p) (obC q) s idx t y n (toBytes d) (itAs ks) ((ofS c o s).map atA) ((ofS c p s).map atA) 0 0 true true true) base0 aidJ_ok (fnLs_of (LsOk.no rfl)) hcl rfl ?_
   have hsm : SC 20 [.agg (obF { q with d9 := o.d9 } (matA q) (namA q) (lnkA q) (cusA q)), .agg (obC o)] (.bool true) := by
    rw [ob_d9 e6]
    exact osame_sem ok.fit
   simp only [ansA, obA] at hob hof hadd hof2 hso hdel
   simp only [obC] at hob hof hadd hof2 hso hdel hsm fo fp fq ⊢
   rw [bk_fn, hlen, hlen2]
   refine ⟨hob, oblB_of fo ⟨hat, hof, hadd, oblB_of fp ⟨known_sem, mtB_of (fun e => by cases e) (fun _ => ⟨hof2, mtB_of (fun e => ?_) (fun _ => ⟨hix, hsame, mtB_of (fun e => by cases e) (fun _ => mtB_of (fun e => by rw [h9] at e; cases e) (fun _ => ⟨hso, mtB_of (fun e => by cases e) (fun _ => ⟨hdel, oblB_of fq (mtB_of (fun e => by cases e) (fun _ => ⟨hsm, rfl⟩))⟩)⟩))⟩)⟩)⟩⟩⟩
   rw [Bool.not_eq_true'] at e
   have e := ltInt_false.1 e
   simp only [Int.ofNat_eq_natCast] at e
   omega
  ·rw [e5] at hdel
   have fq := fits_obC zO
   refine fnK_semV (A := bkA (.str s :: I (.ofNat (ofS c o s).length) :: itF t y n (toBytes d) (itAs ks)) (obC o) (obC p) (obC zO) s idx t y n (toBytes d) (itAs ks) ((ofS c o s).map atA) ((ofS c p s).map atA) 0 7 true true true) base0 aidJ_ok (fnLs_of (LsOk.no rfl)) hcl rfl ?_
   simp only [ansA, obA] at hob hof hadd hof2 hso hdel
   simp only [obC] at hob hof hadd hof2 hso hdel fo fp fq ⊢
   rw [bk_fn, hlen, hlen2]
   refine ⟨hob, oblB_of fo ⟨hat, hof, hadd, oblB_of fp ⟨known_sem, mtB_of (fun e => by cases e) (fun _ => ⟨hof2, mtB_of (fun e => ?_) (fun _ => ⟨hix, hsame, mtB_of (fun e => by cases e) (fun _ => mtB_of (fun e => by rw [h9] at e; cases e) (fun _ => ⟨hso, mtB_of (fun e => by cases e) (fun _ => ⟨hdel, oblB_of fq (mtB_of (fun _ => mtB_of (fun _ => rfl) (fun e => ?_)) (fun e => by cases e))⟩)⟩))⟩)⟩)⟩⟩⟩
   ·rw [Bool.not_eq_true'] at e
    have e := ltInt_false.1 e
    simp only [Int.ofNat_eq_natCast] at e
    omega
   ·rcases e6 with e6 | e6
    ·rw [e6] at e; cases e
    ·rw [e6]; rfl
 ·have hr0 : beqInt r 0 = false := by
   cases hb : beqInt r 0 with
   | false => rfl
   | true => exact absurd (beqInt_iff.1 hb) hr
  have fo := fits_obC o
  have fp := fits_obC p
  refine fnK_semV (A := bkA (.str s :: I 0 :: itF t y n (toBytes d) (itAs ks)) (obC o) (obC p) (obC p) s idx t y n (toBytes d) (itAs ks) ((ofS c o s).map atA) [] r 7 true true true) base0 aidJ_ok (fnLs_of (LsOk.no rfl)) hcl rfl ?_
  simp only [ansA, obA] at hob hof hadd
  simp only [obC] at hob hof hadd fo fp ⊢
  rw [bk_fn, hlen]
  exact ⟨hob, oblB_of fo ⟨hat, hof, hadd, oblB_of fp ⟨known_sem, mtB_of (fun _ => ⟨known_sem, rfl⟩) (fun e => by rw [hr0] at e; cases e)⟩⟩⟩
end Go.Proofs.YtjhggnebkfpgcaaGreatDoor
