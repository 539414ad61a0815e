/- All attributes, as the product tells them. -/
import Derived.Test.YtjhggnebkfpgcaaGreatDoorAllW
import Derived.KernelRfl
namespace Go.Proofs.YtjhggnebkfpgcaaGreatDoor
set_option maxRecDepth 20000
open Go Go.RowKit
open Go.Proofs.Abs
theorem allSize_at : ∀ l : List At, allSize 7 (l.map atA) = true
 | [] => rfl
 | ⟨_, _, ⟨_, _, _, _, _⟩⟩ :: r => by
  rw [List.map_cons, allSize, allSize_at r]
  rfl
theorem allOne_at : ∀ l : List At, allOne (flat (l.map atA)) = true
  | [] => rfl
  | ⟨_, _, ⟨_, _, _, _, _⟩⟩ :: r => by
    rw [List.map_cons, flat, allOne_append, allOne_at r]
    rfl
 where
  allOne_append : ∀ {l r : List AV}, allOne (l ++ r) = (allOne l && allOne r)
    | [], _ => rfl
    | a :: t, r => by rw [List.cons_append, allOne, allOne, allOne_append, Bool.and_assoc]
theorem stdT_app (o : Ob) : ∀ l r : List Kd, stdT o (l ++ r) = stdT o l ++ stdT o r
 | [], _ => rfl
 | a :: t, r => by rw [List.cons_append, stdT, stdT, stdT_app o t r, List.append_assoc]
theorem stdT_one (o : Ob) (k : Kd) : stdT o [k] = tellL (nameK k) (getK o k) 0 := by rw [stdT, stdT, List.append_nil]
theorem stdT_len {o : Ob} (hg : ∀ k, OkG o k) : ∀ l : List Kd, (stdT o l).length ≤ 1000 * l.length
 | [] => Nat.le_refl _
 | a :: t => by
  have := stdT_len hg t
  have h := (hg a).n
  rw [stdT, List.length_append, tell_length, List.length_cons]
  omega
theorem idxKd {i : Nat} {k : Kd} (h : kinds[i]? = some k) : indexAddrA Tryz.prog 132 (.fsl true (kinds.map rowA)) (.int .i64 (.ofNat i)) = some (.fptr (rowC k) 0) :=
 fsl_index (v := rowA k) (e := 89) (sz := 12) (by kernel_rfl) (by kernel_rfl) (by rw [List.getElem?_map, h]; rfl) rfl
theorem closed_kinds : closedAll (kinds.map rowA) = true := by kernel_rfl
theorem al_loop1 {o : Ob} (ho : FitO o) (hg : ∀ k, OkG o k) {Q : AExit → St → Prop} (hq : Q (.exit 0) (alV1 (.ofNat 20) (stdT o kinds).length (kinds.map rowA) (obC o) (flat ((stdT o kinds).map atA))).st) :
  ∀ m i : Nat, i + m = 20 → ALp Tryz.prog opts0.glob 0 (lpCode Tryz.prog 40 4) (alV1 (.ofNat i) (stdT o (kinds.take i)).length (kinds.map rowA) (obC o) (flat ((stdT o (kinds.take i)).map atA))).st Q := by
 have hO := closed_obC o
 have hK := closed_kinds
 intro m
 induction m with
 | zero =>
  intro i hi
  rw [Nat.add_zero] at hi
  subst hi
  rw [show kinds.take 20 = kinds from rfl]
  refine ALp.round (A := alA (rowC .uid) []) (V1 := alV1 0 0 (kinds.map rowA) (obC o) []) (V2 := alV1 0 0 (kinds.map rowA) (obC o) []) (F := alV1 (.ofNat 20) (stdT o kinds).length (kinds.map rowA) (obC o) (flat ((stdT o kinds).map atA))) (lk := [(0, 0), (1, 11)]) (lk' := [(0, 0), (1, 1)]) base0 aidJ_ok (LsOk.no rfl) .refl ?_
  rw [rowC_eq]
  unfold obC at hO hq ⊢
  rw [al_r1]
  exact mtB_of (fun e => by cases e) fun _ => ⟨⟨⟨⟨rfl, hK⟩, ⟨rfl, rfl⟩, ⟨rfl, rfl⟩, trivial⟩, ⟨⟨rfl, rfl⟩, ⟨rfl, rfl, rfl, rfl, rfl⟩, trivial⟩, ⟨rfl, hO⟩, ⟨rfl, closed_fat _⟩, trivial⟩, hq⟩
 | succ m ih =>
  intro i hi
  have h20 : i < kinds.length := by show i < 20; omega
  have g := List.getElem?_eq_getElem h20
  have ih := ih (i + 1) (by omega)
  have hmem := List.getElem_mem h20
  rw [take_snoc g, stdT_app, stdT_one] at ih
  revert g ih hmem
  generalize kinds[i] = k
  intro g ih hmem
  have hof := of_sem ((by decide : ∀ k ∈ kinds, kdB k = true) k hmem) ho (hg k)
  have hfit := fits_row k
  have hix := idxKd g
  have hls := tell_length (nameK k) (getK o k) 0
  have hn := (hg k).n
  have hsl := stdT_len hg (kinds.take i)
  have htl : (kinds.take i).length ≤ 20 := List.length_take_le' i kinds
  have hw : wrapA .i64 (Int.ofNat i + 1) = Int.ofNat (i + 1) := wrapA_i64 (by simp; omega) (by simp; omega)
  revert hof ih hls
  generalize tellL (nameK k) (getK o k) 0 = ls
  intro ih hof hls
  rw [List.length_append, List.map_append, flat_append] at ih
  revert ih hsl
  generalize stdT o (kinds.take i) = pre
  intro hsl ih
  refine ALp.round (A := alA (rowC k) (ls.map atA)) (V1 := alV1 (.ofNat (i + 1)) (pre.length + ls.length) (kinds.map rowA) (obC o) (flat (pre.map atA) ++ flat (ls.map atA))) (V2 := alV1 (.ofNat (i + 1)) (pre.length + ls.length) (kinds.map rowA) (obC o) (flat (pre.map atA) ++ flat (ls.map atA))) (F := alV1 (.ofNat i) pre.length (kinds.map rowA) (obC o) (flat (pre.map atA))) (lk := [(0, 0), (1, 11)]) (lk' := [(0, 0), (1, 1)]) base0 aidJ_ok (LsOk.no rfl) .refl ?_
  rw [rowC_eq] at hof hfit hix ⊢
  simp only [obA] at hof
  unfold obC at hO hof ih ⊢
  rw [al_r1, hw]
  refine mtB_of (fun _ => ⟨hix, oblB_of hfit ⟨hof, oblB_of ?_ (oblB_of ?_ ⟨⟨⟨⟨rfl, hK⟩, ⟨rfl, rfl⟩, ⟨rfl, rfl⟩, trivial⟩, ⟨⟨rfl, rfl⟩, ⟨rfl, rfl, rfl, ?_, rfl⟩, trivial⟩, ⟨rfl, hO⟩, ⟨rfl, ?_⟩, trivial⟩, ih⟩)⟩⟩) (fun e => ?_)
  ·rw [allSize_at, allOne_at, lenN_eq, List.length_map]
   simp only [Bool.true_and, Bool.and_true, Nat.ble_eq]
   omega
  ·rw [beq_iff, lenN_eq, flat_at]
  ·rw [lenN_eq, List.length_map]
  ·rw [closedAll_append, closed_fat, closed_fat]; rfl
  ·have e := ltInt_false.1 e
   simp only [Int.ofNat_eq_natCast] at e
   omega
theorem al_loop0 {o : Ob} (ho : FitO o) (hg : ∀ k, OkG o k) {Q : AExit → St → Prop} (hq : Q (.exit 0) (alV1 (.ofNat 20) (stdT o kinds).length (kinds.map rowA) (obC o) (flat ((stdT o kinds).map atA))).st) :
  ALp Tryz.prog opts0.glob 0 (lpCode Tryz.prog 40 4) (alV0 (kinds.map rowA) (obC o)).st Q := by
 have hO := closed_obC o
 have hK := closed_kinds
 have hof := of_sem (k := .uid) rfl ho (hg .uid)
 have hfit := fits_row .uid
 have hix := idxKd (i := 0) (k := .uid) rfl
 have h1 := al_loop1 ho hg hq 19 1 rfl
 refine ALp.round (A := alA (rowC .uid) ((tellL (nameK .uid) (getK o .uid) 0).map atA)) (V1 := alV1 (.ofNat 1) (stdT o (kinds.take 1)).length (kinds.map rowA) (obC o) (flat ((stdT o (kinds.take 1)).map atA))) (V2 := alV1 (.ofNat 1) (stdT o (kinds.take 1)).length (kinds.map rowA) (obC o) (flat ((stdT o (kinds.take 1)).map atA))) (F := alV0 (kinds.map rowA) (obC o)) (lk := [(0, 0), (1, 10)]) (lk' := [(0, 0)]) base0 aidJ_ok (LsOk.no rfl) .refl ?_
 rw [rowC_eq] at hof hfit hix ⊢
 simp only [obA] at hof
 rw [show (tellL (nameK .uid) (getK o .uid) 0).map atA = [atA ⟨nameK .uid, .ofNat 0, txt o.id⟩] from rfl] at hof ⊢
 unfold obC at hO hof h1 ⊢
 rw [al_r0]
 exact ⟨hix, oblB_of hfit ⟨hof, oblB_of rfl ⟨⟨⟨⟨rfl, hK⟩, ⟨rfl, rfl⟩, ⟨rfl, rfl⟩, trivial⟩, ⟨⟨rfl, rfl⟩, ⟨rfl, rfl, rfl, rfl, rfl⟩, trivial⟩, ⟨rfl, hO⟩, ⟨rfl, closed_fat _⟩, trivial⟩, h1⟩⟩⟩
def rawC (c : Cu) (n : Nat) : AV := .agg [.str c.name, I (.ofNat n), I 4325387, I 7, I 0, .fsl false (toBytes c.text), .nilsl]
def cusR : List Cu → List Cu → List AV
 | _, [] => []
 | pre, c :: r => rawC c (cntC c.name pre) :: cusR (pre ++ [c]) r
theorem cusR_snoc (c : Cu) : ∀ (l q : List Cu), cusR q (l ++ [c]) = cusR q l ++ [rawC c (cntC c.name (q ++ l))]
 | [], q => by rw [List.append_nil]; rfl
 | a :: r, q => by
  have ih := cusR_snoc c r (q ++ [a])
  rw [List.append_assoc, List.singleton_append] at ih
  rw [List.cons_append, cusR, cusR, ih, List.cons_append]
theorem cusR_len : ∀ (l q : List Cu), (cusR q l).length = l.length
 | [], _ => rfl
 | a :: r, q => by rw [cusR, List.length_cons, List.length_cons, cusR_len r]
theorem closed_cusR : ∀ (l q : List Cu), closedAll (cusR q l) = true
 | [], _ => rfl
 | a :: r, q => by
  rw [cusR, closedAll, closed_cusR r]
  simp [rawC, closedA, closedAll]
theorem good_cusR : ∀ (l q : List Cu), ∀ e ∈ cusR q l, goodEl 7 e
 | [], _, _, h => by cases h
 | a :: r, q, e, h => by
  rcases List.mem_cons.1 h with h | h
  ·subst h; exact ⟨rfl, rfl⟩
  ·exact good_cusR r _ e h
theorem closed_fcusR : ∀ (l q : List Cu), closedAll (flat (cusR q l)) = true
 | [], _ => rfl
 | a :: r, q => by
  rw [cusR, flat, closedAll_append, closed_fcusR r]
  simp [rawC, AV.cells, closedA, closedAll]
theorem len_fcusR : ∀ (l q : List Cu), (flat (cusR q l)).length = l.length * 7
 | [], _ => rfl
 | a :: r, q => by
  rw [cusR, flat, List.length_append, len_fcusR r, List.length_cons]
  simp [rawC, AV.cells]
  omega
theorem wk_cusR : ∀ (l q : List Cu), WkE (cusR q l) ((cusTl q l).map atA)
 | [], _ => .nil
 | a :: r, q => by
  rw [cusR, cusTl, List.map_cons]
  refine WkE.consA ?_ (wk_cusR r _)
  simp only [txt, vlV]
  (repeat (first | exact Wk.refl _ | exact WkL.refl _ | exact Wk.nil | exact Wk.row | exact WkE.refl _ | exact WkL.nil | exact WkE.nil | apply Wk.agg | apply Wk.tuple | apply WkL.cons | apply Wk.rows | apply WkE.consA))
theorem wkE_app {a b : List AV} (h : WkE a b) : ∀ l : List AV, WkE (l ++ a) (l ++ b)
 | [] => h
 | _x :: t => .cons (.refl _) (wkE_app h t)
inductive MpOk (pre : List Cu) : Blk → Prop
 | m (hp : cntC [120, 45, 97] pre = 0) (hq : cntC [120, 45, 98] pre = 0) : MpOk pre (.mapb 0 [] [])
 | ma (p : Nat) (hp : cntC [120, 45, 97] pre = p) (hq : cntC [120, 45, 98] pre = 0) : MpOk pre (.mapb 1 [0] [(.str [120, 45, 97], I (.ofNat p))])
 | mb (p : Nat) (hp : cntC [120, 45, 98] pre = p) (hq : cntC [120, 45, 97] pre = 0) : MpOk pre (.mapb 1 [0] [(.str [120, 45, 98], I (.ofNat p))])
 | mab (p q : Nat) (hp : cntC [120, 45, 97] pre = p) (hq : cntC [120, 45, 98] pre = q) : MpOk pre (.mapb 2 [0, 1] [(.str [120, 45, 97], I (.ofNat p)), (.str [120, 45, 98], I (.ofNat q))])
 | mba (p q : Nat) (hp : cntC [120, 45, 98] pre = p) (hq : cntC [120, 45, 97] pre = q) : MpOk pre (.mapb 2 [0, 1] [(.str [120, 45, 98], I (.ofNat p)), (.str [120, 45, 97], I (.ofNat q))])
theorem idxCu {C : List Cu} {i : Nat} {c : Cu} (h : C[i]? = some c) : indexAddrA Tryz.prog 29 (.fsl false (C.map cuA)) (.int .i64 (.ofNat i)) = some (.fptr [.str c.name, .str c.text] 0) :=
 fsl_index (v := cuA c) (e := 101) (sz := 2) (by kernel_rfl) (by kernel_rfl) (by rw [List.getElem?_map, h]; rfl) rfl
theorem wr_nat {p : Nat} (h : p ≤ 1000) : wrapA .i64 (Int.ofNat p + 1) = Int.ofNat (p + 1) := wrapA_i64 (by simp; omega) (by simp; omega)
theorem closed_es {es : List AV} {c : Cu} {n : Nat} (h : closedAll es = true) : closedAll (es ++ flat [rawC c n]) = true := by
 rw [closedAll_append, h]
 simp [rawC, flat, AV.cells, closedA, closedAll]
theorem lt_no {i n : Nat} (h : i < n) : ¬ ltInt (Int.ofNat i) (Int.ofNat n) = false := fun e => by
 have e := ltInt_false.1 e
 simp only [Int.ofNat_eq_natCast] at e
 omega
section
variable {o : Ob} {C : List Cu} {i k : Nat} {t : List UInt8} {es : List AV} {Q : AExit → St → Prop}
theorem st__a (g : C[i]? = some ⟨[120, 45, 97], t⟩) (hi : i ≤ 900) (hk : k ≤ 30000) (he : es.length = k * 7) (hes : closedAll es = true)
  (hn : ALp Tryz.prog opts0.glob 0 (lpCode Tryz.prog 40 10) (auV (.ofNat C.length) (.ofNat (i + 1)) (k + 1) (C.map cuA) (obC o) (es ++ flat [rawC ⟨[120, 45, 97], t⟩ 0]) (.mapb 1 [0] [(.str [120, 45, 97], I (.ofNat 1))])).st Q) :
  ALp Tryz.prog opts0.glob 0 (lpCode Tryz.prog 40 10) (auV (.ofNat C.length) (.ofNat i) k (C.map cuA) (obC o) es (.mapb 0 [] [])).st Q := by
 have hO := closed_obC o
 have hix := idxCu g
 have hlt := (List.getElem?_eq_some_iff.1 g).1
 have hC := closed_cus C
 refine ALp.round (A := auA [120, 45, 97] t) (V1 := auV (.ofNat C.length) (.ofNat (i + 1)) (k + 1) (C.map cuA) (obC o) (es ++ flat [rawC ⟨[120, 45, 97], t⟩ 0]) (.mapb 1 [0] [(.str [120, 45, 97], I (.ofNat 1))])) (V2 := auV (.ofNat C.length) (.ofNat (i + 1)) (k + 1) (C.map cuA) (obC o) (es ++ flat [rawC ⟨[120, 45, 97], t⟩ 0]) (.mapb 1 [0] [(.str [120, 45, 97], I (.ofNat 1))])) (F := auF k es) (lk := [(0, 0), (1, 20), (2, 2)]) (lk' := [(0, 1)]) base0 aidJ_ok (LsOk.no rfl) .refl ?_
 unfold obC at hO hn ⊢
 rw [au__a, wr_nat (p := i) (by omega)]
 refine mtB_of (fun _ => ⟨hix, oblB_of ?_ (oblB_of ?_ ⟨⟨⟨⟨rfl, hC⟩, ⟨rfl, rfl⟩, ⟨rfl, rfl⟩, trivial⟩, ⟨⟨rfl, rfl⟩, ⟨rfl, rfl, rfl, rfl, rfl⟩, rfl, trivial⟩, ⟨rfl, hO⟩, ⟨rfl, closed_es hes⟩, ⟨⟨rfl, rfl, rfl⟩, rfl⟩, trivial⟩, hn⟩)⟩) (fun e => absurd e (lt_no hlt))
 ·simp [allSize, allOne, flat, AV.cells, lenN]; exact ⟨by omega, rfl⟩
 ·rw [beq_iff, lenN_eq, he]
theorem st__b (g : C[i]? = some ⟨[120, 45, 98], t⟩) (hi : i ≤ 900) (hk : k ≤ 30000) (he : es.length = k * 7) (hes : closedAll es = true)
  (hn : ALp Tryz.prog opts0.glob 0 (lpCode Tryz.prog 40 10) (auV (.ofNat C.length) (.ofNat (i + 1)) (k + 1) (C.map cuA) (obC o) (es ++ flat [rawC ⟨[120, 45, 98], t⟩ 0]) (.mapb 1 [0] [(.str [120, 45, 98], I (.ofNat 1))])).st Q) :
  ALp Tryz.prog opts0.glob 0 (lpCode Tryz.prog 40 10) (auV (.ofNat C.length) (.ofNat i) k (C.map cuA) (obC o) es (.mapb 0 [] [])).st Q := by
 have hO := closed_obC o
 have hix := idxCu g
 have hlt := (List.getElem?_eq_some_iff.1 g).1
 have hC := closed_cus C
 refine ALp.round (A := auA [120, 45, 98] t) (V1 := auV (.ofNat C.length) (.ofNat (i + 1)) (k + 1) (C.map cuA) (obC o) (es ++ flat [rawC ⟨[120, 45, 98], t⟩ 0]) (.mapb 1 [0] [(.str [120, 45, 98], I (.ofNat 1))])) (V2 := auV (.ofNat C.length) (.ofNat (i + 1)) (k + 1) (C.map cuA) (obC o) (es ++ flat [rawC ⟨[120, 45, 98], t⟩ 0]) (.mapb 1 [0] [(.str [120, 45, 98], I (.ofNat 1))])) (F := auF k es) (lk := [(0, 0), (1, 20), (2, 2)]) (lk' := [(0, 1)]) base0 aidJ_ok (LsOk.no rfl) .refl ?_
 unfold obC at hO hn ⊢
 rw [au__b, wr_nat (p := i) (by omega)]
 refine mtB_of (fun _ => ⟨hix, oblB_of ?_ (oblB_of ?_ ⟨⟨⟨⟨rfl, hC⟩, ⟨rfl, rfl⟩, ⟨rfl, rfl⟩, trivial⟩, ⟨⟨rfl, rfl⟩, ⟨rfl, rfl, rfl, rfl, rfl⟩, rfl, trivial⟩, ⟨rfl, hO⟩, ⟨rfl, closed_es hes⟩, ⟨⟨rfl, rfl, rfl⟩, rfl⟩, trivial⟩, hn⟩)⟩) (fun e => absurd e (lt_no hlt))
 ·simp [allSize, allOne, flat, AV.cells, lenN]; exact ⟨by omega, rfl⟩
 ·rw [beq_iff, lenN_eq, he]
theorem st_a_a {p : Nat} (hp : p ≤ 900) (g : C[i]? = some ⟨[120, 45, 97], t⟩) (hi : i ≤ 900) (hk : k ≤ 30000) (he : es.length = k * 7) (hes : closedAll es = true)
  (hn : ALp Tryz.prog opts0.glob 0 (lpCode Tryz.prog 40 10) (auV (.ofNat C.length) (.ofNat (i + 1)) (k + 1) (C.map cuA) (obC o) (es ++ flat [rawC ⟨[120, 45, 97], t⟩ p]) (.mapb 1 [0] [(.str [120, 45, 97], I (.ofNat (p + 1)))])).st Q) :
  ALp Tryz.prog opts0.glob 0 (lpCode Tryz.prog 40 10) (auV (.ofNat C.length) (.ofNat i) k (C.map cuA) (obC o) es (.mapb 1 [0] [(.str [120, 45, 97], I (.ofNat p))])).st Q := by
 have hO := closed_obC o
 have hix := idxCu g
 have hlt := (List.getElem?_eq_some_iff.1 g).1
 have hC := closed_cus C
 refine ALp.round (A := auA [120, 45, 97] t) (V1 := auV (.ofNat C.length) (.ofNat (i + 1)) (k + 1) (C.map cuA) (obC o) (es ++ flat [rawC ⟨[120, 45, 97], t⟩ p]) (.mapb 1 [0] [(.str [120, 45, 97], I (.ofNat (p + 1)))])) (V2 := auV (.ofNat C.length) (.ofNat (i + 1)) (k + 1) (C.map cuA) (obC o) (es ++ flat [rawC ⟨[120, 45, 97], t⟩ p]) (.mapb 1 [0] [(.str [120, 45, 97], I (.ofNat (p + 1)))])) (F := auF k es) (lk := [(0, 0), (1, 20), (2, 2)]) (lk' := [(0, 1)]) base0 aidJ_ok (LsOk.no rfl) .refl ?_
 unfold obC at hO hn ⊢
 rw [au_a_a, wr_nat (p := i) (by omega), wr_nat (p := p) (by omega)]
 refine mtB_of (fun _ => ⟨hix, oblB_of ?_ (oblB_of ?_ ⟨⟨⟨⟨rfl, hC⟩, ⟨rfl, rfl⟩, ⟨rfl, rfl⟩, trivial⟩, ⟨⟨rfl, rfl⟩, ⟨rfl, rfl, rfl, rfl, rfl⟩, rfl, trivial⟩, ⟨rfl, hO⟩, ⟨rfl, closed_es hes⟩, ⟨⟨rfl, rfl, rfl⟩, rfl⟩, trivial⟩, hn⟩)⟩) (fun e => absurd e (lt_no hlt))
 ·simp [allSize, allOne, flat, AV.cells, lenN]; exact ⟨by omega, rfl⟩
 ·rw [beq_iff, lenN_eq, he]
theorem st_a_b {p : Nat} (_hp : p ≤ 900) (g : C[i]? = some ⟨[120, 45, 98], t⟩) (hi : i ≤ 900) (hk : k ≤ 30000) (he : es.length = k * 7) (hes : closedAll es = true)
  (hn : ALp Tryz.prog opts0.glob 0 (lpCode Tryz.prog 40 10) (auV (.ofNat C.length) (.ofNat (i + 1)) (k + 1) (C.map cuA) (obC o) (es ++ flat [rawC ⟨[120, 45, 98], t⟩ 0]) (.mapb 2 [0, 1] [(.str [120, 45, 97], I (.ofNat p)), (.str [120, 45, 98], I (.ofNat 1))])).st Q) :
  ALp Tryz.prog opts0.glob 0 (lpCode Tryz.prog 40 10) (auV (.ofNat C.length) (.ofNat i) k (C.map cuA) (obC o) es (.mapb 1 [0] [(.str [120, 45, 97], I (.ofNat p))])).st Q := by
 have hO := closed_obC o
 have hix := idxCu g
 have hlt := (List.getElem?_eq_some_iff.1 g).1
 have hC := closed_cus C
 refine ALp.round (A := auA [120, 45, 98] t) (V1 := auV (.ofNat C.length) (.ofNat (i + 1)) (k + 1) (C.map cuA) (obC o) (es ++ flat [rawC ⟨[120, 45, 98], t⟩ 0]) (.mapb 2 [0, 1] [(.str [120, 45, 97], I (.ofNat p)), (.str [120, 45, 98], I (.ofNat 1))])) (V2 := auV (.ofNat C.length) (.ofNat (i + 1)) (k + 1) (C.map cuA) (obC o) (es ++ flat [rawC ⟨[120, 45, 98], t⟩ 0]) (.mapb 2 [0, 1] [(.str [120, 45, 97], I (.ofNat p)), (.str [120, 45, 98], I (.ofNat 1))])) (F := auF k es) (lk := [(0, 0), (1, 20), (2, 2)]) (lk' := [(0, 1)]) base0 aidJ_ok (LsOk.no rfl) .refl ?_
 unfold obC at hO hn ⊢
 rw [au_a_b, wr_nat (p := i) (by omega)]
 refine mtB_of (fun _ => ⟨hix, oblB_of ?_ (oblB_of ?_ ⟨⟨⟨⟨rfl, hC⟩, ⟨rfl, rfl⟩, ⟨rfl, rfl⟩, trivial⟩, ⟨⟨rfl, rfl⟩, ⟨rfl, rfl, rfl, rfl, rfl⟩, rfl, trivial⟩, ⟨rfl, hO⟩, ⟨rfl, closed_es hes⟩, ⟨⟨rfl, rfl, rfl⟩, rfl⟩, trivial⟩, hn⟩)⟩) (fun e => absurd e (lt_no hlt))
 ·simp [allSize, allOne, flat, AV.cells, lenN]; exact ⟨by omega, rfl⟩
 ·rw [beq_iff, lenN_eq, he]
theorem st_b_a {p : Nat} (_hp : p ≤ 900) (g : C[i]? = some ⟨[120, 45, 97], t⟩) (hi : i ≤ 900) (hk : k ≤ 30000) (he : es.length = k * 7) (hes : closedAll es = true)
  (hn : ALp Tryz.prog opts0.glob 0 (lpCode Tryz.prog 40 10) (auV (.ofNat C.length) (.ofNat (i + 1)) (k + 1) (C.map cuA) (obC o) (es ++ flat [rawC ⟨[120, 45, 97], t⟩ 0]) (.mapb 2 [0, 1] [(.str [120, 45, 98], I (.ofNat p)), (.str [120, 45, 97], I (.ofNat 1))])).st Q) :
  ALp Tryz.prog opts0.glob 0 (lpCode Tryz.prog 40 10) (auV (.ofNat C.length) (.ofNat i) k (C.map cuA) (obC o) es (.mapb 1 [0] [(.str [120, 45, 98], I (.ofNat p))])).st Q := by
 have hO := closed_obC o
 have hix := idxCu g
 have hlt := (List.getElem?_eq_some_iff.1 g).1
 have hC := closed_cus C
 refine ALp.round (A := auA [120, 45, 97] t) (V1 := auV (.ofNat C.length) (.ofNat (i + 1)) (k + 1) (C.map cuA) (obC o) (es ++ flat [rawC ⟨[120, 45, 97], t⟩ 0]) (.mapb 2 [0, 1] [(.str [120, 45, 98], I (.ofNat p)), (.str [120, 45, 97], I (.ofNat 1))])) (V2 := auV (.ofNat C.length) (.ofNat (i + 1)) (k + 1) (C.map cuA) (obC o) (es ++ flat [rawC ⟨[120, 45, 97], t⟩ 0]) (.mapb 2 [0, 1] [(.str [120, 45, 98], I (.ofNat p)), (.str [120, 45, 97], I (.ofNat 1))])) (F := auF k es) (lk := [(0, 0), (1, 20), (2, 2)]) (lk' := [(0, 1)]) base0 aidJ_ok (LsOk.no rfl) .refl ?_
 unfold obC at hO hn ⊢
 rw [au_b_a, wr_nat (p := i) (by omega)]
 refine mtB_of (fun _ => ⟨hix, oblB_of ?_ (oblB_of ?_ ⟨⟨⟨⟨rfl, hC⟩, ⟨rfl, rfl⟩, ⟨rfl, rfl⟩, trivial⟩, ⟨⟨rfl, rfl⟩, ⟨rfl, rfl, rfl, rfl, rfl⟩, rfl, trivial⟩, ⟨rfl, hO⟩, ⟨rfl, closed_es hes⟩, ⟨⟨rfl, rfl, rfl⟩, rfl⟩, trivial⟩, hn⟩)⟩) (fun e => absurd e (lt_no hlt))
 ·simp [allSize, allOne, flat, AV.cells, lenN]; exact ⟨by omega, rfl⟩
 ·rw [beq_iff, lenN_eq, he]
theorem st_b_b {p : Nat} (hp : p ≤ 900) (g : C[i]? = some ⟨[120, 45, 98], t⟩) (hi : i ≤ 900) (hk : k ≤ 30000) (he : es.length = k * 7) (hes : closedAll es = true)
  (hn : ALp Tryz.prog opts0.glob 0 (lpCode Tryz.prog 40 10) (auV (.ofNat C.length) (.ofNat (i + 1)) (k + 1) (C.map cuA) (obC o) (es ++ flat [rawC ⟨[120, 45, 98], t⟩ p]) (.mapb 1 [0] [(.str [120, 45, 98], I (.ofNat (p + 1)))])).st Q) :
  ALp Tryz.prog opts0.glob 0 (lpCode Tryz.prog 40 10) (auV (.ofNat C.length) (.ofNat i) k (C.map cuA) (obC o) es (.mapb 1 [0] [(.str [120, 45, 98], I (.ofNat p))])).st Q := by
 have hO := closed_obC o
 have hix := idxCu g
 have hlt := (List.getElem?_eq_some_iff.1 g).1
 have hC := closed_cus C
 refine ALp.round (A := auA [120, 45, 98] t) (V1 := auV (.ofNat C.length) (.ofNat (i + 1)) (k + 1) (C.map cuA) (obC o) (es ++ flat [rawC ⟨[120, 45, 98], t⟩ p]) (.mapb 1 [0] [(.str [120, 45, 98], I (.ofNat (p + 1)))])) (V2 := auV (.ofNat C.length) (.ofNat (i + 1)) (k + 1) (C.map cuA) (obC o) (es ++ flat [rawC ⟨[120, 45, 98], t⟩ p]) (.mapb 1 [0] [(.str [120, 45, 98], I (.ofNat (p + 1)))])) (F := auF k es) (lk := [(0, 0), (1, 20), (2, 2)]) (lk' := [(0, 1)]) base0 aidJ_ok (LsOk.no rfl) .refl ?_
 unfold obC at hO hn ⊢
 rw [au_b_b, wr_nat (p := i) (by omega), wr_nat (p := p) (by omega)]
 refine mtB_of (fun _ => ⟨hix, oblB_of ?_ (oblB_of ?_ ⟨⟨⟨⟨rfl, hC⟩, ⟨rfl, rfl⟩, ⟨rfl, rfl⟩, trivial⟩, ⟨⟨rfl, rfl⟩, ⟨rfl, rfl, rfl, rfl, rfl⟩, rfl, trivial⟩, ⟨rfl, hO⟩, ⟨rfl, closed_es hes⟩, ⟨⟨rfl, rfl, rfl⟩, rfl⟩, trivial⟩, hn⟩)⟩) (fun e => absurd e (lt_no hlt))
 ·simp [allSize, allOne, flat, AV.cells, lenN]; exact ⟨by omega, rfl⟩
 ·rw [beq_iff, lenN_eq, he]
theorem st_ab_a {p q : Nat} (hp : p ≤ 900) (_hq : q ≤ 900) (g : C[i]? = some ⟨[120, 45, 97], t⟩) (hi : i ≤ 900) (hk : k ≤ 30000) (he : es.length = k * 7) (hes : closedAll es = true)
  (hn : ALp Tryz.prog opts0.glob 0 (lpCode Tryz.prog 40 10) (auV (.ofNat C.length) (.ofNat (i + 1)) (k + 1) (C.map cuA) (obC o) (es ++ flat [rawC ⟨[120, 45, 97], t⟩ p]) (.mapb 2 [0, 1] [(.str [120, 45, 97], I (.ofNat (p + 1))), (.str [120, 45, 98], I (.ofNat q))])).st Q) :
  ALp Tryz.prog opts0.glob 0 (lpCode Tryz.prog 40 10) (auV (.ofNat C.length) (.ofNat i) k (C.map cuA) (obC o) es (.mapb 2 [0, 1] [(.str [120, 45, 97], I (.ofNat p)), (.str [120, 45, 98], I (.ofNat q))])).st Q := by
 have hO := closed_obC o
 have hix := idxCu g
 have hlt := (List.getElem?_eq_some_iff.1 g).1
 have hC := closed_cus C
 refine ALp.round (A := auA [120, 45, 97] t) (V1 := auV (.ofNat C.length) (.ofNat (i + 1)) (k + 1) (C.map cuA) (obC o) (es ++ flat [rawC ⟨[120, 45, 97], t⟩ p]) (.mapb 2 [0, 1] [(.str [120, 45, 97], I (.ofNat (p + 1))), (.str [120, 45, 98], I (.ofNat q))])) (V2 := auV (.ofNat C.length) (.ofNat (i + 1)) (k + 1) (C.map cuA) (obC o) (es ++ flat [rawC ⟨[120, 45, 97], t⟩ p]) (.mapb 2 [0, 1] [(.str [120, 45, 97], I (.ofNat (p + 1))), (.str [120, 45, 98], I (.ofNat q))])) (F := auF k es) (lk := [(0, 0), (1, 20), (2, 2)]) (lk' := [(0, 1)]) base0 aidJ_ok (LsOk.no rfl) .refl ?_
 unfold obC at hO hn ⊢
 rw [au_ab_a, wr_nat (p := i) (by omega), wr_nat (p := p) (by omega)]
 refine mtB_of (fun _ => ⟨hix, oblB_of ?_ (oblB_of ?_ ⟨⟨⟨⟨rfl, hC⟩, ⟨rfl, rfl⟩, ⟨rfl, rfl⟩, trivial⟩, ⟨⟨rfl, rfl⟩, ⟨rfl, rfl, rfl, rfl, rfl⟩, rfl, trivial⟩, ⟨rfl, hO⟩, ⟨rfl, closed_es hes⟩, ⟨⟨rfl, rfl, rfl⟩, rfl⟩, trivial⟩, hn⟩)⟩) (fun e => absurd e (lt_no hlt))
 ·simp [allSize, allOne, flat, AV.cells, lenN]; exact ⟨by omega, rfl⟩
 ·rw [beq_iff, lenN_eq, he]
theorem st_ab_b {p q : Nat} (_hp : p ≤ 900) (hq : q ≤ 900) (g : C[i]? = some ⟨[120, 45, 98], t⟩) (hi : i ≤ 900) (hk : k ≤ 30000) (he : es.length = k * 7) (hes : closedAll es = true)
  (hn : ALp Tryz.prog opts0.glob 0 (lpCode Tryz.prog 40 10) (auV (.ofNat C.length) (.ofNat (i + 1)) (k + 1) (C.map cuA) (obC o) (es ++ flat [rawC ⟨[120, 45, 98], t⟩ q]) (.mapb 2 [0, 1] [(.str [120, 45, 97], I (.ofNat p)), (.str [120, 45, 98], I (.ofNat (q + 1)))])).st Q) :
  ALp Tryz.prog opts0.glob 0 (lpCode Tryz.prog 40 10) (auV (.ofNat C.length) (.ofNat i) k (C.map cuA) (obC o) es (.mapb 2 [0, 1] [(.str [120, 45, 97], I (.ofNat p)), (.str [120, 45, 98], I (.ofNat q))])).st Q := by
 have hO := closed_obC o
 have hix := idxCu g
 have hlt := (List.getElem?_eq_some_iff.1 g).1
 have hC := closed_cus C
 refine ALp.round (A := auA [120, 45, 98] t) (V1 := auV (.ofNat C.length) (.ofNat (i + 1)) (k + 1) (C.map cuA) (obC o) (es ++ flat [rawC ⟨[120, 45, 98], t⟩ q]) (.mapb 2 [0, 1] [(.str [120, 45, 97], I (.ofNat p)), (.str [120, 45, 98], I (.ofNat (q + 1)))])) (V2 := auV (.ofNat C.length) (.ofNat (i + 1)) (k + 1) (C.map cuA) (obC o) (es ++ flat [rawC ⟨[120, 45, 98], t⟩ q]) (.mapb 2 [0, 1] [(.str [120, 45, 97], I (.ofNat p)), (.str [120, 45, 98], I (.ofNat (q + 1)))])) (F := auF k es) (lk := [(0, 0), (1, 20), (2, 2)]) (lk' := [(0, 1)]) base0 aidJ_ok (LsOk.no rfl) .refl ?_
 unfold obC at hO hn ⊢
 rw [au_ab_b, wr_nat (p := i) (by omega), wr_nat (p := q) (by omega)]
 refine mtB_of (fun _ => ⟨hix, oblB_of ?_ (oblB_of ?_ ⟨⟨⟨⟨rfl, hC⟩, ⟨rfl, rfl⟩, ⟨rfl, rfl⟩, trivial⟩, ⟨⟨rfl, rfl⟩, ⟨rfl, rfl, rfl, rfl, rfl⟩, rfl, trivial⟩, ⟨rfl, hO⟩, ⟨rfl, closed_es hes⟩, ⟨⟨rfl, rfl, rfl⟩, rfl⟩, trivial⟩, hn⟩)⟩) (fun e => absurd e (lt_no hlt))
 ·simp [allSize, allOne, flat, AV.cells, lenN]; exact ⟨by omega, rfl⟩
 ·rw [beq_iff, lenN_eq, he]
theorem st_ba_a {p q : Nat} (_hp : p ≤ 900) (hq : q ≤ 900) (g : C[i]? = some ⟨[120, 45, 97], t⟩) (hi : i ≤ 900) (hk : k ≤ 30000) (he : es.length = k * 7) (hes : closedAll es = true)
  (hn : ALp Tryz.prog opts0.glob 0 (lpCode Tryz.prog 40 10) (auV (.ofNat C.length) (.ofNat (i + 1)) (k + 1) (C.map cuA) (obC o) (es ++ flat [rawC ⟨[120, 45, 97], t⟩ q]) (.mapb 2 [0, 1] [(.str [120, 45, 98], I (.ofNat p)), (.str [120, 45, 97], I (.ofNat (q + 1)))])).st Q) :
  ALp Tryz.prog opts0.glob 0 (lpCode Tryz.prog 40 10) (auV (.ofNat C.length) (.ofNat i) k (C.map cuA) (obC o) es (.mapb 2 [0, 1] [(.str [120, 45, 98], I (.ofNat p)), (.str [120, 45, 97], I (.ofNat q))])).st Q := by
 have hO := closed_obC o
 have hix := idxCu g
 have hlt := (List.getElem?_eq_some_iff.1 g).1
 have hC := closed_cus C
 refine ALp.round (A := auA [120, 45, 97] t) (V1 := auV (.ofNat C.length) (.ofNat (i + 1)) (k + 1) (C.map cuA) (obC o) (es ++ flat [rawC ⟨[120, 45, 97], t⟩ q]) (.mapb 2 [0, 1] [(.str [120, 45, 98], I (.ofNat p)), (.str [120, 45, 97], I (.ofNat (q + 1)))])) (V2 := auV (.ofNat C.length) (.ofNat (i + 1)) (k + 1) (C.map cuA) (obC o) (es ++ flat [rawC ⟨[120, 45, 97], t⟩ q]) (.mapb 2 [0, 1] [(.str [120, 45, 98], I (.ofNat p)), (.str [120, 45, 97], I (.ofNat (q + 1)))])) (F := auF k es) (lk := [(0, 0), (1, 20), (2, 2)]) (lk' := [(0, 1)]) base0 aidJ_ok (LsOk.no rfl) .refl ?_
 unfold obC at hO hn ⊢
 rw [au_ba_a, wr_nat (p := i) (by omega), wr_nat (p := q) (by omega)]
 refine mtB_of (fun _ => ⟨hix, oblB_of ?_ (oblB_of ?_ ⟨⟨⟨⟨rfl, hC⟩, ⟨rfl, rfl⟩, ⟨rfl, rfl⟩, trivial⟩, ⟨⟨rfl, rfl⟩, ⟨rfl, rfl, rfl, rfl, rfl⟩, rfl, trivial⟩, ⟨rfl, hO⟩, ⟨rfl, closed_es hes⟩, ⟨⟨rfl, rfl, rfl⟩, rfl⟩, trivial⟩, hn⟩)⟩) (fun e => absurd e (lt_no hlt))
 ·simp [allSize, allOne, flat, AV.cells, lenN]; exact ⟨by omega, rfl⟩
 ·rw [beq_iff, lenN_eq, he]
theorem st_ba_b {p q : Nat} (hp : p ≤ 900) (_hq : q ≤ 900) (g : C[i]? = some ⟨[120, 45, 98], t⟩) (hi : i ≤ 900) (hk : k ≤ 30000) (he : es.length = k * 7) (hes : closedAll es = true)
  (hn : ALp Tryz.prog opts0.glob 0 (lpCode Tryz.prog 40 10) (auV (.ofNat C.length) (.ofNat (i + 1)) (k + 1) (C.map cuA) (obC o) (es ++ flat [rawC ⟨[120, 45, 98], t⟩ p]) (.mapb 2 [0, 1] [(.str [120, 45, 98], I (.ofNat (p + 1))), (.str [120, 45, 97], I (.ofNat q))])).st Q) :
  ALp Tryz.prog opts0.glob 0 (lpCode Tryz.prog 40 10) (auV (.ofNat C.length) (.ofNat i) k (C.map cuA) (obC o) es (.mapb 2 [0, 1] [(.str [120, 45, 98], I (.ofNat p)), (.str [120, 45, 97], I (.ofNat q))])).st Q := by
 have hO := closed_obC o
 have hix := idxCu g
 have hlt := (List.getElem?_eq_some_iff.1 g).1
 have hC := closed_cus C
 refine ALp.round (A := auA [120, 45, 98] t) (V1 := auV (.ofNat C.length) (.ofNat (i + 1)) (k + 1) (C.map cuA) (obC o) (es ++ flat [rawC ⟨[120, 45, 98], t⟩ p]) (.mapb 2 [0, 1] [(.str [120, 45, 98], I (.ofNat (p + 1))), (.str [120, 45, 97], I (.ofNat q))])) (V2 := auV (.ofNat C.length) (.ofNat (i + 1)) (k + 1) (C.map cuA) (obC o) (es ++ flat [rawC ⟨[120, 45, 98], t⟩ p]) (.mapb 2 [0, 1] [(.str [120, 45, 98], I (.ofNat (p + 1))), (.str [120, 45, 97], I (.ofNat q))])) (F := auF k es) (lk := [(0, 0), (1, 20), (2, 2)]) (lk' := [(0, 1)]) base0 aidJ_ok (LsOk.no rfl) .refl ?_
 unfold obC at hO hn ⊢
 rw [au_ba_b, wr_nat (p := i) (by omega), wr_nat (p := p) (by omega)]
 refine mtB_of (fun _ => ⟨hix, oblB_of ?_ (oblB_of ?_ ⟨⟨⟨⟨rfl, hC⟩, ⟨rfl, rfl⟩, ⟨rfl, rfl⟩, trivial⟩, ⟨⟨rfl, rfl⟩, ⟨rfl, rfl, rfl, rfl, rfl⟩, rfl, trivial⟩, ⟨rfl, hO⟩, ⟨rfl, closed_es hes⟩, ⟨⟨rfl, rfl, rfl⟩, rfl⟩, trivial⟩, hn⟩)⟩) (fun e => absurd e (lt_no hlt))
 ·simp [allSize, allOne, flat, AV.cells, lenN]; exact ⟨by omega, rfl⟩
 ·rw [beq_iff, lenN_eq, he]
end
theorem cnt_le (s : List UInt8) (l : List Cu) : cntC s l ≤ l.length := List.length_filter_le _ _
theorem cnt_same (s : List UInt8) (t : List UInt8) (pre : List Cu) : cntC s (pre ++ [⟨s, t⟩]) = cntC s pre + 1 := by rw [cntC_snoc, beqBytes_iff.2 rfl]
theorem cnt_ab (t : List UInt8) (pre : List Cu) : cntC [120, 45, 97] (pre ++ [⟨[120, 45, 98], t⟩]) = cntC [120, 45, 97] pre := by rw [cntC_snoc]; rfl
theorem cnt_ba (t : List UInt8) (pre : List Cu) : cntC [120, 45, 98] (pre ++ [⟨[120, 45, 97], t⟩]) = cntC [120, 45, 98] pre := by rw [cntC_snoc]; rfl
theorem cn_two {s : List UInt8} (h : s ∈ cnL) : s = [120, 45, 97] ∨ s = [120, 45, 98] := by
 simpa [cnL] using h
theorem au_run {o : Ob} {C : List Cu} {Q : AExit → St → Prop} {k0 : Nat} {B : List AV} (hB : B.length = k0 * 7) (hk0 : k0 ≤ 20000) (hBc : closedAll B = true) (hC6 : C.length ≤ 6) (hC : ∀ c ∈ C, c.name ∈ cnL)
  (hq : Q (.exit 2) (auF (k0 + C.length) (B ++ flat (cusR [] C))).st) :
  ∀ (m i : Nat) (b : Blk), i + m = C.length → MpOk (C.take i) b → ALp Tryz.prog opts0.glob 0 (lpCode Tryz.prog 40 10) (auV (.ofNat C.length) (.ofNat i) (k0 + i) (C.map cuA) (obC o) (B ++ flat (cusR [] (C.take i))) b).st Q := by
 have hO := closed_obC o
 have hcC := closed_cus C
 intro m
 induction m with
 | zero =>
  intro i b hi hm
  rw [Nat.add_zero] at hi
  subst hi
  rw [List.take_of_length_le (Nat.le_refl _)] at hm ⊢
  have hcl : closedAll (B ++ flat (cusR [] C)) = true := by rw [closedAll_append, hBc, closed_fcusR]; rfl
  have hno : ltInt (Int.ofNat C.length) (Int.ofNat C.length) = true → False := fun e => by
   have e := ltInt_iff.1 e
   omega
  cases hm with
  | m _ _ =>
   refine ALp.round (A := auA [120, 45, 97] []) (V1 := auV (.ofNat C.length) 0 0 (C.map cuA) (obC o) [] (.mapb 1 [0] [(.str [120, 45, 97], I (.ofNat 1))])) (V2 := auV (.ofNat C.length) 0 0 (C.map cuA) (obC o) [] (.mapb 1 [0] [(.str [120, 45, 97], I (.ofNat 1))])) (F := auF (k0 + C.length) (B ++ flat (cusR [] C))) (lk := [(0, 0), (1, 20), (2, 2)]) (lk' := [(0, 1)]) base0 aidJ_ok (LsOk.no rfl) .refl ?_
   unfold obC at hO ⊢
   rw [au__a]
   exact mtB_of (fun e => (hno e).elim) fun _ => ⟨⟨trivial, ⟨⟨rfl, rfl, rfl, rfl, rfl⟩, trivial⟩, ⟨rfl, hcl⟩, trivial⟩, hq⟩
  | ma p _ _ =>
   refine ALp.round (A := auA [120, 45, 97] []) (V1 := auV (.ofNat C.length) 0 0 (C.map cuA) (obC o) [] (.mapb 1 [0] [(.str [120, 45, 97], I (.ofNat p))])) (V2 := auV (.ofNat C.length) 0 0 (C.map cuA) (obC o) [] (.mapb 1 [0] [(.str [120, 45, 97], I (.ofNat p))])) (F := auF (k0 + C.length) (B ++ flat (cusR [] C))) (lk := [(0, 0), (1, 20), (2, 2)]) (lk' := [(0, 1)]) base0 aidJ_ok (LsOk.no rfl) .refl ?_
   unfold obC at hO ⊢
   rw [au_a_a]
   exact mtB_of (fun e => (hno e).elim) fun _ => ⟨⟨trivial, ⟨⟨rfl, rfl, rfl, rfl, rfl⟩, trivial⟩, ⟨rfl, hcl⟩, trivial⟩, hq⟩
  | mb p _ _ =>
   refine ALp.round (A := auA [120, 45, 97] []) (V1 := auV (.ofNat C.length) 0 0 (C.map cuA) (obC o) [] (.mapb 2 [0, 1] [(.str [120, 45, 98], I (.ofNat p)), (.str [120, 45, 97], I (.ofNat 1))])) (V2 := auV (.ofNat C.length) 0 0 (C.map cuA) (obC o) [] (.mapb 2 [0, 1] [(.str [120, 45, 98], I (.ofNat p)), (.str [120, 45, 97], I (.ofNat 1))])) (F := auF (k0 + C.length) (B ++ flat (cusR [] C))) (lk := [(0, 0), (1, 20), (2, 2)]) (lk' := [(0, 1)]) base0 aidJ_ok (LsOk.no rfl) .refl ?_
   unfold obC at hO ⊢
   rw [au_b_a]
   exact mtB_of (fun e => (hno e).elim) fun _ => ⟨⟨trivial, ⟨⟨rfl, rfl, rfl, rfl, rfl⟩, trivial⟩, ⟨rfl, hcl⟩, trivial⟩, hq⟩
  | mab p q _ _ =>
   refine ALp.round (A := auA [120, 45, 97] []) (V1 := auV (.ofNat C.length) 0 0 (C.map cuA) (obC o) [] (.mapb 2 [0, 1] [(.str [120, 45, 97], I (.ofNat p)), (.str [120, 45, 98], I (.ofNat q))])) (V2 := auV (.ofNat C.length) 0 0 (C.map cuA) (obC o) [] (.mapb 2 [0, 1] [(.str [120, 45, 97], I (.ofNat p)), (.str [120, 45, 98], I (.ofNat q))])) (F := auF (k0 + C.length) (B ++ flat (cusR [] C))) (lk := [(0, 0), (1, 20), (2, 2)]) (lk' := [(0, 1)]) base0 aidJ_ok (LsOk.no rfl) .refl ?_
   unfold obC at hO ⊢
   rw [au_ab_a]
   exact mtB_of (fun e => (hno e).elim) fun _ => ⟨⟨trivial, ⟨⟨rfl, rfl, rfl, rfl, rfl⟩, trivial⟩, ⟨rfl, hcl⟩, trivial⟩, hq⟩
  | mba p q _ _ =>
   refine ALp.round (A := auA [120, 45, 97] []) (V1 := auV (.ofNat C.length) 0 0 (C.map cuA) (obC o) [] (.mapb 2 [0, 1] [(.str [120, 45, 98], I (.ofNat p)), (.str [120, 45, 97], I (.ofNat q))])) (V2 := auV (.ofNat C.length) 0 0 (C.map cuA) (obC o) [] (.mapb 2 [0, 1] [(.str [120, 45, 98], I (.ofNat p)), (.str [120, 45, 97], I (.ofNat q))])) (F := auF (k0 + C.length) (B ++ flat (cusR [] C))) (lk := [(0, 0), (1, 20), (2, 2)]) (lk' := [(0, 1)]) base0 aidJ_ok (LsOk.no rfl) .refl ?_
   unfold obC at hO ⊢
   rw [au_ba_a]
   exact mtB_of (fun e => (hno e).elim) fun _ => ⟨⟨trivial, ⟨⟨rfl, rfl, rfl, rfl, rfl⟩, trivial⟩, ⟨rfl, hcl⟩, trivial⟩, hq⟩
 | succ m ih =>
  intro i b hi hm
  have hlt : i < C.length := by omega
  have g := List.getElem?_eq_getElem hlt
  have hmem := List.getElem_mem hlt
  have ih := fun b => ih (i + 1) b (by omega)
  rw [take_snoc g, cusR_snoc, flat_append, ← List.append_assoc, List.nil_append, show k0 + (i + 1) = k0 + i + 1 by omega] at ih
  have hc := hC _ hmem
  have hpl : (C.take i).length ≤ 6 := Nat.le_trans (List.length_take_le' i C) hC6
  have hce := closed_fcusR (C.take i) []
  have hle := len_fcusR (C.take i) []
  have hti : (C.take i).length = i := by rw [List.length_take]; omega
  rw [hti] at hle
  revert g ih hc hm hpl hce hle
  generalize C[i] = c
  generalize C.take i = pre
  intro hm g ih hc hpl hce hle
  obtain ⟨n, t⟩ := c
  have hes : closedAll (B ++ flat (cusR [] pre)) = true := by rw [closedAll_append, hBc, hce]; rfl
  have hel : (B ++ flat (cusR [] pre)).length = (k0 + i) * 7 := by rw [List.length_append, hB, hle]; omega
  have ca := cnt_le [120, 45, 97] pre
  have cb := cnt_le [120, 45, 98] pre
  rcases cn_two hc with e | e
  ·simp only at e
   subst e
   cases hm with
   | m hp hq =>
    have ih := ih _ (.ma 1 ((cnt_same _ t pre).trans (by rw [hp])) ((cnt_ba t pre).trans hq))
    rw [hp] at ih
    exact st__a  g (by omega) (by omega) hel hes ih
   | ma p hp hq =>
    have ih := ih _ (.ma (p + 1) ((cnt_same _ t pre).trans (by rw [hp])) ((cnt_ba t pre).trans hq))
    rw [hp] at ih
    exact st_a_a (by omega) g (by omega) (by omega) hel hes ih
   | mb p hp hq =>
    have ih := ih _ (.mba p 1 ((cnt_ba t pre).trans hp) ((cnt_same _ t pre).trans (by rw [hq])))
    rw [hq] at ih
    exact st_b_a (by omega) g (by omega) (by omega) hel hes ih
   | mab p q hp hq =>
    have ih := ih _ (.mab (p + 1) q ((cnt_same _ t pre).trans (by rw [hp])) ((cnt_ba t pre).trans hq))
    rw [hp] at ih
    exact st_ab_a (by omega) (by omega) g (by omega) (by omega) hel hes ih
   | mba p q hp hq =>
    have ih := ih _ (.mba p (q + 1) ((cnt_ba t pre).trans hp) ((cnt_same _ t pre).trans (by rw [hq])))
    rw [hq] at ih
    exact st_ba_a (by omega) (by omega) g (by omega) (by omega) hel hes ih
  ·simp only at e
   subst e
   cases hm with
   | m hp hq =>
    have ih := ih _ (.mb 1 ((cnt_same _ t pre).trans (by rw [hq])) ((cnt_ab t pre).trans hp))
    rw [hq] at ih
    exact st__b  g (by omega) (by omega) hel hes ih
   | ma p hp hq =>
    have ih := ih _ (.mab p 1 ((cnt_ab t pre).trans hp) ((cnt_same _ t pre).trans (by rw [hq])))
    rw [hq] at ih
    exact st_a_b (by omega) g (by omega) (by omega) hel hes ih
   | mb p hp hq =>
    have ih := ih _ (.mb (p + 1) ((cnt_same _ t pre).trans (by rw [hp])) ((cnt_ab t pre).trans hq))
    rw [hp] at ih
    exact st_b_b (by omega) g (by omega) (by omega) hel hes ih
   | mab p q hp hq =>
    have ih := ih _ (.mab p (q + 1) ((cnt_ab t pre).trans hp) ((cnt_same _ t pre).trans (by rw [hq])))
    rw [hq] at ih
    exact st_ab_b (by omega) (by omega) g (by omega) (by omega) hel hes ih
   | mba p q hp hq =>
    have ih := ih _ (.mba (p + 1) q ((cnt_same _ t pre).trans (by rw [hp])) ((cnt_ab t pre).trans hq))
    rw [hp] at ih
    exact st_ba_b (by omega) (by omega) g (by omega) (by omega) hel hes ih
theorem al_at : loopsAt (fnCode Tryz.prog 40) 4 = [lpCode Tryz.prog 40 4] := by kernel_rfl
theorem au_at : loopsAt (fnCode Tryz.prog 40) 10 = [lpCode Tryz.prog 40 10] := by kernel_rfl
theorem all_sem {o : Ob} (ho : FitO o) (hg : ∀ k, OkG o k) (hC : ∀ c ∈ o.cust, c.name ∈ cnL) : SC 40 [obA o] (.fsl false ((allS o).map atA)) := by
 have hO := closed_obC o
 have hcl : closedAll [obA o] = true := closed_oc o (c := []) rfl
 have hK := closed_kinds
 have hcC := closed_cus o.cust
 have hlen : lenN (o.cust.map cuA) = o.cust.length := by rw [lenN_eq, List.length_map]
 have hsl := stdT_len hg kinds
 rw [show kinds.length = 20 from rfl] at hsl
 refine fnK_semX (A := aidJ [] [(4, alLp (kinds.map rowA) (obC o) (stdT o kinds).length (flat ((stdT o kinds).map atA))), (10, auL (.ofNat (lenN (o.cust.map cuA))) (stdT o kinds).length ((stdT o kinds).length + o.cust.length) (o.cust.map cuA) (obC o) (flat ((stdT o kinds).map atA)) (flat ((stdT o kinds).map atA) ++ flat (cusR [] o.cust)))] (manyS [(91, .fsl true (kinds.map rowA))]) [] []) base0 aidJ_ok
  (fnLs_of (LsOk.at2 rfl al_at au_at (fun st Q hs => .seen base0.glob hs.1 (al_loop0 ho hg hs.2)) (fun st Q hs => .seen base0.glob hs.1 (by
   have := au_run (o := o) (Q := Q) (k0 := (stdT o kinds).length) (flat_at _) (by omega) (closed_fat _) ho.c hC hs.2 o.cust.length 0 _ (Nat.zero_add _) (.m rfl rfl)
   rw [show o.cust.take 0 = [] from List.take_zero, show flat (cusR [] []) = [] from rfl, List.append_nil] at this
   rw [hlen]
   exact this)))) hcl ?_
 have hB := closed_fat (stdT o kinds)
 unfold obA obC cusA at *
 rw [all_fn]
 refine ⟨table_sem, ⟨⟨⟨rfl, rfl⟩, ⟨rfl, hK⟩, ⟨rfl, rfl⟩, ⟨rfl, rfl⟩, trivial⟩, ⟨⟨rfl, rfl⟩, trivial⟩, ⟨rfl, hO⟩, trivial⟩, ⟨⟨⟨rfl, hcC⟩, ⟨rfl, rfl⟩, ⟨rfl, rfl⟩, trivial⟩, ⟨⟨rfl, rfl⟩, ⟨rfl, rfl, rfl, rfl, rfl⟩, rfl, trivial⟩, ⟨rfl, hO⟩, ⟨rfl, hB⟩, ⟨⟨rfl, rfl, rfl⟩, rfl⟩, trivial⟩, ?_⟩
 refine ⟨.fsl false ((stdT o kinds).map atA ++ cusR [] o.cust), (Frz.row (c := flat ((stdT o kinds).map atA) ++ flat (cusR [] o.cust)) rfl rfl (flat_append _ _).symm (by rw [List.length_append, List.length_map, cusR_len]) (fun e he => ?_) ?_).out, ?_, ?_⟩
 ·rcases List.mem_append.1 he with he | he
  ·obtain ⟨a, _, rfl⟩ := List.mem_map.1 he; exact good_at a
  ·exact good_cusR _ _ e he
 ·rw [closedAll_append, closed_ats, closed_cusR]; rfl
 ·show closedAll _ = true
  rw [closedAll_append, closed_ats, closed_cusR]; rfl
 ·rw [allS, List.map_append]
  exact .rows (wkE_app (wk_cusR _ _) _)
end Go.Proofs.YtjhggnebkfpgcaaGreatDoor
