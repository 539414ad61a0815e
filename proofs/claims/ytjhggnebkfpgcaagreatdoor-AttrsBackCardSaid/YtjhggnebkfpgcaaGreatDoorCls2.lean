/- Whether Values may be put; what is allowed. -/
import Derived.Test.YtjhggnebkfpgcaaGreatDoorCls
import Derived.KernelRfl
namespace Go.Proofs.YtjhggnebkfpgcaaGreatDoor
open Go Go.RowKit
open Go.Proofs.Abs
def inB (x lo hi : Int) : Bool := !ltInt x lo && !ltInt hi x
def numB (x : It) (tag kind lo hi : Int) : Bool := shapeI x tag kind && inB (itN x) lo hi
def textI (x : It) (tag : Int) : Bool := shapeI x tag 7 && txtB (itD x)
def lkB : List It → Bool
 | [a, b] => numB a 4325451 5 101 110 && textI b 4325452
 | _ => false
def liB : List It → Bool
 | [a, b, c] => numB a 4325527 3 1 1099511627776 && (numB b 4325526 3 0 (itN a) && numB c 4325528 5 1 2)
 | _ => false
def fullB : List It → Bool
 | a :: b :: _ => beqInt (itN b) (itN a)
 | _ => false
def rightK (o : Ob) (v : It) : Kd → Bool
 | .nam | .cus _ => textI v 4325387
 | .alg => numB v 4325387 5 1 100
 | .len => numB v 4325387 2 1 100000
 | .mask => numB v 4325387 2 0 1048575
 | .dat _ => numB v 4325387 9 (-1099511627776) 1099511627776
 | .lnk => shapeI v 4325387 1 && lkB (itK v)
 | .lim => shapeI v 4325387 1 && (liB (itK v) && (o.lh || fullB (itK v)))
 | _ => false
theorem isText_fn (t y n tag : Int) (D K : List AV) (sh tx : Bool) (Q : AV → Prop) : fnK Tryz.prog opts0 40 (aidJ [] [] (manyS [(89, .bool sh), (147, .bool tx)]) [] []) 153 [.agg (itF t y n D K), I tag] [] 0 (fun v _ _ => Q v) =
  (SC 89 [AV.agg [I t, I y, I n, AV.fsl false D, AV.fsl false K], I tag, I 7] (AV.bool sh) ∧ mtB sh (oblB (bytesOf D).isSome (SC 147 [AV.str (strOf D)] (AV.bool tx) ∧ Q (AV.bool tx))) (Q (AV.bool false))) := by kernel_rfl
theorem isNum_fn (t y n tag kind lo hi : Int) (D K : List AV) (sh : Bool) (Q : AV → Prop) : fnK Tryz.prog opts0 40 (aidJ [] [] (manyS [(89, .bool sh)]) [] []) 163 [.agg (itF t y n D K), I tag, I kind, I lo, I hi] [] 0 (fun v _ _ => Q v) =
  (SC 89 [AV.agg [I t, I y, I n, AV.fsl false D, AV.fsl false K], I tag, I kind] (AV.bool sh) ∧ mtB sh (mtB (!ltInt n lo) (Q (AV.bool !ltInt hi n)) (Q (AV.bool false))) (Q (AV.bool false))) := by kernel_rfl
theorem r_nam (o : Ob) (M N L C : AV) (t y n : Int) (D K : List AV) (r : Bool) (Q : AV → Prop) : fnK Tryz.prog opts0 40 (aidJ [] [] (manyS [(153, .bool r)]) [] []) 167 [.agg (obF o M N L C), .agg (itF t y n D K)] [] 0 (fun v _ _ => Q v) =
  (SC 153 [AV.agg [I t, I y, I n, AV.fsl false D, AV.fsl false K], I 4325387] (AV.bool r) ∧ Q (AV.bool r)) := by kernel_rfl
theorem r_cus (o : Ob) (M N L C : AV) (t y n : Int) (D K : List AV) (r : Bool) (Q : AV → Prop) : fnK Tryz.prog opts0 40 (aidJ [] [] (manyS [(153, .bool r)]) [] []) 152 [.agg (obF o M N L C), .agg (itF t y n D K)] [] 0 (fun v _ _ => Q v) =
  (SC 153 [AV.agg [I t, I y, I n, AV.fsl false D, AV.fsl false K], I 4325387] (AV.bool r) ∧ Q (AV.bool r)) := by kernel_rfl
theorem r_dat (o : Ob) (M N L C : AV) (t y n : Int) (D K : List AV) (r : Bool) (Q : AV → Prop) : fnK Tryz.prog opts0 40 (aidJ [] [] (manyS [(163, .bool r)]) [] []) 173 [.agg (obF o M N L C), .agg (itF t y n D K)] [] 0 (fun v _ _ => Q v) =
  (SC 163 [AV.agg [I t, I y, I n, AV.fsl false D, AV.fsl false K], I 4325387, I 9, I (Int.negSucc 1099511627775), I 1099511627776] (AV.bool r) ∧ Q (AV.bool r)) := by kernel_rfl
theorem r_pl (o : Ob) (M N L C : AV) (t y n : Int) (D K : List AV) (a b c : Int) (r : Bool) (Q : AV → Prop) : fnK Tryz.prog opts0 40 (aidJ [] [] (manyS [(163, .bool r)]) [] []) 162 [.agg (obF o M N L C), .agg (itF t y n D K), .fptr [I a] 0, .fptr [I b] 0, .fptr [I c] 0] [] 0 (fun v _ _ => Q v) =
  (SC 163 [AV.agg [I t, I y, I n, AV.fsl false D, AV.fsl false K], I 4325387, I a, I b, I c] (AV.bool r) ∧ Q (AV.bool r)) := by kernel_rfl
noncomputable def lkAid (c0 c1 : List AV) (sh r0 r1 : Bool) : Aid := aidJ [(1, 11, .res (.fptr c0 0)), (1, 18, .res (.fptr c1 0))] [] (manyS [(89, .bool sh), (163, .bool r0), (153, .bool r1)]) [] []
theorem r_lnk (o : Ob) (M N L C : AV) (t y n : Int) (D K : List AV) (t0 y0 n0 t1 y1 n1 : Int) (D0 K0 D1 K1 : List AV) (sh r0 r1 : Bool) (Q : AV → Prop) : fnK Tryz.prog opts0 40 (lkAid (itF t0 y0 n0 D0 K0) (itF t1 y1 n1 D1 K1) sh r0 r1) 179 [.agg (obF o M N L C), .agg (itF t y n D K)] [] 0 (fun v _ _ => Q v) =
  (SC 89 [AV.agg [I t, I y, I n, AV.fsl false D, AV.fsl false K], I 4325387, I 1] (AV.bool sh) ∧ mtB sh (mtB (beqInt (Int.ofNat (lenN K)) 2) (indexAddrA Tryz.prog 35 (AV.fsl false K) (I 0) = some (AV.fptr [I t0, I y0, I n0, AV.fsl false D0, AV.fsl false K0] 0) ∧ SC 163 [AV.agg [I t0, I y0, I n0, AV.fsl false D0, AV.fsl false K0], I 4325451, I 5, I 101, I 110] (AV.bool r0) ∧ mtB r0 (indexAddrA Tryz.prog 35 (AV.fsl false K) (I 1) = some (AV.fptr [I t1, I y1, I n1, AV.fsl false D1, AV.fsl false K1] 0) ∧ SC 153 [AV.agg [I t1, I y1, I n1, AV.fsl false D1, AV.fsl false K1], I 4325452] (AV.bool r1) ∧ Q (AV.bool r1)) (Q (AV.bool false))) (Q (AV.bool false))) (Q (AV.bool false))) := by kernel_rfl
def liT (r0 r1 r2 : Bool) : List AV → Option AV
 | [_, .int _ (.ofNat n), _, _, _] => match Nat.beq n 4325527 with
  | true => some (.bool r0)
  | false => match Nat.beq n 4325526 with
   | true => some (.bool r1)
   | false => some (.bool r2)
 | _ => none
noncomputable def liAid (c0 c1 c2 : List AV) (sh r0 r1 r2 : Bool) : Aid := aidJ [(1, 11, .res (.fptr c0 0)), (1, 18, .res (.fptr c1 0)), (1, 22, .res (.fptr c0 0)), (1, 30, .res (.fptr c2 0))] [] (manyF [(89, fun _ => some (.bool sh)), (163, liT r0 r1 r2)]) [] []
theorem isLim_fn (o : Ob) (M N L C : AV) (t y n : Int) (D K : List AV) (t0 y0 n0 t1 y1 n1 t2 y2 n2 : Int) (D0 K0 D1 K1 D2 K2 : List AV) (sh r0 r1 r2 : Bool) (Q : AV → Prop) : fnK Tryz.prog opts0 40 (liAid (itF t0 y0 n0 D0 K0) (itF t1 y1 n1 D1 K1) (itF t2 y2 n2 D2 K2) sh r0 r1 r2) 186 [.agg (obF o M N L C), .agg (itF t y n D K)] [] 0 (fun v _ _ => Q v) =
  (SC 89 [AV.agg [I t, I y, I n, AV.fsl false D, AV.fsl false K], I 4325387, I 1] (AV.bool sh) ∧ mtB sh (mtB (beqInt (Int.ofNat (lenN K)) 3) (indexAddrA Tryz.prog 35 (AV.fsl false K) (I 0) = some (AV.fptr [I t0, I y0, I n0, AV.fsl false D0, AV.fsl false K0] 0) ∧ SC 163 [AV.agg [I t0, I y0, I n0, AV.fsl false D0, AV.fsl false K0], I 4325527, I 3, I 1, I 1099511627776] (AV.bool r0) ∧ mtB r0 (indexAddrA Tryz.prog 35 (AV.fsl false K) (I 1) = some (AV.fptr [I t1, I y1, I n1, AV.fsl false D1, AV.fsl false K1] 0) ∧ indexAddrA Tryz.prog 35 (AV.fsl false K) (I 0) = some (AV.fptr [I t0, I y0, I n0, AV.fsl false D0, AV.fsl false K0] 0) ∧ SC 163 [AV.agg [I t1, I y1, I n1, AV.fsl false D1, AV.fsl false K1], I 4325526, I 3, I 0, I n0] (AV.bool r1) ∧ mtB r1 (indexAddrA Tryz.prog 35 (AV.fsl false K) (I 2) = some (AV.fptr [I t2, I y2, I n2, AV.fsl false D2, AV.fsl false K2] 0) ∧ SC 163 [AV.agg [I t2, I y2, I n2, AV.fsl false D2, AV.fsl false K2], I 4325528, I 5, I 1, I 2] (AV.bool r2) ∧ Q (AV.bool r2)) (Q (AV.bool false))) (Q (AV.bool false))) (Q (AV.bool false))) (Q (AV.bool false))) := by kernel_rfl
noncomputable def lmAid (c0 c1 : List AV) (r : Bool) : Aid := aidJ [(1, 10, .res (.fptr c1 0)), (1, 15, .res (.fptr c0 0))] [] (manyS [(186, .bool r)]) [] []
theorem r_lim (o : Ob) (M N L C : AV) (t y n : Int) (D K : List AV) (t0 y0 n0 t1 y1 n1 : Int) (D0 K0 D1 K1 : List AV) (r : Bool) (Q : AV → Prop) : fnK Tryz.prog opts0 40 (lmAid (itF t0 y0 n0 D0 K0) (itF t1 y1 n1 D1 K1) r) 185 [.agg (obF o M N L C), .agg (itF t y n D K)] [] 0 (fun v _ _ => Q v) =
  (SC 186 [AV.agg (obF o M N L C), AV.agg [I t, I y, I n, AV.fsl false D, AV.fsl false K]] (AV.bool r) ∧ mtB r (mtB o.23 (Q (AV.bool true)) (indexAddrA Tryz.prog 35 (AV.fsl false K) (I 1) = some (AV.fptr [I t1, I y1, I n1, AV.fsl false D1, AV.fsl false K1] 0) ∧ indexAddrA Tryz.prog 35 (AV.fsl false K) (I 0) = some (AV.fptr [I t0, I y0, I n0, AV.fsl false D0, AV.fsl false K0] 0) ∧ Q (AV.bool (beqInt n1 n0)))) (Q (AV.bool false))) := by kernel_rfl
theorem w_always (o : Ob) (M N L C : AV) (Q : AV → Prop) : fnK Tryz.prog opts0 40 aid0 158 [.agg (obF o M N L C)] [] 0 (fun v _ _ => Q v) =
  (Q (AV.bool true)) := by kernel_rfl
theorem w_young (o : Ob) (M N L C : AV) (Q : AV → Prop) : fnK Tryz.prog opts0 40 aid0 125 [.agg (obF o M N L C)] [] 0 (fun v _ _ => Q v) =
  (Q (AV.bool (beqInt o.7 1))) := by kernel_rfl
theorem w_used (o : Ob) (M N L C : AV) (Q : AV → Prop) : fnK Tryz.prog opts0 40 aid0 137 [.agg (obF o M N L C)] [] 0 (fun v _ _ => Q v) =
  (mtB (beqInt o.7 1) (Q (AV.bool true)) (Q (AV.bool (beqInt o.7 2)))) := by kernel_rfl
theorem w_full (o : Ob) (M N L C : AV) (Q : AV → Prop) : fnK Tryz.prog opts0 40 aid0 189 [.agg (obF o M N L C)] [] 0 (fun v _ _ => Q v) =
  (Q (AV.bool (beqInt o.25 o.24))) := by kernel_rfl
theorem w_roomN (o : Ob) (M L C : AV) (es : List AV) (Q : AV → Prop) : fnK Tryz.prog opts0 40 aid0 165 [.agg (obF o M (.fsl false es) L C)] [] 0 (fun v _ _ => Q v) =
  (Q (AV.bool (ltInt (Int.ofNat (lenN es)) 6))) := by kernel_rfl
theorem w_roomL (o : Ob) (M N C : AV) (es : List AV) (Q : AV → Prop) : fnK Tryz.prog opts0 40 aid0 177 [.agg (obF o M N (.fsl false es) C)] [] 0 (fun v _ _ => Q v) =
  (Q (AV.bool (ltInt (Int.ofNat (lenN es)) 8))) := by kernel_rfl
theorem w_roomC (o : Ob) (M N L : AV) (es : List AV) (Q : AV → Prop) : fnK Tryz.prog opts0 40 aid0 149 [.agg (obF o M N L (.fsl false es))] [] 0 (fun v _ _ => Q v) =
  (Q (AV.bool (ltInt (Int.ofNat (lenN es)) 6))) := by kernel_rfl
def gfn : Kd → Nat
 | .uid => 127
 | .nam => 166
 | .typ => 130
 | .sta => 134
 | .dat _ => 172
 | .why => 138
 | .lnk => 178
 | .lim => 184
 | .cus _ => 150
 | _ => 161
def gcp : Kd → List AV
 | .dat k => [.fptr [nI k] 0]
 | .cus s => [.fptr [.str s] 0]
 | .alg => [.fptr [atF .alg] 0, .fptr [I 1] 0, .fptr [I 5] 0]
 | .len => [.fptr [atF .len] 0, .fptr [I 1] 0, .fptr [I 2] 0]
 | .mask => [.fptr [atF .mask] 0, .fptr [I 0] 0, .fptr [I 2] 0]
 | _ => []
theorem getF_eq (k : Kd) : getF k = fnC (gfn k) (gcp k) := by cases k <;> rfl
def rfn : Kd → Nat
 | .nam => 167
 | .dat _ => 173
 | .lnk => 179
 | .lim => 185
 | .cus _ => 152
 | _ => 162
def rcp : Kd → List AV
 | .alg => [.fptr [I 5] 0, .fptr [I 1] 0, .fptr [I 100] 0]
 | .len => [.fptr [I 2] 0, .fptr [I 1] 0, .fptr [I 100000] 0]
 | .mask => [.fptr [I 2] 0, .fptr [I 0] 0, .fptr [I 1048575] 0]
 | _ => []
def putB : Kd → Bool
 | .uid | .typ | .sta | .why => false
 | _ => true
theorem rightF_eq {k : Kd} (h : putB k = true) : rightF k = fnC (rfn k) (rcp k) := by cases k <;> first | rfl | cases h
mutual
def txI : It → Prop
 | .mk _ _ _ d ks => d ∈ texts ∧ txIs ks
def txIs : List It → Prop
 | [] => True
 | k :: r => txI k ∧ txIs r
end
theorem txI_d {x : It} (h : txI x) : itD x ∈ texts := by cases x; exact h.1
theorem isText_sem (x : It) (tag : Int) (h : itD x ∈ texts) : SC 153 [itA x, I tag] (.bool (textI x tag)) := by
 have hs := shape_sem x tag 7
 have ht := text_sem _ h
 simp only [textI]
 revert hs ht
 generalize shapeI x tag 7 = sh
 intro hs ht
 obtain ⟨t, y, n, d, ks⟩ := x
 refine fnK_semV (A := aidJ [] [] (manyS [(89, .bool sh), (147, .bool (txtB d))]) [] []) base0 aidJ_ok (fnLs_of (LsOk.no rfl)) (by simp [closedAll, closed_it, closedA]) rfl ?_
 rw [itA_F] at hs ⊢
 rw [isText_fn]
 simp only [itD] at ht
 refine And.intro hs (mtB_of (fun e => oblB_of (by simp) ⟨by rw [strOf_toBytes]; exact ht, ?_⟩) (fun e => ?_))
 all_goals simp [e, itD]
theorem isNum_sem (x : It) (tag kind lo hi : Int) : SC 163 [itA x, I tag, I kind, I lo, I hi] (.bool (numB x tag kind lo hi)) := by
 have hs := shape_sem x tag kind
 simp only [numB]
 revert hs
 generalize shapeI x tag kind = sh
 intro hs
 obtain ⟨t, y, n, d, ks⟩ := x
 refine fnK_semV (A := aidJ [] [] (manyS [(89, .bool sh)]) [] []) base0 aidJ_ok (fnLs_of (LsOk.no rfl)) (by simp [closedAll, closed_it, closedA]) rfl ?_
 rw [itA_F] at hs ⊢
 rw [isNum_fn]
 refine And.intro hs (mtB_of (fun e => mtB_of (fun e2 => ?_) (fun e2 => ?_)) (fun e => ?_))
 all_goals simp_all [inB, itN]
theorem closed_two {l m : List AV} (h : closedAll l = true) (h' : closedAll m = true) : closedAll [.agg l, .agg m] = true := by simp [closedAll, closedA, h, h']
theorem itA_G (x : It) : ∃ t y n D K, itA x = .agg (itF t y n D K) := by obtain ⟨t, y, n, d, ks⟩ := x; exact ⟨t, y, n, _, _, rfl⟩
theorem r_nam_sem (o : Ob) (v : It) (h : itD v ∈ texts) : SC 167 [obA o, itA v] (.bool (textI v 4325387)) := by
 have hs := isText_sem v 4325387 h
 revert hs
 generalize textI v 4325387 = r
 intro hs
 have hc := closed_it v
 obtain ⟨t, y, n, D, K, e⟩ := itA_G v
 rw [e] at hs hc ⊢
 refine fnK_semV (A := aidJ [] [] (manyS [(153, .bool r)]) [] []) base0 aidJ_ok (fnLs_of (LsOk.no rfl)) (closed_two (closed_obC o) hc) rfl ?_
 simp only [obA, obC]
 rw [r_nam]
 exact ⟨hs, rfl⟩
theorem r_cus_sem (o : Ob) (v : It) (h : itD v ∈ texts) : SC 152 [obA o, itA v] (.bool (textI v 4325387)) := by
 have hs := isText_sem v 4325387 h
 revert hs
 generalize textI v 4325387 = r
 intro hs
 have hc := closed_it v
 obtain ⟨t, y, n, D, K, e⟩ := itA_G v
 rw [e] at hs hc ⊢
 refine fnK_semV (A := aidJ [] [] (manyS [(153, .bool r)]) [] []) base0 aidJ_ok (fnLs_of (LsOk.no rfl)) (closed_two (closed_obC o) hc) rfl ?_
 simp only [obA, obC]
 rw [r_cus]
 exact ⟨hs, rfl⟩
theorem r_dat_sem (o : Ob) (v : It) : SC 173 [obA o, itA v] (.bool (numB v 4325387 9 (-1099511627776) 1099511627776)) := by
 have hs := isNum_sem v 4325387 9 (-1099511627776) 1099511627776
 revert hs
 generalize numB v 4325387 9 (-1099511627776) 1099511627776 = r
 intro hs
 have hc := closed_it v
 obtain ⟨t, y, n, D, K, e⟩ := itA_G v
 rw [e] at hs hc ⊢
 refine fnK_semV (A := aidJ [] [] (manyS [(163, .bool r)]) [] []) base0 aidJ_ok (fnLs_of (LsOk.no rfl)) (closed_two (closed_obC o) hc) rfl ?_
 simp only [obA, obC]
 rw [r_dat]
 exact ⟨hs, rfl⟩
theorem r_pl_sem (o : Ob) (v : It) (a b c : Int) : SC 162 [obA o, itA v, .fptr [I a] 0, .fptr [I b] 0, .fptr [I c] 0] (.bool (numB v 4325387 a b c)) := by
 have hs := isNum_sem v 4325387 a b c
 revert hs
 generalize numB v 4325387 a b c = r
 intro hs
 have hc := closed_it v
 obtain ⟨t, y, n, D, K, e⟩ := itA_G v
 rw [e] at hs hc ⊢
 refine fnK_semV (A := aidJ [] [] (manyS [(163, .bool r)]) [] []) base0 aidJ_ok (fnLs_of (LsOk.no rfl)) (by have := closed_obC o; simp only [closedA] at hc; simp [closedAll, closedA, obA, this, hc]) rfl ?_
 simp only [obA, obC]
 rw [r_pl]
 exact ⟨hs, rfl⟩
theorem r_lnk_sem (o : Ob) (v : It) (h : txI v) : SC 179 [obA o, itA v] (.bool (shapeI v 4325387 1 && lkB (itK v))) := by
 have hs := shape_sem v 4325387 1
 revert hs
 generalize shapeI v 4325387 1 = sh
 intro hs
 have hc := closed_it v
 obtain ⟨t, y, n, d, ks⟩ := v
 rw [itA_F] at hs hc ⊢
 have key : ∀ (a b : It), ks = [a, b] → SC 179 [obA o, .agg (itF t y n (toBytes d) (itAs ks))] (.bool (sh && lkB (itK (.mk t y n d ks)))) := fun a b e => by
  subst e
  have h0 := isNum_sem a 4325451 5 101 110
  have h1 := isText_sem b 4325452 (txI_d h.2.2.1)
  simp only [itK, lkB]
  revert h0 h1
  generalize numB a 4325451 5 101 110 = r0
  generalize textI b 4325452 = r1
  intro h0 h1
  obtain ⟨t0, y0, n0, d0, k0⟩ := a
  obtain ⟨t1, y1, n1, d1, k1⟩ := b
  refine fnK_semV (A := lkAid (itF t0 y0 n0 (toBytes d0) (itAs k0)) (itF t1 y1 n1 (toBytes d1) (itAs k1)) sh r0 r1) base0 aidJ_ok (fnLs_of (LsOk.no rfl)) (closed_two (closed_obC o) hc) rfl ?_
  simp only [obA, obC]
  rw [r_lnk]
  rw [itA_F] at h0 h1
  refine And.intro hs (mtB_of (fun e => mtB_of (fun e2 => And.intro (idxI (i := 0) rfl) (And.intro h0 (mtB_of (fun e3 => And.intro (idxI (i := 1) rfl) (And.intro h1 ?_)) (fun e3 => ?_)))) (fun e2 => ?_)) (fun e => ?_))
  ·simp [e, e3]
  ·simp [e, e3]
  ·exact absurd e2 (by simp [itAs, lenN, beqInt_iff])
  ·simp [e]
 have other : lenN (itAs ks) ≠ 2 → SC 179 [obA o, .agg (itF t y n (toBytes d) (itAs ks))] (.bool false) := fun hne => by
  refine fnK_semV (A := lkAid (itF 0 0 0 [] []) (itF 0 0 0 [] []) sh true true) base0 aidJ_ok (fnLs_of (LsOk.no rfl)) (closed_two (closed_obC o) hc) rfl ?_
  simp only [obA, obC]
  rw [r_lnk]
  refine And.intro hs (mtB_of (fun _ => mtB_of (fun e2 => ?_) (fun _ => rfl)) (fun _ => rfl))
  rw [beqInt_iff] at e2
  exact absurd (Int.ofNat.inj e2) hne
 match ks, key, other with
 | [a, b], key, _ => exact key a b rfl
 | [], _, other => simpa [itK, lkB] using other (by simp [itAs, lenN])
 | [_], _, other => simpa [itK, lkB] using other (by simp [itAs, lenN])
 | _ :: _ :: _ :: _, _, other => simpa [itK, lkB] using other (by simp [itAs, lenN])
theorem lim_sem (o : Ob) (v : It) : SC 186 [obA o, itA v] (.bool (shapeI v 4325387 1 && liB (itK v))) := by
 have hs := shape_sem v 4325387 1
 revert hs
 generalize shapeI v 4325387 1 = sh
 intro hs
 have hc := closed_it v
 obtain ⟨t, y, n, d, ks⟩ := v
 rw [itA_F] at hs hc ⊢
 have key : ∀ (a b c : It), ks = [a, b, c] → SC 186 [obA o, .agg (itF t y n (toBytes d) (itAs ks))] (.bool (sh && liB (itK (.mk t y n d ks)))) := fun a b c e => by
  subst e
  have h0 := isNum_sem a 4325527 3 1 1099511627776
  have h1 := isNum_sem b 4325526 3 0 (itN a)
  have h2 := isNum_sem c 4325528 5 1 2
  simp only [itK, liB]
  revert h0 h1 h2
  generalize numB a 4325527 3 1 1099511627776 = r0
  generalize numB b 4325526 3 0 (itN a) = r1
  generalize numB c 4325528 5 1 2 = r2
  intro h0 h1 h2
  obtain ⟨t0, y0, n0, d0, k0⟩ := a
  obtain ⟨t1, y1, n1, d1, k1⟩ := b
  obtain ⟨t2, y2, n2, d2, k2⟩ := c
  refine fnK_semV (A := liAid (itF t0 y0 n0 (toBytes d0) (itAs k0)) (itF t1 y1 n1 (toBytes d1) (itAs k1)) (itF t2 y2 n2 (toBytes d2) (itAs k2)) sh r0 r1 r2) base0 aidJ_ok (fnLs_of (LsOk.no rfl)) (closed_two (closed_obC o) hc) rfl ?_
  simp only [obA, obC]
  rw [isLim_fn]
  rw [itA_F] at h0 h1 h2
  simp only [itN] at h1
  refine And.intro hs (mtB_of (fun e => mtB_of (fun e2 => And.intro (idxI (i := 0) rfl) (And.intro h0 (mtB_of (fun e3 => And.intro (idxI (i := 1) rfl) (And.intro (idxI (i := 0) rfl) (And.intro h1 (mtB_of (fun e4 => And.intro (idxI (i := 2) rfl) (And.intro h2 ?_)) (fun e4 => ?_))))) (fun e3 => ?_)))) (fun e2 => ?_)) (fun e => ?_))
  ·simp [e, e3, e4]
  ·simp [e, e3, e4]
  ·simp [e, e3]
  ·exact absurd e2 (by simp [itAs, lenN, beqInt_iff])
  ·simp [e]
 have other : lenN (itAs ks) ≠ 3 → SC 186 [obA o, .agg (itF t y n (toBytes d) (itAs ks))] (.bool false) := fun hne => by
  refine fnK_semV (A := liAid (itF 0 0 0 [] []) (itF 0 0 0 [] []) (itF 0 0 0 [] []) sh true true true) base0 aidJ_ok (fnLs_of (LsOk.no rfl)) (closed_two (closed_obC o) hc) rfl ?_
  simp only [obA, obC]
  rw [isLim_fn]
  refine And.intro hs (mtB_of (fun _ => mtB_of (fun e2 => ?_) (fun _ => rfl)) (fun _ => rfl))
  rw [beqInt_iff] at e2
  exact absurd (Int.ofNat.inj e2) hne
 match ks, key, other with
 | [a, b, c], key, _ => exact key a b c rfl
 | [], _, other => simpa [itK, liB] using other (by simp [itAs, lenN])
 | [_], _, other => simpa [itK, liB] using other (by simp [itAs, lenN])
 | [_, _], _, other => simpa [itK, liB] using other (by simp [itAs, lenN])
 | _ :: _ :: _ :: _ :: _, _, other => simpa [itK, liB] using other (by simp [itAs, lenN])
theorem r_lim_sem (o : Ob) (v : It) : SC 185 [obA o, itA v] (.bool (shapeI v 4325387 1 && (liB (itK v) && (o.lh || fullB (itK v))))) := by
  have hs := lim_sem o v
  have hc := closed_it v
  obtain ⟨t, y, n, d, ks⟩ := v
  simp only [itK] at hs ⊢
  rw [itA_F] at hs hc ⊢
  rw [← Bool.and_assoc]
  match ks with
  | [⟨t0, y0, n0, d0, k0⟩, ⟨t1, y1, n1, d1, k1⟩, ⟨t2, y2, n2, d2, k2⟩] =>
    revert hs
    generalize (shapeI (.mk t y n d [⟨t0, y0, n0, d0, k0⟩, ⟨t1, y1, n1, d1, k1⟩, ⟨t2, y2, n2, d2, k2⟩]) 4325387 1 && liB [⟨t0, y0, n0, d0, k0⟩, ⟨t1, y1, n1, d1, k1⟩, ⟨t2, y2, n2, d2, k2⟩]) = r
    intro hs
    refine fnK_semV (A := lmAid (itF t0 y0 n0 (toBytes d0) (itAs k0)) (itF t1 y1 n1 (toBytes d1) (itAs k1)) r) base0 aidJ_ok (fnLs_of (LsOk.no rfl)) (closed_two (closed_obC o) hc) rfl ?_
    simp only [obA, obC] at hs ⊢
    rw [r_lim]
    refine And.intro hs (mtB_of (fun e => mtB_of (fun e2 => ?_) (fun e2 => And.intro (idxI (i := 1) rfl) (And.intro (idxI (i := 0) rfl) ?_))) (fun e => ?_))
    · simp [e, e2]
    · simp [e, e2, fullB, itN]
    · simp [e]
  | [] => simpa [liB] using none_sem hs hc
  | [_] => simpa [liB] using none_sem hs hc
  | [_, _] => simpa [liB] using none_sem hs hc
  | _ :: _ :: _ :: _ :: _ => simpa [liB] using none_sem hs hc
 where
  none_sem {o : Ob} {t y n : Int} {D K : List AV} {r : Bool} (hs : SC 186 [obA o, .agg (itF t y n D K)] (.bool (r && false))) (hc : closedA (.agg (itF t y n D K)) = true) : SC 185 [obA o, .agg (itF t y n D K)] (.bool false) := by
    rw [Bool.and_false] at hs
    refine fnK_semV (A := lmAid (itF 0 0 0 [] []) (itF 0 0 0 [] []) false) base0 aidJ_ok (fnLs_of (LsOk.no rfl)) (closed_two (closed_obC o) hc) rfl ?_
    simp only [obA, obC] at hs ⊢
    rw [r_lim]
    exact And.intro hs rfl
theorem right_sem {k : Kd} (hk : putB k = true) (o : Ob) (v : It) (h : txI v) : SC (rfn k) (obA o :: itA v :: rcp k) (.bool (rightK o v k)) := by
 cases k with
 | nam => exact r_nam_sem o v (txI_d h)
 | cus s => exact r_cus_sem o v (txI_d h)
 | dat k => exact r_dat_sem o v
 | alg => exact r_pl_sem o v 5 1 100
 | len => exact r_pl_sem o v 2 1 100000
 | mask => exact r_pl_sem o v 2 0 1048575
 | lnk => exact r_lnk_sem o v h
 | lim => exact r_lim_sem o v
 | _ => cases hk
end Go.Proofs.YtjhggnebkfpgcaaGreatDoor
