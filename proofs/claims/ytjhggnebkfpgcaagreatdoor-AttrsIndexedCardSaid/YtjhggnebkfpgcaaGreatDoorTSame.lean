/- Items: the same, as the program says it. -/
import Derived.Test.YtjhggnebkfpgcaaGreatDoorPut
import Derived.KernelRfl
namespace Go.Proofs.YtjhggnebkfpgcaaGreatDoor
open Go Go.RowKit
open Go.Proofs.Abs
theorem count_up {p : Nat → Prop} (n : Nat) (hn : p n) (hs : ∀ i, i < n → p (i + 1) → p i) : ∀ i, i ≤ n → p i := by
 intro i hi
 obtain ⟨m, rfl⟩ : ∃ m, n = i + m := ⟨n - i, by omega⟩
 clear hi
 induction m generalizing i with
 | zero => exact hn
 | succ m ih => exact hs i (by omega) (ih (i + 1) (by rw [show i + 1 + m = i + (m + 1) by omega]; exact hn) (by intro j hj; exact hs j (by omega)))
abbrev u8 (b : UInt8) : AV := .int .u8 (.ofNat b.toNat)
theorem idxB {f : Bool} {s : List UInt8} {i : Nat} {b : UInt8} (hx : s[i]? = some b) : indexAddrA Tryz.prog 23 (.fsl f (toBytes s)) (.int .i64 (.ofNat i)) = some (.fptr [u8 b] 0) :=
 fsl_index (v := u8 b) (e := 5) (sz := 1) (by kernel_rfl) (by kernel_rfl) (by rw [toBytes_map, List.getElem?_map, hx]; rfl) rfl
noncomputable def eqV (D E : List AV) (i : Nat) : View := ⟨[(0, .fsl false D), (1, .fsl false E), (4, .bool false), (12, I (.ofNat (lenN D))), (13, I (.ofNat i))], [], [], 0, 26⟩
noncomputable def eqF : View := ⟨[(4, .bool false)], [], [], 0, 26⟩
noncomputable def eqA (a b : UInt8) : Aid := aidJ [(6, 2, .res (.fptr [u8 a] 0)), (6, 6, .res (.fptr [u8 b] 0))] [] noSem [] []
theorem eq_round (D E : List AV) (i j : Nat) (a b : UInt8) (N : Prop) (Q : AExit → St → Prop) : wpK Tryz.prog opts0 40 (eqA a b) (lpCode Tryz.prog 84 5) (eqV D E i).st (roundP 0 [] (eqV D E j) N [] eqF Q) =
  (mtB (ltInt (Int.ofNat i) (Int.ofNat (lenN D))) (indexAddrA Tryz.prog 23 (AV.fsl false D) (I (Int.ofNat i)) = some (AV.fptr [AV.int IntKind.u8 (Int.ofNat a.toNat)] 0) ∧ indexAddrA Tryz.prog 23 (AV.fsl false E) (I (Int.ofNat i)) = some (AV.fptr [AV.int IntKind.u8 (Int.ofNat b.toNat)] 0) ∧ mtB (!beqInt (Int.ofNat a.toNat) (Int.ofNat b.toNat)) ((((AV.bool false = AV.bool false ∧ true = true) ∧ True) ∧ True ∧ True) ∧ Q AExit.ret eqF.st) ((((AV.fsl false D = AV.fsl false D ∧ closedA (AV.fsl false D) = true) ∧ (AV.fsl false E = AV.fsl false E ∧ closedA (AV.fsl false E) = true) ∧ (AV.bool false = AV.bool false ∧ true = true) ∧ (I (Int.ofNat (lenN D)) = I (Int.ofNat (lenN D)) ∧ closedA (I (Int.ofNat (lenN D))) = true) ∧ (I (wrapA IntKind.i64 (Int.ofNat i + 1)) = I (Int.ofNat j) ∧ closedA (I (Int.ofNat j)) = true) ∧ True) ∧ True ∧ True) ∧ N)) ((((AV.bool false = AV.bool false ∧ true = true) ∧ True) ∧ True ∧ True) ∧ Q (AExit.exit 0) eqF.st)) := by kernel_rfl
noncomputable def eqL (D E : List AV) (p : Prop) (r : Bool) : LoopS := fun s Q => p ∧ seesK 0 [] (eqV D E 0) s ∧ mtB r (Q (.exit 0) eqF.st) (Q .ret eqF.st)
theorem eq_fn (D E : List AV) (p : Prop) (r : Bool) (Q : AV → Prop) : fnK Tryz.prog opts0 40 (aidJ [] [(5, eqL D E p r)] noSem [] []) 84 [.fsl false D, .fsl false E] [] 0 (fun v _ _ => Q v) =
  (mtB (!beqInt (Int.ofNat (lenN D)) (Int.ofNat (lenN E))) (Q (AV.bool false)) (p ∧ (((AV.fsl false D = AV.fsl false D ∧ closedA (AV.fsl false D) = true) ∧ (AV.fsl false E = AV.fsl false E ∧ closedA (AV.fsl false E) = true) ∧ (AV.bool false = AV.bool false ∧ true = true) ∧ (I (Int.ofNat (lenN D)) = I (Int.ofNat (lenN D)) ∧ closedA (I (Int.ofNat (lenN D))) = true) ∧ (I 0 = I 0 ∧ true = true) ∧ True) ∧ True ∧ True) ∧ mtB r (Q (AV.bool true)) (Q (AV.bool false)))) := by kernel_rfl
theorem beqBytes_cons (a b : UInt8) (s t : List UInt8) : beqBytes (a :: s) (b :: t) = (Nat.beq a.toNat b.toNat && beqBytes s t) := by
 rw [Bool.eq_iff_iff, Bool.and_eq_true, beqBytes_iff, beqBytes_iff, beq_iff, List.cons.injEq]
 exact and_congr_left fun _ => ⟨fun h => by rw [h], fun h => UInt8.toNat_inj.1 h⟩
theorem beqInt_nat (a b : Nat) : beqInt (.ofNat a) (.ofNat b) = Nat.beq a b := rfl
theorem eq_loop {s t : List UInt8} {Q : AExit → St → Prop} (hl : s.length = t.length) (hb : s.length ≤ big) : ∀ i, i ≤ s.length → (mtB (beqBytes (s.drop i) (t.drop i)) (Q (.exit 0) eqF.st) (Q .ret eqF.st) → ALp Tryz.prog opts0.glob 0 (lpCode Tryz.prog 84 5) (eqV (toBytes s) (toBytes t) i).st Q) := by
 refine count_up _ (fun hq => ?_) (fun i hi ih hq => ?_)
 ·refine ALp.round (A := eqA 0 0) (V1 := eqV (toBytes s) (toBytes t) 0) (V2 := eqV (toBytes s) (toBytes t) 0) (F := eqF) (lk := []) (lk' := []) base0 aidJ_ok (LsOk.no rfl) .refl ?_
  rw [eq_round]
  refine mtB_of (fun h => ?_) (fun _ => ?_)
  ·have h := ltInt_iff.1 h
   simp only [lenN_toBytes, Int.ofNat_eq_natCast] at h
   omega
  ·rw [List.drop_of_length_le (by omega), List.drop_of_length_le (by omega)] at hq
   exact ⟨by simp, hq⟩
 ·have h2 : i < t.length := by omega
  have g1 := List.getElem?_eq_getElem hi
  have g2 := List.getElem?_eq_getElem h2
  rw [List.drop_eq_getElem_cons hi, List.drop_eq_getElem_cons h2, beqBytes_cons] at hq
  revert g1 g2 hq
  generalize s[i] = a
  generalize t[i] = b
  intro hq g1 g2
  refine ALp.round (A := eqA a b) (V1 := eqV (toBytes s) (toBytes t) (i + 1)) (V2 := eqV (toBytes s) (toBytes t) (i + 1)) (F := eqF) (lk := []) (lk' := []) base0 aidJ_ok (LsOk.no rfl) .refl ?_
  rw [eq_round]
  have hb : s.length ≤ 1099511627776 := hb
  refine mtB_of (fun _ => ⟨idxB g1, idxB g2, mtB_of (fun h => ?_) (fun h => ?_)⟩) (fun h => ?_)
  ·rw [beqInt_nat, Bool.not_eq_true'] at h
   rw [h] at hq
   exact ⟨by simp, hq⟩
  ·rw [beqInt_nat, Bool.not_eq_false'] at h
   rw [h] at hq
   rw [wrapA_i64 (by simp; omega) (by simp; omega)]
   exact ⟨by simp [closedA], ih hq⟩
  ·have h := ltInt_false.1 h
   simp only [lenN_toBytes, Int.ofNat_eq_natCast] at h
   omega
theorem eq_at : loopsAt (fnCode Tryz.prog 84) 5 = [lpCode Tryz.prog 84 5] := by kernel_rfl
theorem beqBytes_len {s t : List UInt8} (h : beqBytes s t = true) : s.length = t.length := by rw [beqBytes_iff.1 h]
theorem equal_sem {s t : List UInt8} (hb : s.length ≤ big) : SC 84 [.fsl false (toBytes s), .fsl false (toBytes t)] (.bool (beqBytes s t)) := by
 refine fnK_semV (A := aidJ [] [(5, eqL (toBytes s) (toBytes t) (s.length = t.length) (beqBytes s t))] noSem [] []) base0 aidJ_ok
  (fnLs_of (LsOk.at1 rfl eq_at fun s Q hs => .seen base0.glob hs.2.1 (eq_loop hs.1 hb 0 (by omega) (by simpa using hs.2.2)))) (by simp [closedAll, closedA]) rfl ?_
 rw [eq_fn]
 simp only [lenN_toBytes]
 refine mtB_of (fun e => ?_) (fun e => ⟨?_, by simp [closedA], mtB_of (fun e6 => by rw [e6]) (fun e6 => by rw [e6])⟩)
 ·refine congrArg AV.bool ?_
  cases h : beqBytes s t with
  | false => rfl
  | true =>
   rw [beqBytes_len h, Bool.not_eq_true', beqInt_false] at e
   exact absurd rfl e
 ·rw [Bool.not_eq_false', beqInt_iff] at e
  exact Int.ofNat.inj e
noncomputable def efV (D E : List AV) (i : Nat) : View := ⟨[(1, .fsl false E), (2, fnA 33), (6, .bool false), (15, .fsl false D), (16, I (.ofNat (lenN D))), (17, I (.ofNat i))], [], [], 0, 32⟩
noncomputable def efF : View := ⟨[(6, .bool false)], [], [], 0, 32⟩
noncomputable def efA (c c' : List AV) (r : Bool) : Aid := aidJ [(5, 1, .res (.fptr c 0)), (6, 2, .res (.fptr c' 0))] [] (manyS [(33, .bool r)]) [] []
theorem ef_round (a b c a' b' c' : Int) (D E F K F' K' : List AV) (i j : Nat) (r : Bool) (N : Prop) (Q : AExit → St → Prop) : wpK Tryz.prog opts0 40 (efA (itF a b c F K) (itF a' b' c' F' K') r) (lpCode Tryz.prog 85 5) (efV D E i).st (roundP 0 [] (efV D E j) N [] efF Q) =
  (mtB (ltInt (Int.ofNat i) (Int.ofNat (lenN D))) (indexAddrA Tryz.prog 35 (AV.fsl false D) (I (Int.ofNat i)) = some (AV.fptr [I a, I b, I c, AV.fsl false F, AV.fsl false K] 0) ∧ indexAddrA Tryz.prog 35 (AV.fsl false E) (I (Int.ofNat i)) = some (AV.fptr [I a', I b', I c', AV.fsl false F', AV.fsl false K'] 0) ∧ SC 33 [AV.agg [I a, I b, I c, AV.fsl false F, AV.fsl false K], AV.agg [I a', I b', I c', AV.fsl false F', AV.fsl false K']] (AV.bool r) ∧ mtB (!r) ((((AV.bool false = AV.bool false ∧ true = true) ∧ True) ∧ True ∧ True) ∧ Q AExit.ret efF.st) ((((AV.fsl false E = AV.fsl false E ∧ closedA (AV.fsl false E) = true) ∧ (AV.func (Fn.func 33) [] [] = AV.func (Fn.func 33) [] [] ∧ true = true) ∧ (AV.bool false = AV.bool false ∧ true = true) ∧ (AV.fsl false D = AV.fsl false D ∧ closedA (AV.fsl false D) = true) ∧ (I (Int.ofNat (lenN D)) = I (Int.ofNat (lenN D)) ∧ closedA (I (Int.ofNat (lenN D))) = true) ∧ (I (wrapA IntKind.i64 (Int.ofNat i + 1)) = I (Int.ofNat j) ∧ closedA (I (Int.ofNat j)) = true) ∧ True) ∧ True ∧ True) ∧ N)) ((((AV.bool false = AV.bool false ∧ true = true) ∧ True) ∧ True ∧ True) ∧ Q (AExit.exit 0) efF.st)) := by kernel_rfl
noncomputable def efL (D E : List AV) (p : Prop) (r : Bool) : LoopS := fun s Q => p ∧ seesK 0 [] (efV D E 0) s ∧ mtB r (Q (.exit 0) efF.st) (Q .ret efF.st)
theorem ef_fn (D E : List AV) (p : Prop) (r : Bool) (Q : AV → Prop) : fnK Tryz.prog opts0 40 (aidJ [] [(5, efL D E p r)] noSem [] []) 85 [.fsl false D, .fsl false E, fnA 33] [] 0 (fun v _ _ => Q v) =
  (mtB (!beqInt (Int.ofNat (lenN D)) (Int.ofNat (lenN E))) (Q (AV.bool false)) (p ∧ (((AV.fsl false E = AV.fsl false E ∧ closedA (AV.fsl false E) = true) ∧ (AV.func (Fn.func 33) [] [] = AV.func (Fn.func 33) [] [] ∧ true = true) ∧ (AV.bool false = AV.bool false ∧ true = true) ∧ (AV.fsl false D = AV.fsl false D ∧ closedA (AV.fsl false D) = true) ∧ (I (Int.ofNat (lenN D)) = I (Int.ofNat (lenN D)) ∧ closedA (I (Int.ofNat (lenN D))) = true) ∧ (I 0 = I 0 ∧ true = true) ∧ True) ∧ True ∧ True) ∧ mtB r (Q (AV.bool true)) (Q (AV.bool false)))) := by kernel_rfl
theorem ts_fn (a b c a' b' c' : Int) (F K F' K' : List AV) (r r' : Bool) (Q : AV → Prop) : fnK Tryz.prog opts0 40 (aidJ [] [] (manyS [(84, .bool r), (85, .bool r')]) [] []) 33 [.agg (itF a b c F K), .agg (itF a' b' c' F' K')] [] 0 (fun v _ _ => Q v) =
  (mtB (beqInt a a') (mtB (beqInt b b') (mtB (beqInt c c') (SC 84 [AV.fsl false F, AV.fsl false F'] (AV.bool r) ∧ mtB r (SC 85 [AV.fsl false K, AV.fsl false K', AV.func (Fn.func 33) [] []] (AV.bool r') ∧ Q (AV.bool r')) (Q (AV.bool false))) (Q (AV.bool false))) (Q (AV.bool false))) (Q (AV.bool false))) := by kernel_rfl
theorem ef_loop {ks ks' : List It} {Q : AExit → St → Prop} (hl : ks.length = ks'.length) (hb : ks.length ≤ big)
  (ihs : ∀ (i : Nat) (x z : It), ks[i]? = some x → ks'[i]? = some z → SC 33 [itA x, itA z] (.bool (sameI x z))) :
  ∀ i, i ≤ ks.length → (mtB (sameIs (ks.drop i) (ks'.drop i)) (Q (.exit 0) efF.st) (Q .ret efF.st) → ALp Tryz.prog opts0.glob 0 (lpCode Tryz.prog 85 5) (efV (itAs ks) (itAs ks') i).st Q) := by
 refine count_up _ (fun hq => ?_) (fun i hi ih hq => ?_)
 ·refine ALp.round (A := efA (itF 0 0 0 [] []) (itF 0 0 0 [] []) true) (V1 := efV (itAs ks) (itAs ks') 0) (V2 := efV (itAs ks) (itAs ks') 0) (F := efF) (lk := []) (lk' := []) base0 aidJ_ok (LsOk.no rfl) .refl ?_
  rw [ef_round]
  refine mtB_of (fun h => ?_) (fun _ => ?_)
  ·have h := ltInt_iff.1 h
   simp only [lenN_eq, its_length, Int.ofNat_eq_natCast] at h
   omega
  ·rw [List.drop_of_length_le (by omega), List.drop_of_length_le (by omega)] at hq
   exact ⟨by simp, hq⟩
 ·have h2 : i < ks'.length := by omega
  have g1 := List.getElem?_eq_getElem hi
  have g2 := List.getElem?_eq_getElem h2
  rw [List.drop_eq_getElem_cons hi, List.drop_eq_getElem_cons h2, sameIs] at hq
  have hs := ihs i _ _ g1 g2
  revert g1 g2 hq hs
  generalize ks[i] = x
  generalize ks'[i] = z
  intro hq g1 g2 hs
  obtain ⟨a, b, c, e, l⟩ := x
  obtain ⟨a', b', c', e', l'⟩ := z
  refine ALp.round (A := efA (itF a b c (toBytes e) (itAs l)) (itF a' b' c' (toBytes e') (itAs l')) (sameI (.mk a b c e l) (.mk a' b' c' e' l'))) (V1 := efV (itAs ks) (itAs ks') (i + 1)) (V2 := efV (itAs ks) (itAs ks') (i + 1)) (F := efF) (lk := []) (lk' := []) base0 aidJ_ok (LsOk.no rfl) .refl ?_
  rw [ef_round]
  have hb : ks.length ≤ 1099511627776 := hb
  refine mtB_of (fun _ => ⟨idxI g1, idxI g2, hs, mtB_of (fun h => ?_) (fun h => ?_)⟩) (fun h => ?_)
  ·rw [Bool.not_eq_true'] at h
   rw [h] at hq
   exact ⟨by simp, hq⟩
  ·rw [Bool.not_eq_false'] at h
   rw [h] at hq
   rw [wrapA_i64 (by simp; omega) (by simp; omega)]
   exact ⟨by simp [closedA, closed_its], ih hq⟩
  ·have h := ltInt_false.1 h
   simp only [lenN_eq, its_length, Int.ofNat_eq_natCast] at h
   omega
theorem ef_at : loopsAt (fnCode Tryz.prog 85) 5 = [lpCode Tryz.prog 85 5] := by kernel_rfl
theorem ef_sem {ks ks' : List It} (hb : ks.length ≤ big)
  (ihs : ∀ (i : Nat) (x z : It), ks[i]? = some x → ks'[i]? = some z → SC 33 [itA x, itA z] (.bool (sameI x z))) :
  SC 85 [.fsl false (itAs ks), .fsl false (itAs ks'), fnA 33] (.bool (sameIs ks ks')) := by
 refine fnK_semV (A := aidJ [] [(5, efL (itAs ks) (itAs ks') (ks.length = ks'.length) (sameIs ks ks'))] noSem [] []) base0 aidJ_ok
  (fnLs_of (LsOk.at1 rfl ef_at fun s Q hs => .seen base0.glob hs.2.1 (ef_loop hs.1 hb ihs 0 (by omega) (by simpa using hs.2.2)))) (by simp [closedAll, closedA, closed_its, fnA]) rfl ?_
 rw [ef_fn]
 simp only [lenN_eq, its_length]
 refine mtB_of (fun e => ?_) (fun e => ⟨?_, by simp [closedA, closed_its], mtB_of (fun e6 => by rw [e6]) (fun e6 => by rw [e6])⟩)
 ·refine congrArg AV.bool ?_
  cases h : sameIs ks ks' with
  | false => rfl
  | true =>
   rw [sameIs_length h, Bool.not_eq_true', beqInt_false] at e
   exact absurd rfl e
 ·rw [Bool.not_eq_false', beqInt_iff] at e
  exact Int.ofNat.inj e
theorem ts_body {t y n t' y' n' : Int} {d d' : List UInt8} {ks ks' : List It} (h : okI big (.mk t y n d ks))
  (ih : ∀ (i : Nat) (x z : It), ks[i]? = some x → ks'[i]? = some z → SC 33 [itA x, itA z] (.bool (sameI x z))) :
  SC 33 [itA (.mk t y n d ks), itA (.mk t' y' n' d' ks')] (.bool (sameI (.mk t y n d ks) (.mk t' y' n' d' ks'))) := by
 simp only [okI] at h
 obtain ⟨h3, h4, h5⟩ := h
 refine fnK_semV (A := aidJ [] [] (manyS [(84, .bool (beqBytes d d')), (85, .bool (sameIs ks ks'))]) [] []) base0 aidJ_ok (fnLs_of (LsOk.no rfl)) (by simp [closedAll, closed_it]) rfl ?_
 rw [itA_F, itA_F, ts_fn]
 simp only [sameI]
 refine mtB_of (fun e => mtB_of (fun e2 => mtB_of (fun e3 => ⟨equal_sem h3, mtB_of (fun e4 => ⟨ef_sem h4 ih, ?_⟩) (fun e4 => ?_)⟩) (fun e3 => ?_)) (fun e2 => ?_)) (fun e => ?_)
 all_goals simp only [*, Bool.true_and, Bool.false_and]
mutual
theorem tsame_sem : ∀ x z : It, okI big x → SC 33 [itA x, itA z] (.bool (sameI x z))
 | .mk _ _ _ _ ks, .mk _ _ _ _ _ks', h => ts_body h fun _i x z hx _ => tsame_sems ks x (List.mem_of_getElem? hx) z (okIs_iff.1 h.2.2 x (List.mem_of_getElem? hx))
theorem tsame_sems : ∀ ks : List It, ∀ x ∈ ks, ∀ z, okI big x → SC 33 [itA x, itA z] (.bool (sameI x z))
 | [], _, hx, _, _ => by cases hx
 | k :: r, x, hx, z, h => by
  have h1 := tsame_sem k z
  have h2 := tsame_sems r x
  rcases List.mem_cons.1 hx with e | hx
  ·rw [e] at h ⊢; exact h1 h
  ·exact h2 hx z h
end
end Go.Proofs.YtjhggnebkfpgcaaGreatDoor
