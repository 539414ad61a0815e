/- Attributes of raw numbers. -/
import Derived.Test.YtjhggnebkfpgcaaGreatDoorCopied
import Derived.KernelRfl
namespace Go.Proofs.YtjhggnebkfpgcaaGreatDoor
set_option maxRecDepth 20000
open Go Go.RowKit
open Go.Proofs.Abs
theorem pick_fn (n m : Int) (Q : AV → Heap → Nat → Prop) : fnK Tryz.prog opts0 40 aid0 23 [I n, I m] [] 0 Q =
  (oblB (!beqInt m 0) (mtB (ltInt (n.tmod m) 0) (Q (I (wrapA IntKind.i64 (n.tmod m + m))) [] 13) (Q (I (n.tmod m)) [] 9))) := by kernel_rfl
theorem pick_sem (n : Int) {m : Int} (h0 : 0 < m) (h1 : m ≤ 4611686018427387904) : SC 23 [I n, I m] (I (n % m)) := by
 refine fnK_sem (A := aid0) base0 aidOk0 (fnLs_of (LsOk.no rfl)) rfl ?_
 rw [pick_fn]
 have hm := Int.tmod_lt_of_pos n h0
 have hm' := Int.lt_tmod_of_pos n h0
 have he := Int.emod_nonneg n (Int.ne_of_gt h0)
 have hd := Int.emod_lt_of_pos n h0
 have key : n % m = if n.tmod m < 0 then n.tmod m + m else n.tmod m := by
  have e1 := Int.tmod_eq_emod (a := n) (b := m)
  split at e1
  ·rw [e1, if_neg (by omega)]; omega
  ·have : (m.natAbs : Int) = m := Int.natAbs_of_nonneg (by omega)
   split <;> omega
 refine oblB_of (by rw [Bool.not_eq_true', beqInt_false]; omega) ?_
 refine mtB_of (fun h => ?_) (fun h => ?_)
 ·have h := ltInt_iff.1 h
  rw [if_pos h] at key
  exact fin_int (by rw [wrapA_i64 (by omega) (by omega), key])
 ·have h := ltInt_false.1 h
  rw [if_neg (by omega)] at key
  exact fin_int key.symm
structure Rw where
 k : Int
 a : Int
 b : Int
 c : Int
def rwC (r : Rw) : List AV := [I r.k, I r.a, I r.b, I r.c]
def rwA (r : Rw) : AV := .agg (rwC r)
def ofL {α : Type} (l : List α) (d : α) (n : Int) : α := (l[(n % (l.length : Int)).toNat]?).getD d
def pkF : List AV → Option AV
 | [.int _ n, .int _ m] => some (I (n % m))
 | _ => none
theorem mod_nat {n m : Int} (h : 0 < m) : ∃ k : Nat, n % m = (k : Int) ∧ (k : Int) < m := by
 have h1 := Int.emod_nonneg n (Int.ne_of_gt h)
 have h2 := Int.emod_lt_of_pos n h
 exact ⟨(n % m).toNat, by omega, by omega⟩
theorem ofL_mem {α : Type} (l : List α) (d : α) (n : Int) (h : l ≠ []) : ofL l d n ∈ l := by
 have hp : 0 < l.length := List.length_pos_iff.2 h
 obtain ⟨k, h1, h2⟩ := mod_nat (n := n) (m := (l.length : Int)) (by omega)
 have hk : k < l.length := by omega
 unfold ofL
 rw [h1]
 have : (k : Int).toNat = k := by omega
 rw [this, List.getElem?_eq_getElem hk]
 simp
def idL : List (List UInt8) := [[49], [50], [51], [52], [53], [54], [55], [49], [50], [51], [57, 57], [120]]
def txL : List (List UInt8) := [[111, 110, 101], [116, 119, 111], [116, 104, 114, 101, 101], [102, 111, 117, 114], [], [53], [49]]
def alL : List Int := [3, 3, 4, 0, 101]
def leL : List Int := [128, 192, 256, 1024, 2048, 0, 64]
def maL : List Int := [396, 12, 4, 0, 384, 2097152, 8]
noncomputable def idA (s : List UInt8) : Aid := aidJ [(1, 3, .res (.str s))] [] (manyF [(23, pkF)]) [] []
theorem id_fn (n : Int) (s : List UInt8) (Q : AV → Heap → Nat → Prop) : fnK Tryz.prog opts0 40 (idA s) 67 [I n] [] 0 Q =
  (SC 23 [I n, I 12] (I (n % 12)) ∧ indexA Tryz.prog 160 (AV.agg [AV.str [49], AV.str [50], AV.str [51], AV.str [52], AV.str [53], AV.str [54], AV.str [55], AV.str [49], AV.str [50], AV.str [51], AV.str [57, 57], AV.str [120]]) (I (n % 12)) = some (AV.str s) ∧ Q (AV.str s) [] 6) := by kernel_rfl
noncomputable def nmA (k : Nat) (s : List UInt8) : Aid := aidJ [(1, 2, .res (.gptr 0 k)), (1, 3, .ld (.str s))] [] (manyF [(23, pkF)]) [] []
theorem name_fn (n : Int) (k : Nat) (s : List UInt8) (Q : AV → Prop) : fnK Tryz.prog opts0 40 (nmA k s) 43 [I n] [] 0 (fun v _ _ => Q v) =
  (SC 23 [I n, I 24] (I (n % 24)) ∧ indexAddrA Tryz.prog 135 (AV.gptr 0 0) (I (n % 24)) = some (AV.gptr 0 k) ∧ loadA Tryz.prog 9 (AV.gptr 0 k) opts0.glob = some (Eff.val (AV.str s)) ∧ Q (AV.str s)) := by kernel_rfl
noncomputable def vaA (s i : List UInt8) (al le ma : Int) : Aid := aidJ [(10, 4, .res (.str s)), (15, 4, .res (I al)), (17, 4, .res (I le)), (19, 4, .res (I ma))] [] (manyF [(23, pkF), (67, fun _ => some (.str i))]) [108, 109] [110]
theorem value_fn (nm s i : List UInt8) (al le ma : Int) (r : Rw) (Q : AV → Prop) : fnK Tryz.prog opts0 40 (vaA s i al le ma) 60 [.str nm, rwA r] [] 0 (fun v _ _ => Q v) =
  (SC 23 [I r.4, I 17] (I (r.4 % 17)) ∧ mtB (beqInt (r.4 % 17) 16) (Q (AV.agg [I 4325387, I 2, I (wrapA IntKind.i64 (wrapA IntKind.i32 r.2)), AV.nilsl, AV.nilsl])) (mtB (beqBytes nm [78, 97, 109, 101]) (SC 23 [I r.2, I 7] (I (r.2 % 7)) ∧ indexA Tryz.prog 154 (AV.agg [AV.str [111, 110, 101], AV.str [116, 119, 111], AV.str [116, 104, 114, 101, 101], AV.str [102, 111, 117, 114], AV.str [], AV.str [53], AV.str [49]]) (I (r.2 % 7)) = some (AV.str s) ∧ Q (AV.agg [I 4325387, I 7, I 0, AV.fsl false (toBytes s), AV.nilsl])) (mtB (beqBytes nm [85, 110, 105, 113, 117, 101, 32, 73, 100, 101, 110, 116, 105, 102, 105, 101, 114]) (SC 23 [I r.2, I 7] (I (r.2 % 7)) ∧ indexA Tryz.prog 154 (AV.agg [AV.str [111, 110, 101], AV.str [116, 119, 111], AV.str [116, 104, 114, 101, 101], AV.str [102, 111, 117, 114], AV.str [], AV.str [53], AV.str [49]]) (I (r.2 % 7)) = some (AV.str s) ∧ Q (AV.agg [I 4325387, I 7, I 0, AV.fsl false (toBytes s), AV.nilsl])) (mtB (beqBytes nm [120, 45, 97]) (SC 23 [I r.2, I 7] (I (r.2 % 7)) ∧ indexA Tryz.prog 154 (AV.agg [AV.str [111, 110, 101], AV.str [116, 119, 111], AV.str [116, 104, 114, 101, 101], AV.str [102, 111, 117, 114], AV.str [], AV.str [53], AV.str [49]]) (I (r.2 % 7)) = some (AV.str s) ∧ Q (AV.agg [I 4325387, I 7, I 0, AV.fsl false (toBytes s), AV.nilsl])) (mtB (beqBytes nm [120, 45, 98]) (SC 23 [I r.2, I 7] (I (r.2 % 7)) ∧ indexA Tryz.prog 154 (AV.agg [AV.str [111, 110, 101], AV.str [116, 119, 111], AV.str [116, 104, 114, 101, 101], AV.str [102, 111, 117, 114], AV.str [], AV.str [53], AV.str [49]]) (I (r.2 % 7)) = some (AV.str s) ∧ Q (AV.agg [I 4325387, I 7, I 0, AV.fsl false (toBytes s), AV.nilsl])) (mtB (beqBytes nm [120, 45]) (SC 23 [I r.2, I 7] (I (r.2 % 7)) ∧ indexA Tryz.prog 154 (AV.agg [AV.str [111, 110, 101], AV.str [116, 119, 111], AV.str [116, 104, 114, 101, 101], AV.str [102, 111, 117, 114], AV.str [], AV.str [53], AV.str [49]]) (I (r.2 % 7)) = some (AV.str s) ∧ Q (AV.agg [I 4325387, I 7, I 0, AV.fsl false (toBytes s), AV.nilsl])) (mtB (beqBytes nm [121]) (SC 23 [I r.2, I 7] (I (r.2 % 7)) ∧ indexA Tryz.prog 154 (AV.agg [AV.str [111, 110, 101], AV.str [116, 119, 111], AV.str [116, 104, 114, 101, 101], AV.str [102, 111, 117, 114], AV.str [], AV.str [53], AV.str [49]]) (I (r.2 % 7)) = some (AV.str s) ∧ Q (AV.agg [I 4325387, I 7, I 0, AV.fsl false (toBytes s), AV.nilsl])) (mtB (beqBytes nm [79, 98, 106, 101, 99, 116, 32, 84, 121, 112, 101]) (SC 23 [I r.2, I 8] (I (r.2 % 8)) ∧ Q (AV.agg [I 4325387, I 5, I (r.2 % 8), AV.nilsl, AV.nilsl])) (mtB (beqBytes nm [83, 116, 97, 116, 101]) (SC 23 [I r.2, I 8] (I (r.2 % 8)) ∧ Q (AV.agg [I 4325387, I 5, I (r.2 % 8), AV.nilsl, AV.nilsl])) (mtB (beqBytes nm [67, 114, 121, 112, 116, 111, 103, 114, 97, 112, 104, 105, 99, 32, 65, 108, 103, 111, 114, 105, 116, 104, 109]) (SC 23 [I r.2, I 5] (I (r.2 % 5)) ∧ indexA Tryz.prog 103 (AV.agg [I 3, I 3, I 4, I 0, I 101]) (I (r.2 % 5)) = some (I al) ∧ Q (AV.agg [I 4325387, I 5, I al, AV.nilsl, AV.nilsl])) (mtB (beqBytes nm [67, 114, 121, 112, 116, 111, 103, 114, 97, 112, 104, 105, 99, 32, 76, 101, 110, 103, 116, 104]) (SC 23 [I r.2, I 7] (I (r.2 % 7)) ∧ indexA Tryz.prog 155 (AV.agg [I 128, I 192, I 256, I 1024, I 2048, I 0, I 64]) (I (r.2 % 7)) = some (I le) ∧ Q (AV.agg [I 4325387, I 2, I le, AV.nilsl, AV.nilsl])) (mtB (beqBytes nm [67, 114, 121, 112, 116, 111, 103, 114, 97, 112, 104, 105, 99, 32, 85, 115, 97, 103, 101, 32, 77, 97, 115, 107]) (SC 23 [I r.2, I 7] (I (r.2 % 7)) ∧ indexA Tryz.prog 155 (AV.agg [I 396, I 12, I 4, I 0, I 384, I 2097152, I 8]) (I (r.2 % 7)) = some (I ma) ∧ Q (AV.agg [I 4325387, I 2, I ma, AV.nilsl, AV.nilsl])) (mtB (beqBytes nm [82, 101, 118, 111, 99, 97, 116, 105, 111, 110, 32, 82, 101, 97, 115, 111, 110]) (SC 23 [I r.2, I 9] (I (r.2 % 9)) ∧ Q (AV.agg [I 4325387, I 1, I 0, AV.nilsl, AV.fsl true [AV.agg [I 4325506, I 5, I (r.2 % 9), AV.nilsl, AV.nilsl]]])) (mtB (beqBytes nm [76, 105, 110, 107]) (SC 23 [I r.2, I 12] (I (r.2 % 12)) ∧ SC 67 [I r.3] (AV.str i) ∧ Q (AV.agg [I 4325387, I 1, I 0, AV.nilsl, AV.fsl true [AV.agg [I 4325451, I 5, I (wrapA IntKind.i64 (100 + r.2 % 12)), AV.nilsl, AV.nilsl], AV.agg [I 4325452, I 7, I 0, AV.fsl false (toBytes i), AV.nilsl]]])) (mtB (beqBytes nm [85, 115, 97, 103, 101, 32, 76, 105, 109, 105, 116, 115]) (SC 23 [I r.2, I 60] (I (r.2 % 60)) ∧ mtB (beqInt (r.3.tmod 4) 0) (SC 23 [I r.3, I 70] (I (r.3 % 70)) ∧ SC 23 [I r.3, I 3] (I (r.3 % 3)) ∧ Q (AV.agg [I 4325387, I 1, I 0, AV.nilsl, AV.fsl true [AV.agg [I 4325527, I 3, I (r.2 % 60), AV.nilsl, AV.nilsl], AV.agg [I 4325526, I 3, I (r.3 % 70), AV.nilsl, AV.nilsl], AV.agg [I 4325528, I 5, I (wrapA IntKind.i64 (1 + r.3 % 3)), AV.nilsl, AV.nilsl]]])) (SC 23 [I r.3, I 3] (I (r.3 % 3)) ∧ Q (AV.agg [I 4325387, I 1, I 0, AV.nilsl, AV.fsl true [AV.agg [I 4325527, I 3, I (r.2 % 60), AV.nilsl, AV.nilsl], AV.agg [I 4325526, I 3, I (r.2 % 60), AV.nilsl, AV.nilsl], AV.agg [I 4325528, I 5, I (wrapA IntKind.i64 (1 + r.3 % 3)), AV.nilsl, AV.nilsl]]]))) (SC 23 [I r.2, I 60] (I (r.2 % 60)) ∧ Q (AV.agg [I 4325387, I 9, I (r.2 % 60), AV.nilsl, AV.nilsl]))))))))))))))))) := by kernel_rfl
noncomputable def atA' (nm : List UInt8) (v : List AV) : Aid := aidJ [] [] (manyF [(23, pkF), (43, fun _ => some (.str nm)), (60, fun _ => some (.agg v))]) [] []
theorem attr_fn (nm : List UInt8) (t y n : Int) (D K : List AV) (r : Rw) (Q : AV → Prop) : fnK Tryz.prog opts0 40 (atA' nm (itF t y n D K)) 16 [rwA r] [] 0 (fun v _ _ => Q v) =
  (SC 43 [I r.1] (AV.str nm) ∧ mtB (beqInt (r.3.tmod 3) 0) (SC 23 [I (wrapA IntKind.i64 (r.3.tdiv 3)), I 4] (I (wrapA IntKind.i64 (r.3.tdiv 3) % 4)) ∧ SC 60 [AV.str nm, AV.agg [I r.1, I r.2, I r.3, I r.4]] (AV.agg [I t, I y, I n, AV.fsl false D, AV.fsl false K]) ∧ Q (AV.agg [AV.str nm, I (wrapA IntKind.i64 (r.3.tdiv 3) % 4), I t, I y, I n, AV.fsl false D, AV.fsl false K])) (SC 60 [AV.str nm, AV.agg [I r.1, I r.2, I r.3, I r.4]] (AV.agg [I t, I y, I n, AV.fsl false D, AV.fsl false K]) ∧ Q (AV.agg [AV.str nm, I 0, I t, I y, I n, AV.fsl false D, AV.fsl false K]))) := by kernel_rfl
theorem mod_cases {n : Int} {m : Nat} (h : 0 < m) {p : Int → Prop} (hp : ∀ k : Nat, k < m → p (k : Int)) : p (n % (m : Int)) := by
 obtain ⟨k, h1, h2⟩ := mod_nat (n := n) (m := (m : Int)) (by omega)
 rw [h1]
 exact hp k (by omega)
theorem lt_cases {m : Nat} {p : Nat → Prop} (h : ∀ k ∈ List.range m, p k) : ∀ k : Nat, k < m → p k := fun k hk => h k (List.mem_range.2 hk)
theorem id_sem (n : Int) : SC 67 [I n] (.str (ofL idL [] n)) := by
 refine fnK_sem (A := idA (ofL idL [] n)) base0 aidJ_ok (fnLs_of (LsOk.no rfl)) rfl ?_
 rw [id_fn]
 refine And.intro (pick_sem n (m := 12) (by decide) (by decide)) (And.intro ?_ (fin_closed rfl))
 unfold ofL
 exact mod_cases (m := 12) (p := fun x => indexA Tryz.prog 160 (.agg (idL.map .str)) (I x) = some (.str ((idL[x.toNat]?).getD []))) (by decide) (lt_cases (by simp only [List.range, List.range.loop, List.forall_mem_cons]; refine ⟨?_, ?_, ?_, ?_, ?_, ?_, ?_, ?_, ?_, ?_, ?_, ?_, ?_⟩ <;> first | kernel_rfl | (intro _ h; cases h)))
theorem name_sem (n : Int) : SC 43 [I n] (.str (ofL nameL [] n)) := by
 refine fnK_semV (A := nmA (n % 24).toNat (ofL nameL [] n)) base0 aidJ_ok (fnLs_of (LsOk.no rfl)) rfl rfl ?_
 rw [name_fn]
 refine And.intro (pick_sem n (m := 24) (by decide) (by decide)) ?_
 unfold ofL
 exact mod_cases (m := 24) (p := fun x => indexAddrA Tryz.prog 135 (.gptr 0 0) (I x) = some (.gptr 0 x.toNat) ∧ loadA Tryz.prog 9 (.gptr 0 x.toNat) opts0.glob = some (Eff.val (.str ((nameL[x.toNat]?).getD []))) ∧ AV.str ((nameL[x.toNat]?).getD []) = .str ((nameL[x.toNat]?).getD [])) (by decide) (lt_cases (by simp only [List.range, List.range.loop, List.forall_mem_cons]; refine ⟨?_, ?_, ?_, ?_, ?_, ?_, ?_, ?_, ?_, ?_, ?_, ?_, ?_, ?_, ?_, ?_, ?_, ?_, ?_, ?_, ?_, ?_, ?_, ?_, ?_⟩ <;> first | exact ⟨by kernel_rfl, by kernel_rfl, by first | rfl | trivial⟩ | (intro _ h; cases h)))
def vlV (y n : Int) (d : List UInt8) (ks : List It) : It := .mk 4325387 y n d ks
def vlP (t y n : Int) (d : List UInt8) : It := .mk t y n d []
def isTxN (s : List UInt8) : Bool := beqBytes s [78, 97, 109, 101] || (beqBytes s [85, 110, 105, 113, 117, 101, 32, 73, 100, 101, 110, 116, 105, 102, 105, 101, 114] || (beqBytes s [120, 45, 97] || (beqBytes s [120, 45, 98] || (beqBytes s [120, 45] || beqBytes s [121]))))
def valueI (s : List UInt8) (r : Rw) : It :=
 match beqInt (r.c % 17) 16 with
 | true => vlV 2 (wrapA .i64 (wrapA .i32 r.a)) [] []
 | false => match isTxN s with
 | true => vlV 7 0 (ofL txL [] r.a) []
 | false => match beqBytes s [79, 98, 106, 101, 99, 116, 32, 84, 121, 112, 101] || beqBytes s [83, 116, 97, 116, 101] with
 | true => vlV 5 (r.a % 8) [] []
 | false => match beqBytes s [67, 114, 121, 112, 116, 111, 103, 114, 97, 112, 104, 105, 99, 32, 65, 108, 103, 111, 114, 105, 116, 104, 109] with
 | true => vlV 5 (ofL alL 0 r.a) [] []
 | false => match beqBytes s [67, 114, 121, 112, 116, 111, 103, 114, 97, 112, 104, 105, 99, 32, 76, 101, 110, 103, 116, 104] with
 | true => vlV 2 (ofL leL 0 r.a) [] []
 | false => match beqBytes s [67, 114, 121, 112, 116, 111, 103, 114, 97, 112, 104, 105, 99, 32, 85, 115, 97, 103, 101, 32, 77, 97, 115, 107] with
 | true => vlV 2 (ofL maL 0 r.a) [] []
 | false => match beqBytes s [82, 101, 118, 111, 99, 97, 116, 105, 111, 110, 32, 82, 101, 97, 115, 111, 110] with
 | true => vlV 1 0 [] [vlP 4325506 5 (r.a % 9) []]
 | false => match beqBytes s [76, 105, 110, 107] with
 | true => vlV 1 0 [] [vlP 4325451 5 (wrapA .i64 (100 + r.a % 12)) [], vlP 4325452 7 0 (ofL idL [] r.b)]
 | false => match beqBytes s [85, 115, 97, 103, 101, 32, 76, 105, 109, 105, 116, 115] with
 | true => vlV 1 0 [] [vlP 4325527 3 (r.a % 60) [], vlP 4325526 3 (match beqInt (r.b.tmod 4) 0 with | true => r.b % 70 | false => r.a % 60) [], vlP 4325528 5 (wrapA .i64 (1 + r.b % 3)) []]
 | false => vlV 9 (r.a % 60) [] []
theorem value_sem (s : List UInt8) (r : Rw) : SC 60 [.str s, rwA r] (itA (valueI s r)) := by
 refine fnK_semE (A := vaA (ofL txL [] r.a) (ofL idL [] r.b) (ofL alL 0 r.a) (ofL leL 0 r.a) (ofL maL 0 r.a)) base0 aidJ_ok (fnLs_of (LsOk.no rfl)) rfl ?_
 rw [value_fn s (ofL txL [] r.a) (ofL idL [] r.b) (ofL alL 0 r.a) (ofL leL 0 r.a) (ofL maL 0 r.a) r (endV (itA (valueI s r)))]
 have p : ∀ (n : Int) {m : Int}, 0 < m → m ≤ 4611686018427387904 → SC 23 [I n, I m] (I (n % m)) := fun n {m} h0 h1 => pick_sem n h0 h1
 have tx : indexA Tryz.prog 154 (.agg (txL.map .str)) (I (r.a % 7)) = some (.str (ofL txL [] r.a)) := by
  unfold ofL
  exact mod_cases (m := 7) (p := fun x => indexA Tryz.prog 154 (.agg (txL.map .str)) (I x) = some (.str ((txL[x.toNat]?).getD []))) (by decide) (lt_cases (by simp only [List.range, List.range.loop, List.forall_mem_cons]; refine ⟨?_, ?_, ?_, ?_, ?_, ?_, ?_, ?_⟩ <;> first | kernel_rfl | (intro _ h; cases h)))
 have al : indexA Tryz.prog 103 (.agg (alL.map I)) (I (r.a % 5)) = some (I (ofL alL 0 r.a)) := by
  unfold ofL
  exact mod_cases (m := 5) (p := fun x => indexA Tryz.prog 103 (.agg (alL.map I)) (I x) = some (I ((alL[x.toNat]?).getD 0))) (by decide) (lt_cases (by simp only [List.range, List.range.loop, List.forall_mem_cons]; refine ⟨?_, ?_, ?_, ?_, ?_, ?_⟩ <;> first | kernel_rfl | (intro _ h; cases h)))
 have se : ∀ (L : List Int), L.length = 7 → indexA Tryz.prog 155 (.agg (L.map I)) (I (r.a % 7)) = some (I (ofL L 0 r.a)) := fun L hL => by
  match L, hL with
  | [a0, a1, a2, a3, a4, a5, a6], _ =>
   unfold ofL
   exact mod_cases (m := 7) (p := fun x => indexA Tryz.prog 155 (.agg ([a0, a1, a2, a3, a4, a5, a6].map I)) (I x) = some (I (([a0, a1, a2, a3, a4, a5, a6][x.toNat]?).getD 0))) (by decide) (lt_cases (by simp only [List.range, List.range.loop, List.forall_mem_cons]; refine ⟨?_, ?_, ?_, ?_, ?_, ?_, ?_, ?_⟩ <;> first | kernel_rfl | (intro _ h; cases h)))
 have le := se leL rfl
 have ma := se maL rfl
 have hid := id_sem r.b
 refine And.intro (p _ (by decide) (by decide)) ?_
 refine mtB_of (fun e0 => ?_) (fun e0 => ?_)
 ·refine ⟨rfl, ?_⟩
  simp only [valueI, e0, vlV, itA, toBytes, itAs]
  (repeat (first | exact Wk.refl _ | exact WkL.refl _ | exact Wk.nil | exact Wk.row | exact WkE.refl _ | exact WkL.nil | exact WkE.nil | apply Wk.agg | apply Wk.tuple | apply WkL.cons | apply Wk.rows | apply WkE.consA))
 repeat' refine mtB_of (fun _ => ?_) (fun _ => ?_)
 all_goals
  try refine And.intro (p _ (by decide) (by decide)) ?_
  try refine And.intro (by assumption) ?_
  repeat' refine mtB_of (fun _ => ?_) (fun _ => ?_)
  all_goals
   try refine And.intro (p _ (by decide) (by decide)) ?_
   try refine And.intro (p _ (by decide) (by decide)) ?_
   refine ⟨by simp [closedA, closedAll], ?_⟩
   simp only [valueI, isTxN, *, Bool.or_true, Bool.true_or, Bool.or_false]
   simp only [vlV, vlP, itA, itAs, toBytes]
   (repeat (first | exact Wk.refl _ | exact WkL.refl _ | exact Wk.nil | exact Wk.row | exact WkE.refl _ | exact WkL.nil | exact WkE.nil | apply Wk.agg | apply Wk.tuple | apply WkL.cons | apply Wk.rows | apply WkE.consA))
structure At where
 name : List UInt8
 idx : Int
 v : It
def itC : It → List AV
 | .mk t y n d ks => itF t y n (toBytes d) (itAs ks)
theorem itA_C (x : It) : itA x = .agg (itC x) := by cases x; rfl
def atC (a : At) : List AV := .str a.name :: I a.idx :: itC a.v
def atA (a : At) : AV := .agg (atC a)
theorem closed_itC (x : It) : closedAll (itC x) = true := by
 have := closed_it x
 rw [itA_C] at this
 exact this
theorem closed_atA (a : At) : closedA (atA a) = true := by simp only [atA, atC, closedA, closedAll, closed_itC, Bool.and_self]
def attrI (r : Rw) : At := ⟨ofL nameL [] r.k, match beqInt (r.b.tmod 3) 0 with | true => wrapA .i64 (r.b.tdiv 3) % 4 | false => 0, valueI (ofL nameL [] r.k) r⟩
theorem attr_sem (r : Rw) : SC 16 [rwA r] (atA (attrI r)) := by
 have hv := value_sem (ofL nameL [] r.k) r
 have hn := name_sem r.k
 simp only [attrI]
 revert hv hn
 generalize ofL nameL [] r.k = s
 generalize valueI s r = x
 intro hv hn
 obtain ⟨t, y, n, d, ks⟩ := x
 have h := attr_fn s t y n (toBytes d) (itAs ks) r
 refine fnK_semE (A := atA' s (itF t y n (toBytes d) (itAs ks))) base0 aidJ_ok (fnLs_of (LsOk.no rfl)) rfl ?_
 rw [h]
 refine And.intro hn (mtB_of (fun e => And.intro (pick_sem _ (by decide) (by decide)) (And.intro hv ?_)) (fun e => And.intro hv ?_))
 all_goals
  simp only [e, atA, atC, itC]
  exact end_self (by simp [closedA, closedAll, itF, closed_its])
theorem value_ok (s : List UInt8) (r : Rw) : okI big (valueI s r) := by
  have hid : (ofL idL [] r.b).length ≤ 8 :=
     (by decide : ∀ s ∈ idL, s.length ≤ 8) _ (ofL_mem idL [] r.b (by simp [idL]))
  have htx : (ofL txL [] r.a).length ≤ 8 :=
     (by decide : ∀ s ∈ txL, s.length ≤ 8) _ (ofL_mem txL [] r.a (by simp [txL]))
  unfold valueI
  repeat' split
  all_goals (simp [vlV, vlP, okI, okIs, big]; try omega)
end Go.Proofs.YtjhggnebkfpgcaaGreatDoor
