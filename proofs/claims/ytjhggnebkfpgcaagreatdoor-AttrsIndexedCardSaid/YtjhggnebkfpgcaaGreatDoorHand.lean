/- Attributes of raw numbers. -/
import Derived.Test.YtjhggnebkfpgcaaGreatDoorCopied
import Derived.KernelRfl
namespace Go.Proofs.YtjhggnebkfpgcaaGreatDoor
open Go Go.RowKit
open Go.Proofs.Abs
theorem pick_fn (n m : Int) (Q : AV → Heap → Nat → Prop) : fnK Tryz.prog opts0 40 aid0 23 [I n, I m] [] 0 Q =
  (oblB (!beqInt m 0) (mtB (ltInt (n.tmod m) 0) (Q (I (wrapA IntKind.i64 (n.tmod m + m))) [] 13) (Q (I (n.tmod m)) [] 9))) := by kernel_rfl
theorem pick_sem (n : Int) {m : Int} (h0 : 0 < m) (h1 : m ≤ 4611686018427387904) : SC 23 [I n, I m] (I (n % m)) := by
 refine fnK_sem (A := aid0) base0 aidOk0 (fnLs_of (LsOk.no rfl)) rfl ?_
 rw [pick_fn]
 have hm := Int.tmod_lt_of_pos n h0
 have hm' := Int.lt_tmod_of_pos n h0
 have he := Int.emod_nonneg n (Int.ne_of_gt h0)
 have hd := Int.emod_lt_of_pos n h0
 have key : n % m = if n.tmod m < 0 then n.tmod m + m else n.tmod m := by
  have e1 := Int.tmod_eq_emod (a := n) (b := m)
  split at e1
  ·rw [e1, if_neg (by omega)]; omega
  ·have : (m.natAbs : Int) = m := Int.natAbs_of_nonneg (by omega)
   split <;> omega
 refine oblB_of (by rw [Bool.not_eq_true', beqInt_false]; omega) ?_
 refine mtB_of (fun h => ?_) (fun h => ?_)
 ·have h := ltInt_iff.1 h
  rw [if_pos h] at key
  exact fin_int (by rw [wrapA_i64 (by omega) (by omega), key])
 ·have h := ltInt_false.1 h
  rw [if_neg (by omega)] at key
  exact fin_int key.symm
structure Rw where
 k : Int
 a : Int
 b : Int
 c : Int
def rwC (r : Rw) : List AV := [I r.k, I r.a, I r.b, I r.c]
def rwA (r : Rw) : AV := .agg (rwC r)
def ofL {α : Type} (l : List α) (d : α) (n : Int) : α := (l[(n % (l.length : Int)).toNat]?).getD d
def pkF : List AV → Option AV
 | [.int _ n, .int _ m] => some (I (n % m))
 | _ => none
theorem mod_nat {n m : Int} (h : 0 < m) : ∃ k : Nat, n % m = (k : Int) ∧ (k : Int) < m := by
 have h1 := Int.emod_nonneg n (Int.ne_of_gt h)
 have h2 := Int.emod_lt_of_pos n h
 exact ⟨(n % m).toNat, by omega, by omega⟩
theorem ofL_mem {α : Type} (l : List α) (d : α) (n : Int) (h : l ≠ []) : ofL l d n ∈ l := by
 have hp : 0 < l.length := List.length_pos_iff.2 h
 obtain ⟨k, h1, h2⟩ := mod_nat (n := n) (m := (l.length : Int)) (by omega)
 have hk : k < l.length := by omega
 unfold ofL
 rw [h1]
 have : (k : Int).toNat = k := by omega
 rw [this, List.getElem?_eq_getElem hk]
 simp
def idL : List (List UInt8) := [[49], [50], [51], [52], [53], [54], [55], [49], [50], [51], [57, 57], [120]]
noncomputable def idA (s : List UInt8) : Aid := aidJ [(1, 3, .res (.str s))] [] (manyF [(23, pkF)]) [] []
theorem id_fn (n : Int) (s : List UInt8) (Q : AV → Heap → Nat → Prop) : fnK Tryz.prog opts0 40 (idA s) 67 [I n] [] 0 Q =
  (SC 23 [I n, I 12] (I (n % 12)) ∧ indexA Tryz.prog 160 (AV.agg [AV.str [49], AV.str [50], AV.str [51], AV.str [52], AV.str [53], AV.str [54], AV.str [55], AV.str [49], AV.str [50], AV.str [51], AV.str [57, 57], AV.str [120]]) (I (n % 12)) = some (AV.str s) ∧ Q (AV.str s) [] 6) := by kernel_rfl
theorem mod_cases {n : Int} {m : Nat} (h : 0 < m) {p : Int → Prop} (hp : ∀ k : Nat, k < m → p (k : Int)) : p (n % (m : Int)) := by
 obtain ⟨k, h1, h2⟩ := mod_nat (n := n) (m := (m : Int)) (by omega)
 rw [h1]
 exact hp k (by omega)
theorem lt_cases {m : Nat} {p : Nat → Prop} (h : ∀ k ∈ List.range m, p k) : ∀ k : Nat, k < m → p k := fun k hk => h k (List.mem_range.2 hk)
theorem id_sem (n : Int) : SC 67 [I n] (.str (ofL idL [] n)) := by
 refine fnK_sem (A := idA (ofL idL [] n)) base0 aidJ_ok (fnLs_of (LsOk.no rfl)) rfl ?_
 rw [id_fn]
 refine And.intro (pick_sem n (m := 12) (by decide) (by decide)) (And.intro ?_ (fin_closed rfl))
 unfold ofL
 exact mod_cases (m := 12) (p := fun x => indexA Tryz.prog 160 (.agg (idL.map .str)) (I x) = some (.str ((idL[x.toNat]?).getD []))) (by decide) (lt_cases (by simp only [List.range, List.range.loop, List.forall_mem_cons]; refine ⟨?_, ?_, ?_, ?_, ?_, ?_, ?_, ?_, ?_, ?_, ?_, ?_, ?_⟩ <;> first | kernel_rfl | (intro _ h; cases h)))
def vlV (y n : Int) (d : List UInt8) (ks : List It) : It := .mk 4325387 y n d ks
structure At where
 name : List UInt8
 idx : Int
 v : It
def itC : It → List AV
 | .mk t y n d ks => itF t y n (toBytes d) (itAs ks)
theorem itA_C (x : It) : itA x = .agg (itC x) := by cases x; rfl
def atC (a : At) : List AV := .str a.name :: I a.idx :: itC a.v
def atA (a : At) : AV := .agg (atC a)
theorem closed_itC (x : It) : closedAll (itC x) = true := by
 have := closed_it x
 rw [itA_C] at this
 exact this
theorem closed_atA (a : At) : closedA (atA a) = true := by simp only [atA, atC, closedA, closedAll, closed_itC, Bool.and_self]
end Go.Proofs.YtjhggnebkfpgcaaGreatDoor
