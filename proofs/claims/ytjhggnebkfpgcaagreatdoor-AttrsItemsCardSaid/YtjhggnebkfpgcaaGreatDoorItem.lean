/- Any items: what the function that makes them answers. -/
import Derived.Test.YtjhggnebkfpgcaaGreatDoorRead
import Derived.KernelRfl
namespace Go.Proofs.YtjhggnebkfpgcaaGreatDoor
open Go Go.RowKit
open Go.Proofs.Abs

theorem pick_fn (n m : Int) (Q : AV → Heap → Nat → Prop) : fnK Tryz.prog opts0 40 aid0 23 [I n, I m] [] 0 Q =
    (oblB (!beqInt m 0) (mtB (ltInt (n.tmod m) 0) (Q (AV.int IntKind.i64 (wrapA IntKind.i64 (n.tmod m + m))) [] 13) (Q (AV.int IntKind.i64 (n.tmod m)) [] 9))) := by kernel_rfl
theorem pick_sem (n : Int) {m : Int} (h0 : 0 < m) (h1 : m ≤ 4611686018427387904) : SemCall Tryz.prog opts0.glob 23 [I n, I m] (I (n % m)) := by
  refine fnK_sem (A := aid0) base0 aidOk0 (fnLs_of (LsOk.no rfl)) (by simp [closedA, closedAll]) ?_
  rw [pick_fn]
  have hm : n.tmod m = n % m ∨ (n.tmod m = n % m - m ∧ 0 < n % m) := by
    rw [Int.tmod_eq_emod]
    split
    · exact .inl (by omega)
    · rename_i h
      simp only [not_or] at h
      have h3 := Int.emod_nonneg n (show m ≠ 0 by omega)
      have h4 : n % m ≠ 0 := fun h5 => h.2 (Int.dvd_of_emod_eq_zero h5)
      refine .inr ⟨by omega, by omega⟩
  have h3 := Int.emod_nonneg n (show m ≠ 0 by omega)
  have h4 := Int.emod_lt_of_pos n h0
  refine oblB_of (by rw [Bool.not_eq_true', beqInt_false]; omega) (mtB_of (fun e => ?_) (fun e => ?_))
  · have e := ltInt_iff.1 e
    refine fin_int ?_
    rw [wrapA_i64 (by omega) (by omega)]
    omega
  · have e := ltInt_false.1 e
    exact fin_int (by omega)

/-- Raw numbers. -/
structure Rw where
  k : Int
  a : Int
  b : Int
  c : Int
def rwC (r : Rw) : List AV := [I r.k, I r.a, I r.b, I r.c]
def rwA (r : Rw) : AV := .agg (rwC r)
noncomputable def imV0 (L : AV) (at' k : Int) (t : Int) : View := ⟨[(0, L), (1, I at'), (7, I k)], [(4, .ptr 0 0), (6, .ptr 1 0)], [(0, .cells cpZ, .whole), (1, .cells [I t, I 1, I 0, .nilsl, .nilsl], .whole)], 3, 81⟩
noncomputable def imV (L : AV) (at' k : Int) (t : Int) (n : Nat) (es : List AV) : View := ⟨[(0, L), (1, I at'), (7, I k)], [(4, .ptr 0 0), (6, .ptr 1 0)], [(0, .cells cpZ, .whole), (1, .cells [I t, I 1, I 0, .nilsl, .rsl true 2 0 n 5], .each), (2, .cells es, .whole)], 3, 81⟩
noncomputable def imA (n : Nat) (r : Rw) (p : Int) (v : AV) : Aid := aidJ [(9, 2, .res (I (.ofNat n))), (11, 2, .res (.fptr (rwC r) 0))] [] (manyS [(23, I p), (75, v)]) [] []
theorem im_00 (L : AV) (at' k t p a b c e : Int) (n : Nat) (r : Rw) (D K : AV) (N : Prop) (Q : AExit → St → Prop) : wpK Tryz.prog opts0 40 (imA n r p (.agg [I a, I b, I c, D, K])) (lpCode Tryz.prog 75 10) (imV0 L at' k t).st (roundP 0 [(0, 0), (1, 1)] (imV0 L at' e t) N [(0, 0), (1, 1)] (imV0 L at' k t) Q) =
    (builtinA Tryz.prog Builtin.len { toList := [22] } [L] = some (Eff.val (AV.int IntKind.i64 (Int.ofNat n))) ∧ mtB (ltInt k (Int.ofNat n)) (mtB (ltInt k 8) (indexAddrA Tryz.prog 22 L (AV.int IntKind.i64 k) = some (AV.fptr [AV.int IntKind.i64 r.1, AV.int IntKind.i64 r.2, AV.int IntKind.i64 r.3, AV.int IntKind.i64 r.4] 0) ∧ SemCall Tryz.prog opts0.glob 23 [AV.int IntKind.i64 r.1, AV.int IntKind.i64 k] (AV.int IntKind.i64 p) ∧ mtB (beqInt p at') (SemCall Tryz.prog opts0.glob 75 [L, AV.int IntKind.i64 k] (AV.agg [AV.int IntKind.i64 a, AV.int IntKind.i64 b, AV.int IntKind.i64 c, D, K]) ∧ (((L = L ∧ closedA L = true) ∧ (AV.int IntKind.i64 at' = AV.int IntKind.i64 at' ∧ closedA (AV.int IntKind.i64 at') = true) ∧ (AV.int IntKind.i64 (wrapA IntKind.i64 (k + 1)) = AV.int IntKind.i64 e ∧ closedA (AV.int IntKind.i64 e) = true) ∧ True) ∧ ((some 0 = some 0 ∧ 0 = 0) ∧ (some 1 = some 1 ∧ 0 = 0) ∧ True) ∧ ([AV.int IntKind.i64 0, AV.int IntKind.i64 0, AV.int IntKind.i64 0, AV.nilsl, AV.nilsl] = [AV.int IntKind.i64 0, AV.int IntKind.i64 0, AV.int IntKind.i64 0, AV.nilsl, AV.nilsl] ∧ true = true) ∧ ([AV.int IntKind.i64 t, AV.int IntKind.i64 1, AV.int IntKind.i64 0, AV.nilsl, AV.rsl true 26 0 (lenN [AV.agg [AV.int IntKind.i64 a, AV.int IntKind.i64 b, AV.int IntKind.i64 c, D, K]]) 5] = [AV.int IntKind.i64 t, AV.int IntKind.i64 1, AV.int IntKind.i64 0, AV.nilsl, AV.nilsl] ∧ closedAll [AV.int IntKind.i64 t, AV.int IntKind.i64 1, AV.int IntKind.i64 0, AV.nilsl, AV.nilsl] = true) ∧ True) ∧ N) ((((L = L ∧ closedA L = true) ∧ (AV.int IntKind.i64 at' = AV.int IntKind.i64 at' ∧ closedA (AV.int IntKind.i64 at') = true) ∧ (AV.int IntKind.i64 (wrapA IntKind.i64 (k + 1)) = AV.int IntKind.i64 e ∧ closedA (AV.int IntKind.i64 e) = true) ∧ True) ∧ ((some 0 = some 0 ∧ 0 = 0) ∧ (some 1 = some 1 ∧ 0 = 0) ∧ True) ∧ ([AV.int IntKind.i64 0, AV.int IntKind.i64 0, AV.int IntKind.i64 0, AV.nilsl, AV.nilsl] = [AV.int IntKind.i64 0, AV.int IntKind.i64 0, AV.int IntKind.i64 0, AV.nilsl, AV.nilsl] ∧ true = true) ∧ ([AV.int IntKind.i64 t, AV.int IntKind.i64 1, AV.int IntKind.i64 0, AV.nilsl, AV.nilsl] = [AV.int IntKind.i64 t, AV.int IntKind.i64 1, AV.int IntKind.i64 0, AV.nilsl, AV.nilsl] ∧ closedAll [AV.int IntKind.i64 t, AV.int IntKind.i64 1, AV.int IntKind.i64 0, AV.nilsl, AV.nilsl] = true) ∧ True) ∧ N)) ((((L = L ∧ closedA L = true) ∧ (AV.int IntKind.i64 at' = AV.int IntKind.i64 at' ∧ closedA (AV.int IntKind.i64 at') = true) ∧ (AV.int IntKind.i64 k = AV.int IntKind.i64 k ∧ closedA (AV.int IntKind.i64 k) = true) ∧ True) ∧ ((some 0 = some 0 ∧ 0 = 0) ∧ (some 1 = some 1 ∧ 0 = 0) ∧ True) ∧ ([AV.int IntKind.i64 0, AV.int IntKind.i64 0, AV.int IntKind.i64 0, AV.nilsl, AV.nilsl] = [AV.int IntKind.i64 0, AV.int IntKind.i64 0, AV.int IntKind.i64 0, AV.nilsl, AV.nilsl] ∧ true = true) ∧ ([AV.int IntKind.i64 t, AV.int IntKind.i64 1, AV.int IntKind.i64 0, AV.nilsl, AV.nilsl] = [AV.int IntKind.i64 t, AV.int IntKind.i64 1, AV.int IntKind.i64 0, AV.nilsl, AV.nilsl] ∧ closedAll [AV.int IntKind.i64 t, AV.int IntKind.i64 1, AV.int IntKind.i64 0, AV.nilsl, AV.nilsl] = true) ∧ True) ∧ Q (AExit.exit 1) (imV0 L at' k t).st)) ((((L = L ∧ closedA L = true) ∧ (AV.int IntKind.i64 at' = AV.int IntKind.i64 at' ∧ closedA (AV.int IntKind.i64 at') = true) ∧ (AV.int IntKind.i64 k = AV.int IntKind.i64 k ∧ closedA (AV.int IntKind.i64 k) = true) ∧ True) ∧ ((some 0 = some 0 ∧ 0 = 0) ∧ (some 1 = some 1 ∧ 0 = 0) ∧ True) ∧ ([AV.int IntKind.i64 0, AV.int IntKind.i64 0, AV.int IntKind.i64 0, AV.nilsl, AV.nilsl] = [AV.int IntKind.i64 0, AV.int IntKind.i64 0, AV.int IntKind.i64 0, AV.nilsl, AV.nilsl] ∧ true = true) ∧ ([AV.int IntKind.i64 t, AV.int IntKind.i64 1, AV.int IntKind.i64 0, AV.nilsl, AV.nilsl] = [AV.int IntKind.i64 t, AV.int IntKind.i64 1, AV.int IntKind.i64 0, AV.nilsl, AV.nilsl] ∧ closedAll [AV.int IntKind.i64 t, AV.int IntKind.i64 1, AV.int IntKind.i64 0, AV.nilsl, AV.nilsl] = true) ∧ True) ∧ Q (AExit.exit 1) (imV0 L at' k t).st)) := by kernel_rfl
theorem im_01 (L : AV) (at' k t p a b c e : Int) (n : Nat) (r : Rw) (D K : AV) (es : List AV) (N : Prop) (Q : AExit → St → Prop) : wpK Tryz.prog opts0 40 (imA n r p (.agg [I a, I b, I c, D, K])) (lpCode Tryz.prog 75 10) (imV0 L at' k t).st (roundP 0 [(0, 0), (1, 1), (2, 26)] (imV L at' e t 1 es) N [(0, 0), (1, 1)] (imV0 L at' k t) Q) =
    (builtinA Tryz.prog Builtin.len { toList := [22] } [L] = some (Eff.val (AV.int IntKind.i64 (Int.ofNat n))) ∧ mtB (ltInt k (Int.ofNat n)) (mtB (ltInt k 8) (indexAddrA Tryz.prog 22 L (AV.int IntKind.i64 k) = some (AV.fptr [AV.int IntKind.i64 r.1, AV.int IntKind.i64 r.2, AV.int IntKind.i64 r.3, AV.int IntKind.i64 r.4] 0) ∧ SemCall Tryz.prog opts0.glob 23 [AV.int IntKind.i64 r.1, AV.int IntKind.i64 k] (AV.int IntKind.i64 p) ∧ mtB (beqInt p at') (SemCall Tryz.prog opts0.glob 75 [L, AV.int IntKind.i64 k] (AV.agg [AV.int IntKind.i64 a, AV.int IntKind.i64 b, AV.int IntKind.i64 c, D, K]) ∧ (((L = L ∧ closedA L = true) ∧ (AV.int IntKind.i64 at' = AV.int IntKind.i64 at' ∧ closedA (AV.int IntKind.i64 at') = true) ∧ (AV.int IntKind.i64 (wrapA IntKind.i64 (k + 1)) = AV.int IntKind.i64 e ∧ closedA (AV.int IntKind.i64 e) = true) ∧ True) ∧ ((some 0 = some 0 ∧ 0 = 0) ∧ (some 1 = some 1 ∧ 0 = 0) ∧ True) ∧ ([AV.int IntKind.i64 0, AV.int IntKind.i64 0, AV.int IntKind.i64 0, AV.nilsl, AV.nilsl] = [AV.int IntKind.i64 0, AV.int IntKind.i64 0, AV.int IntKind.i64 0, AV.nilsl, AV.nilsl] ∧ true = true) ∧ ((AV.int IntKind.i64 t = AV.int IntKind.i64 t ∧ closedA (AV.int IntKind.i64 t) = true) ∧ (AV.int IntKind.i64 1 = AV.int IntKind.i64 1 ∧ true = true) ∧ (AV.int IntKind.i64 0 = AV.int IntKind.i64 0 ∧ true = true) ∧ (AV.nilsl = AV.nilsl ∧ true = true) ∧ (true = true ∧ some 26 = some 26 ∧ 0 = 0 ∧ 1 = lenN [AV.agg [AV.int IntKind.i64 a, AV.int IntKind.i64 b, AV.int IntKind.i64 c, D, K]] ∧ 5 = 5) ∧ True) ∧ (flat [AV.agg [AV.int IntKind.i64 a, AV.int IntKind.i64 b, AV.int IntKind.i64 c, D, K]] = es ∧ closedAll es = true) ∧ True) ∧ N) ((((L = L ∧ closedA L = true) ∧ (AV.int IntKind.i64 at' = AV.int IntKind.i64 at' ∧ closedA (AV.int IntKind.i64 at') = true) ∧ (AV.int IntKind.i64 (wrapA IntKind.i64 (k + 1)) = AV.int IntKind.i64 e ∧ closedA (AV.int IntKind.i64 e) = true) ∧ True) ∧ ((some 0 = some 0 ∧ 0 = 0) ∧ (some 1 = some 1 ∧ 0 = 0) ∧ True) ∧ ([AV.int IntKind.i64 0, AV.int IntKind.i64 0, AV.int IntKind.i64 0, AV.nilsl, AV.nilsl] = [AV.int IntKind.i64 0, AV.int IntKind.i64 0, AV.int IntKind.i64 0, AV.nilsl, AV.nilsl] ∧ true = true) ∧ ((AV.int IntKind.i64 t = AV.int IntKind.i64 t ∧ closedA (AV.int IntKind.i64 t) = true) ∧ (AV.int IntKind.i64 1 = AV.int IntKind.i64 1 ∧ true = true) ∧ (AV.int IntKind.i64 0 = AV.int IntKind.i64 0 ∧ true = true) ∧ (AV.nilsl = AV.nilsl ∧ true = true) ∧ False ∧ True) ∧ False ∧ True) ∧ N)) ((((L = L ∧ closedA L = true) ∧ (AV.int IntKind.i64 at' = AV.int IntKind.i64 at' ∧ closedA (AV.int IntKind.i64 at') = true) ∧ (AV.int IntKind.i64 k = AV.int IntKind.i64 k ∧ closedA (AV.int IntKind.i64 k) = true) ∧ True) ∧ ((some 0 = some 0 ∧ 0 = 0) ∧ (some 1 = some 1 ∧ 0 = 0) ∧ True) ∧ ([AV.int IntKind.i64 0, AV.int IntKind.i64 0, AV.int IntKind.i64 0, AV.nilsl, AV.nilsl] = [AV.int IntKind.i64 0, AV.int IntKind.i64 0, AV.int IntKind.i64 0, AV.nilsl, AV.nilsl] ∧ true = true) ∧ ([AV.int IntKind.i64 t, AV.int IntKind.i64 1, AV.int IntKind.i64 0, AV.nilsl, AV.nilsl] = [AV.int IntKind.i64 t, AV.int IntKind.i64 1, AV.int IntKind.i64 0, AV.nilsl, AV.nilsl] ∧ closedAll [AV.int IntKind.i64 t, AV.int IntKind.i64 1, AV.int IntKind.i64 0, AV.nilsl, AV.nilsl] = true) ∧ True) ∧ Q (AExit.exit 1) (imV0 L at' k t).st)) ((((L = L ∧ closedA L = true) ∧ (AV.int IntKind.i64 at' = AV.int IntKind.i64 at' ∧ closedA (AV.int IntKind.i64 at') = true) ∧ (AV.int IntKind.i64 k = AV.int IntKind.i64 k ∧ closedA (AV.int IntKind.i64 k) = true) ∧ True) ∧ ((some 0 = some 0 ∧ 0 = 0) ∧ (some 1 = some 1 ∧ 0 = 0) ∧ True) ∧ ([AV.int IntKind.i64 0, AV.int IntKind.i64 0, AV.int IntKind.i64 0, AV.nilsl, AV.nilsl] = [AV.int IntKind.i64 0, AV.int IntKind.i64 0, AV.int IntKind.i64 0, AV.nilsl, AV.nilsl] ∧ true = true) ∧ ([AV.int IntKind.i64 t, AV.int IntKind.i64 1, AV.int IntKind.i64 0, AV.nilsl, AV.nilsl] = [AV.int IntKind.i64 t, AV.int IntKind.i64 1, AV.int IntKind.i64 0, AV.nilsl, AV.nilsl] ∧ closedAll [AV.int IntKind.i64 t, AV.int IntKind.i64 1, AV.int IntKind.i64 0, AV.nilsl, AV.nilsl] = true) ∧ True) ∧ Q (AExit.exit 1) (imV0 L at' k t).st)) := by kernel_rfl
theorem im_11 (L : AV) (at' k t p a b c e : Int) (n m : Nat) (r : Rw) (D K : AV) (es : List AV) (N : Prop) (Q : AExit → St → Prop) : wpK Tryz.prog opts0 40 (imA n r p (.agg [I a, I b, I c, D, K])) (lpCode Tryz.prog 75 10) (imV L at' k t m es).st (roundP 0 [(0, 0), (1, 1), (2, 2)] (imV L at' e t m es) N [(0, 0), (1, 1), (2, 2)] (imV L at' k t m es) Q) =
    (builtinA Tryz.prog Builtin.len { toList := [22] } [L] = some (Eff.val (AV.int IntKind.i64 (Int.ofNat n))) ∧ mtB (ltInt k (Int.ofNat n)) (mtB (ltInt k 8) (indexAddrA Tryz.prog 22 L (AV.int IntKind.i64 k) = some (AV.fptr [AV.int IntKind.i64 r.1, AV.int IntKind.i64 r.2, AV.int IntKind.i64 r.3, AV.int IntKind.i64 r.4] 0) ∧ SemCall Tryz.prog opts0.glob 23 [AV.int IntKind.i64 r.1, AV.int IntKind.i64 k] (AV.int IntKind.i64 p) ∧ mtB (beqInt p at') (SemCall Tryz.prog opts0.glob 75 [L, AV.int IntKind.i64 k] (AV.agg [AV.int IntKind.i64 a, AV.int IntKind.i64 b, AV.int IntKind.i64 c, D, K]) ∧ oblB (allSize 5 [AV.agg [AV.int IntKind.i64 a, AV.int IntKind.i64 b, AV.int IntKind.i64 c, D, K]] && (((m + lenN [AV.agg [AV.int IntKind.i64 a, AV.int IntKind.i64 b, AV.int IntKind.i64 c, D, K]]) * 72).ble 140737488355328 && (allOne (flat [AV.agg [AV.int IntKind.i64 a, AV.int IntKind.i64 b, AV.int IntKind.i64 c, D, K]]) && true))) (oblB ((lenN es).beq (m * 5)) ((((L = L ∧ closedA L = true) ∧ (AV.int IntKind.i64 at' = AV.int IntKind.i64 at' ∧ closedA (AV.int IntKind.i64 at') = true) ∧ (AV.int IntKind.i64 (wrapA IntKind.i64 (k + 1)) = AV.int IntKind.i64 e ∧ closedA (AV.int IntKind.i64 e) = true) ∧ True) ∧ ((some 0 = some 0 ∧ 0 = 0) ∧ (some 1 = some 1 ∧ 0 = 0) ∧ True) ∧ ([AV.int IntKind.i64 0, AV.int IntKind.i64 0, AV.int IntKind.i64 0, AV.nilsl, AV.nilsl] = [AV.int IntKind.i64 0, AV.int IntKind.i64 0, AV.int IntKind.i64 0, AV.nilsl, AV.nilsl] ∧ true = true) ∧ ((AV.int IntKind.i64 t = AV.int IntKind.i64 t ∧ closedA (AV.int IntKind.i64 t) = true) ∧ (AV.int IntKind.i64 1 = AV.int IntKind.i64 1 ∧ true = true) ∧ (AV.int IntKind.i64 0 = AV.int IntKind.i64 0 ∧ true = true) ∧ (AV.nilsl = AV.nilsl ∧ true = true) ∧ (true = true ∧ some 2 = some 26 ∧ 0 = 0 ∧ m = m + lenN [AV.agg [AV.int IntKind.i64 a, AV.int IntKind.i64 b, AV.int IntKind.i64 c, D, K]] ∧ 5 = 5) ∧ True) ∧ False ∧ True) ∧ N))) ((((L = L ∧ closedA L = true) ∧ (AV.int IntKind.i64 at' = AV.int IntKind.i64 at' ∧ closedA (AV.int IntKind.i64 at') = true) ∧ (AV.int IntKind.i64 (wrapA IntKind.i64 (k + 1)) = AV.int IntKind.i64 e ∧ closedA (AV.int IntKind.i64 e) = true) ∧ True) ∧ ((some 0 = some 0 ∧ 0 = 0) ∧ (some 1 = some 1 ∧ 0 = 0) ∧ True) ∧ ([AV.int IntKind.i64 0, AV.int IntKind.i64 0, AV.int IntKind.i64 0, AV.nilsl, AV.nilsl] = [AV.int IntKind.i64 0, AV.int IntKind.i64 0, AV.int IntKind.i64 0, AV.nilsl, AV.nilsl] ∧ true = true) ∧ ((AV.int IntKind.i64 t = AV.int IntKind.i64 t ∧ closedA (AV.int IntKind.i64 t) = true) ∧ (AV.int IntKind.i64 1 = AV.int IntKind.i64 1 ∧ true = true) ∧ (AV.int IntKind.i64 0 = AV.int IntKind.i64 0 ∧ true = true) ∧ (AV.nilsl = AV.nilsl ∧ true = true) ∧ (true = true ∧ some 2 = some 2 ∧ 0 = 0 ∧ m = m ∧ 5 = 5) ∧ True) ∧ (es = es ∧ closedAll es = true) ∧ True) ∧ N)) ((((L = L ∧ closedA L = true) ∧ (AV.int IntKind.i64 at' = AV.int IntKind.i64 at' ∧ closedA (AV.int IntKind.i64 at') = true) ∧ (AV.int IntKind.i64 k = AV.int IntKind.i64 k ∧ closedA (AV.int IntKind.i64 k) = true) ∧ True) ∧ ((some 0 = some 0 ∧ 0 = 0) ∧ (some 1 = some 1 ∧ 0 = 0) ∧ True) ∧ ([AV.int IntKind.i64 0, AV.int IntKind.i64 0, AV.int IntKind.i64 0, AV.nilsl, AV.nilsl] = [AV.int IntKind.i64 0, AV.int IntKind.i64 0, AV.int IntKind.i64 0, AV.nilsl, AV.nilsl] ∧ true = true) ∧ ((AV.int IntKind.i64 t = AV.int IntKind.i64 t ∧ closedA (AV.int IntKind.i64 t) = true) ∧ (AV.int IntKind.i64 1 = AV.int IntKind.i64 1 ∧ true = true) ∧ (AV.int IntKind.i64 0 = AV.int IntKind.i64 0 ∧ true = true) ∧ (AV.nilsl = AV.nilsl ∧ true = true) ∧ (true = true ∧ some 2 = some 2 ∧ 0 = 0 ∧ m = m ∧ 5 = 5) ∧ True) ∧ (es = es ∧ closedAll es = true) ∧ True) ∧ Q (AExit.exit 1) (imV L at' k t m es).st)) ((((L = L ∧ closedA L = true) ∧ (AV.int IntKind.i64 at' = AV.int IntKind.i64 at' ∧ closedA (AV.int IntKind.i64 at') = true) ∧ (AV.int IntKind.i64 k = AV.int IntKind.i64 k ∧ closedA (AV.int IntKind.i64 k) = true) ∧ True) ∧ ((some 0 = some 0 ∧ 0 = 0) ∧ (some 1 = some 1 ∧ 0 = 0) ∧ True) ∧ ([AV.int IntKind.i64 0, AV.int IntKind.i64 0, AV.int IntKind.i64 0, AV.nilsl, AV.nilsl] = [AV.int IntKind.i64 0, AV.int IntKind.i64 0, AV.int IntKind.i64 0, AV.nilsl, AV.nilsl] ∧ true = true) ∧ ((AV.int IntKind.i64 t = AV.int IntKind.i64 t ∧ closedA (AV.int IntKind.i64 t) = true) ∧ (AV.int IntKind.i64 1 = AV.int IntKind.i64 1 ∧ true = true) ∧ (AV.int IntKind.i64 0 = AV.int IntKind.i64 0 ∧ true = true) ∧ (AV.nilsl = AV.nilsl ∧ true = true) ∧ (true = true ∧ some 2 = some 2 ∧ 0 = 0 ∧ m = m ∧ 5 = 5) ∧ True) ∧ (es = es ∧ closedAll es = true) ∧ True) ∧ Q (AExit.exit 1) (imV L at' k t m es).st)) := by kernel_rfl
theorem im_12 (L : AV) (at' k t p a b c e : Int) (n m m' : Nat) (r : Rw) (D K : AV) (es es' : List AV) (N : Prop) (Q : AExit → St → Prop) : wpK Tryz.prog opts0 40 (imA n r p (.agg [I a, I b, I c, D, K])) (lpCode Tryz.prog 75 10) (imV L at' k t m es).st (roundP 0 [(0, 0), (1, 1), (2, 26)] (imV L at' e t m' es') N [(0, 0), (1, 1), (2, 2)] (imV L at' k t m es) Q) =
    (builtinA Tryz.prog Builtin.len { toList := [22] } [L] = some (Eff.val (AV.int IntKind.i64 (Int.ofNat n))) ∧ mtB (ltInt k (Int.ofNat n)) (mtB (ltInt k 8) (indexAddrA Tryz.prog 22 L (AV.int IntKind.i64 k) = some (AV.fptr [AV.int IntKind.i64 r.1, AV.int IntKind.i64 r.2, AV.int IntKind.i64 r.3, AV.int IntKind.i64 r.4] 0) ∧ SemCall Tryz.prog opts0.glob 23 [AV.int IntKind.i64 r.1, AV.int IntKind.i64 k] (AV.int IntKind.i64 p) ∧ mtB (beqInt p at') (SemCall Tryz.prog opts0.glob 75 [L, AV.int IntKind.i64 k] (AV.agg [AV.int IntKind.i64 a, AV.int IntKind.i64 b, AV.int IntKind.i64 c, D, K]) ∧ oblB (allSize 5 [AV.agg [AV.int IntKind.i64 a, AV.int IntKind.i64 b, AV.int IntKind.i64 c, D, K]] && (((m + lenN [AV.agg [AV.int IntKind.i64 a, AV.int IntKind.i64 b, AV.int IntKind.i64 c, D, K]]) * 72).ble 140737488355328 && (allOne (flat [AV.agg [AV.int IntKind.i64 a, AV.int IntKind.i64 b, AV.int IntKind.i64 c, D, K]]) && true))) (oblB ((lenN es).beq (m * 5)) ((((L = L ∧ closedA L = true) ∧ (AV.int IntKind.i64 at' = AV.int IntKind.i64 at' ∧ closedA (AV.int IntKind.i64 at') = true) ∧ (AV.int IntKind.i64 (wrapA IntKind.i64 (k + 1)) = AV.int IntKind.i64 e ∧ closedA (AV.int IntKind.i64 e) = true) ∧ True) ∧ ((some 0 = some 0 ∧ 0 = 0) ∧ (some 1 = some 1 ∧ 0 = 0) ∧ True) ∧ ([AV.int IntKind.i64 0, AV.int IntKind.i64 0, AV.int IntKind.i64 0, AV.nilsl, AV.nilsl] = [AV.int IntKind.i64 0, AV.int IntKind.i64 0, AV.int IntKind.i64 0, AV.nilsl, AV.nilsl] ∧ true = true) ∧ ((AV.int IntKind.i64 t = AV.int IntKind.i64 t ∧ closedA (AV.int IntKind.i64 t) = true) ∧ (AV.int IntKind.i64 1 = AV.int IntKind.i64 1 ∧ true = true) ∧ (AV.int IntKind.i64 0 = AV.int IntKind.i64 0 ∧ true = true) ∧ (AV.nilsl = AV.nilsl ∧ true = true) ∧ (true = true ∧ some 26 = some 26 ∧ 0 = 0 ∧ m' = m + lenN [AV.agg [AV.int IntKind.i64 a, AV.int IntKind.i64 b, AV.int IntKind.i64 c, D, K]] ∧ 5 = 5) ∧ True) ∧ (es ++ flat [AV.agg [AV.int IntKind.i64 a, AV.int IntKind.i64 b, AV.int IntKind.i64 c, D, K]] = es' ∧ closedAll es' = true) ∧ True) ∧ N))) ((((L = L ∧ closedA L = true) ∧ (AV.int IntKind.i64 at' = AV.int IntKind.i64 at' ∧ closedA (AV.int IntKind.i64 at') = true) ∧ (AV.int IntKind.i64 (wrapA IntKind.i64 (k + 1)) = AV.int IntKind.i64 e ∧ closedA (AV.int IntKind.i64 e) = true) ∧ True) ∧ ((some 0 = some 0 ∧ 0 = 0) ∧ (some 1 = some 1 ∧ 0 = 0) ∧ True) ∧ ([AV.int IntKind.i64 0, AV.int IntKind.i64 0, AV.int IntKind.i64 0, AV.nilsl, AV.nilsl] = [AV.int IntKind.i64 0, AV.int IntKind.i64 0, AV.int IntKind.i64 0, AV.nilsl, AV.nilsl] ∧ true = true) ∧ ((AV.int IntKind.i64 t = AV.int IntKind.i64 t ∧ closedA (AV.int IntKind.i64 t) = true) ∧ (AV.int IntKind.i64 1 = AV.int IntKind.i64 1 ∧ true = true) ∧ (AV.int IntKind.i64 0 = AV.int IntKind.i64 0 ∧ true = true) ∧ (AV.nilsl = AV.nilsl ∧ true = true) ∧ (true = true ∧ some 26 = some 2 ∧ 0 = 0 ∧ m' = m ∧ 5 = 5) ∧ True) ∧ False ∧ True) ∧ N)) ((((L = L ∧ closedA L = true) ∧ (AV.int IntKind.i64 at' = AV.int IntKind.i64 at' ∧ closedA (AV.int IntKind.i64 at') = true) ∧ (AV.int IntKind.i64 k = AV.int IntKind.i64 k ∧ closedA (AV.int IntKind.i64 k) = true) ∧ True) ∧ ((some 0 = some 0 ∧ 0 = 0) ∧ (some 1 = some 1 ∧ 0 = 0) ∧ True) ∧ ([AV.int IntKind.i64 0, AV.int IntKind.i64 0, AV.int IntKind.i64 0, AV.nilsl, AV.nilsl] = [AV.int IntKind.i64 0, AV.int IntKind.i64 0, AV.int IntKind.i64 0, AV.nilsl, AV.nilsl] ∧ true = true) ∧ ((AV.int IntKind.i64 t = AV.int IntKind.i64 t ∧ closedA (AV.int IntKind.i64 t) = true) ∧ (AV.int IntKind.i64 1 = AV.int IntKind.i64 1 ∧ true = true) ∧ (AV.int IntKind.i64 0 = AV.int IntKind.i64 0 ∧ true = true) ∧ (AV.nilsl = AV.nilsl ∧ true = true) ∧ (true = true ∧ some 2 = some 2 ∧ 0 = 0 ∧ m = m ∧ 5 = 5) ∧ True) ∧ (es = es ∧ closedAll es = true) ∧ True) ∧ Q (AExit.exit 1) (imV L at' k t m es).st)) ((((L = L ∧ closedA L = true) ∧ (AV.int IntKind.i64 at' = AV.int IntKind.i64 at' ∧ closedA (AV.int IntKind.i64 at') = true) ∧ (AV.int IntKind.i64 k = AV.int IntKind.i64 k ∧ closedA (AV.int IntKind.i64 k) = true) ∧ True) ∧ ((some 0 = some 0 ∧ 0 = 0) ∧ (some 1 = some 1 ∧ 0 = 0) ∧ True) ∧ ([AV.int IntKind.i64 0, AV.int IntKind.i64 0, AV.int IntKind.i64 0, AV.nilsl, AV.nilsl] = [AV.int IntKind.i64 0, AV.int IntKind.i64 0, AV.int IntKind.i64 0, AV.nilsl, AV.nilsl] ∧ true = true) ∧ ((AV.int IntKind.i64 t = AV.int IntKind.i64 t ∧ closedA (AV.int IntKind.i64 t) = true) ∧ (AV.int IntKind.i64 1 = AV.int IntKind.i64 1 ∧ true = true) ∧ (AV.int IntKind.i64 0 = AV.int IntKind.i64 0 ∧ true = true) ∧ (AV.nilsl = AV.nilsl ∧ true = true) ∧ (true = true ∧ some 2 = some 2 ∧ 0 = 0 ∧ m = m ∧ 5 = 5) ∧ True) ∧ (es = es ∧ closedAll es = true) ∧ True) ∧ Q (AExit.exit 1) (imV L at' k t m es).st)) := by kernel_rfl
/-- What is picked of a raw one. -/
def imP (p8 p10 p4 p300 : Int) : List AV → Option AV
  | [_, .int _ (.ofNat n)] => match Nat.beq n 8 with
    | true => some (I p8)
    | false => match Nat.beq n 10 with
      | true => some (I p10)
      | false => match Nat.beq n 4 with
        | true => some (I p4)
        | false => some (I p300)
  | _ => none
noncomputable def imL (p : Prop) (L : AV) (at' k t : Int) (F : View) : LoopS := fun s Q => p ∧ seesK 0 [(0, 0), (1, 25)] (imV0 L at' k t) s ∧ Q (.exit 1) F.st
noncomputable def imB (n : Nat) (r : Rw) (p8 p10 p4 p300 t : Int) (s : List UInt8) (L : LoopS) : Aid := aidJ [(1, 2, .res (I (.ofNat n))), (3, 2, .res (.fptr (rwC r) 0)), (4, 4, .res (I t)), (16, 4, .res (.str s))] [(10, L)] (manyF [(23, imP p8 p10 p4 p300)]) [] []
theorem im_fn0 (p : Prop) (L : AV) (at' k e t p8 p10 p4 p300 : Int) (n : Nat) (r : Rw) (s : List UInt8) (Q : AV → Heap → Nat → Prop) : fnK Tryz.prog opts0 40 (imB n r p8 p10 p4 p300 t s (imL p L at' k t (imV0 L at' e t))) 75 [L, I at'] [] 0 Q =
    (builtinA Tryz.prog Builtin.len { toList := [22] } [L] = some (Eff.val (AV.int IntKind.i64 (Int.ofNat n))) ∧ mtB (!ltInt at' (Int.ofNat n)) (Q (AV.agg [AV.int IntKind.i64 0, AV.int IntKind.i64 0, AV.int IntKind.i64 0, AV.nilsl, AV.nilsl]) [(0, some (Blk.cells [AV.int IntKind.i64 0, AV.int IntKind.i64 0, AV.int IntKind.i64 0, AV.nilsl, AV.nilsl]))] 11) (mtB (!ltInt at' 8) (Q (AV.agg [AV.int IntKind.i64 0, AV.int IntKind.i64 0, AV.int IntKind.i64 0, AV.nilsl, AV.nilsl]) [(0, some (Blk.cells [AV.int IntKind.i64 0, AV.int IntKind.i64 0, AV.int IntKind.i64 0, AV.nilsl, AV.nilsl]))] 11) (indexAddrA Tryz.prog 22 L (AV.int IntKind.i64 at') = some (AV.fptr [AV.int IntKind.i64 r.1, AV.int IntKind.i64 r.2, AV.int IntKind.i64 r.3, AV.int IntKind.i64 r.4] 0) ∧ SemCall Tryz.prog opts0.glob 23 [AV.int IntKind.i64 r.2, AV.int IntKind.i64 8] (AV.int IntKind.i64 p8) ∧ indexA Tryz.prog 164 (AV.agg [AV.int IntKind.i64 4325387, AV.int IntKind.i64 4325386, AV.int IntKind.i64 4325384, AV.int IntKind.i64 4325524, AV.int IntKind.i64 4325570, AV.int IntKind.i64 4325385, AV.int IntKind.i64 4325451, AV.int IntKind.i64 4325377]) (AV.int IntKind.i64 p8) = some (AV.int IntKind.i64 t) ∧ SemCall Tryz.prog opts0.glob 23 [AV.int IntKind.i64 r.3, AV.int IntKind.i64 10] (AV.int IntKind.i64 p10) ∧ mtB (beqInt (wrapA IntKind.i64 (1 + p10)) 1) (p ∧ (((L = L ∧ closedA L = true) ∧ (AV.int IntKind.i64 at' = AV.int IntKind.i64 at' ∧ closedA (AV.int IntKind.i64 at') = true) ∧ (AV.int IntKind.i64 (wrapA IntKind.i64 (at' + 1)) = AV.int IntKind.i64 k ∧ closedA (AV.int IntKind.i64 k) = true) ∧ True) ∧ ((some 0 = some 0 ∧ 0 = 0) ∧ (some 25 = some 25 ∧ 0 = 0) ∧ True) ∧ ([AV.int IntKind.i64 0, AV.int IntKind.i64 0, AV.int IntKind.i64 0, AV.nilsl, AV.nilsl] = [AV.int IntKind.i64 0, AV.int IntKind.i64 0, AV.int IntKind.i64 0, AV.nilsl, AV.nilsl] ∧ true = true) ∧ ([AV.int IntKind.i64 t, AV.int IntKind.i64 (wrapA IntKind.i64 (1 + p10)), AV.int IntKind.i64 0, AV.nilsl, AV.nilsl] = [AV.int IntKind.i64 t, AV.int IntKind.i64 1, AV.int IntKind.i64 0, AV.nilsl, AV.nilsl] ∧ closedAll [AV.int IntKind.i64 t, AV.int IntKind.i64 1, AV.int IntKind.i64 0, AV.nilsl, AV.nilsl] = true) ∧ True) ∧ Q (AV.agg [AV.int IntKind.i64 t, AV.int IntKind.i64 1, AV.int IntKind.i64 0, AV.nilsl, AV.nilsl]) [(0, some (Blk.cells [AV.int IntKind.i64 t, AV.int IntKind.i64 1, AV.int IntKind.i64 0, AV.nilsl, AV.nilsl])), (1, some (Blk.cells [AV.int IntKind.i64 t, AV.int IntKind.i64 1, AV.int IntKind.i64 0, AV.nilsl, AV.nilsl]))] 5) (mtB (beqInt (wrapA IntKind.i64 (1 + p10)) 7) (mtB (beqInt (wrapA IntKind.i64 (1 + p10)) 7) (SemCall Tryz.prog opts0.glob 23 [AV.int IntKind.i64 r.4, AV.int IntKind.i64 4] (AV.int IntKind.i64 p4) ∧ indexA Tryz.prog 109 (AV.agg [AV.str [], AV.str [111, 110, 101], AV.str [116, 119, 111], AV.str [49, 50, 51, 52, 53, 54, 55, 56]]) (AV.int IntKind.i64 p4) = some (AV.str s) ∧ Q (AV.agg [AV.int IntKind.i64 t, AV.int IntKind.i64 (wrapA IntKind.i64 (1 + p10)), AV.int IntKind.i64 0, AV.fsl false (toBytes s), AV.nilsl]) [(25, some (Blk.cells [AV.int IntKind.i64 t, AV.int IntKind.i64 (wrapA IntKind.i64 (1 + p10)), AV.int IntKind.i64 0, AV.fsl false (toBytes s), AV.nilsl])), (13, some (Blk.cells [AV.int IntKind.i64 r.1, AV.int IntKind.i64 r.2, AV.int IntKind.i64 r.3, AV.int IntKind.i64 r.4])), (0, some (Blk.cells [AV.int IntKind.i64 t, AV.int IntKind.i64 (wrapA IntKind.i64 (1 + p10)), AV.int IntKind.i64 0, AV.fsl false (toBytes s), AV.nilsl]))] 43) (SemCall Tryz.prog opts0.glob 23 [AV.int IntKind.i64 r.4, AV.int IntKind.i64 300] (AV.int IntKind.i64 p300) ∧ Q (AV.agg [AV.int IntKind.i64 t, AV.int IntKind.i64 (wrapA IntKind.i64 (1 + p10)), AV.int IntKind.i64 (wrapA IntKind.i64 (p300 - 5)), AV.nilsl, AV.nilsl]) [(25, some (Blk.cells [AV.int IntKind.i64 t, AV.int IntKind.i64 (wrapA IntKind.i64 (1 + p10)), AV.int IntKind.i64 (wrapA IntKind.i64 (p300 - 5)), AV.nilsl, AV.nilsl])), (13, some (Blk.cells [AV.int IntKind.i64 r.1, AV.int IntKind.i64 r.2, AV.int IntKind.i64 r.3, AV.int IntKind.i64 r.4])), (0, some (Blk.cells [AV.int IntKind.i64 t, AV.int IntKind.i64 (wrapA IntKind.i64 (1 + p10)), AV.int IntKind.i64 (wrapA IntKind.i64 (p300 - 5)), AV.nilsl, AV.nilsl]))] 41)) (mtB (beqInt (wrapA IntKind.i64 (1 + p10)) 8) (mtB (beqInt (wrapA IntKind.i64 (1 + p10)) 8) (SemCall Tryz.prog opts0.glob 23 [AV.int IntKind.i64 r.4, AV.int IntKind.i64 4] (AV.int IntKind.i64 p4) ∧ indexA Tryz.prog 109 (AV.agg [AV.str [], AV.str [111, 110, 101], AV.str [116, 119, 111], AV.str [49, 50, 51, 52, 53, 54, 55, 56]]) (AV.int IntKind.i64 p4) = some (AV.str s) ∧ Q (AV.agg [AV.int IntKind.i64 t, AV.int IntKind.i64 (wrapA IntKind.i64 (1 + p10)), AV.int IntKind.i64 0, AV.fsl false (toBytes s), AV.nilsl]) [(25, some (Blk.cells [AV.int IntKind.i64 t, AV.int IntKind.i64 (wrapA IntKind.i64 (1 + p10)), AV.int IntKind.i64 0, AV.fsl false (toBytes s), AV.nilsl])), (13, some (Blk.cells [AV.int IntKind.i64 r.1, AV.int IntKind.i64 r.2, AV.int IntKind.i64 r.3, AV.int IntKind.i64 r.4])), (0, some (Blk.cells [AV.int IntKind.i64 t, AV.int IntKind.i64 (wrapA IntKind.i64 (1 + p10)), AV.int IntKind.i64 0, AV.fsl false (toBytes s), AV.nilsl]))] 45) (SemCall Tryz.prog opts0.glob 23 [AV.int IntKind.i64 r.4, AV.int IntKind.i64 300] (AV.int IntKind.i64 p300) ∧ Q (AV.agg [AV.int IntKind.i64 t, AV.int IntKind.i64 (wrapA IntKind.i64 (1 + p10)), AV.int IntKind.i64 (wrapA IntKind.i64 (p300 - 5)), AV.nilsl, AV.nilsl]) [(25, some (Blk.cells [AV.int IntKind.i64 t, AV.int IntKind.i64 (wrapA IntKind.i64 (1 + p10)), AV.int IntKind.i64 (wrapA IntKind.i64 (p300 - 5)), AV.nilsl, AV.nilsl])), (13, some (Blk.cells [AV.int IntKind.i64 r.1, AV.int IntKind.i64 r.2, AV.int IntKind.i64 r.3, AV.int IntKind.i64 r.4])), (0, some (Blk.cells [AV.int IntKind.i64 t, AV.int IntKind.i64 (wrapA IntKind.i64 (1 + p10)), AV.int IntKind.i64 (wrapA IntKind.i64 (p300 - 5)), AV.nilsl, AV.nilsl]))] 43)) (mtB (beqInt (wrapA IntKind.i64 (1 + p10)) 4) (SemCall Tryz.prog opts0.glob 23 [AV.int IntKind.i64 r.4, AV.int IntKind.i64 4] (AV.int IntKind.i64 p4) ∧ indexA Tryz.prog 109 (AV.agg [AV.str [], AV.str [111, 110, 101], AV.str [116, 119, 111], AV.str [49, 50, 51, 52, 53, 54, 55, 56]]) (AV.int IntKind.i64 p4) = some (AV.str s) ∧ Q (AV.agg [AV.int IntKind.i64 t, AV.int IntKind.i64 (wrapA IntKind.i64 (1 + p10)), AV.int IntKind.i64 0, AV.fsl false (toBytes s), AV.nilsl]) [(25, some (Blk.cells [AV.int IntKind.i64 t, AV.int IntKind.i64 (wrapA IntKind.i64 (1 + p10)), AV.int IntKind.i64 0, AV.fsl false (toBytes s), AV.nilsl])), (13, some (Blk.cells [AV.int IntKind.i64 r.1, AV.int IntKind.i64 r.2, AV.int IntKind.i64 r.3, AV.int IntKind.i64 r.4])), (0, some (Blk.cells [AV.int IntKind.i64 t, AV.int IntKind.i64 (wrapA IntKind.i64 (1 + p10)), AV.int IntKind.i64 0, AV.fsl false (toBytes s), AV.nilsl]))] 47) (SemCall Tryz.prog opts0.glob 23 [AV.int IntKind.i64 r.4, AV.int IntKind.i64 300] (AV.int IntKind.i64 p300) ∧ Q (AV.agg [AV.int IntKind.i64 t, AV.int IntKind.i64 (wrapA IntKind.i64 (1 + p10)), AV.int IntKind.i64 (wrapA IntKind.i64 (p300 - 5)), AV.nilsl, AV.nilsl]) [(25, some (Blk.cells [AV.int IntKind.i64 t, AV.int IntKind.i64 (wrapA IntKind.i64 (1 + p10)), AV.int IntKind.i64 (wrapA IntKind.i64 (p300 - 5)), AV.nilsl, AV.nilsl])), (13, some (Blk.cells [AV.int IntKind.i64 r.1, AV.int IntKind.i64 r.2, AV.int IntKind.i64 r.3, AV.int IntKind.i64 r.4])), (0, some (Blk.cells [AV.int IntKind.i64 t, AV.int IntKind.i64 (wrapA IntKind.i64 (1 + p10)), AV.int IntKind.i64 (wrapA IntKind.i64 (p300 - 5)), AV.nilsl, AV.nilsl]))] 45))))))) := by kernel_rfl
theorem im_fn1 (p : Prop) (L : AV) (at' k e t p8 p10 p4 p300 : Int) (n m : Nat) (r : Rw) (s : List UInt8) (es : List AV) (Q : AV → Heap → Nat → Prop) : fnK Tryz.prog opts0 40 (imB n r p8 p10 p4 p300 t s (imL p L at' k t (imV L at' e t m es))) 75 [L, I at'] [] 0 Q =
    (builtinA Tryz.prog Builtin.len { toList := [22] } [L] = some (Eff.val (AV.int IntKind.i64 (Int.ofNat n))) ∧ mtB (!ltInt at' (Int.ofNat n)) (Q (AV.agg [AV.int IntKind.i64 0, AV.int IntKind.i64 0, AV.int IntKind.i64 0, AV.nilsl, AV.nilsl]) [(0, some (Blk.cells [AV.int IntKind.i64 0, AV.int IntKind.i64 0, AV.int IntKind.i64 0, AV.nilsl, AV.nilsl]))] 11) (mtB (!ltInt at' 8) (Q (AV.agg [AV.int IntKind.i64 0, AV.int IntKind.i64 0, AV.int IntKind.i64 0, AV.nilsl, AV.nilsl]) [(0, some (Blk.cells [AV.int IntKind.i64 0, AV.int IntKind.i64 0, AV.int IntKind.i64 0, AV.nilsl, AV.nilsl]))] 11) (indexAddrA Tryz.prog 22 L (AV.int IntKind.i64 at') = some (AV.fptr [AV.int IntKind.i64 r.1, AV.int IntKind.i64 r.2, AV.int IntKind.i64 r.3, AV.int IntKind.i64 r.4] 0) ∧ SemCall Tryz.prog opts0.glob 23 [AV.int IntKind.i64 r.2, AV.int IntKind.i64 8] (AV.int IntKind.i64 p8) ∧ indexA Tryz.prog 164 (AV.agg [AV.int IntKind.i64 4325387, AV.int IntKind.i64 4325386, AV.int IntKind.i64 4325384, AV.int IntKind.i64 4325524, AV.int IntKind.i64 4325570, AV.int IntKind.i64 4325385, AV.int IntKind.i64 4325451, AV.int IntKind.i64 4325377]) (AV.int IntKind.i64 p8) = some (AV.int IntKind.i64 t) ∧ SemCall Tryz.prog opts0.glob 23 [AV.int IntKind.i64 r.3, AV.int IntKind.i64 10] (AV.int IntKind.i64 p10) ∧ mtB (beqInt (wrapA IntKind.i64 (1 + p10)) 1) (p ∧ (((L = L ∧ closedA L = true) ∧ (AV.int IntKind.i64 at' = AV.int IntKind.i64 at' ∧ closedA (AV.int IntKind.i64 at') = true) ∧ (AV.int IntKind.i64 (wrapA IntKind.i64 (at' + 1)) = AV.int IntKind.i64 k ∧ closedA (AV.int IntKind.i64 k) = true) ∧ True) ∧ ((some 0 = some 0 ∧ 0 = 0) ∧ (some 25 = some 25 ∧ 0 = 0) ∧ True) ∧ ([AV.int IntKind.i64 0, AV.int IntKind.i64 0, AV.int IntKind.i64 0, AV.nilsl, AV.nilsl] = [AV.int IntKind.i64 0, AV.int IntKind.i64 0, AV.int IntKind.i64 0, AV.nilsl, AV.nilsl] ∧ true = true) ∧ ([AV.int IntKind.i64 t, AV.int IntKind.i64 (wrapA IntKind.i64 (1 + p10)), AV.int IntKind.i64 0, AV.nilsl, AV.nilsl] = [AV.int IntKind.i64 t, AV.int IntKind.i64 1, AV.int IntKind.i64 0, AV.nilsl, AV.nilsl] ∧ closedAll [AV.int IntKind.i64 t, AV.int IntKind.i64 1, AV.int IntKind.i64 0, AV.nilsl, AV.nilsl] = true) ∧ True) ∧ Q (AV.agg [AV.int IntKind.i64 t, AV.int IntKind.i64 1, AV.int IntKind.i64 0, AV.nilsl, AV.rsl true 2 0 m 5]) [(0, some (Blk.cells [AV.int IntKind.i64 t, AV.int IntKind.i64 1, AV.int IntKind.i64 0, AV.nilsl, AV.rsl true 2 0 m 5])), (1, some (Blk.cells [AV.int IntKind.i64 t, AV.int IntKind.i64 1, AV.int IntKind.i64 0, AV.nilsl, AV.rsl true 2 0 m 5])), (2, some (Blk.cells es))] 5) (mtB (beqInt (wrapA IntKind.i64 (1 + p10)) 7) (mtB (beqInt (wrapA IntKind.i64 (1 + p10)) 7) (SemCall Tryz.prog opts0.glob 23 [AV.int IntKind.i64 r.4, AV.int IntKind.i64 4] (AV.int IntKind.i64 p4) ∧ indexA Tryz.prog 109 (AV.agg [AV.str [], AV.str [111, 110, 101], AV.str [116, 119, 111], AV.str [49, 50, 51, 52, 53, 54, 55, 56]]) (AV.int IntKind.i64 p4) = some (AV.str s) ∧ Q (AV.agg [AV.int IntKind.i64 t, AV.int IntKind.i64 (wrapA IntKind.i64 (1 + p10)), AV.int IntKind.i64 0, AV.fsl false (toBytes s), AV.nilsl]) [(25, some (Blk.cells [AV.int IntKind.i64 t, AV.int IntKind.i64 (wrapA IntKind.i64 (1 + p10)), AV.int IntKind.i64 0, AV.fsl false (toBytes s), AV.nilsl])), (13, some (Blk.cells [AV.int IntKind.i64 r.1, AV.int IntKind.i64 r.2, AV.int IntKind.i64 r.3, AV.int IntKind.i64 r.4])), (0, some (Blk.cells [AV.int IntKind.i64 t, AV.int IntKind.i64 (wrapA IntKind.i64 (1 + p10)), AV.int IntKind.i64 0, AV.fsl false (toBytes s), AV.nilsl]))] 43) (SemCall Tryz.prog opts0.glob 23 [AV.int IntKind.i64 r.4, AV.int IntKind.i64 300] (AV.int IntKind.i64 p300) ∧ Q (AV.agg [AV.int IntKind.i64 t, AV.int IntKind.i64 (wrapA IntKind.i64 (1 + p10)), AV.int IntKind.i64 (wrapA IntKind.i64 (p300 - 5)), AV.nilsl, AV.nilsl]) [(25, some (Blk.cells [AV.int IntKind.i64 t, AV.int IntKind.i64 (wrapA IntKind.i64 (1 + p10)), AV.int IntKind.i64 (wrapA IntKind.i64 (p300 - 5)), AV.nilsl, AV.nilsl])), (13, some (Blk.cells [AV.int IntKind.i64 r.1, AV.int IntKind.i64 r.2, AV.int IntKind.i64 r.3, AV.int IntKind.i64 r.4])), (0, some (Blk.cells [AV.int IntKind.i64 t, AV.int IntKind.i64 (wrapA IntKind.i64 (1 + p10)), AV.int IntKind.i64 (wrapA IntKind.i64 (p300 - 5)), AV.nilsl, AV.nilsl]))] 41)) (mtB (beqInt (wrapA IntKind.i64 (1 + p10)) 8) (mtB (beqInt (wrapA IntKind.i64 (1 + p10)) 8) (SemCall Tryz.prog opts0.glob 23 [AV.int IntKind.i64 r.4, AV.int IntKind.i64 4] (AV.int IntKind.i64 p4) ∧ indexA Tryz.prog 109 (AV.agg [AV.str [], AV.str [111, 110, 101], AV.str [116, 119, 111], AV.str [49, 50, 51, 52, 53, 54, 55, 56]]) (AV.int IntKind.i64 p4) = some (AV.str s) ∧ Q (AV.agg [AV.int IntKind.i64 t, AV.int IntKind.i64 (wrapA IntKind.i64 (1 + p10)), AV.int IntKind.i64 0, AV.fsl false (toBytes s), AV.nilsl]) [(25, some (Blk.cells [AV.int IntKind.i64 t, AV.int IntKind.i64 (wrapA IntKind.i64 (1 + p10)), AV.int IntKind.i64 0, AV.fsl false (toBytes s), AV.nilsl])), (13, some (Blk.cells [AV.int IntKind.i64 r.1, AV.int IntKind.i64 r.2, AV.int IntKind.i64 r.3, AV.int IntKind.i64 r.4])), (0, some (Blk.cells [AV.int IntKind.i64 t, AV.int IntKind.i64 (wrapA IntKind.i64 (1 + p10)), AV.int IntKind.i64 0, AV.fsl false (toBytes s), AV.nilsl]))] 45) (SemCall Tryz.prog opts0.glob 23 [AV.int IntKind.i64 r.4, AV.int IntKind.i64 300] (AV.int IntKind.i64 p300) ∧ Q (AV.agg [AV.int IntKind.i64 t, AV.int IntKind.i64 (wrapA IntKind.i64 (1 + p10)), AV.int IntKind.i64 (wrapA IntKind.i64 (p300 - 5)), AV.nilsl, AV.nilsl]) [(25, some (Blk.cells [AV.int IntKind.i64 t, AV.int IntKind.i64 (wrapA IntKind.i64 (1 + p10)), AV.int IntKind.i64 (wrapA IntKind.i64 (p300 - 5)), AV.nilsl, AV.nilsl])), (13, some (Blk.cells [AV.int IntKind.i64 r.1, AV.int IntKind.i64 r.2, AV.int IntKind.i64 r.3, AV.int IntKind.i64 r.4])), (0, some (Blk.cells [AV.int IntKind.i64 t, AV.int IntKind.i64 (wrapA IntKind.i64 (1 + p10)), AV.int IntKind.i64 (wrapA IntKind.i64 (p300 - 5)), AV.nilsl, AV.nilsl]))] 43)) (mtB (beqInt (wrapA IntKind.i64 (1 + p10)) 4) (SemCall Tryz.prog opts0.glob 23 [AV.int IntKind.i64 r.4, AV.int IntKind.i64 4] (AV.int IntKind.i64 p4) ∧ indexA Tryz.prog 109 (AV.agg [AV.str [], AV.str [111, 110, 101], AV.str [116, 119, 111], AV.str [49, 50, 51, 52, 53, 54, 55, 56]]) (AV.int IntKind.i64 p4) = some (AV.str s) ∧ Q (AV.agg [AV.int IntKind.i64 t, AV.int IntKind.i64 (wrapA IntKind.i64 (1 + p10)), AV.int IntKind.i64 0, AV.fsl false (toBytes s), AV.nilsl]) [(25, some (Blk.cells [AV.int IntKind.i64 t, AV.int IntKind.i64 (wrapA IntKind.i64 (1 + p10)), AV.int IntKind.i64 0, AV.fsl false (toBytes s), AV.nilsl])), (13, some (Blk.cells [AV.int IntKind.i64 r.1, AV.int IntKind.i64 r.2, AV.int IntKind.i64 r.3, AV.int IntKind.i64 r.4])), (0, some (Blk.cells [AV.int IntKind.i64 t, AV.int IntKind.i64 (wrapA IntKind.i64 (1 + p10)), AV.int IntKind.i64 0, AV.fsl false (toBytes s), AV.nilsl]))] 47) (SemCall Tryz.prog opts0.glob 23 [AV.int IntKind.i64 r.4, AV.int IntKind.i64 300] (AV.int IntKind.i64 p300) ∧ Q (AV.agg [AV.int IntKind.i64 t, AV.int IntKind.i64 (wrapA IntKind.i64 (1 + p10)), AV.int IntKind.i64 (wrapA IntKind.i64 (p300 - 5)), AV.nilsl, AV.nilsl]) [(25, some (Blk.cells [AV.int IntKind.i64 t, AV.int IntKind.i64 (wrapA IntKind.i64 (1 + p10)), AV.int IntKind.i64 (wrapA IntKind.i64 (p300 - 5)), AV.nilsl, AV.nilsl])), (13, some (Blk.cells [AV.int IntKind.i64 r.1, AV.int IntKind.i64 r.2, AV.int IntKind.i64 r.3, AV.int IntKind.i64 r.4])), (0, some (Blk.cells [AV.int IntKind.i64 t, AV.int IntKind.i64 (wrapA IntKind.i64 (1 + p10)), AV.int IntKind.i64 (wrapA IntKind.i64 (p300 - 5)), AV.nilsl, AV.nilsl]))] 45))))))) := by kernel_rfl


def rwV (f : Option Bool) (l : List Rw) : AV := rowV f (l.map rwA)
theorem closed_rws : ∀ l : List Rw, closedAll (l.map rwA) = true
  | [] => rfl
  | r :: t => by simp only [List.map_cons, closedAll, closed_rws t, Bool.and_true]; rfl
theorem closed_rwV {f : Option Bool} {l : List Rw} : closedA (rwV f l) = true := closed_rowA (closed_rws l)
theorem lenR {f : Option Bool} {l : List Rw} (hf : f = none → l = []) : builtinA Tryz.prog .len #[22] [rwV f l] = some (.val (.int .i64 (.ofNat l.length))) := by
  rw [rwV, rowV_len (t := 22) (e := 42) rfl (by kernel_rfl) (fun h => by rw [hf h]; rfl), List.length_map]
theorem idxR {f : Option Bool} {l : List Rw} {i : Nat} {r : Rw} (hf : f = none → l = []) (hx : l[i]? = some r) : indexAddrA Tryz.prog 22 (rwV f l) (.int .i64 (.ofNat i)) = some (.fptr (rwC r) 0) :=
  rowV_index (P := Tryz.prog) (t := 22) (e := 42) (sz := 4) (i := i) (v := rwA r) (by kernel_rfl) (by kernel_rfl) (fun h => by rw [hf h]; rfl) (by rw [List.getElem?_map, hx]; rfl) rfl

/-- The kids that are met. -/
def kidsG (g : Nat → It) (p : Nat → Bool) (a : Nat) : Nat → List It
  | 0 => []
  | j + 1 => match p (a + j) with
    | true => kidsG g p a j ++ [g (a + j)]
    | false => kidsG g p a j
theorem kidsG_len (g : Nat → It) (p : Nat → Bool) (a : Nat) : ∀ j, (kidsG g p a j).length ≤ j
  | 0 => Nat.le_refl _
  | j + 1 => by
    have := kidsG_len g p a j
    simp only [kidsG]
    split
    · rw [List.length_append]; simp only [List.length_cons, List.length_nil]; omega
    · omega
theorem kidsG_mem {g : Nat → It} {p : Nat → Bool} {a : Nat} : ∀ {j : Nat} {x : It}, x ∈ kidsG g p a j → ∃ i, i < j ∧ x = g (a + i)
  | 0, _, h => by cases h
  | j + 1, x, h => by
    simp only [kidsG] at h
    split at h
    · rcases List.mem_append.1 h with h | h
      · obtain ⟨i, hi, e⟩ := kidsG_mem h; exact ⟨i, by omega, e⟩
      · exact ⟨j, by omega, by simpa using h⟩
    · obtain ⟨i, hi, e⟩ := kidsG_mem h; exact ⟨i, by omega, e⟩
noncomputable def imW (L : AV) (at' k t : Int) : List It → View
  | [] => imV0 L at' k t
  | x :: r => imV L at' k t (x :: r).length (flat (itAs (x :: r)))

set_option maxRecDepth 20000 in
theorem im_loop {f : Option Bool} {l : List Rw} {at' t : Nat} {g : Nat → It} {Q : AExit → St → Prop} (hf : f = none → l = []) (hl : l.length ≤ 9223372036854775807)
    (hg : ∀ k, at' < k → k < 8 → SemCall Tryz.prog opts0.glob 75 [rwV f l, I (.ofNat k)] (itA (g k)))
    (J : Nat) (hJ : at' + 1 + J = min l.length 8) (hq : Q (.exit 1) (imW (rwV f l) (.ofNat at') (.ofNat (at' + 1 + J)) (.ofNat t) (kidsG g (fun k => match l[k]? with | some r => beqInt (r.k % (.ofNat k)) (.ofNat at') | none => false) (at' + 1) J)).st) :
    ∀ (m j : Nat), j + m = J → ALp Tryz.prog opts0.glob 0 (lpCode Tryz.prog 75 10) (imW (rwV f l) (.ofNat at') (.ofNat (at' + 1 + j)) (.ofNat t) (kidsG g (fun k => match l[k]? with | some r => beqInt (r.k % (.ofNat k)) (.ofNat at') | none => false) (at' + 1) j)).st Q := by
  have hlen := lenR hf
  have hL := closed_rwV (f := f) (l := l)
  intro m
  induction m with
  | zero =>
    intro j hj
    obtain rfl : j = J := by omega
    generalize kidsG g (fun k => match l[k]? with | some r => beqInt (r.k % (.ofNat k)) (.ofNat at') | none => false) (at' + 1) j = ks at hq ⊢
    have hend : ¬ ((at' + 1 + j : Nat) < l.length ∧ (at' + 1 + j : Nat) < 8) := by omega
    cases ks with
    | nil =>
      refine ALp.round (A := imA l.length ⟨0, 0, 0, 0⟩ 0 (.agg [I 0, I 0, I 0, .nilsl, .nilsl])) (V1 := imV0 (rwV f l) (.ofNat at') 0 (.ofNat t)) (F := imV0 (rwV f l) (.ofNat at') (.ofNat (at' + 1 + j)) (.ofNat t)) (lk := [(0, 0), (1, 1)]) (lk' := [(0, 0), (1, 1)]) base0 aidJ_ok (LsOk.no rfl) .refl ?_
      simp only [imW]
      rw [im_00]
      refine And.intro hlen (mtB_of (fun e => mtB_of (fun e2 => ?_) (fun e2 => ?_)) (fun e => ?_))
      · have e : ((at' + 1 + j : Nat) : Int) < l.length := ltInt_iff.1 e
        have e2 : ((at' + 1 + j : Nat) : Int) < 8 := ltInt_iff.1 e2
        omega
      · exact ⟨by simp [closedAll, closedA, hL], hq⟩
      · exact ⟨by simp [closedAll, closedA, hL], hq⟩
    | cons x r =>
      refine ALp.round (A := imA l.length ⟨0, 0, 0, 0⟩ 0 (.agg [I 0, I 0, I 0, .nilsl, .nilsl])) (V1 := imV (rwV f l) (.ofNat at') 0 (.ofNat t) (x :: r).length (flat (itAs (x :: r)))) (F := imV (rwV f l) (.ofNat at') (.ofNat (at' + 1 + j)) (.ofNat t) (x :: r).length (flat (itAs (x :: r)))) (lk := [(0, 0), (1, 1), (2, 2)]) (lk' := [(0, 0), (1, 1), (2, 2)]) base0 aidJ_ok (LsOk.no rfl) .refl ?_
      simp only [imW]
      rw [im_11]
      refine And.intro hlen (mtB_of (fun e => mtB_of (fun e2 => ?_) (fun e2 => ?_)) (fun e => ?_))
      · have e : ((at' + 1 + j : Nat) : Int) < l.length := ltInt_iff.1 e
        have e2 : ((at' + 1 + j : Nat) : Int) < 8 := ltInt_iff.1 e2
        omega
      · exact ⟨by simp [closedAll, closedA, hL, closed_flat (closed_its (x :: r))], hq⟩
      · exact ⟨by simp [closedAll, closedA, hL, closed_flat (closed_its (x :: r))], hq⟩
  | succ m ih =>
    intro j hj
    have h1 : at' + 1 + j < l.length := by omega
    have h2 : at' + 1 + j < 8 := by omega
    have g1 : l[at' + 1 + j]? = some l[at' + 1 + j] := List.getElem?_eq_getElem h1
    have hi := idxR hf g1
    have hn := ih (j + 1) (by omega)
    have hgk := hg (at' + 1 + j) (by omega) h2
    have hlt := kidsG_len g (fun k => match l[k]? with | some r => beqInt (r.k % (.ofNat k)) (.ofNat at') | none => false) (at' + 1) j
    simp only [kidsG, g1] at hn
    revert hi hn
    generalize l[at' + 1 + j] = r
    intro hi hn
    have hp := pick_sem r.k (m := .ofNat (at' + 1 + j)) (by show (0 : Int) < ((at' + 1 + j : Nat) : Int); omega) (by show ((at' + 1 + j : Nat) : Int) ≤ _; omega)
    have hw : wrapA .i64 (Int.ofNat (at' + 1 + j) + 1) = Int.ofNat (at' + 1 + (j + 1)) := by
      rw [wrapA_i64 (by simp; omega) (by simp; omega)]; rfl
    generalize kidsG g (fun k => match l[k]? with | some r => beqInt (r.k % (.ofNat k)) (.ofNat at') | none => false) (at' + 1) j = ks at hn hlt ⊢
    generalize hgx : g (at' + 1 + j) = x at hn hgk
    generalize hpr : r.k % Int.ofNat (at' + 1 + j) = pr at hp hn
    have k1 : ltInt (Int.ofNat (at' + 1 + j)) (Int.ofNat l.length) = true := ltInt_iff.2 (by show ((at' + 1 + j : Nat) : Int) < l.length; omega)
    have k2 : ltInt (Int.ofNat (at' + 1 + j)) 8 = true := ltInt_iff.2 (by show ((at' + 1 + j : Nat) : Int) < 8; omega)
    obtain ⟨a, b, c, df, d, kf, kk⟩ := x
    have hx := closed_it (.mk a b c df d kf kk)
    simp only [itA] at hgk hx
    cases hb : beqInt pr (.ofNat at') with
    | false =>
      rw [hb] at hn
      cases ks with
      | nil =>
        refine ALp.round (A := imA l.length r pr (itA (.mk a b c df d kf kk))) (V1 := imV0 (rwV f l) (.ofNat at') (.ofNat (at' + 1 + (j + 1))) (.ofNat t)) (F := imV0 (rwV f l) (.ofNat at') (.ofNat (at' + 1 + j)) (.ofNat t)) (lk := [(0, 0), (1, 1)]) (lk' := [(0, 0), (1, 1)]) base0 aidJ_ok (LsOk.no rfl) .refl ?_
        simp only [imW, itA] at hn ⊢
        rw [im_00]
        refine And.intro hlen (mtB_of (fun e => mtB_of (fun e2 => And.intro hi (And.intro hp (mtB_of (fun e3 => ?_) (fun e3 => ?_)))) (fun e2 => ?_)) (fun e => ?_))
        · rw [hb] at e3; cases e3
        · exact ⟨by rw [hw]; simp [closedAll, closedA, hL], hn⟩
        · rw [k2] at e2; cases e2
        · rw [k1] at e; cases e
      | cons y s =>
        refine ALp.round (A := imA l.length r pr (itA (.mk a b c df d kf kk))) (V1 := imV (rwV f l) (.ofNat at') (.ofNat (at' + 1 + (j + 1))) (.ofNat t) (y :: s).length (flat (itAs (y :: s)))) (F := imV (rwV f l) (.ofNat at') (.ofNat (at' + 1 + j)) (.ofNat t) (y :: s).length (flat (itAs (y :: s)))) (lk := [(0, 0), (1, 1), (2, 2)]) (lk' := [(0, 0), (1, 1), (2, 2)]) base0 aidJ_ok (LsOk.no rfl) .refl ?_
        simp only [imW, itA] at hn ⊢
        rw [im_11]
        refine And.intro hlen (mtB_of (fun e => mtB_of (fun e2 => And.intro hi (And.intro hp (mtB_of (fun e3 => ?_) (fun e3 => ?_)))) (fun e2 => ?_)) (fun e => ?_))
        · rw [hb] at e3; cases e3
        · exact ⟨by rw [hw]; simp [closedAll, closedA, hL, closed_flat (closed_its (y :: s))], hn⟩
        · rw [k2] at e2; cases e2
        · rw [k1] at e; cases e
    | true =>
      rw [hb] at hn
      cases ks with
      | nil =>
        refine ALp.round (A := imA l.length r pr (itA (.mk a b c df d kf kk))) (V1 := imV (rwV f l) (.ofNat at') (.ofNat (at' + 1 + (j + 1))) (.ofNat t) 1 (flat (itAs [It.mk a b c df d kf kk]))) (V2 := imV (rwV f l) (.ofNat at') (.ofNat (at' + 1 + (j + 1))) (.ofNat t) 1 (flat (itAs [It.mk a b c df d kf kk]))) (F := imV0 (rwV f l) (.ofNat at') (.ofNat (at' + 1 + j)) (.ofNat t)) (lk := [(0, 0), (1, 1), (2, 26)]) (lk' := [(0, 0), (1, 1)]) base0 aidJ_ok (LsOk.no rfl) .refl ?_
        simp only [List.nil_append, imW, itA, itAs, List.length_cons, List.length_nil] at hn ⊢
        rw [im_01]
        refine And.intro hlen (mtB_of (fun e => mtB_of (fun e2 => And.intro hi (And.intro hp (mtB_of (fun e3 => ?_) (fun e3 => ?_)))) (fun e2 => ?_)) (fun e => ?_))
        · refine And.intro hgk ⟨?_, hn⟩
          have hc := closed_flat (closed_its [It.mk a b c df d kf kk])
          simp only [itAs, itA] at hc
          rw [hw]
          simp [closedAll, closedA, hL, lenN, hc]
        · rw [hb] at e3; cases e3
        · rw [k2] at e2; cases e2
        · rw [k1] at e; cases e
      | cons y s =>
        have hE : flat (itAs (y :: s)) ++ flat [itA (.mk a b c df d kf kk)] = flat (itAs (y :: s ++ [It.mk a b c df d kf kk])) := by rw [its_append, flat_append]; rfl
        refine ALp.round (A := imA l.length r pr (itA (.mk a b c df d kf kk))) (V1 := imV (rwV f l) (.ofNat at') (.ofNat (at' + 1 + (j + 1))) (.ofNat t) (y :: s ++ [It.mk a b c df d kf kk]).length (flat (itAs (y :: s ++ [It.mk a b c df d kf kk])))) (V2 := imV (rwV f l) (.ofNat at') (.ofNat (at' + 1 + (j + 1))) (.ofNat t) (y :: s ++ [It.mk a b c df d kf kk]).length (flat (itAs (y :: s ++ [It.mk a b c df d kf kk])))) (F := imV (rwV f l) (.ofNat at') (.ofNat (at' + 1 + j)) (.ofNat t) (y :: s).length (flat (itAs (y :: s)))) (lk := [(0, 0), (1, 1), (2, 26)]) (lk' := [(0, 0), (1, 1), (2, 2)]) base0 aidJ_ok (LsOk.no rfl) .refl ?_
        have hc := closed_flat (closed_its (y :: s ++ [It.mk a b c df d kf kk]))
        simp only [imW] at hn ⊢
        simp only [itA] at hE ⊢
        rw [im_12]
        refine And.intro hlen (mtB_of (fun e => mtB_of (fun e2 => And.intro hi (And.intro hp (mtB_of (fun e3 => ?_) (fun e3 => ?_)))) (fun e2 => ?_)) (fun e => ?_))
        · refine And.intro hgk (oblB_of ?_ (oblB_of ?_ ⟨?_, hn⟩))
          · simp only [List.length_cons] at hlt
            simp [allSize, lenN, AV.cells, flat, allOne]
            omega
          · rw [beq_iff, lenN_eq, flat_len5]
          · rw [hw, hE]
            simp [closedAll, closedA, hL, lenN]
            exact hc
        · rw [hb] at e3; cases e3
        · rw [k2] at e2; cases e2
        · rw [k1] at e; cases e


def imTags : List Nat := [4325387, 4325386, 4325384, 4325524, 4325570, 4325385, 4325451, 4325377]
def imTexts : List (List UInt8) := [[], [111, 110, 101], [116, 119, 111], [49, 50, 51, 52, 53, 54, 55, 56]]
theorem imTag {p : Int} (h0 : 0 ≤ p) (h1 : p < 8) : ∃ t : Nat, indexA Tryz.prog 164 (.agg [I 4325387, I 4325386, I 4325384, I 4325524, I 4325570, I 4325385, I 4325451, I 4325377]) (I p) = some (I (.ofNat t)) := by
  have : p = 0 ∨ p = 1 ∨ p = 2 ∨ p = 3 ∨ p = 4 ∨ p = 5 ∨ p = 6 ∨ p = 7 := by omega
  rcases this with rfl | rfl | rfl | rfl | rfl | rfl | rfl | rfl
  · exact ⟨4325387, by kernel_rfl⟩
  · exact ⟨4325386, by kernel_rfl⟩
  · exact ⟨4325384, by kernel_rfl⟩
  · exact ⟨4325524, by kernel_rfl⟩
  · exact ⟨4325570, by kernel_rfl⟩
  · exact ⟨4325385, by kernel_rfl⟩
  · exact ⟨4325451, by kernel_rfl⟩
  · exact ⟨4325377, by kernel_rfl⟩
theorem imText {p : Int} (h0 : 0 ≤ p) (h1 : p < 4) : ∃ s : List UInt8, s.length ≤ 8 ∧ indexA Tryz.prog 109 (.agg [.str [], .str [111, 110, 101], .str [116, 119, 111], .str [49, 50, 51, 52, 53, 54, 55, 56]]) (I p) = some (.str s) := by
  have : p = 0 ∨ p = 1 ∨ p = 2 ∨ p = 3 := by omega
  rcases this with rfl | rfl | rfl | rfl
  · exact ⟨[], by decide, by kernel_rfl⟩
  · exact ⟨[111, 110, 101], by decide, by kernel_rfl⟩
  · exact ⟨[116, 119, 111], by decide, by kernel_rfl⟩
  · exact ⟨[49, 50, 51, 52, 53, 54, 55, 56], by decide, by kernel_rfl⟩
theorem im_at : loopsAt (fnCode Tryz.prog 75) 10 = [lpCode Tryz.prog 75 10] := by kernel_rfl
theorem ok_zero : okI big zeroI := by simp [zeroI, okI, okIs]
theorem ok_num {t y n : Int} : okI big (.mk t y n none [] none []) := by simp [okI, okIs]
theorem ok_text {t y n : Int} {s : List UInt8} (h : s.length ≤ 8) : okI big (.mk t y n (some false) s none []) := by
  simp only [okI, okIs]
  exact ⟨by simp, by simp, by show s.length ≤ 1099511627776; omega, by simp, trivial⟩

set_option maxRecDepth 20000 in
/-- No item more. -/
theorem item_none {f : Option Bool} {l : List Rw} {at' : Nat} (hf : f = none → l = []) (h : l.length ≤ at' ∨ 8 ≤ at') : SemCall Tryz.prog opts0.glob 75 [rwV f l, I (.ofNat at')] (itA zeroI) := by
  have hlen := lenR hf
  refine fnK_sem (A := imB l.length ⟨0, 0, 0, 0⟩ 0 0 0 0 0 [] (imL False (rwV f l) (.ofNat at') 0 0 (imV0 (rwV f l) (.ofNat at') 0 0))) base0 aidJ_ok (fnLs_of (LsOk.at1 rfl im_at fun s Q hs => hs.1.elim)) (by simp [closedAll, closed_rwV, closedA]) ?_
  rw [im_fn0]
  refine And.intro hlen (mtB_of (fun e => ?_) (fun e => mtB_of (fun e2 => ?_) (fun e2 => ?_)))
  · exact fin_closed (v := itA zeroI) (closed_it _)
  · exact fin_closed (v := itA zeroI) (closed_it _)
  · rw [Bool.not_eq_false'] at e e2
    have e : (at' : Int) < l.length := ltInt_iff.1 e
    have e2 : (at' : Int) < 8 := ltInt_iff.1 e2
    omega

theorem bne_of {a b : Int} (h : a ≠ b) : beqInt a b = false := beqInt_false.2 h
theorem beq_self (a : Int) : beqInt a a = true := beqInt_iff.2 rfl

set_option maxRecDepth 20000 in
/-- One without kids. -/
theorem item_leaf {f : Option Bool} {l : List Rw} {at' t : Nat} {r : Rw} {s : List UInt8} (hf : f = none → l = []) (hr : l[at']? = some r) (h8 : at' < 8) (hs8 : s.length ≤ 8)
    (ht : indexA Tryz.prog 164 (.agg [I 4325387, I 4325386, I 4325384, I 4325524, I 4325570, I 4325385, I 4325451, I 4325377]) (I (r.a % 8)) = some (I (.ofNat t)))
    (hs : indexA Tryz.prog 109 (.agg [.str [], .str [111, 110, 101], .str [116, 119, 111], .str [49, 50, 51, 52, 53, 54, 55, 56]]) (I (r.c % 4)) = some (.str s)) (hne : r.b % 10 ≠ 0) :
    ∃ x : It, okI big x ∧ SemCall Tryz.prog opts0.glob 75 [rwV f l, I (.ofNat at')] (itA x) := by
  have hlen := lenR hf
  have hi := idxR hf hr
  have q8 := pick_sem r.a (m := 8) (by decide) (by decide)
  have q10 := pick_sem r.b (m := 10) (by decide) (by decide)
  have q4 := pick_sem r.c (m := 4) (by decide) (by decide)
  have q300 := pick_sem r.c (m := 300) (by decide) (by decide)
  have hlt : at' < l.length := (List.getElem?_eq_some_iff.1 hr).1
  have b10 := Int.emod_lt_of_pos r.b (show (0 : Int) < 10 by decide)
  have c10 := Int.emod_nonneg r.b (show (10 : Int) ≠ 0 by decide)
  have hw : wrapA .i64 (1 + r.b % 10) = 1 + r.b % 10 := wrapA_i64 (by omega) (by omega)
  have key : ∀ x : It, okI big x → (∀ c, (1 + r.b % 10 = 7 ∨ 1 + r.b % 10 = 8 ∨ 1 + r.b % 10 = 4) → c = true → itA x = .agg [I (.ofNat t), I (1 + r.b % 10), I 0, .fsl false (toBytes s), .nilsl]) →
      (1 + r.b % 10 ≠ 7 → 1 + r.b % 10 ≠ 8 → 1 + r.b % 10 ≠ 4 → itA x = .agg [I (.ofNat t), I (1 + r.b % 10), I (wrapA .i64 (r.c % 300 - 5)), .nilsl, .nilsl]) → ∃ x : It, okI big x ∧ SemCall Tryz.prog opts0.glob 75 [rwV f l, I (.ofNat at')] (itA x) := by
    intro x hx k1 k2
    refine ⟨x, hx, ?_⟩
    have hcl := closed_it x
    refine fnK_sem (A := imB l.length r (r.a % 8) (r.b % 10) (r.c % 4) (r.c % 300) (.ofNat t) s (imL False (rwV f l) (.ofNat at') 0 (.ofNat t) (imV0 (rwV f l) (.ofNat at') 0 (.ofNat t)))) base0 aidJ_ok (fnLs_of (LsOk.at1 rfl im_at fun s Q hs => hs.1.elim)) (by simp [closedAll, closed_rwV, closedA]) ?_
    rw [im_fn0]
    refine And.intro hlen (mtB_of (fun e => ?_) (fun e => mtB_of (fun e2 => ?_) (fun e2 => ?_)))
    · rw [Bool.not_eq_true'] at e
      have e : (l.length : Int) ≤ at' := ltInt_false.1 e
      omega
    · rw [Bool.not_eq_true'] at e2
      have e2 : (8 : Int) ≤ at' := ltInt_false.1 e2
      omega
    refine And.intro hi (And.intro q8 (And.intro ht (And.intro q10 ?_)))
    rw [hw]
    refine mtB_of (fun e3 => ?_) (fun _ => ?_)
    · have e3 := beqInt_iff.1 e3
      omega
    refine mtB_of (fun e4 => mtB_of (fun _ => And.intro q4 (And.intro hs ?_)) (fun e5 => ?_)) (fun e4 => mtB_of (fun e5 => mtB_of (fun _ => And.intro q4 (And.intro hs ?_)) (fun e6 => ?_)) (fun e5 => mtB_of (fun e6 => And.intro q4 (And.intro hs ?_)) (fun e6 => And.intro q300 ?_)))
    · rw [k1 true (.inl (beqInt_iff.1 e4)) rfl] at hcl ⊢
      exact fin_closed hcl
    · rw [e4] at e5; cases e5
    · rw [k1 true (.inr (.inl (beqInt_iff.1 e5))) rfl] at hcl ⊢
      exact fin_closed hcl
    · rw [e5] at e6; cases e6
    · rw [k1 true (.inr (.inr (beqInt_iff.1 e6))) rfl] at hcl ⊢
      exact fin_closed hcl
    · rw [k2 (beqInt_false.1 e4) (beqInt_false.1 e5) (beqInt_false.1 e6)] at hcl ⊢
      exact fin_closed hcl
  by_cases hT : 1 + r.b % 10 = 7 ∨ 1 + r.b % 10 = 8 ∨ 1 + r.b % 10 = 4
  · exact key (.mk (.ofNat t) (1 + r.b % 10) 0 (some false) s none []) (ok_text hs8) (fun _ _ _ => rfl) (fun h7 h8 h4 => by omega)
  · exact key (.mk (.ofNat t) (1 + r.b % 10) (wrapA .i64 (r.c % 300 - 5)) none [] none []) ok_num (fun _ h => absurd h hT) (fun _ _ _ => rfl)

set_option maxRecDepth 20000 in
theorem item_ex {f : Option Bool} {l : List Rw} (hf : f = none → l = []) (hl : l.length ≤ 9223372036854775807) : ∀ (m at' : Nat), 8 - at' ≤ m → ∃ x : It, okI big x ∧ SemCall Tryz.prog opts0.glob 75 [rwV f l, I (.ofNat at')] (itA x) := by
  intro m
  induction m with
  | zero => exact fun at' hm => ⟨zeroI, ok_zero, item_none hf (.inr (by omega))⟩
  | succ m ih =>
    intro at' hm
    by_cases hend : l.length ≤ at' ∨ 8 ≤ at'
    · exact ⟨zeroI, ok_zero, item_none hf hend⟩
    have hlt : at' < l.length := by omega
    have h8 : at' < 8 := by omega
    have hr : l[at']? = some l[at'] := List.getElem?_eq_getElem hlt
    revert hr
    generalize l[at'] = r
    intro hr
    obtain ⟨t, ht⟩ := imTag (p := r.a % 8) (Int.emod_nonneg _ (by decide)) (Int.emod_lt_of_pos _ (by decide))
    obtain ⟨s, hs8, hs⟩ := imText (p := r.c % 4) (Int.emod_nonneg _ (by decide)) (Int.emod_lt_of_pos _ (by decide))
    by_cases hb : r.b % 10 = 0
    · have hg : ∀ k, ∃ x : It, at' < k → okI big x ∧ SemCall Tryz.prog opts0.glob 75 [rwV f l, I (.ofNat k)] (itA x) := fun k => by
        by_cases hk : at' < k
        · obtain ⟨x, h1, h2⟩ := ih k (by omega)
          exact ⟨x, fun _ => ⟨h1, h2⟩⟩
        · exact ⟨zeroI, fun h => absurd h hk⟩
      let g : Nat → It := fun k => Classical.choose (hg k)
      have hgs : ∀ k, at' < k → okI big (g k) ∧ SemCall Tryz.prog opts0.glob 75 [rwV f l, I (.ofNat k)] (itA (g k)) := fun k => Classical.choose_spec (hg k)
      have hloop := fun (Q : AExit → St → Prop) J hJ => im_loop (t := t) (g := g) (Q := Q) hf hl (fun k h1 _ => (hgs k h1).2) J hJ
      have hmem := fun j x => @kidsG_mem g (fun k => match l[k]? with | some r => beqInt (r.k % (.ofNat k)) (.ofNat at') | none => false) (at' + 1) j x
      have hlen2 := kidsG_len g (fun k => match l[k]? with | some r => beqInt (r.k % (.ofNat k)) (.ofNat at') | none => false) (at' + 1)
      have hJ : at' + 1 + (min l.length 8 - (at' + 1)) = min l.length 8 := by omega
      have hloop := fun Q hq => hloop Q (min l.length 8 - (at' + 1)) hJ hq (min l.length 8 - (at' + 1)) 0 (by omega)
      have hmem := hmem (min l.length 8 - (at' + 1))
      have hlen2 := hlen2 (min l.length 8 - (at' + 1))
      simp only [kidsG] at hloop
      revert hloop hmem hlen2
      generalize kidsG g (fun k => match l[k]? with | some r => beqInt (r.k % (.ofNat k)) (.ofNat at') | none => false) (at' + 1) (min l.length 8 - (at' + 1)) = ks
      intro hloop hmem hlen2
      have hoks : ∀ x ∈ ks, okI big x := fun x hx => by
        obtain ⟨i, _, rfl⟩ := hmem x hx
        exact (hgs _ (by omega)).1
      have hlen := lenR hf
      have hi := idxR hf hr
      have q8 := pick_sem r.a (m := 8) (by decide) (by decide)
      have q10 := pick_sem r.b (m := 10) (by decide) (by decide)
      have hw : wrapA .i64 (1 + r.b % 10) = 1 := by rw [hb]; rfl
      have hL := closed_rwV (f := f) (l := l)
      have hk0 : wrapA .i64 (Int.ofNat at' + 1) = Int.ofNat (at' + 1 + 0) := by
        rw [wrapA_i64 (by simp; omega) (by simp; omega)]; rfl
      refine ⟨.mk (.ofNat t) 1 0 none [] (copyKF ks) ks, ?_, ?_⟩
      · refine ⟨fun _ => rfl, fun h => ?_, by simp, ?_, okIs_iff.2 hoks⟩
        · cases ks with
          | nil => rfl
          | cons _ _ => cases h
        · show ks.length ≤ 1099511627776
          omega
      have hcl := closed_it (.mk (.ofNat t) 1 0 none [] (copyKF ks) ks)
      cases ks with
      | nil =>
        refine fnK_sem (A := imB l.length r (r.a % 8) (r.b % 10) (r.c % 4) (r.c % 300) (.ofNat t) s (imL True (rwV f l) (.ofNat at') (.ofNat (at' + 1 + 0)) (.ofNat t) (imV0 (rwV f l) (.ofNat at') (.ofNat (at' + 1 + (min l.length 8 - (at' + 1)))) (.ofNat t)))) base0 aidJ_ok
          (fnLs_of (LsOk.at1 rfl im_at fun s Q hs => .seen base0.glob hs.2.1 (hloop Q hs.2.2))) (by simp [closedAll, closed_rwV, closedA]) ?_
        rw [im_fn0]
        refine And.intro hlen (mtB_of (fun e => ?_) (fun e => mtB_of (fun e2 => ?_) (fun e2 => ?_)))
        · rw [Bool.not_eq_true'] at e
          have e : (l.length : Int) ≤ at' := ltInt_false.1 e
          omega
        · rw [Bool.not_eq_true'] at e2
          have e2 : (8 : Int) ≤ at' := ltInt_false.1 e2
          omega
        refine And.intro hi (And.intro q8 (And.intro ht (And.intro q10 ?_)))
        rw [hw, hk0]
        refine mtB_of (fun _ => ?_) (fun e3 => ?_)
        · refine ⟨trivial, by simp [closedAll, closedA, hL], ?_⟩
          exact fin_closed hcl
        · exact absurd rfl (beqInt_false.1 e3)
      | cons y ys =>
        refine fnK_sem (A := imB l.length r (r.a % 8) (r.b % 10) (r.c % 4) (r.c % 300) (.ofNat t) s (imL True (rwV f l) (.ofNat at') (.ofNat (at' + 1 + 0)) (.ofNat t) (imV (rwV f l) (.ofNat at') (.ofNat (at' + 1 + (min l.length 8 - (at' + 1)))) (.ofNat t) (y :: ys).length (flat (itAs (y :: ys)))))) base0 aidJ_ok
          (fnLs_of (LsOk.at1 rfl im_at fun s Q hs => .seen base0.glob hs.2.1 (hloop Q hs.2.2))) (by simp [closedAll, closed_rwV, closedA]) ?_
        rw [im_fn1]
        refine And.intro hlen (mtB_of (fun e => ?_) (fun e => mtB_of (fun e2 => ?_) (fun e2 => ?_)))
        · rw [Bool.not_eq_true'] at e
          have e : (l.length : Int) ≤ at' := ltInt_false.1 e
          omega
        · rw [Bool.not_eq_true'] at e2
          have e2 : (8 : Int) ≤ at' := ltInt_false.1 e2
          omega
        refine And.intro hi (And.intro q8 (And.intro ht (And.intro q10 ?_)))
        rw [hw, hk0]
        refine mtB_of (fun _ => ?_) (fun e3 => ?_)
        · refine ⟨trivial, by simp [closedAll, closedA, hL], ?_⟩
          exact fin_frz (frz_item rfl rfl rfl rfl) hcl
        · exact absurd rfl (beqInt_false.1 e3)
    · exact item_leaf hf hr h8 hs8 ht hs hb


theorem hitem_fn (L : AV) (t y n : Int) (D K : AV) (Q : AV → Heap → Nat → Prop) : fnK Tryz.prog opts0 40 (aidJ [] [] (manyS [(75, .agg [I t, I y, I n, D, K])]) [] []) 27 [L] [] 0 Q =
    (SemCall Tryz.prog opts0.glob 75 [L, AV.int IntKind.i64 0] (AV.agg [AV.int IntKind.i64 t, AV.int IntKind.i64 y, AV.int IntKind.i64 n, D, K]) ∧ oblB (fitsT Tryz.prog 37 (AV.agg [AV.int IntKind.i64 t, AV.int IntKind.i64 y, AV.int IntKind.i64 n, D, K]) 5) (Q (AV.agg [AV.int IntKind.i64 t, AV.int IntKind.i64 y, AV.int IntKind.i64 n, D, K]) [(0, some (Blk.cells [AV.int IntKind.i64 t, AV.int IntKind.i64 y, AV.int IntKind.i64 n, D, K]))] 4)) := by kernel_rfl
set_option maxRecDepth 20000 in
theorem hitem_ex {f : Option Bool} {l : List Rw} (hf : f = none → l = []) (hl : l.length ≤ 9223372036854775807) : ∃ x : It, okI big x ∧ SemCall Tryz.prog opts0.glob 27 [rwV f l] (itA x) := by
  obtain ⟨x, hx, hs⟩ := item_ex hf hl 8 0 (by omega)
  refine ⟨x, hx, ?_⟩
  have hcl := closed_it x
  obtain ⟨t, y, n, df, d, kf, ks⟩ := x
  simp only [itA] at hs hcl ⊢
  refine fnK_sem (A := aidJ [] [] (manyS [(75, .agg [I t, I y, I n, rowV df (toBytes d), rowV kf (itAs ks)])]) [] []) base0 aidJ_ok (fnLs_of (LsOk.no rfl)) (by simp [closedAll, closed_rwV]) ?_
  rw [hitem_fn]
  exact ⟨hs, oblB_of (fits_agg itemT rfl (by simp [allOne])) (fin_closed hcl)⟩

end Go.Proofs.YtjhggnebkfpgcaaGreatDoor
