/- Bytes of raw numbers. -/
import Derived.Test.YtjhggnebkfpgcaaGreatDoorHand
import Derived.Test.YtjhggnebkfpgcaaGreatDoorG5
import Derived.KernelRfl
namespace Go.Proofs.YtjhggnebkfpgcaaGreatDoor
set_option maxRecDepth 20000
open Go Go.RowKit
open Go.Proofs.Abs
noncomputable def byV (n i : Nat) (x : Int) (es : List AV) : View := ⟨[(0, I (.ofNat n)), (6, .int .u64 x), (7, I (.ofNat i))], [(5, .rsl true 0 0 n 1)], [(0, .cells es, .whole)], 1, 27⟩
theorem by_round (n i j : Nat) (x x' : Int) (es es' : List AV) (N : Prop) (Q : AExit → St → Prop) : wpK Tryz.prog opts0 40 (aidJ [] [] noSem [] []) (lpCode Tryz.prog 68 5) (byV n i x es).st (roundP 0 [(0, 0)] (byV n j x' es') N [(0, 0)] (byV n i x es) Q) =
  (mtB (ltInt (Int.ofNat i) (Int.ofNat n)) (oblB (nonneg (Int.ofNat i) && ((Int.ofNat i).toNat.blt n && true)) (oblB ((0 + (Int.ofNat i).toNat * 1 + 1).ble (lenN es)) ((((I (Int.ofNat n) = I (Int.ofNat n) ∧ closedA (I (Int.ofNat n)) = true) ∧ (AV.int IntKind.u64 (wrapA IntKind.u64 (wrapA IntKind.u64 (x * 6364136223846793005) + 1442695040888963407)) = AV.int IntKind.u64 x' ∧ closedA (AV.int IntKind.u64 x') = true) ∧ (I (wrapA IntKind.i64 (Int.ofNat i + 1)) = I (Int.ofNat j) ∧ closedA (I (Int.ofNat j)) = true) ∧ True) ∧ ((true = true ∧ some 0 = some 0 ∧ 0 = 0 ∧ n = n ∧ 1 = 1) ∧ True) ∧ (List.take (0 + (Int.ofNat i).toNat * 1) es ++ AV.int IntKind.u8 (wrapA IntKind.u8 ((wrapA IntKind.u64 (wrapA IntKind.u64 (x * 6364136223846793005) + 1442695040888963407)).fdiv 1099511627776)) :: List.drop (0 + (Int.ofNat i).toNat * 1 + lenN [AV.int IntKind.u8 (wrapA IntKind.u8 ((wrapA IntKind.u64 (wrapA IntKind.u64 (x * 6364136223846793005) + 1442695040888963407)).fdiv 1099511627776))]) es = es' ∧ closedAll es' = true) ∧ True) ∧ N))) ((((I (Int.ofNat n) = I (Int.ofNat n) ∧ closedA (I (Int.ofNat n)) = true) ∧ (AV.int IntKind.u64 x = AV.int IntKind.u64 x ∧ closedA (AV.int IntKind.u64 x) = true) ∧ (I (Int.ofNat i) = I (Int.ofNat i) ∧ closedA (I (Int.ofNat i)) = true) ∧ True) ∧ ((true = true ∧ some 0 = some 0 ∧ 0 = 0 ∧ n = n ∧ 1 = 1) ∧ True) ∧ (es = es ∧ closedAll es = true) ∧ True) ∧ Q (AExit.exit 0) (byV n i x es).st)) := by kernel_rfl
noncomputable def byL (n : Nat) (s x : Int) (es es' : List AV) : LoopS := fun st Q => seesK 0 [(0, 2)] (byV n 0 (wrapA .u64 s) es) st ∧ Q (.exit 0) (byV n n x es').st
theorem by_fn (n : Nat) (s x : Int) (es es' : List AV) (Q : AV → Heap → Nat → Prop) : fnK Tryz.prog opts0 40 (aidJ [] [(5, byL n s x es es')] noSem [] []) 68 [I (.ofNat n), I s] [] 0 Q =
  (oblB (nonneg (Int.ofNat n) && (nonneg (Int.ofNat n) && ((Int.ofNat n).toNat.ble (Int.ofNat n).toNat && (1 * (Int.ofNat n).toNat).ble 281474976710656 && (Int.ofNat n).toNat.ble 9223372036854775807 && true && true))) ((((I (Int.ofNat n) = I (Int.ofNat n) ∧ closedA (I (Int.ofNat n)) = true) ∧ (AV.int IntKind.u64 (wrapA IntKind.u64 s) = AV.int IntKind.u64 (wrapA IntKind.u64 s) ∧ closedA (AV.int IntKind.u64 (wrapA IntKind.u64 s)) = true) ∧ (I 0 = I 0 ∧ true = true) ∧ True) ∧ ((true = true ∧ some 2 = some 2 ∧ 0 = 0 ∧ n = (Int.ofNat n).toNat ∧ 1 = 1) ∧ True) ∧ (flat (repE (AV.int IntKind.u8 0) (Int.ofNat n).toNat) = es ∧ closedAll es = true) ∧ True) ∧ Q (AV.rsl true 0 0 n 1) [(0, some (Blk.cells es'))] 3)) := by kernel_rfl
def byS (x : Int) : Int := wrapA .u64 (wrapA .u64 (x * 6364136223846793005) + 1442695040888963407)
def byB (x : Int) : UInt8 := UInt8.ofNat (wrapA .u8 (x.fdiv 1099511627776)).toNat
def byR : Nat → Int → List UInt8
 | 0, _ => []
 | k + 1, x => byB (byS x) :: byR k (byS x)
def byE : Nat → Int → Int
 | 0, x => x
 | k + 1, x => byE k (byS x)
theorem byR_length : ∀ k x, (byR k x).length = k
 | 0, _ => rfl
 | k + 1, _x => congrArg (· + 1) (byR_length k _)
theorem byB_eq (x : Int) : AV.int .u8 (wrapA .u8 (x.fdiv 1099511627776)) = .int .u8 (.ofNat (byB x).toNat) := by
 unfold byB
 rw [wrapA_eq]
 generalize x.fdiv 1099511627776 = y
 have h0 : 0 ≤ IntKind.wrap .u8 y ∧ IntKind.wrap .u8 y < 256 := by simp [IntKind.wrap, IntKind.signed, IntKind.bits]; omega
 obtain ⟨h0, h1⟩ := h0
 congr 1
 rw [UInt8.toNat_ofNat']
 simp only [Int.ofNat_eq_natCast]
 omega
theorem by_loop {n : Nat} {Q : AExit → St → Prop} (hn : n ≤ 1000) : ∀ (k : Nat) (x : Int) (p : List UInt8), p.length + k = n → Q (.exit 0) (byV n n (byE k x) (toBytes (p ++ byR k x))).st → ALp Tryz.prog opts0.glob 0 (lpCode Tryz.prog 68 5) (byV n p.length x (toBytes (p ++ List.replicate k 0))).st Q := by
 intro k
 induction k with
 | zero =>
  intro x p hp hq
  simp only [Nat.add_zero] at hp
  subst hp
  refine ALp.round (A := aidJ [] [] noSem [] []) (V1 := byV p.length 0 x []) (V2 := byV p.length 0 x []) (F := byV p.length p.length x (toBytes (p ++ List.replicate 0 0))) (lk := [(0, 0)]) (lk' := [(0, 0)]) base0 aidJ_ok (LsOk.no rfl) .refl ?_
  rw [by_round]
  refine mtB_of (fun h => ?_) (fun _ => ⟨⟨⟨⟨rfl, rfl⟩, ⟨rfl, rfl⟩, ⟨rfl, rfl⟩, trivial⟩, ⟨⟨rfl, rfl, rfl, rfl, rfl⟩, trivial⟩, ⟨rfl, closedAll_toBytes _⟩, trivial⟩, hq⟩)
  have h := ltInt_iff.1 h
  omega
 | succ k ih =>
  intro x p hp hq
  have h2 := ih (byS x) (p ++ [byB (byS x)]) (by simp; omega) (by simpa [byR, byE] using hq)
  have hl : (p ++ [byB (byS x)]).length = p.length + 1 := by simp
  rw [hl, List.append_assoc, List.singleton_append] at h2
  have hw : wrapA .i64 (Int.ofNat p.length + 1) = Int.ofNat (p.length + 1) := wrapA_i64 (by simp; omega) (by simp; omega)
  refine ALp.round (A := aidJ [] [] noSem [] []) (V1 := byV n (p.length + 1) (byS x) (toBytes (p ++ byB (byS x) :: List.replicate k 0))) (V2 := byV n (p.length + 1) (byS x) (toBytes (p ++ byB (byS x) :: List.replicate k 0))) (F := byV n p.length x (toBytes (p ++ List.replicate (k + 1) 0))) (lk := [(0, 0)]) (lk' := [(0, 0)]) base0 aidJ_ok (LsOk.no rfl) .refl ?_
  rw [by_round, hw, show wrapA .u64 (wrapA .u64 (x * 6364136223846793005) + 1442695040888963407) = byS x from rfl, byB_eq]
  refine mtB_of (fun _ => oblB_of ?_ (oblB_of ?_ ⟨⟨⟨⟨rfl, rfl⟩, ⟨rfl, rfl⟩, ⟨rfl, rfl⟩, trivial⟩, ⟨⟨rfl, rfl, rfl, rfl, rfl⟩, trivial⟩, ⟨?_, closedAll_toBytes _⟩, trivial⟩, h2⟩)) (fun h => ?_)
  ·simp only [nonneg, Bool.true_and, Bool.and_true]
   exact blt_iff.2 (by simp; omega)
  ·rw [lenN_toBytes]
   simp
  ·simp [toBytes_map, lenN, List.replicate_succ]
   rw [List.drop_append, List.drop_of_length_le (by simp), List.nil_append, List.length_map, Nat.add_sub_cancel_left]
   rfl
  ·have h := ltInt_false.1 h
   simp only [Int.ofNat_eq_natCast] at h
   omega
theorem by_at : loopsAt (fnCode Tryz.prog 68) 5 = [lpCode Tryz.prog 68 5] := by kernel_rfl
theorem bytes_sem {n : Nat} (hn : n ≤ 1000) (s : Int) : SC 68 [I (.ofNat n), I s] (.fsl false (toBytes (byR n (wrapA .u64 s)))) := by
 refine fnK_semX (A := aidJ [] [(5, byL n s (byE n (wrapA .u64 s)) (toBytes ([] ++ List.replicate n 0)) (toBytes ([] ++ byR n (wrapA .u64 s))))] noSem [] []) base0 aidJ_ok
  (fnLs_of (LsOk.at1 rfl by_at fun st Q hs => .seen base0.glob hs.1 (by_loop hn n _ [] (by simp) hs.2))) rfl ?_
 rw [by_fn]
 refine oblB_of ?_ ⟨⟨⟨⟨rfl, rfl⟩, ⟨rfl, rfl⟩, ⟨rfl, rfl⟩, trivial⟩, ⟨⟨rfl, rfl, rfl, rfl, rfl⟩, trivial⟩, ⟨?_, closedAll_toBytes _⟩, trivial⟩, ?_⟩
 ·simp [nonneg]; omega
 ·show flat (repE _ n) = _
  rw [repE_zero, flat_toBytes, List.nil_append]
 ·exact ⟨_, (Frz.bytes (s := byR n (wrapA .u64 s)) rfl rfl rfl (byR_length _ _).symm).out, closedAll_toBytes _, .refl _⟩
end Go.Proofs.YtjhggnebkfpgcaaGreatDoor
