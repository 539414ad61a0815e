/- What a new disk is. -/
import Derived.Test.YtecabdjbhlmilaaGreatDoorBs
namespace Go.Proofs.YtecabdjbhlmilaaGreatDoor
open Go Go.RowKit
open Go.Proofs.Abs

/-- A sector of zeros; sectors. -/
def z64 : AV := .fsl false (repE (.int .u8 0) 64)
def secs : Nat → List AV
  | 0 => []
  | n + 1 => z64 :: .bool false :: secs n
theorem secs_snoc : ∀ n, secs n ++ [z64, .bool false] = secs (n + 1)
  | 0 => rfl
  | n + 1 => by simp only [secs, List.cons_append]; rw [secs_snoc n]; rfl
theorem secs_closed : ∀ n, closedAll (secs n) = true
  | 0 => rfl
  | n + 1 => by
    have h : closedA z64 = true := by kernel_rfl
    simp only [secs, closedAll, h, secs_closed n, closedA, Bool.and_self]
theorem secs_len : ∀ n, lenN (secs n) = n * 2
  | 0 => rfl
  | n + 1 => by simp only [secs, lenN, secs_len n]; omega
def dskC (s : AV) : List AV := [s, .nilsl, I (-1), .bool false, I 0]
noncomputable def dskV (n : Nat) : Nat → View
  | 0 => ⟨[(13, I (.ofNat n)), (14, I 0)], [(4, .ptr 0 0)], [(0, .cells (dskC .nilsl), .whole)], 3, 29⟩
  | i + 1 => ⟨[(13, I (.ofNat n)), (14, I (.ofNat (i + 1)))], [(4, .ptr 0 0)], [(0, .cells (dskC (.rsl true 1 0 (i + 1) 2)), .each), (1, .cells (secs (i + 1)), .whole)], 3, 29⟩
noncomputable def dskM (n i d : Nat) : View := ⟨[(13, I (.ofNat n)), (14, I (.ofNat (i + 1)))], [(4, .ptr 0 0)], [(0, .cells (dskC (.rsl true 1 0 (i + 1) 2)), .each), (1, .cells (secs i ++ [.rsl true 2 0 64 1, .bool false]), .split (secs i) [.rsl true 2 0 64 1, .bool false] [.rsl true d 0 64 1, .bool false]), (2, .cells (flat (repE (.int .u8 0) 64)), .whole)], 3, 29⟩
noncomputable def dskF (n : Nat) : Nat → View := dskV n
theorem dsk0 (n : Nat) (go : Bool) (Q : AExit → St → Prop) : wpK Tryz.prog opts0 40 aid0 (lpCode Tryz.prog 32 6) (dskV n 0).st (roundK 0 [(0, 0), (1, 12), (2, 9)] (dskM n 0 9) [(0, 0)] (dskV n 0) go Q) =
    (mtB (ltInt 0 (Int.ofNat n)) (oblB go (((AV.int IntKind.i64 (Int.ofNat n) = AV.int IntKind.i64 (Int.ofNat n) ∧ closedA (AV.int IntKind.i64 (Int.ofNat n)) = true) ∧ (AV.int IntKind.i64 1 = AV.int IntKind.i64 1 ∧ true = true) ∧ True) ∧ ((some 0 = some 0 ∧ 0 = 0) ∧ True) ∧ ((true = true ∧ some 12 = some 12 ∧ 0 = 0 ∧ 1 = 1 ∧ 2 = 2) ∧ (AV.nilsl = AV.nilsl ∧ true = true) ∧ (AV.int IntKind.i64 (Int.negSucc 0) = AV.int IntKind.i64 (Int.negSucc 0) ∧ true = true) ∧ (AV.bool false = AV.bool false ∧ true = true) ∧ (AV.int IntKind.i64 0 = AV.int IntKind.i64 0 ∧ true = true) ∧ True) ∧ ((secs 0 ++ [AV.rsl true 2 0 64 1, AV.bool false] = secs 0 ++ [AV.rsl true 2 0 64 1, AV.bool false] ∧ [AV.rsl true 9 0 64 1, AV.bool false] = secs 0 ++ [AV.rsl true 9 0 64 1, AV.bool false]) ∧ true = true ∧ (true = true ∧ some 9 = some 9 ∧ 0 = 0 ∧ 64 = 64 ∧ 1 = 1) ∧ (AV.bool false = AV.bool false ∧ true = true) ∧ True) ∧ ([AV.int IntKind.u8 0, AV.int IntKind.u8 0, AV.int IntKind.u8 0, AV.int IntKind.u8 0, AV.int IntKind.u8 0, AV.int IntKind.u8 0, AV.int IntKind.u8 0, AV.int IntKind.u8 0, AV.int IntKind.u8 0, AV.int IntKind.u8 0, AV.int IntKind.u8 0, AV.int IntKind.u8 0, AV.int IntKind.u8 0, AV.int IntKind.u8 0, AV.int IntKind.u8 0, AV.int IntKind.u8 0, AV.int IntKind.u8 0, AV.int IntKind.u8 0, AV.int IntKind.u8 0, AV.int IntKind.u8 0, AV.int IntKind.u8 0, AV.int IntKind.u8 0, AV.int IntKind.u8 0, AV.int IntKind.u8 0, AV.int IntKind.u8 0, AV.int IntKind.u8 0, AV.int IntKind.u8 0, AV.int IntKind.u8 0, AV.int IntKind.u8 0, AV.int IntKind.u8 0, AV.int IntKind.u8 0, AV.int IntKind.u8 0, AV.int IntKind.u8 0, AV.int IntKind.u8 0, AV.int IntKind.u8 0, AV.int IntKind.u8 0, AV.int IntKind.u8 0, AV.int IntKind.u8 0, AV.int IntKind.u8 0, AV.int IntKind.u8 0, AV.int IntKind.u8 0, AV.int IntKind.u8 0, AV.int IntKind.u8 0, AV.int IntKind.u8 0, AV.int IntKind.u8 0, AV.int IntKind.u8 0, AV.int IntKind.u8 0, AV.int IntKind.u8 0, AV.int IntKind.u8 0, AV.int IntKind.u8 0, AV.int IntKind.u8 0, AV.int IntKind.u8 0, AV.int IntKind.u8 0, AV.int IntKind.u8 0, AV.int IntKind.u8 0, AV.int IntKind.u8 0, AV.int IntKind.u8 0, AV.int IntKind.u8 0, AV.int IntKind.u8 0, AV.int IntKind.u8 0, AV.int IntKind.u8 0, AV.int IntKind.u8 0, AV.int IntKind.u8 0, AV.int IntKind.u8 0] = [AV.int IntKind.u8 0, AV.int IntKind.u8 0, AV.int IntKind.u8 0, AV.int IntKind.u8 0, AV.int IntKind.u8 0, AV.int IntKind.u8 0, AV.int IntKind.u8 0, AV.int IntKind.u8 0, AV.int IntKind.u8 0, AV.int IntKind.u8 0, AV.int IntKind.u8 0, AV.int IntKind.u8 0, AV.int IntKind.u8 0, AV.int IntKind.u8 0, AV.int IntKind.u8 0, AV.int IntKind.u8 0, AV.int IntKind.u8 0, AV.int IntKind.u8 0, AV.int IntKind.u8 0, AV.int IntKind.u8 0, AV.int IntKind.u8 0, AV.int IntKind.u8 0, AV.int IntKind.u8 0, AV.int IntKind.u8 0, AV.int IntKind.u8 0, AV.int IntKind.u8 0, AV.int IntKind.u8 0, AV.int IntKind.u8 0, AV.int IntKind.u8 0, AV.int IntKind.u8 0, AV.int IntKind.u8 0, AV.int IntKind.u8 0, AV.int IntKind.u8 0, AV.int IntKind.u8 0, AV.int IntKind.u8 0, AV.int IntKind.u8 0, AV.int IntKind.u8 0, AV.int IntKind.u8 0, AV.int IntKind.u8 0, AV.int IntKind.u8 0, AV.int IntKind.u8 0, AV.int IntKind.u8 0, AV.int IntKind.u8 0, AV.int IntKind.u8 0, AV.int IntKind.u8 0, AV.int IntKind.u8 0, AV.int IntKind.u8 0, AV.int IntKind.u8 0, AV.int IntKind.u8 0, AV.int IntKind.u8 0, AV.int IntKind.u8 0, AV.int IntKind.u8 0, AV.int IntKind.u8 0, AV.int IntKind.u8 0, AV.int IntKind.u8 0, AV.int IntKind.u8 0, AV.int IntKind.u8 0, AV.int IntKind.u8 0, AV.int IntKind.u8 0, AV.int IntKind.u8 0, AV.int IntKind.u8 0, AV.int IntKind.u8 0, AV.int IntKind.u8 0, AV.int IntKind.u8 0] ∧ true = true) ∧ True)) ((((AV.int IntKind.i64 (Int.ofNat n) = AV.int IntKind.i64 (Int.ofNat n) ∧ closedA (AV.int IntKind.i64 (Int.ofNat n)) = true) ∧ (AV.int IntKind.i64 0 = AV.int IntKind.i64 0 ∧ true = true) ∧ True) ∧ ((some 0 = some 0 ∧ 0 = 0) ∧ True) ∧ ([AV.nilsl, AV.nilsl, AV.int IntKind.i64 (Int.negSucc 0), AV.bool false, AV.int IntKind.i64 0] = [AV.nilsl, AV.nilsl, AV.int IntKind.i64 (Int.negSucc 0), AV.bool false, AV.int IntKind.i64 0] ∧ true = true) ∧ True) ∧ Q (AExit.exit 0) (dskV n 0).st)) := by kernel_rfl
theorem dsk1 (n i : Nat) (go : Bool) (Q : AExit → St → Prop) : wpK Tryz.prog opts0 40 aid0 (lpCode Tryz.prog 32 6) (dskV n (i + 1)).st (roundK 0 [(0, 0), (1, 12), (2, 9)] (dskM n (i + 1) 9) [(0, 0), (1, 1)] (dskV n (i + 1)) go Q) =
    (mtB (ltInt (Int.ofNat (i + 1)) (Int.ofNat n)) (oblB (((i + 1 + 1) * 32).ble 140737488355328 && true) (oblB ((lenN (secs (i + 1))).beq ((i + 1) * 2)) (oblB go (((AV.int IntKind.i64 (Int.ofNat n) = AV.int IntKind.i64 (Int.ofNat n) ∧ closedA (AV.int IntKind.i64 (Int.ofNat n)) = true) ∧ (AV.int IntKind.i64 (wrapA IntKind.i64 (Int.ofNat (i + 1) + 1)) = AV.int IntKind.i64 (Int.ofNat (i + 1 + 1)) ∧ closedA (AV.int IntKind.i64 (Int.ofNat (i + 1 + 1))) = true) ∧ True) ∧ ((some 0 = some 0 ∧ 0 = 0) ∧ True) ∧ ((true = true ∧ some 12 = some 12 ∧ 0 = 0 ∧ i + 1 + 1 = i + 1 + 1 ∧ 2 = 2) ∧ (AV.nilsl = AV.nilsl ∧ true = true) ∧ (AV.int IntKind.i64 (Int.negSucc 0) = AV.int IntKind.i64 (Int.negSucc 0) ∧ true = true) ∧ (AV.bool false = AV.bool false ∧ true = true) ∧ (AV.int IntKind.i64 0 = AV.int IntKind.i64 0 ∧ true = true) ∧ True) ∧ ((secs (i + 1) ++ [AV.rsl true 2 0 64 1, AV.bool false] = secs (i + 1) ++ [AV.rsl true 2 0 64 1, AV.bool false] ∧ secs (i + 1) ++ [AV.rsl true 9 0 64 1, AV.bool false] = secs (i + 1) ++ [AV.rsl true 9 0 64 1, AV.bool false]) ∧ closedAll (secs (i + 1)) = true ∧ (true = true ∧ some 9 = some 9 ∧ 0 = 0 ∧ 64 = 64 ∧ 1 = 1) ∧ (AV.bool false = AV.bool false ∧ true = true) ∧ True) ∧ ([AV.int IntKind.u8 0, AV.int IntKind.u8 0, AV.int IntKind.u8 0, AV.int IntKind.u8 0, AV.int IntKind.u8 0, AV.int IntKind.u8 0, AV.int IntKind.u8 0, AV.int IntKind.u8 0, AV.int IntKind.u8 0, AV.int IntKind.u8 0, AV.int IntKind.u8 0, AV.int IntKind.u8 0, AV.int IntKind.u8 0, AV.int IntKind.u8 0, AV.int IntKind.u8 0, AV.int IntKind.u8 0, AV.int IntKind.u8 0, AV.int IntKind.u8 0, AV.int IntKind.u8 0, AV.int IntKind.u8 0, AV.int IntKind.u8 0, AV.int IntKind.u8 0, AV.int IntKind.u8 0, AV.int IntKind.u8 0, AV.int IntKind.u8 0, AV.int IntKind.u8 0, AV.int IntKind.u8 0, AV.int IntKind.u8 0, AV.int IntKind.u8 0, AV.int IntKind.u8 0, AV.int IntKind.u8 0, AV.int IntKind.u8 0, AV.int IntKind.u8 0, AV.int IntKind.u8 0, AV.int IntKind.u8 0, AV.int IntKind.u8 0, AV.int IntKind.u8 0, AV.int IntKind.u8 0, AV.int IntKind.u8 0, AV.int IntKind.u8 0, AV.int IntKind.u8 0, AV.int IntKind.u8 0, AV.int IntKind.u8 0, AV.int IntKind.u8 0, AV.int IntKind.u8 0, AV.int IntKind.u8 0, AV.int IntKind.u8 0, AV.int IntKind.u8 0, AV.int IntKind.u8 0, AV.int IntKind.u8 0, AV.int IntKind.u8 0, AV.int IntKind.u8 0, AV.int IntKind.u8 0, AV.int IntKind.u8 0, AV.int IntKind.u8 0, AV.int IntKind.u8 0, AV.int IntKind.u8 0, AV.int IntKind.u8 0, AV.int IntKind.u8 0, AV.int IntKind.u8 0, AV.int IntKind.u8 0, AV.int IntKind.u8 0, AV.int IntKind.u8 0, AV.int IntKind.u8 0] = [AV.int IntKind.u8 0, AV.int IntKind.u8 0, AV.int IntKind.u8 0, AV.int IntKind.u8 0, AV.int IntKind.u8 0, AV.int IntKind.u8 0, AV.int IntKind.u8 0, AV.int IntKind.u8 0, AV.int IntKind.u8 0, AV.int IntKind.u8 0, AV.int IntKind.u8 0, AV.int IntKind.u8 0, AV.int IntKind.u8 0, AV.int IntKind.u8 0, AV.int IntKind.u8 0, AV.int IntKind.u8 0, AV.int IntKind.u8 0, AV.int IntKind.u8 0, AV.int IntKind.u8 0, AV.int IntKind.u8 0, AV.int IntKind.u8 0, AV.int IntKind.u8 0, AV.int IntKind.u8 0, AV.int IntKind.u8 0, AV.int IntKind.u8 0, AV.int IntKind.u8 0, AV.int IntKind.u8 0, AV.int IntKind.u8 0, AV.int IntKind.u8 0, AV.int IntKind.u8 0, AV.int IntKind.u8 0, AV.int IntKind.u8 0, AV.int IntKind.u8 0, AV.int IntKind.u8 0, AV.int IntKind.u8 0, AV.int IntKind.u8 0, AV.int IntKind.u8 0, AV.int IntKind.u8 0, AV.int IntKind.u8 0, AV.int IntKind.u8 0, AV.int IntKind.u8 0, AV.int IntKind.u8 0, AV.int IntKind.u8 0, AV.int IntKind.u8 0, AV.int IntKind.u8 0, AV.int IntKind.u8 0, AV.int IntKind.u8 0, AV.int IntKind.u8 0, AV.int IntKind.u8 0, AV.int IntKind.u8 0, AV.int IntKind.u8 0, AV.int IntKind.u8 0, AV.int IntKind.u8 0, AV.int IntKind.u8 0, AV.int IntKind.u8 0, AV.int IntKind.u8 0, AV.int IntKind.u8 0, AV.int IntKind.u8 0, AV.int IntKind.u8 0, AV.int IntKind.u8 0, AV.int IntKind.u8 0, AV.int IntKind.u8 0, AV.int IntKind.u8 0, AV.int IntKind.u8 0] ∧ true = true) ∧ True)))) ((((AV.int IntKind.i64 (Int.ofNat n) = AV.int IntKind.i64 (Int.ofNat n) ∧ closedA (AV.int IntKind.i64 (Int.ofNat n)) = true) ∧ (AV.int IntKind.i64 (Int.ofNat (i + 1)) = AV.int IntKind.i64 (Int.ofNat (i + 1)) ∧ closedA (AV.int IntKind.i64 (Int.ofNat (i + 1))) = true) ∧ True) ∧ ((some 0 = some 0 ∧ 0 = 0) ∧ True) ∧ ((true = true ∧ some 1 = some 1 ∧ 0 = 0 ∧ i + 1 = i + 1 ∧ 2 = 2) ∧ (AV.nilsl = AV.nilsl ∧ true = true) ∧ (AV.int IntKind.i64 (Int.negSucc 0) = AV.int IntKind.i64 (Int.negSucc 0) ∧ true = true) ∧ (AV.bool false = AV.bool false ∧ true = true) ∧ (AV.int IntKind.i64 0 = AV.int IntKind.i64 0 ∧ true = true) ∧ True) ∧ (secs (i + 1) = secs (i + 1) ∧ closedAll (secs (i + 1)) = true) ∧ True) ∧ Q (AExit.exit 0) (dskV n (i + 1)).st)) := by kernel_rfl
theorem dsk_letT (n i : Nat) : letsK 2 (dskV n (i + 1)) (dskM n i 9).st =
    ((Frz 2 (dskM n i 9).st.heap (AV.int IntKind.i64 (Int.ofNat n)) (AV.int IntKind.i64 (Int.ofNat n)) ∧ Frz 2 (dskM n i 9).st.heap (AV.int IntKind.i64 (Int.ofNat (i + 1))) (AV.int IntKind.i64 (Int.ofNat (i + 1))) ∧ Frz 2 (dskM n i 9).st.heap (AV.ptr 0 0) (AV.ptr 0 0) ∧ True) ∧ FrzL 2 (dskM n i 9).st.heap [AV.rsl true 1 0 (i + 1) 2, AV.nilsl, AV.int IntKind.i64 (Int.negSucc 0), AV.bool false, AV.int IntKind.i64 0] [AV.rsl true 1 0 (i + 1) 2, AV.nilsl, AV.int IntKind.i64 (Int.negSucc 0), AV.bool false, AV.int IntKind.i64 0] ∧ FrzL 2 (dskM n i 9).st.heap (secs i ++ [AV.rsl true 2 0 64 1, AV.bool false]) (secs (i + 1)) ∧ True) := by kernel_rfl
/-- The row of zeros becomes part of the sector. -/
theorem dsk_let (n i : Nat) : Says2 opts0.glob 0 (dskM n i 9).st (dskV n (i + 1)).st := by
  refine letsK_says (m := 2) ?_
  rw [dsk_letT]
  have hz : Frz 2 (dskM n i 9).st.heap (.rsl true 2 0 64 1) z64 := ⟨2, by kernel_rfl⟩
  refine ⟨⟨⟨1, rfl⟩, ⟨1, rfl⟩, ⟨1, rfl⟩, trivial⟩, FrzL.cons ⟨1, rfl⟩ (FrzL.cons ⟨1, rfl⟩ (FrzL.cons ⟨1, rfl⟩ (FrzL.cons ⟨1, rfl⟩ (FrzL.cons ⟨1, rfl⟩ FrzL.nil)))), ?_, trivial⟩
  rw [← secs_snoc i]
  exact FrzL.append (FrzL.closed _ (secs_closed i)) (FrzL.cons hz (FrzL.cons ⟨1, rfl⟩ FrzL.nil))
theorem dsk_loop (n : Nat) (hn : n ≤ 4096) {Q : AExit → St → Prop} (hq : Q (.exit 0) (dskV n n).st) : AWp Tryz.prog opts0.glob 0 (.loop (lpCode Tryz.prog 32 6)) (dskV n 0).st Q := by
  refine AWp.loopM base0 (fun _ => aid0) (dskV n) (fun i => dskM n i 9) (dskV n) (fun _ => [(0, 0), (1, 12), (2, 9)]) (fun i => match i with
    | 0 => [(0, 0)]
    | _ + 1 => [(0, 0), (1, 1)]) n 0 (fun _ => aidOk0) (fun _ => LsOk.none) (fun i _ _ => dsk_let n i) fun i _ hi => ?_
  cases i with
  | zero =>
    rw [dsk0]
    refine mtB_of (fun h => ?_) (fun h => ?_)
    · have h : (0 : Int) < n := ltInt_iff.1 h
      exact oblB_iff.2 ⟨blt_iff.2 (by omega), by simp [closedA, secs]⟩
    · have h : (n : Int) ≤ 0 := ltInt_false.1 h
      obtain rfl : n = 0 := by omega
      exact ⟨by simp [closedA], hq⟩
  | succ i =>
    rw [dsk1]
    refine mtB_of (fun h => ?_) (fun h => ?_)
    · have h : ((i + 1 : Nat) : Int) < n := ltInt_iff.1 h
      rw [wrapA_i64 (by simp; omega) (by simp; omega)]
      refine oblB_iff.2 ⟨by simp; omega, oblB_iff.2 ⟨by rw [secs_len]; simp, oblB_iff.2 ⟨blt_iff.2 (by omega), ?_⟩⟩⟩
      simp [closedA, secs_closed]
    · have h : (n : Int) ≤ (i + 1 : Nat) := ltInt_false.1 h
      obtain rfl : n = i + 1 := by omega
      exact ⟨by simp [closedA, secs_closed], hq⟩
noncomputable def dskL (n : Nat) : LoopS := fun s Q => seesK 0 [(0, 9)] (dskV n 0) s ∧ Q (.exit 0) (dskV n n).st
theorem dsk_at : loopsAt (fnCode Tryz.prog 32) 6 = [lpCode Tryz.prog 32 6] := by kernel_rfl
theorem dsk_fn (n : Nat) (Q : AV → Heap → Nat → Prop) : fnK Tryz.prog opts0 40 (aidOf (fun _ _ => none) (oneL 6 (dskL (n + 1)))) 32 [I (.ofNat (n + 1))] [] 0 Q =
    (mtB (ltInt (Int.ofNat (n + 1)) 8) (Q (AV.tuple [AV.nilp, AV.int IntKind.i64 1]) [] 10) (mtB (ltInt 4096 (Int.ofNat (n + 1))) (Q (AV.tuple [AV.nilp, AV.int IntKind.i64 1]) [] 10) ((((AV.int IntKind.i64 (Int.ofNat (n + 1)) = AV.int IntKind.i64 (Int.ofNat (n + 1)) ∧ closedA (AV.int IntKind.i64 (Int.ofNat (n + 1))) = true) ∧ (AV.int IntKind.i64 0 = AV.int IntKind.i64 0 ∧ true = true) ∧ True) ∧ ((some 9 = some 9 ∧ 0 = 0) ∧ True) ∧ ([AV.nilsl, AV.nilsl, AV.int IntKind.i64 (Int.negSucc 0), AV.bool false, AV.int IntKind.i64 0] = [AV.nilsl, AV.nilsl, AV.int IntKind.i64 (Int.negSucc 0), AV.bool false, AV.int IntKind.i64 0] ∧ true = true) ∧ True) ∧ Q (AV.tuple [AV.ptr 0 0, AV.int IntKind.i64 0]) [(0, some (Blk.cells [AV.rsl true 1 0 (n + 1) 2, AV.nilsl, AV.int IntKind.i64 (Int.negSucc 0), AV.bool false, AV.int IntKind.i64 0])), (1, some (Blk.cells (secs (n + 1))))] 6))) := by kernel_rfl
def dskH (n : Nat) : Heap := [(0, some (.cells (dskC (.rsl true 1 0 n 2)))), (1, some (.cells (secs n)))]
theorem dsk_body (n : Nat) (h1 : 8 ≤ n + 1) (h2 : n + 1 ≤ 4096) : BodySem Tryz.prog opts0.glob 32 [I (.ofNat (n + 1))] [] 0 (.tuple [.ptr 0 0, I 0]) (dskH (n + 1)) 6 := by
  refine fnK_bodySem (A := aidOf (fun _ _ => none) (oneL 6 (dskL (n + 1)))) base0 (aidOf_ok sum0) (fnLs_of (LsOk.one dsk_at fun s Q hs => .says (seesK_says base0.glob hs.1) (dsk_loop (n + 1) h2 hs.2))) ?_
  rw [dsk_fn]
  refine mtB_of (fun h => ?_) (fun _ => mtB_of (fun h => ?_) (fun _ => ⟨by simp [closedA], rfl, rfl, rfl⟩))
  · have h : ((n + 1 : Nat) : Int) < 8 := ltInt_iff.1 h
    omega
  · have h : (4096 : Int) < (n + 1 : Nat) := ltInt_iff.1 h
    omega
/-- The same under numbers from nx on. -/
def dskA (nx n : Nat) : Heap := [(nx, some (.cells (dskC (.rsl true (nx + 1) 0 n 2)))), (nx + 1, some (.cells (secs n)))]
theorem dsk_at_nx (nx n : Nat) (h1 : 8 ≤ n) (h2 : n ≤ 4096) : BodySem Tryz.prog opts0.glob 32 [I (.ofNat n)] [] nx (.tuple [.ptr nx 0, I 0]) (dskA nx n) (nx + 6) := by
  obtain ⟨n, rfl⟩ : ∃ k, n = k + 1 := ⟨n - 1, by omega⟩
  refine bodySem_shift base0.glob rfl (dsk_body n h1 h2) (RenV.tuple2 (.ptr _ _ _ (by rw [lookN_shl, if_pos (by omega)]; simp)) (.same _ rfl)) fun i b2 hi => ?_
  simp only [dskA, hget] at hi
  split at hi
  · rename_i he
    have he := beq_iff.1 he
    simp only [Option.some.injEq] at hi
    subst he; subst hi
    refine ⟨0, _, by rw [lookN_shl, if_pos (by omega)]; simp, rfl, ?_⟩
    exact ⟨.rsl _ _ _ _ _ _ (by rw [lookN_shl, if_pos (by omega)]; simp), .same _ rfl, .same _ rfl, .same _ rfl, .same _ rfl, trivial⟩
  · split at hi
    · rename_i he
      have he := beq_iff.1 he
      simp only [Option.some.injEq] at hi
      subst he; subst hi
      exact ⟨1, _, by rw [lookN_shl, if_pos (by omega)]; simp, rfl, RenL.same _ (secs_closed _)⟩
    · cases hi
end Go.Proofs.YtecabdjbhlmilaaGreatDoor
