/- What the sum of bytes answers. -/
import Derived.Test.YtecabdjbhlmilaaGreatDoorBs
import Derived.Test.YtecabdjbhlmilaaGreatDoorCrcN
import Derived.KernelRfl
namespace Go.Proofs.YtecabdjbhlmilaaGreatDoor
open Go Go.RowKit
open Go.Proofs.Abs

noncomputable def crcV (a : AV) (n i x j : Nat) : View := ⟨[(0, .int .u32 (.ofNat x)), (9, a), (10, I (.ofNat n)), (11, I (.ofNat i)), (19, I (.ofNat j))], [], [], 0, 32⟩
noncomputable def crcW (a : AV) (n i x : Nat) : View := ⟨[(0, .int .u32 (.ofNat x)), (9, a), (10, I (.ofNat n)), (11, I (.ofNat i))], [], [], 0, 32⟩
noncomputable def crcL : LoopS := fun s Q => match s.slots.get 0, s.slots.get 9, s.slots.get 10, s.slots.get 11 with
  | some (.int .u32 x), some a, some (.int .i64 (.ofNat n)), some (.int .i64 (.ofNat i)) =>
    oblB (nonneg x && (Nat.blt x.toNat 4294967296 && closedA a)) (seesK 0 [] (crcV a n i x.toNat 0) s ∧ Q (.exit 2) (crcW a n i (bitsN 8 x.toNat)).st)
  | _, _, _, _ => False
noncomputable def crcA (v : AV) : Aid := aidOf (oneH 4 0 (.el v)) (oneL 8 crcL)
theorem crc_in (x : Nat) (a : AV) (n i j : Nat) (go : Bool) (Q : AExit → St → Prop) : wpK Tryz.prog opts0 40 aid0 (lpCode Tryz.prog 386 8) (crcV a n i x j).st (roundK 0 [] (crcV a n i (bitN x) (j + 1)) [] (crcW a n i x) go Q) =
    (mtB (ltInt (Int.ofNat j) 8) (oblB go (((AV.int IntKind.u32 (wrapA IntKind.u32 ↑(BitVec.ofInt 32 ((Int.ofNat x).fdiv 2) ^^^ BitVec.ofInt 32 (wrapA IntKind.u32 ↑(BitVec.ofInt 32 3988292384 &&& BitVec.ofInt 32 (wrapA IntKind.u32 (0 - wrapA IntKind.u32 ↑(BitVec.ofInt 32 (Int.ofNat x) &&& BitVec.ofInt 32 1).toNat))).toNat)).toNat) = AV.int IntKind.u32 (Int.ofNat (bitN x)) ∧ closedA (AV.int IntKind.u32 (Int.ofNat (bitN x))) = true) ∧ (a = a ∧ closedA a = true) ∧ (AV.int IntKind.i64 (Int.ofNat n) = AV.int IntKind.i64 (Int.ofNat n) ∧ closedA (AV.int IntKind.i64 (Int.ofNat n)) = true) ∧ (AV.int IntKind.i64 (Int.ofNat i) = AV.int IntKind.i64 (Int.ofNat i) ∧ closedA (AV.int IntKind.i64 (Int.ofNat i)) = true) ∧ (AV.int IntKind.i64 (wrapA IntKind.i64 (Int.ofNat j + 1)) = AV.int IntKind.i64 (Int.ofNat (j + 1)) ∧ closedA (AV.int IntKind.i64 (Int.ofNat (j + 1))) = true) ∧ True) ∧ True ∧ True)) ((((AV.int IntKind.u32 (Int.ofNat x) = AV.int IntKind.u32 (Int.ofNat x) ∧ closedA (AV.int IntKind.u32 (Int.ofNat x)) = true) ∧ (a = a ∧ closedA a = true) ∧ (AV.int IntKind.i64 (Int.ofNat n) = AV.int IntKind.i64 (Int.ofNat n) ∧ closedA (AV.int IntKind.i64 (Int.ofNat n)) = true) ∧ (AV.int IntKind.i64 (Int.ofNat i) = AV.int IntKind.i64 (Int.ofNat i) ∧ closedA (AV.int IntKind.i64 (Int.ofNat i)) = true) ∧ True) ∧ True ∧ True) ∧ Q (AExit.exit 2) (crcW a n i x).st)) := by kernel_rfl
theorem crc_in_ok {a : AV} {n i x : Nat} {Q : AExit → St → Prop} (ha : closedA a = true) (hx : x < 2 ^ 32) (hq : Q (.exit 2) (crcW a n i (bitsN 8 x)).st) : AWp Tryz.prog opts0.glob 0 (.loop (lpCode Tryz.prog 386 8)) (crcV a n i x 0).st Q := by
  refine AWp.loopV base0 (fun _ => aid0) (fun j => crcV a n i (bitsN j x) j) (fun j => crcW a n i (bitsN j x)) (fun _ => []) (fun _ => []) 8 0 (fun _ => aidOk0) (fun _ r L h => by cases h) fun j _ hj => ?_
  rw [bitsN, crc_in, bit_num (bitsN_lt hx)]
  refine mtB_of (fun h => ?_) (fun h => ?_)
  · have h : (j : Int) < 8 := ltInt_iff.1 h
    rw [wrapA_i64 (by simp; omega) (by simp; omega)]
    refine oblB_iff.2 ⟨blt_iff.2 (by omega), ?_⟩
    simp [closedA, ha]
  · have h : (8 : Int) ≤ j := ltInt_false.1 h
    obtain rfl : j = 8 := by omega
    refine ⟨by simp [closedA, ha], hq⟩
theorem crc_at4 : loopsAt (fnCode Tryz.prog 386) 4 = [lpCode Tryz.prog 386 4] := by kernel_rfl
theorem crc_at8 : loopsAt (lpCode Tryz.prog 386 4) 8 = [lpCode Tryz.prog 386 8] := by kernel_rfl
theorem crc_out (x : Nat) (b : UInt8) (f : Bool) (es : List AV) (n i : Nat) (go : Bool) (Q : AExit → St → Prop) : wpK Tryz.prog opts0 40 (crcA (.int .u8 (.ofNat b.toNat))) (lpCode Tryz.prog 386 4) (crcW (.fsl f es) n i x).st (roundK 0 [] (crcW (.fsl f es) n (i + 1) (byteN x b.toNat)) [] (crcW (.fsl f es) n i x) go Q) =
    (mtB (ltInt (Int.ofNat i) (Int.ofNat n)) (getN es (Int.ofNat i).toNat = some (AV.int IntKind.u8 (Int.ofNat b.toNat)) ∧ oblB (nonneg (wrapA IntKind.u32 ↑(BitVec.ofInt 32 (Int.ofNat x) ^^^ BitVec.ofInt 32 (wrapA IntKind.u32 (Int.ofNat b.toNat))).toNat) && ((wrapA IntKind.u32 ↑(BitVec.ofInt 32 (Int.ofNat x) ^^^ BitVec.ofInt 32 (wrapA IntKind.u32 (Int.ofNat b.toNat))).toNat).toNat.blt 4294967296 && closedA (AV.fsl f es))) ((((AV.int IntKind.u32 (wrapA IntKind.u32 ↑(BitVec.ofInt 32 (Int.ofNat x) ^^^ BitVec.ofInt 32 (wrapA IntKind.u32 (Int.ofNat b.toNat))).toNat) = AV.int IntKind.u32 (Int.ofNat (wrapA IntKind.u32 ↑(BitVec.ofInt 32 (Int.ofNat x) ^^^ BitVec.ofInt 32 (wrapA IntKind.u32 (Int.ofNat b.toNat))).toNat).toNat) ∧ closedA (AV.int IntKind.u32 (Int.ofNat (wrapA IntKind.u32 ↑(BitVec.ofInt 32 (Int.ofNat x) ^^^ BitVec.ofInt 32 (wrapA IntKind.u32 (Int.ofNat b.toNat))).toNat).toNat)) = true) ∧ (AV.fsl f es = AV.fsl f es ∧ closedA (AV.fsl f es) = true) ∧ (AV.int IntKind.i64 (Int.ofNat n) = AV.int IntKind.i64 (Int.ofNat n) ∧ closedA (AV.int IntKind.i64 (Int.ofNat n)) = true) ∧ (AV.int IntKind.i64 (Int.ofNat i) = AV.int IntKind.i64 (Int.ofNat i) ∧ closedA (AV.int IntKind.i64 (Int.ofNat i)) = true) ∧ (AV.int IntKind.i64 0 = AV.int IntKind.i64 0 ∧ true = true) ∧ True) ∧ True ∧ True) ∧ oblB go (((AV.int IntKind.u32 (Int.ofNat (bitsN 8 (wrapA IntKind.u32 ↑(BitVec.ofInt 32 (Int.ofNat x) ^^^ BitVec.ofInt 32 (wrapA IntKind.u32 (Int.ofNat b.toNat))).toNat).toNat)) = AV.int IntKind.u32 (Int.ofNat (byteN x b.toNat)) ∧ closedA (AV.int IntKind.u32 (Int.ofNat (byteN x b.toNat))) = true) ∧ (AV.fsl f es = AV.fsl f es ∧ closedA (AV.fsl f es) = true) ∧ (AV.int IntKind.i64 (Int.ofNat n) = AV.int IntKind.i64 (Int.ofNat n) ∧ closedA (AV.int IntKind.i64 (Int.ofNat n)) = true) ∧ (AV.int IntKind.i64 (wrapA IntKind.i64 (Int.ofNat i + 1)) = AV.int IntKind.i64 (Int.ofNat (i + 1)) ∧ closedA (AV.int IntKind.i64 (Int.ofNat (i + 1))) = true) ∧ True) ∧ True ∧ True))) ((((AV.int IntKind.u32 (Int.ofNat x) = AV.int IntKind.u32 (Int.ofNat x) ∧ closedA (AV.int IntKind.u32 (Int.ofNat x)) = true) ∧ (AV.fsl f es = AV.fsl f es ∧ closedA (AV.fsl f es) = true) ∧ (AV.int IntKind.i64 (Int.ofNat n) = AV.int IntKind.i64 (Int.ofNat n) ∧ closedA (AV.int IntKind.i64 (Int.ofNat n)) = true) ∧ (AV.int IntKind.i64 (Int.ofNat i) = AV.int IntKind.i64 (Int.ofNat i) ∧ closedA (AV.int IntKind.i64 (Int.ofNat i)) = true) ∧ True) ∧ True ∧ True) ∧ Q (AExit.exit 0) (crcW (AV.fsl f es) n i x).st)) := by kernel_rfl
theorem crcL_ok {s : St} {Q : AExit → St → Prop} (h : crcL s Q) : AWp Tryz.prog opts0.glob 0 (.loop (lpCode Tryz.prog 386 8)) s Q := by
  unfold crcL at h
  split at h
  · obtain ⟨hb, hs, hq⟩ := oblB_iff.1 h
    simp only [Bool.and_eq_true] at hb
    exact .says (seesK_says base0.glob hs) (crc_in_ok hb.2.2 (blt_iff.1 hb.2.1) hq)
  · exact h.elim
theorem crcA_ls (v : AV) : LsOk Tryz.prog opts0.glob 0 (crcA v) (lpCode Tryz.prog 386 4) := LsOk.one crc_at8 fun _ _ h => crcL_ok h
def accN (x : Nat) (l : List UInt8) : Nat → Nat
  | 0 => x
  | i + 1 => byteN (accN x l i) (nthU l i).toNat
theorem accN_take (x : Nat) (l : List UInt8) : ∀ i, i ≤ l.length → accN x l i = bytesN x (l.take i)
  | 0, _ => rfl
  | i + 1, h => by
    have e : l.take (i + 1) = l.take i ++ [nthU l i] := by
      rw [List.take_add_one]
      simp [nthU, show i < l.length by omega]
    rw [e, bytesN_append, accN, accN_take x l i (by omega)]
    rfl
theorem accN_lt {x : Nat} (l : List UInt8) (hx : x < 2 ^ 32) : ∀ i, accN x l i < 2 ^ 32
  | 0 => hx
  | i + 1 => byteN_lt (accN_lt l hx i) (UInt8.toNat_lt _)
theorem crc_out_ok {f : Bool} {l : List UInt8} {x : Nat} {Q : AExit → St → Prop} (hx : x < 2 ^ 32) (hl : l.length ≤ 9223372036854775807) (hq : Q (.exit 0) (crcW (.fsl f (toBytes l)) l.length l.length (bytesN x l)).st) :
    AWp Tryz.prog opts0.glob 0 (.loop (lpCode Tryz.prog 386 4)) (crcW (.fsl f (toBytes l)) l.length 0 x).st Q := by
  refine AWp.loopV base0 (fun i => crcA (.int .u8 (.ofNat (nthU l i).toNat))) (fun i => crcW (.fsl f (toBytes l)) l.length i (accN x l i)) (fun i => crcW (.fsl f (toBytes l)) l.length i (accN x l i)) (fun _ => []) (fun _ => []) l.length 0 (fun _ => aidOf_ok sum0) (fun _ => crcA_ls _) fun i _ hi => ?_
  rw [accN, crc_out, xor_byte (accN_lt l hx i)]
  refine mtB_of (fun h => ?_) (fun h => ?_)
  · have h : (i : Int) < l.length := ltInt_iff.1 h
    have hi : i < l.length := by omega
    rw [wrapA_i64 (by simp; omega) (by simp; omega)]
    have hlt : accN x l i ^^^ (nthU l i).toNat < 2 ^ 32 := Nat.xor_lt_two_pow (accN_lt l hx i) (by have := UInt8.toNat_lt (nthU l i); omega)
    refine ⟨?_, ?_⟩
    · show getN (toBytes l) i = _
      rw [getN_toBytes]
      simp [nthU, hi]
    · refine oblB_iff.2 ⟨?_, ?_⟩
      · show (true && (Nat.blt (accN x l i ^^^ (nthU l i).toNat) 4294967296 && closedA (.fsl f (toBytes l)))) = true
        simp only [Bool.true_and, Bool.and_eq_true]
        exact ⟨blt_iff.2 hlt, by simp [closedA]⟩
      · refine ⟨by simp [closedA], oblB_iff.2 ⟨blt_iff.2 (by omega), ?_⟩⟩
        simp [closedA, byteN]
  · have h : (l.length : Int) ≤ i := ltInt_false.1 h
    obtain rfl : i = l.length := by omega
    refine ⟨by simp [closedA], ?_⟩
    rw [accN_take x l _ (Nat.le_refl _), List.take_length]
    exact hq
noncomputable def crcL2 (f : Bool) (l : List UInt8) : LoopS := fun s Q => match s.slots.get 0 with
  | some (.int .u32 x) => oblB (nonneg x && Nat.blt x.toNat 4294967296) (seesK 0 [] (crcW (.fsl f (toBytes l)) l.length 0 x.toNat) s ∧ Q (.exit 0) (crcW (.fsl f (toBytes l)) l.length l.length (bytesN x.toNat l)).st)
  | _ => False
noncomputable def crcA2 (f : Bool) (l : List UInt8) : Aid := aidOf (fun _ _ => none) (oneL 4 (crcL2 f l))
theorem crc_fn (x : Nat) (f : Bool) (l : List UInt8) (Q : AV → Heap → Nat → Prop) : fnK Tryz.prog opts0 40 (crcA2 f l) 386 [.int .u32 (.ofNat x), .fsl f (toBytes l)] [] 0 Q =
    (oblB (nonneg (wrapA IntKind.u32 ↑(BitVec.ofInt 32 4294967295 ^^^ BitVec.ofInt 32 (Int.ofNat x)).toNat) && (wrapA IntKind.u32 ↑(BitVec.ofInt 32 4294967295 ^^^ BitVec.ofInt 32 (Int.ofNat x)).toNat).toNat.blt 4294967296) ((((AV.int IntKind.u32 (wrapA IntKind.u32 ↑(BitVec.ofInt 32 4294967295 ^^^ BitVec.ofInt 32 (Int.ofNat x)).toNat) = AV.int IntKind.u32 (Int.ofNat (wrapA IntKind.u32 ↑(BitVec.ofInt 32 4294967295 ^^^ BitVec.ofInt 32 (Int.ofNat x)).toNat).toNat) ∧ closedA (AV.int IntKind.u32 (Int.ofNat (wrapA IntKind.u32 ↑(BitVec.ofInt 32 4294967295 ^^^ BitVec.ofInt 32 (Int.ofNat x)).toNat).toNat)) = true) ∧ (AV.fsl f (toBytes l) = AV.fsl f (toBytes l) ∧ closedA (AV.fsl f (toBytes l)) = true) ∧ (AV.int IntKind.i64 (Int.ofNat (lenN (toBytes l))) = AV.int IntKind.i64 (Int.ofNat l.length) ∧ closedA (AV.int IntKind.i64 (Int.ofNat l.length)) = true) ∧ (AV.int IntKind.i64 0 = AV.int IntKind.i64 0 ∧ true = true) ∧ True) ∧ True ∧ True) ∧ Q (AV.int IntKind.u32 (wrapA IntKind.u32 ↑(BitVec.ofInt 32 4294967295 ^^^ BitVec.ofInt 32 (Int.ofNat (bytesN (wrapA IntKind.u32 ↑(BitVec.ofInt 32 4294967295 ^^^ BitVec.ofInt 32 (Int.ofNat x)).toNat).toNat l))).toNat)) [] 3)) := by kernel_rfl
theorem crc_nil (x : Nat) (Q : AV → Heap → Nat → Prop) : fnK Tryz.prog opts0 40 aid0 386 [.int .u32 (.ofNat x), .nilsl] [] 0 Q =
    (Q (AV.int IntKind.u32 (wrapA IntKind.u32 ↑(BitVec.ofInt 32 4294967295 ^^^ BitVec.ofInt 32 (wrapA IntKind.u32 ↑(BitVec.ofInt 32 4294967295 ^^^ BitVec.ofInt 32 (Int.ofNat x)).toNat)).toNat)) [] 11) := by kernel_rfl
theorem crc_sem {x : Nat} {f : Bool} {l : List UInt8} (hx : x < 2 ^ 32) (hl : l.length ≤ 9223372036854775807) : SemCall Tryz.prog opts0.glob 386 [.int .u32 (.ofNat x), .fsl f (toBytes l)] (.int .u32 (.ofNat (moreN x l))) := by
  refine fnK_sem (A := crcA2 f l) base0 (aidOf_ok sum0) (fnLs_of (LsOk.one crc_at4 fun s Q hs => ?_)) (by simp [closedA, closedAll]) ?_
  · unfold crcL2 at hs
    split at hs
    · obtain ⟨hb, hs, hq⟩ := oblB_iff.1 hs
      simp only [Bool.and_eq_true] at hb
      exact .says (seesK_says base0.glob hs) (crc_out_ok (blt_iff.1 hb.2) hl hq)
    · exact hs.elim
  · have h1 : x ^^^ 4294967295 < 2 ^ 32 := Nat.xor_lt_two_pow hx (by decide)
    rw [crc_fn, xor_all hx]
    refine oblB_iff.2 ⟨?_, ?_, ?_⟩
    · exact blt_iff.2 h1
    · simp [closedA]
    · show (∃ d, freezeA 0 [] d (.int .u32 (wrapA .u32 ((BitVec.ofInt 32 4294967295 ^^^ BitVec.ofInt 32 (Int.ofNat (bytesN (x ^^^ 4294967295) l))).toNat : Int))) = _) ∧ _
      rw [xor_all (bytesN_lt l _ h1)]
      exact ⟨⟨1, rfl⟩, rfl⟩
theorem crc_sem_nil {x : Nat} (hx : x < 2 ^ 32) : SemCall Tryz.prog opts0.glob 386 [.int .u32 (.ofNat x), .nilsl] (.int .u32 (.ofNat (moreN x []))) := by
  refine fnK_sem (A := aid0) base0 aidOk0 (fnLs_none fun _ => rfl) (by simp [closedA, closedAll]) ?_
  have h1 : x ^^^ 4294967295 < 2 ^ 32 := Nat.xor_lt_two_pow hx (by decide)
  rw [crc_nil]
  have e : x ^^^ 4294967295 ^^^ 4294967295 = moreN x [] := rfl
  rw [xor_all hx, xor_all h1, e]
  exact ⟨⟨1, rfl⟩, rfl⟩
end Go.Proofs.YtecabdjbhlmilaaGreatDoor
