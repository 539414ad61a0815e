/- The sum of bytes, in numbers. -/
import Derived.Test.YtecabdjbhlmilaaGreatDoorG5
namespace Go.Proofs.Abs
open Go

/-- One bit. -/
def bitN (s : Nat) : Nat := (s / 2) ^^^ ((s % 2) * 3988292384)
def bitsN : Nat → Nat → Nat
  | 0, s => s
  | j + 1, s => bitN (bitsN j s)
/-- One byte. -/
def byteN (s c : Nat) : Nat := bitsN 8 (s ^^^ c)
def bytesN : Nat → List UInt8 → Nat
  | s, [] => s
  | s, c :: t => bytesN (byteN s c.toNat) t
def moreN (s : Nat) (l : List UInt8) : Nat := bytesN (s ^^^ 4294967295) l ^^^ 4294967295

theorem bitN_lt {s : Nat} (h : s < 2 ^ 32) : bitN s < 2 ^ 32 := by
  unfold bitN
  refine Nat.xor_lt_two_pow (by omega) ?_
  have : s % 2 < 2 := Nat.mod_lt _ (by decide)
  omega
theorem bitsN_lt : ∀ {j s : Nat}, s < 2 ^ 32 → bitsN j s < 2 ^ 32
  | 0, _, h => h
  | _j + 1, _, h => bitN_lt (bitsN_lt h)
theorem byteN_lt {s c : Nat} (h : s < 2 ^ 32) (hc : c < 256) : byteN s c < 2 ^ 32 := bitsN_lt (Nat.xor_lt_two_pow h (by omega))
theorem bytesN_lt : ∀ (l : List UInt8) (s : Nat), s < 2 ^ 32 → bytesN s l < 2 ^ 32
  | [], _, h => h
  | c :: t, _s, h => bytesN_lt t _ (byteN_lt h (UInt8.toNat_lt c))
theorem bytesN_append : ∀ (l m : List UInt8) (s : Nat), bytesN s (l ++ m) = bytesN (bytesN s l) m
  | [], _, _ => rfl
  | _c :: t, m, _s => bytesN_append t m _

theorem u32_in {n : Nat} (h : n < 2 ^ 32) : wrapA .u32 (Int.ofNat n) = Int.ofNat n := by
  rw [wrapA_eq, IntKind.wrap_u32]
  show ((n : Int) % 4294967296) = n
  omega
theorem bv32 {n : Nat} (h : n < 2 ^ 32) : (BitVec.ofInt 32 (Int.ofNat n)).toNat = n := by
  simp only [BitVec.toNat_ofInt]
  show ((n : Int) % ((2 ^ 32 : Nat) : Int)).toNat = n
  omega
theorem xor_num {a b : Nat} (ha : a < 2 ^ 32) (hb : b < 2 ^ 32) : (BitVec.ofInt 32 (Int.ofNat a) ^^^ BitVec.ofInt 32 (Int.ofNat b)).toNat = a ^^^ b := by
  rw [BitVec.toNat_xor, bv32 ha, bv32 hb]
theorem and_num {a b : Nat} (ha : a < 2 ^ 32) (hb : b < 2 ^ 32) : (BitVec.ofInt 32 (Int.ofNat a) &&& BitVec.ofInt 32 (Int.ofNat b)).toNat = a &&& b := by
  rw [BitVec.toNat_and, bv32 ha, bv32 hb]
theorem wrap_neg {b : Nat} (hb : b < 2) : wrapA .u32 (0 - Int.ofNat b) = Int.ofNat (b * 4294967295) := by
  rw [wrapA_eq, IntKind.wrap_u32]
  have : b = 0 ∨ b = 1 := by omega
  rcases this with rfl | rfl <;> rfl

theorem bit_num {s : Nat} (h : s < 2 ^ 32) : wrapA .u32 ((BitVec.ofInt 32 ((Int.ofNat s).fdiv 2) ^^^ BitVec.ofInt 32 (wrapA .u32 ((BitVec.ofInt 32 3988292384 &&& BitVec.ofInt 32 (wrapA .u32 (0 - wrapA .u32 ((BitVec.ofInt 32 (Int.ofNat s) &&& BitVec.ofInt 32 1).toNat : Int)))).toNat : Int))).toNat : Int) = Int.ofNat (bitN s) := by
  have h1 : (BitVec.ofInt 32 (Int.ofNat s) &&& BitVec.ofInt 32 1).toNat = s % 2 := by
    rw [show (1 : Int) = Int.ofNat 1 from rfl, and_num h (by decide)]
    exact Nat.and_one_is_mod s
  have hm : s % 2 < 2 := Nat.mod_lt _ (by decide)
  have h5 : (Int.ofNat s).fdiv 2 = Int.ofNat (s / 2) := by
    show (s : Int).fdiv 2 = _
    rw [Int.fdiv_eq_ediv_of_nonneg _ (by decide)]; rfl
  rw [h1, h5]
  have h6 : wrapA .u32 ((s % 2 : Nat) : Int) = Int.ofNat (s % 2) := u32_in (by omega)
  rw [h6, wrap_neg hm]
  have h2 : (BitVec.ofInt 32 3988292384 &&& BitVec.ofInt 32 (Int.ofNat (s % 2 * 4294967295))).toNat = s % 2 * 3988292384 := by
    rw [show (3988292384 : Int) = Int.ofNat 3988292384 from rfl, and_num (by decide) (by omega)]
    rcases (by omega : s % 2 = 0 ∨ s % 2 = 1) with e | e <;> rw [e] <;> rfl
  have h3 : s % 2 * 3988292384 < 2 ^ 32 := by omega
  have h7 : wrapA .u32 ((s % 2 * 3988292384 : Nat) : Int) = Int.ofNat (s % 2 * 3988292384) := u32_in h3
  rw [h2, h7, xor_num (by omega) h3]
  exact u32_in (bitN_lt h)
theorem xor_byte {s : Nat} {c : UInt8} (h : s < 2 ^ 32) : wrapA .u32 ((BitVec.ofInt 32 (Int.ofNat s) ^^^ BitVec.ofInt 32 (wrapA .u32 (Int.ofNat c.toNat))).toNat : Int) = Int.ofNat (s ^^^ c.toNat) := by
  have hc := UInt8.toNat_lt c
  have hc' : c.toNat < 2 ^ 32 := by omega
  rw [u32_in hc', xor_num h hc']
  exact u32_in (Nat.xor_lt_two_pow h hc')
theorem xor_all {s : Nat} (h : s < 2 ^ 32) : wrapA .u32 ((BitVec.ofInt 32 4294967295 ^^^ BitVec.ofInt 32 (Int.ofNat s)).toNat : Int) = Int.ofNat (s ^^^ 4294967295) := by
  rw [show (4294967295 : Int) = Int.ofNat 4294967295 from rfl, xor_num (by decide) h, Nat.xor_comm]
  exact u32_in (Nat.xor_lt_two_pow h (by decide))
end Go.Proofs.Abs
