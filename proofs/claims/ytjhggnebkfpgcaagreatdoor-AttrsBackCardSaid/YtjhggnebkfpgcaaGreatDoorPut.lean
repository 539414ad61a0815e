/- Parts put into rows, and dropped: rows of few parts. -/
import Derived.Test.YtjhggnebkfpgcaaGreatDoorTexts
import Derived.KernelRfl
namespace Go.Proofs.YtjhggnebkfpgcaaGreatDoor
set_option maxRecDepth 20000
open Go Go.RowKit
open Go.Proofs.Abs
def putL {α : Type} (l : List α) (i : Nat) (x : α) : List α := l.take i ++ x :: l.drop (i + 1)
def dropL {α : Type} (l : List α) (i : Nat) : List α := l.take i ++ l.drop (i + 1)
theorem putS0_0 (x : List UInt8) : ansQ Tryz.prog optsK 40 169 [.nilsl, I 0, (.str x)] = some (.fsl false [(.str x)]) := by kernel_rfl
theorem putS0_0n (x : List UInt8) : ansQ Tryz.prog optsK 40 169 [.nesl, I 0, (.str x)] = some (.fsl false [(.str x)]) := by kernel_rfl
theorem putS1_0 (a x : List UInt8) : ansQ Tryz.prog optsK 40 169 [(.fsl false [(.str a)]), I 0, (.str x)] = some (.fsl false [(.str x)]) := by kernel_rfl
theorem putS1_1 (a x : List UInt8) : ansQ Tryz.prog optsK 40 169 [(.fsl false [(.str a)]), I 1, (.str x)] = some (.fsl false [(.str a), (.str x)]) := by kernel_rfl
theorem putS2_0 (a b x : List UInt8) : ansQ Tryz.prog optsK 40 169 [(.fsl false [(.str a), (.str b)]), I 0, (.str x)] = some (.fsl false [(.str x), (.str b)]) := by kernel_rfl
theorem putS2_1 (a b x : List UInt8) : ansQ Tryz.prog optsK 40 169 [(.fsl false [(.str a), (.str b)]), I 1, (.str x)] = some (.fsl false [(.str a), (.str x)]) := by kernel_rfl
theorem putS2_2 (a b x : List UInt8) : ansQ Tryz.prog optsK 40 169 [(.fsl false [(.str a), (.str b)]), I 2, (.str x)] = some (.fsl false [(.str a), (.str b), (.str x)]) := by kernel_rfl
theorem putS3_0 (a b c x : List UInt8) : ansQ Tryz.prog optsK 40 169 [(.fsl false [(.str a), (.str b), (.str c)]), I 0, (.str x)] = some (.fsl false [(.str x), (.str b), (.str c)]) := by kernel_rfl
theorem putS3_1 (a b c x : List UInt8) : ansQ Tryz.prog optsK 40 169 [(.fsl false [(.str a), (.str b), (.str c)]), I 1, (.str x)] = some (.fsl false [(.str a), (.str x), (.str c)]) := by kernel_rfl
theorem putS3_2 (a b c x : List UInt8) : ansQ Tryz.prog optsK 40 169 [(.fsl false [(.str a), (.str b), (.str c)]), I 2, (.str x)] = some (.fsl false [(.str a), (.str b), (.str x)]) := by kernel_rfl
theorem putS3_3 (a b c x : List UInt8) : ansQ Tryz.prog optsK 40 169 [(.fsl false [(.str a), (.str b), (.str c)]), I 3, (.str x)] = some (.fsl false [(.str a), (.str b), (.str c), (.str x)]) := by kernel_rfl
theorem putS4_0 (a b c d x : List UInt8) : ansQ Tryz.prog optsK 40 169 [(.fsl false [(.str a), (.str b), (.str c), (.str d)]), I 0, (.str x)] = some (.fsl false [(.str x), (.str b), (.str c), (.str d)]) := by kernel_rfl
theorem putS4_1 (a b c d x : List UInt8) : ansQ Tryz.prog optsK 40 169 [(.fsl false [(.str a), (.str b), (.str c), (.str d)]), I 1, (.str x)] = some (.fsl false [(.str a), (.str x), (.str c), (.str d)]) := by kernel_rfl
theorem putS4_2 (a b c d x : List UInt8) : ansQ Tryz.prog optsK 40 169 [(.fsl false [(.str a), (.str b), (.str c), (.str d)]), I 2, (.str x)] = some (.fsl false [(.str a), (.str b), (.str x), (.str d)]) := by kernel_rfl
theorem putS4_3 (a b c d x : List UInt8) : ansQ Tryz.prog optsK 40 169 [(.fsl false [(.str a), (.str b), (.str c), (.str d)]), I 3, (.str x)] = some (.fsl false [(.str a), (.str b), (.str c), (.str x)]) := by kernel_rfl
theorem putS4_4 (a b c d x : List UInt8) : ansQ Tryz.prog optsK 40 169 [(.fsl false [(.str a), (.str b), (.str c), (.str d)]), I 4, (.str x)] = some (.fsl false [(.str a), (.str b), (.str c), (.str d), (.str x)]) := by kernel_rfl
theorem putS5_0 (a b c d e x : List UInt8) : ansQ Tryz.prog optsK 40 169 [(.fsl false [(.str a), (.str b), (.str c), (.str d), (.str e)]), I 0, (.str x)] = some (.fsl false [(.str x), (.str b), (.str c), (.str d), (.str e)]) := by kernel_rfl
theorem putS5_1 (a b c d e x : List UInt8) : ansQ Tryz.prog optsK 40 169 [(.fsl false [(.str a), (.str b), (.str c), (.str d), (.str e)]), I 1, (.str x)] = some (.fsl false [(.str a), (.str x), (.str c), (.str d), (.str e)]) := by kernel_rfl
theorem putS5_2 (a b c d e x : List UInt8) : ansQ Tryz.prog optsK 40 169 [(.fsl false [(.str a), (.str b), (.str c), (.str d), (.str e)]), I 2, (.str x)] = some (.fsl false [(.str a), (.str b), (.str x), (.str d), (.str e)]) := by kernel_rfl
theorem putS5_3 (a b c d e x : List UInt8) : ansQ Tryz.prog optsK 40 169 [(.fsl false [(.str a), (.str b), (.str c), (.str d), (.str e)]), I 3, (.str x)] = some (.fsl false [(.str a), (.str b), (.str c), (.str x), (.str e)]) := by kernel_rfl
theorem putS5_4 (a b c d e x : List UInt8) : ansQ Tryz.prog optsK 40 169 [(.fsl false [(.str a), (.str b), (.str c), (.str d), (.str e)]), I 4, (.str x)] = some (.fsl false [(.str a), (.str b), (.str c), (.str d), (.str x)]) := by kernel_rfl
theorem putS5_5 (a b c d e x : List UInt8) : ansQ Tryz.prog optsK 40 169 [(.fsl false [(.str a), (.str b), (.str c), (.str d), (.str e)]), I 5, (.str x)] = some (.fsl false [(.str a), (.str b), (.str c), (.str d), (.str e), (.str x)]) := by kernel_rfl
theorem putS6_0 (a b c d e f x : List UInt8) : ansQ Tryz.prog optsK 40 169 [(.fsl false [(.str a), (.str b), (.str c), (.str d), (.str e), (.str f)]), I 0, (.str x)] = some (.fsl false [(.str x), (.str b), (.str c), (.str d), (.str e), (.str f)]) := by kernel_rfl
theorem putS6_1 (a b c d e f x : List UInt8) : ansQ Tryz.prog optsK 40 169 [(.fsl false [(.str a), (.str b), (.str c), (.str d), (.str e), (.str f)]), I 1, (.str x)] = some (.fsl false [(.str a), (.str x), (.str c), (.str d), (.str e), (.str f)]) := by kernel_rfl
theorem putS6_2 (a b c d e f x : List UInt8) : ansQ Tryz.prog optsK 40 169 [(.fsl false [(.str a), (.str b), (.str c), (.str d), (.str e), (.str f)]), I 2, (.str x)] = some (.fsl false [(.str a), (.str b), (.str x), (.str d), (.str e), (.str f)]) := by kernel_rfl
theorem putS6_3 (a b c d e f x : List UInt8) : ansQ Tryz.prog optsK 40 169 [(.fsl false [(.str a), (.str b), (.str c), (.str d), (.str e), (.str f)]), I 3, (.str x)] = some (.fsl false [(.str a), (.str b), (.str c), (.str x), (.str e), (.str f)]) := by kernel_rfl
theorem putS6_4 (a b c d e f x : List UInt8) : ansQ Tryz.prog optsK 40 169 [(.fsl false [(.str a), (.str b), (.str c), (.str d), (.str e), (.str f)]), I 4, (.str x)] = some (.fsl false [(.str a), (.str b), (.str c), (.str d), (.str x), (.str f)]) := by kernel_rfl
theorem putS6_5 (a b c d e f x : List UInt8) : ansQ Tryz.prog optsK 40 169 [(.fsl false [(.str a), (.str b), (.str c), (.str d), (.str e), (.str f)]), I 5, (.str x)] = some (.fsl false [(.str a), (.str b), (.str c), (.str d), (.str e), (.str x)]) := by kernel_rfl
theorem dropS1_0 (a : List UInt8) : ansQ Tryz.prog optsK 40 171 [.fsl false [(.str a)], I 0] = some (.fsl false []) := by kernel_rfl
theorem dropS2_0 (a b : List UInt8) : ansQ Tryz.prog optsK 40 171 [.fsl false [(.str a), (.str b)], I 0] = some (.fsl false [(.str b)]) := by kernel_rfl
theorem dropS2_1 (a b : List UInt8) : ansQ Tryz.prog optsK 40 171 [.fsl false [(.str a), (.str b)], I 1] = some (.fsl false [(.str a)]) := by kernel_rfl
theorem dropS3_0 (a b c : List UInt8) : ansQ Tryz.prog optsK 40 171 [.fsl false [(.str a), (.str b), (.str c)], I 0] = some (.fsl false [(.str b), (.str c)]) := by kernel_rfl
theorem dropS3_1 (a b c : List UInt8) : ansQ Tryz.prog optsK 40 171 [.fsl false [(.str a), (.str b), (.str c)], I 1] = some (.fsl false [(.str a), (.str c)]) := by kernel_rfl
theorem dropS3_2 (a b c : List UInt8) : ansQ Tryz.prog optsK 40 171 [.fsl false [(.str a), (.str b), (.str c)], I 2] = some (.fsl false [(.str a), (.str b)]) := by kernel_rfl
theorem dropS4_0 (a b c d : List UInt8) : ansQ Tryz.prog optsK 40 171 [.fsl false [(.str a), (.str b), (.str c), (.str d)], I 0] = some (.fsl false [(.str b), (.str c), (.str d)]) := by kernel_rfl
theorem dropS4_1 (a b c d : List UInt8) : ansQ Tryz.prog optsK 40 171 [.fsl false [(.str a), (.str b), (.str c), (.str d)], I 1] = some (.fsl false [(.str a), (.str c), (.str d)]) := by kernel_rfl
theorem dropS4_2 (a b c d : List UInt8) : ansQ Tryz.prog optsK 40 171 [.fsl false [(.str a), (.str b), (.str c), (.str d)], I 2] = some (.fsl false [(.str a), (.str b), (.str d)]) := by kernel_rfl
theorem dropS4_3 (a b c d : List UInt8) : ansQ Tryz.prog optsK 40 171 [.fsl false [(.str a), (.str b), (.str c), (.str d)], I 3] = some (.fsl false [(.str a), (.str b), (.str c)]) := by kernel_rfl
theorem dropS5_0 (a b c d e : List UInt8) : ansQ Tryz.prog optsK 40 171 [.fsl false [(.str a), (.str b), (.str c), (.str d), (.str e)], I 0] = some (.fsl false [(.str b), (.str c), (.str d), (.str e)]) := by kernel_rfl
theorem dropS5_1 (a b c d e : List UInt8) : ansQ Tryz.prog optsK 40 171 [.fsl false [(.str a), (.str b), (.str c), (.str d), (.str e)], I 1] = some (.fsl false [(.str a), (.str c), (.str d), (.str e)]) := by kernel_rfl
theorem dropS5_2 (a b c d e : List UInt8) : ansQ Tryz.prog optsK 40 171 [.fsl false [(.str a), (.str b), (.str c), (.str d), (.str e)], I 2] = some (.fsl false [(.str a), (.str b), (.str d), (.str e)]) := by kernel_rfl
theorem dropS5_3 (a b c d e : List UInt8) : ansQ Tryz.prog optsK 40 171 [.fsl false [(.str a), (.str b), (.str c), (.str d), (.str e)], I 3] = some (.fsl false [(.str a), (.str b), (.str c), (.str e)]) := by kernel_rfl
theorem dropS5_4 (a b c d e : List UInt8) : ansQ Tryz.prog optsK 40 171 [.fsl false [(.str a), (.str b), (.str c), (.str d), (.str e)], I 4] = some (.fsl false [(.str a), (.str b), (.str c), (.str d)]) := by kernel_rfl
theorem dropS6_0 (a b c d e f : List UInt8) : ansQ Tryz.prog optsK 40 171 [.fsl false [(.str a), (.str b), (.str c), (.str d), (.str e), (.str f)], I 0] = some (.fsl false [(.str b), (.str c), (.str d), (.str e), (.str f)]) := by kernel_rfl
theorem dropS6_1 (a b c d e f : List UInt8) : ansQ Tryz.prog optsK 40 171 [.fsl false [(.str a), (.str b), (.str c), (.str d), (.str e), (.str f)], I 1] = some (.fsl false [(.str a), (.str c), (.str d), (.str e), (.str f)]) := by kernel_rfl
theorem dropS6_2 (a b c d e f : List UInt8) : ansQ Tryz.prog optsK 40 171 [.fsl false [(.str a), (.str b), (.str c), (.str d), (.str e), (.str f)], I 2] = some (.fsl false [(.str a), (.str b), (.str d), (.str e), (.str f)]) := by kernel_rfl
theorem dropS6_3 (a b c d e f : List UInt8) : ansQ Tryz.prog optsK 40 171 [.fsl false [(.str a), (.str b), (.str c), (.str d), (.str e), (.str f)], I 3] = some (.fsl false [(.str a), (.str b), (.str c), (.str e), (.str f)]) := by kernel_rfl
theorem dropS6_4 (a b c d e f : List UInt8) : ansQ Tryz.prog optsK 40 171 [.fsl false [(.str a), (.str b), (.str c), (.str d), (.str e), (.str f)], I 4] = some (.fsl false [(.str a), (.str b), (.str c), (.str d), (.str f)]) := by kernel_rfl
theorem dropS6_5 (a b c d e f : List UInt8) : ansQ Tryz.prog optsK 40 171 [.fsl false [(.str a), (.str b), (.str c), (.str d), (.str e), (.str f)], I 5] = some (.fsl false [(.str a), (.str b), (.str c), (.str d), (.str e)]) := by kernel_rfl
theorem putS_sem : ∀ (l : List (List UInt8)) (i : Nat) (x : List UInt8), i ≤ l.length → l.length ≤ 6 → i < 6 → SC 169 [.fsl false (l.map .str), I (.ofNat i), (.str x)] (.fsl false ((putL l i x).map .str))
 | [], 0, x, _, _, _ => SemCall.emptyAt (ansK rfl (putS0_0 x) rfl) (ansK rfl (putS0_0n x) rfl)
 | [a], 0, x, _, _, _ => ansK rfl (putS1_0 a x) rfl
 | [a], 1, x, _, _, _ => ansK rfl (putS1_1 a x) rfl
 | [a, b], 0, x, _, _, _ => ansK rfl (putS2_0 a b x) rfl
 | [a, b], 1, x, _, _, _ => ansK rfl (putS2_1 a b x) rfl
 | [a, b], 2, x, _, _, _ => ansK rfl (putS2_2 a b x) rfl
 | [a, b, c], 0, x, _, _, _ => ansK rfl (putS3_0 a b c x) rfl
 | [a, b, c], 1, x, _, _, _ => ansK rfl (putS3_1 a b c x) rfl
 | [a, b, c], 2, x, _, _, _ => ansK rfl (putS3_2 a b c x) rfl
 | [a, b, c], 3, x, _, _, _ => ansK rfl (putS3_3 a b c x) rfl
 | [a, b, c, d], 0, x, _, _, _ => ansK rfl (putS4_0 a b c d x) rfl
 | [a, b, c, d], 1, x, _, _, _ => ansK rfl (putS4_1 a b c d x) rfl
 | [a, b, c, d], 2, x, _, _, _ => ansK rfl (putS4_2 a b c d x) rfl
 | [a, b, c, d], 3, x, _, _, _ => ansK rfl (putS4_3 a b c d x) rfl
 | [a, b, c, d], 4, x, _, _, _ => ansK rfl (putS4_4 a b c d x) rfl
 | [a, b, c, d, e], 0, x, _, _, _ => ansK rfl (putS5_0 a b c d e x) rfl
 | [a, b, c, d, e], 1, x, _, _, _ => ansK rfl (putS5_1 a b c d e x) rfl
 | [a, b, c, d, e], 2, x, _, _, _ => ansK rfl (putS5_2 a b c d e x) rfl
 | [a, b, c, d, e], 3, x, _, _, _ => ansK rfl (putS5_3 a b c d e x) rfl
 | [a, b, c, d, e], 4, x, _, _, _ => ansK rfl (putS5_4 a b c d e x) rfl
 | [a, b, c, d, e], 5, x, _, _, _ => ansK rfl (putS5_5 a b c d e x) rfl
 | [a, b, c, d, e, f], 0, x, _, _, _ => ansK rfl (putS6_0 a b c d e f x) rfl
 | [a, b, c, d, e, f], 1, x, _, _, _ => ansK rfl (putS6_1 a b c d e f x) rfl
 | [a, b, c, d, e, f], 2, x, _, _, _ => ansK rfl (putS6_2 a b c d e f x) rfl
 | [a, b, c, d, e, f], 3, x, _, _, _ => ansK rfl (putS6_3 a b c d e f x) rfl
 | [a, b, c, d, e, f], 4, x, _, _, _ => ansK rfl (putS6_4 a b c d e f x) rfl
 | [a, b, c, d, e, f], 5, x, _, _, _ => ansK rfl (putS6_5 a b c d e f x) rfl
 | [], i + 1, _, h, _, _ => absurd h (by simp)
 | [_], i + 2, _, h, _, _ => absurd h (by simp)
 | [_, _], i + 3, _, h, _, _ => absurd h (by simp)
 | [_, _, _], i + 4, _, h, _, _ => absurd h (by simp)
 | [_, _, _, _], i + 5, _, h, _, _ => absurd h (by simp)
 | [_, _, _, _, _], i + 6, _, h, _, _ => absurd h (by simp)
 | [_, _, _, _, _, _], i + 6, _, _, _, h => absurd h (by omega)
 | _ :: _ :: _ :: _ :: _ :: _ :: _ :: _, _, _, _, h, _ => absurd h (by simp)
theorem dropS_sem : ∀ (l : List (List UInt8)) (i : Nat), i < l.length → l.length ≤ 6 → SC 171 [.fsl false (l.map .str), I (.ofNat i)] (.fsl false ((dropL l i).map .str))
 | [], _, h, _ => absurd h (by simp)
 | [a], 0, _, _ => ansK rfl (dropS1_0 a) rfl
 | [_], i + 1, h, _ => absurd h (by simp)
 | [a, b], 0, _, _ => ansK rfl (dropS2_0 a b) rfl
 | [a, b], 1, _, _ => ansK rfl (dropS2_1 a b) rfl
 | [_, _], i + 2, h, _ => absurd h (by simp)
 | [a, b, c], 0, _, _ => ansK rfl (dropS3_0 a b c) rfl
 | [a, b, c], 1, _, _ => ansK rfl (dropS3_1 a b c) rfl
 | [a, b, c], 2, _, _ => ansK rfl (dropS3_2 a b c) rfl
 | [_, _, _], i + 3, h, _ => absurd h (by simp)
 | [a, b, c, d], 0, _, _ => ansK rfl (dropS4_0 a b c d) rfl
 | [a, b, c, d], 1, _, _ => ansK rfl (dropS4_1 a b c d) rfl
 | [a, b, c, d], 2, _, _ => ansK rfl (dropS4_2 a b c d) rfl
 | [a, b, c, d], 3, _, _ => ansK rfl (dropS4_3 a b c d) rfl
 | [_, _, _, _], i + 4, h, _ => absurd h (by simp)
 | [a, b, c, d, e], 0, _, _ => ansK rfl (dropS5_0 a b c d e) rfl
 | [a, b, c, d, e], 1, _, _ => ansK rfl (dropS5_1 a b c d e) rfl
 | [a, b, c, d, e], 2, _, _ => ansK rfl (dropS5_2 a b c d e) rfl
 | [a, b, c, d, e], 3, _, _ => ansK rfl (dropS5_3 a b c d e) rfl
 | [a, b, c, d, e], 4, _, _ => ansK rfl (dropS5_4 a b c d e) rfl
 | [_, _, _, _, _], i + 5, h, _ => absurd h (by simp)
 | [a, b, c, d, e, f], 0, _, _ => ansK rfl (dropS6_0 a b c d e f) rfl
 | [a, b, c, d, e, f], 1, _, _ => ansK rfl (dropS6_1 a b c d e f) rfl
 | [a, b, c, d, e, f], 2, _, _ => ansK rfl (dropS6_2 a b c d e f) rfl
 | [a, b, c, d, e, f], 3, _, _ => ansK rfl (dropS6_3 a b c d e f) rfl
 | [a, b, c, d, e, f], 4, _, _ => ansK rfl (dropS6_4 a b c d e f) rfl
 | [a, b, c, d, e, f], 5, _, _ => ansK rfl (dropS6_5 a b c d e f) rfl
 | [_, _, _, _, _, _], i + 6, h, _ => absurd h (by simp)
 | _ :: _ :: _ :: _ :: _ :: _ :: _ :: _, _, _, h => absurd h (by simp)
theorem putL0_0 (x : Lk) : ansQ Tryz.prog optsK 40 181 [.nilsl, I 0, (lkA x)] = some (.fsl false [(lkA x)]) := by kernel_rfl
theorem putL0_0n (x : Lk) : ansQ Tryz.prog optsK 40 181 [.nesl, I 0, (lkA x)] = some (.fsl false [(lkA x)]) := by kernel_rfl
theorem putL1_0 (a x : Lk) : ansQ Tryz.prog optsK 40 181 [(.fsl false [(lkA a)]), I 0, (lkA x)] = some (.fsl false [(lkA x)]) := by kernel_rfl
theorem putL1_1 (a x : Lk) : ansQ Tryz.prog optsK 40 181 [(.fsl false [(lkA a)]), I 1, (lkA x)] = some (.fsl false [(lkA a), (lkA x)]) := by kernel_rfl
theorem putL2_0 (a b x : Lk) : ansQ Tryz.prog optsK 40 181 [(.fsl false [(lkA a), (lkA b)]), I 0, (lkA x)] = some (.fsl false [(lkA x), (lkA b)]) := by kernel_rfl
theorem putL2_1 (a b x : Lk) : ansQ Tryz.prog optsK 40 181 [(.fsl false [(lkA a), (lkA b)]), I 1, (lkA x)] = some (.fsl false [(lkA a), (lkA x)]) := by kernel_rfl
theorem putL2_2 (a b x : Lk) : ansQ Tryz.prog optsK 40 181 [(.fsl false [(lkA a), (lkA b)]), I 2, (lkA x)] = some (.fsl false [(lkA a), (lkA b), (lkA x)]) := by kernel_rfl
theorem putL3_0 (a b c x : Lk) : ansQ Tryz.prog optsK 40 181 [(.fsl false [(lkA a), (lkA b), (lkA c)]), I 0, (lkA x)] = some (.fsl false [(lkA x), (lkA b), (lkA c)]) := by kernel_rfl
theorem putL3_1 (a b c x : Lk) : ansQ Tryz.prog optsK 40 181 [(.fsl false [(lkA a), (lkA b), (lkA c)]), I 1, (lkA x)] = some (.fsl false [(lkA a), (lkA x), (lkA c)]) := by kernel_rfl
theorem putL3_2 (a b c x : Lk) : ansQ Tryz.prog optsK 40 181 [(.fsl false [(lkA a), (lkA b), (lkA c)]), I 2, (lkA x)] = some (.fsl false [(lkA a), (lkA b), (lkA x)]) := by kernel_rfl
theorem putL3_3 (a b c x : Lk) : ansQ Tryz.prog optsK 40 181 [(.fsl false [(lkA a), (lkA b), (lkA c)]), I 3, (lkA x)] = some (.fsl false [(lkA a), (lkA b), (lkA c), (lkA x)]) := by kernel_rfl
theorem putL4_0 (a b c d x : Lk) : ansQ Tryz.prog optsK 40 181 [(.fsl false [(lkA a), (lkA b), (lkA c), (lkA d)]), I 0, (lkA x)] = some (.fsl false [(lkA x), (lkA b), (lkA c), (lkA d)]) := by kernel_rfl
theorem putL4_1 (a b c d x : Lk) : ansQ Tryz.prog optsK 40 181 [(.fsl false [(lkA a), (lkA b), (lkA c), (lkA d)]), I 1, (lkA x)] = some (.fsl false [(lkA a), (lkA x), (lkA c), (lkA d)]) := by kernel_rfl
theorem putL4_2 (a b c d x : Lk) : ansQ Tryz.prog optsK 40 181 [(.fsl false [(lkA a), (lkA b), (lkA c), (lkA d)]), I 2, (lkA x)] = some (.fsl false [(lkA a), (lkA b), (lkA x), (lkA d)]) := by kernel_rfl
theorem putL4_3 (a b c d x : Lk) : ansQ Tryz.prog optsK 40 181 [(.fsl false [(lkA a), (lkA b), (lkA c), (lkA d)]), I 3, (lkA x)] = some (.fsl false [(lkA a), (lkA b), (lkA c), (lkA x)]) := by kernel_rfl
theorem putL4_4 (a b c d x : Lk) : ansQ Tryz.prog optsK 40 181 [(.fsl false [(lkA a), (lkA b), (lkA c), (lkA d)]), I 4, (lkA x)] = some (.fsl false [(lkA a), (lkA b), (lkA c), (lkA d), (lkA x)]) := by kernel_rfl
theorem putL5_0 (a b c d e x : Lk) : ansQ Tryz.prog optsK 40 181 [(.fsl false [(lkA a), (lkA b), (lkA c), (lkA d), (lkA e)]), I 0, (lkA x)] = some (.fsl false [(lkA x), (lkA b), (lkA c), (lkA d), (lkA e)]) := by kernel_rfl
theorem putL5_1 (a b c d e x : Lk) : ansQ Tryz.prog optsK 40 181 [(.fsl false [(lkA a), (lkA b), (lkA c), (lkA d), (lkA e)]), I 1, (lkA x)] = some (.fsl false [(lkA a), (lkA x), (lkA c), (lkA d), (lkA e)]) := by kernel_rfl
theorem putL5_2 (a b c d e x : Lk) : ansQ Tryz.prog optsK 40 181 [(.fsl false [(lkA a), (lkA b), (lkA c), (lkA d), (lkA e)]), I 2, (lkA x)] = some (.fsl false [(lkA a), (lkA b), (lkA x), (lkA d), (lkA e)]) := by kernel_rfl
theorem putL5_3 (a b c d e x : Lk) : ansQ Tryz.prog optsK 40 181 [(.fsl false [(lkA a), (lkA b), (lkA c), (lkA d), (lkA e)]), I 3, (lkA x)] = some (.fsl false [(lkA a), (lkA b), (lkA c), (lkA x), (lkA e)]) := by kernel_rfl
theorem putL5_4 (a b c d e x : Lk) : ansQ Tryz.prog optsK 40 181 [(.fsl false [(lkA a), (lkA b), (lkA c), (lkA d), (lkA e)]), I 4, (lkA x)] = some (.fsl false [(lkA a), (lkA b), (lkA c), (lkA d), (lkA x)]) := by kernel_rfl
theorem putL5_5 (a b c d e x : Lk) : ansQ Tryz.prog optsK 40 181 [(.fsl false [(lkA a), (lkA b), (lkA c), (lkA d), (lkA e)]), I 5, (lkA x)] = some (.fsl false [(lkA a), (lkA b), (lkA c), (lkA d), (lkA e), (lkA x)]) := by kernel_rfl
theorem putL6_0 (a b c d e f x : Lk) : ansQ Tryz.prog optsK 40 181 [(.fsl false [(lkA a), (lkA b), (lkA c), (lkA d), (lkA e), (lkA f)]), I 0, (lkA x)] = some (.fsl false [(lkA x), (lkA b), (lkA c), (lkA d), (lkA e), (lkA f)]) := by kernel_rfl
theorem putL6_1 (a b c d e f x : Lk) : ansQ Tryz.prog optsK 40 181 [(.fsl false [(lkA a), (lkA b), (lkA c), (lkA d), (lkA e), (lkA f)]), I 1, (lkA x)] = some (.fsl false [(lkA a), (lkA x), (lkA c), (lkA d), (lkA e), (lkA f)]) := by kernel_rfl
theorem putL6_2 (a b c d e f x : Lk) : ansQ Tryz.prog optsK 40 181 [(.fsl false [(lkA a), (lkA b), (lkA c), (lkA d), (lkA e), (lkA f)]), I 2, (lkA x)] = some (.fsl false [(lkA a), (lkA b), (lkA x), (lkA d), (lkA e), (lkA f)]) := by kernel_rfl
theorem putL6_3 (a b c d e f x : Lk) : ansQ Tryz.prog optsK 40 181 [(.fsl false [(lkA a), (lkA b), (lkA c), (lkA d), (lkA e), (lkA f)]), I 3, (lkA x)] = some (.fsl false [(lkA a), (lkA b), (lkA c), (lkA x), (lkA e), (lkA f)]) := by kernel_rfl
theorem putL6_4 (a b c d e f x : Lk) : ansQ Tryz.prog optsK 40 181 [(.fsl false [(lkA a), (lkA b), (lkA c), (lkA d), (lkA e), (lkA f)]), I 4, (lkA x)] = some (.fsl false [(lkA a), (lkA b), (lkA c), (lkA d), (lkA x), (lkA f)]) := by kernel_rfl
theorem putL6_5 (a b c d e f x : Lk) : ansQ Tryz.prog optsK 40 181 [(.fsl false [(lkA a), (lkA b), (lkA c), (lkA d), (lkA e), (lkA f)]), I 5, (lkA x)] = some (.fsl false [(lkA a), (lkA b), (lkA c), (lkA d), (lkA e), (lkA x)]) := by kernel_rfl
theorem putL6_6 (a b c d e f x : Lk) : ansQ Tryz.prog optsK 40 181 [(.fsl false [(lkA a), (lkA b), (lkA c), (lkA d), (lkA e), (lkA f)]), I 6, (lkA x)] = some (.fsl false [(lkA a), (lkA b), (lkA c), (lkA d), (lkA e), (lkA f), (lkA x)]) := by kernel_rfl
theorem putL7_0 (a b c d e f g x : Lk) : ansQ Tryz.prog optsK 40 181 [(.fsl false [(lkA a), (lkA b), (lkA c), (lkA d), (lkA e), (lkA f), (lkA g)]), I 0, (lkA x)] = some (.fsl false [(lkA x), (lkA b), (lkA c), (lkA d), (lkA e), (lkA f), (lkA g)]) := by kernel_rfl
theorem putL7_1 (a b c d e f g x : Lk) : ansQ Tryz.prog optsK 40 181 [(.fsl false [(lkA a), (lkA b), (lkA c), (lkA d), (lkA e), (lkA f), (lkA g)]), I 1, (lkA x)] = some (.fsl false [(lkA a), (lkA x), (lkA c), (lkA d), (lkA e), (lkA f), (lkA g)]) := by kernel_rfl
theorem putL7_2 (a b c d e f g x : Lk) : ansQ Tryz.prog optsK 40 181 [(.fsl false [(lkA a), (lkA b), (lkA c), (lkA d), (lkA e), (lkA f), (lkA g)]), I 2, (lkA x)] = some (.fsl false [(lkA a), (lkA b), (lkA x), (lkA d), (lkA e), (lkA f), (lkA g)]) := by kernel_rfl
theorem putL7_3 (a b c d e f g x : Lk) : ansQ Tryz.prog optsK 40 181 [(.fsl false [(lkA a), (lkA b), (lkA c), (lkA d), (lkA e), (lkA f), (lkA g)]), I 3, (lkA x)] = some (.fsl false [(lkA a), (lkA b), (lkA c), (lkA x), (lkA e), (lkA f), (lkA g)]) := by kernel_rfl
theorem putL7_4 (a b c d e f g x : Lk) : ansQ Tryz.prog optsK 40 181 [(.fsl false [(lkA a), (lkA b), (lkA c), (lkA d), (lkA e), (lkA f), (lkA g)]), I 4, (lkA x)] = some (.fsl false [(lkA a), (lkA b), (lkA c), (lkA d), (lkA x), (lkA f), (lkA g)]) := by kernel_rfl
theorem putL7_5 (a b c d e f g x : Lk) : ansQ Tryz.prog optsK 40 181 [(.fsl false [(lkA a), (lkA b), (lkA c), (lkA d), (lkA e), (lkA f), (lkA g)]), I 5, (lkA x)] = some (.fsl false [(lkA a), (lkA b), (lkA c), (lkA d), (lkA e), (lkA x), (lkA g)]) := by kernel_rfl
theorem putL7_6 (a b c d e f g x : Lk) : ansQ Tryz.prog optsK 40 181 [(.fsl false [(lkA a), (lkA b), (lkA c), (lkA d), (lkA e), (lkA f), (lkA g)]), I 6, (lkA x)] = some (.fsl false [(lkA a), (lkA b), (lkA c), (lkA d), (lkA e), (lkA f), (lkA x)]) := by kernel_rfl
theorem putL7_7 (a b c d e f g x : Lk) : ansQ Tryz.prog optsK 40 181 [(.fsl false [(lkA a), (lkA b), (lkA c), (lkA d), (lkA e), (lkA f), (lkA g)]), I 7, (lkA x)] = some (.fsl false [(lkA a), (lkA b), (lkA c), (lkA d), (lkA e), (lkA f), (lkA g), (lkA x)]) := by kernel_rfl
theorem putL8_0 (a b c d e f g h x : Lk) : ansQ Tryz.prog optsK 40 181 [(.fsl false [(lkA a), (lkA b), (lkA c), (lkA d), (lkA e), (lkA f), (lkA g), (lkA h)]), I 0, (lkA x)] = some (.fsl false [(lkA x), (lkA b), (lkA c), (lkA d), (lkA e), (lkA f), (lkA g), (lkA h)]) := by kernel_rfl
theorem putL8_1 (a b c d e f g h x : Lk) : ansQ Tryz.prog optsK 40 181 [(.fsl false [(lkA a), (lkA b), (lkA c), (lkA d), (lkA e), (lkA f), (lkA g), (lkA h)]), I 1, (lkA x)] = some (.fsl false [(lkA a), (lkA x), (lkA c), (lkA d), (lkA e), (lkA f), (lkA g), (lkA h)]) := by kernel_rfl
theorem putL8_2 (a b c d e f g h x : Lk) : ansQ Tryz.prog optsK 40 181 [(.fsl false [(lkA a), (lkA b), (lkA c), (lkA d), (lkA e), (lkA f), (lkA g), (lkA h)]), I 2, (lkA x)] = some (.fsl false [(lkA a), (lkA b), (lkA x), (lkA d), (lkA e), (lkA f), (lkA g), (lkA h)]) := by kernel_rfl
theorem putL8_3 (a b c d e f g h x : Lk) : ansQ Tryz.prog optsK 40 181 [(.fsl false [(lkA a), (lkA b), (lkA c), (lkA d), (lkA e), (lkA f), (lkA g), (lkA h)]), I 3, (lkA x)] = some (.fsl false [(lkA a), (lkA b), (lkA c), (lkA x), (lkA e), (lkA f), (lkA g), (lkA h)]) := by kernel_rfl
theorem putL8_4 (a b c d e f g h x : Lk) : ansQ Tryz.prog optsK 40 181 [(.fsl false [(lkA a), (lkA b), (lkA c), (lkA d), (lkA e), (lkA f), (lkA g), (lkA h)]), I 4, (lkA x)] = some (.fsl false [(lkA a), (lkA b), (lkA c), (lkA d), (lkA x), (lkA f), (lkA g), (lkA h)]) := by kernel_rfl
theorem putL8_5 (a b c d e f g h x : Lk) : ansQ Tryz.prog optsK 40 181 [(.fsl false [(lkA a), (lkA b), (lkA c), (lkA d), (lkA e), (lkA f), (lkA g), (lkA h)]), I 5, (lkA x)] = some (.fsl false [(lkA a), (lkA b), (lkA c), (lkA d), (lkA e), (lkA x), (lkA g), (lkA h)]) := by kernel_rfl
theorem putL8_6 (a b c d e f g h x : Lk) : ansQ Tryz.prog optsK 40 181 [(.fsl false [(lkA a), (lkA b), (lkA c), (lkA d), (lkA e), (lkA f), (lkA g), (lkA h)]), I 6, (lkA x)] = some (.fsl false [(lkA a), (lkA b), (lkA c), (lkA d), (lkA e), (lkA f), (lkA x), (lkA h)]) := by kernel_rfl
theorem putL8_7 (a b c d e f g h x : Lk) : ansQ Tryz.prog optsK 40 181 [(.fsl false [(lkA a), (lkA b), (lkA c), (lkA d), (lkA e), (lkA f), (lkA g), (lkA h)]), I 7, (lkA x)] = some (.fsl false [(lkA a), (lkA b), (lkA c), (lkA d), (lkA e), (lkA f), (lkA g), (lkA x)]) := by kernel_rfl
theorem dropL1_0 (a : Lk) : ansQ Tryz.prog optsK 40 183 [.fsl false [(lkA a)], I 0] = some (.fsl false []) := by kernel_rfl
theorem dropL2_0 (a b : Lk) : ansQ Tryz.prog optsK 40 183 [.fsl false [(lkA a), (lkA b)], I 0] = some (.fsl false [(lkA b)]) := by kernel_rfl
theorem dropL2_1 (a b : Lk) : ansQ Tryz.prog optsK 40 183 [.fsl false [(lkA a), (lkA b)], I 1] = some (.fsl false [(lkA a)]) := by kernel_rfl
theorem dropL3_0 (a b c : Lk) : ansQ Tryz.prog optsK 40 183 [.fsl false [(lkA a), (lkA b), (lkA c)], I 0] = some (.fsl false [(lkA b), (lkA c)]) := by kernel_rfl
theorem dropL3_1 (a b c : Lk) : ansQ Tryz.prog optsK 40 183 [.fsl false [(lkA a), (lkA b), (lkA c)], I 1] = some (.fsl false [(lkA a), (lkA c)]) := by kernel_rfl
theorem dropL3_2 (a b c : Lk) : ansQ Tryz.prog optsK 40 183 [.fsl false [(lkA a), (lkA b), (lkA c)], I 2] = some (.fsl false [(lkA a), (lkA b)]) := by kernel_rfl
theorem dropL4_0 (a b c d : Lk) : ansQ Tryz.prog optsK 40 183 [.fsl false [(lkA a), (lkA b), (lkA c), (lkA d)], I 0] = some (.fsl false [(lkA b), (lkA c), (lkA d)]) := by kernel_rfl
theorem dropL4_1 (a b c d : Lk) : ansQ Tryz.prog optsK 40 183 [.fsl false [(lkA a), (lkA b), (lkA c), (lkA d)], I 1] = some (.fsl false [(lkA a), (lkA c), (lkA d)]) := by kernel_rfl
theorem dropL4_2 (a b c d : Lk) : ansQ Tryz.prog optsK 40 183 [.fsl false [(lkA a), (lkA b), (lkA c), (lkA d)], I 2] = some (.fsl false [(lkA a), (lkA b), (lkA d)]) := by kernel_rfl
theorem dropL4_3 (a b c d : Lk) : ansQ Tryz.prog optsK 40 183 [.fsl false [(lkA a), (lkA b), (lkA c), (lkA d)], I 3] = some (.fsl false [(lkA a), (lkA b), (lkA c)]) := by kernel_rfl
theorem dropL5_0 (a b c d e : Lk) : ansQ Tryz.prog optsK 40 183 [.fsl false [(lkA a), (lkA b), (lkA c), (lkA d), (lkA e)], I 0] = some (.fsl false [(lkA b), (lkA c), (lkA d), (lkA e)]) := by kernel_rfl
theorem dropL5_1 (a b c d e : Lk) : ansQ Tryz.prog optsK 40 183 [.fsl false [(lkA a), (lkA b), (lkA c), (lkA d), (lkA e)], I 1] = some (.fsl false [(lkA a), (lkA c), (lkA d), (lkA e)]) := by kernel_rfl
theorem dropL5_2 (a b c d e : Lk) : ansQ Tryz.prog optsK 40 183 [.fsl false [(lkA a), (lkA b), (lkA c), (lkA d), (lkA e)], I 2] = some (.fsl false [(lkA a), (lkA b), (lkA d), (lkA e)]) := by kernel_rfl
theorem dropL5_3 (a b c d e : Lk) : ansQ Tryz.prog optsK 40 183 [.fsl false [(lkA a), (lkA b), (lkA c), (lkA d), (lkA e)], I 3] = some (.fsl false [(lkA a), (lkA b), (lkA c), (lkA e)]) := by kernel_rfl
theorem dropL5_4 (a b c d e : Lk) : ansQ Tryz.prog optsK 40 183 [.fsl false [(lkA a), (lkA b), (lkA c), (lkA d), (lkA e)], I 4] = some (.fsl false [(lkA a), (lkA b), (lkA c), (lkA d)]) := by kernel_rfl
theorem dropL6_0 (a b c d e f : Lk) : ansQ Tryz.prog optsK 40 183 [.fsl false [(lkA a), (lkA b), (lkA c), (lkA d), (lkA e), (lkA f)], I 0] = some (.fsl false [(lkA b), (lkA c), (lkA d), (lkA e), (lkA f)]) := by kernel_rfl
theorem dropL6_1 (a b c d e f : Lk) : ansQ Tryz.prog optsK 40 183 [.fsl false [(lkA a), (lkA b), (lkA c), (lkA d), (lkA e), (lkA f)], I 1] = some (.fsl false [(lkA a), (lkA c), (lkA d), (lkA e), (lkA f)]) := by kernel_rfl
theorem dropL6_2 (a b c d e f : Lk) : ansQ Tryz.prog optsK 40 183 [.fsl false [(lkA a), (lkA b), (lkA c), (lkA d), (lkA e), (lkA f)], I 2] = some (.fsl false [(lkA a), (lkA b), (lkA d), (lkA e), (lkA f)]) := by kernel_rfl
theorem dropL6_3 (a b c d e f : Lk) : ansQ Tryz.prog optsK 40 183 [.fsl false [(lkA a), (lkA b), (lkA c), (lkA d), (lkA e), (lkA f)], I 3] = some (.fsl false [(lkA a), (lkA b), (lkA c), (lkA e), (lkA f)]) := by kernel_rfl
theorem dropL6_4 (a b c d e f : Lk) : ansQ Tryz.prog optsK 40 183 [.fsl false [(lkA a), (lkA b), (lkA c), (lkA d), (lkA e), (lkA f)], I 4] = some (.fsl false [(lkA a), (lkA b), (lkA c), (lkA d), (lkA f)]) := by kernel_rfl
theorem dropL6_5 (a b c d e f : Lk) : ansQ Tryz.prog optsK 40 183 [.fsl false [(lkA a), (lkA b), (lkA c), (lkA d), (lkA e), (lkA f)], I 5] = some (.fsl false [(lkA a), (lkA b), (lkA c), (lkA d), (lkA e)]) := by kernel_rfl
theorem dropL7_0 (a b c d e f g : Lk) : ansQ Tryz.prog optsK 40 183 [.fsl false [(lkA a), (lkA b), (lkA c), (lkA d), (lkA e), (lkA f), (lkA g)], I 0] = some (.fsl false [(lkA b), (lkA c), (lkA d), (lkA e), (lkA f), (lkA g)]) := by kernel_rfl
theorem dropL7_1 (a b c d e f g : Lk) : ansQ Tryz.prog optsK 40 183 [.fsl false [(lkA a), (lkA b), (lkA c), (lkA d), (lkA e), (lkA f), (lkA g)], I 1] = some (.fsl false [(lkA a), (lkA c), (lkA d), (lkA e), (lkA f), (lkA g)]) := by kernel_rfl
theorem dropL7_2 (a b c d e f g : Lk) : ansQ Tryz.prog optsK 40 183 [.fsl false [(lkA a), (lkA b), (lkA c), (lkA d), (lkA e), (lkA f), (lkA g)], I 2] = some (.fsl false [(lkA a), (lkA b), (lkA d), (lkA e), (lkA f), (lkA g)]) := by kernel_rfl
theorem dropL7_3 (a b c d e f g : Lk) : ansQ Tryz.prog optsK 40 183 [.fsl false [(lkA a), (lkA b), (lkA c), (lkA d), (lkA e), (lkA f), (lkA g)], I 3] = some (.fsl false [(lkA a), (lkA b), (lkA c), (lkA e), (lkA f), (lkA g)]) := by kernel_rfl
theorem dropL7_4 (a b c d e f g : Lk) : ansQ Tryz.prog optsK 40 183 [.fsl false [(lkA a), (lkA b), (lkA c), (lkA d), (lkA e), (lkA f), (lkA g)], I 4] = some (.fsl false [(lkA a), (lkA b), (lkA c), (lkA d), (lkA f), (lkA g)]) := by kernel_rfl
theorem dropL7_5 (a b c d e f g : Lk) : ansQ Tryz.prog optsK 40 183 [.fsl false [(lkA a), (lkA b), (lkA c), (lkA d), (lkA e), (lkA f), (lkA g)], I 5] = some (.fsl false [(lkA a), (lkA b), (lkA c), (lkA d), (lkA e), (lkA g)]) := by kernel_rfl
theorem dropL7_6 (a b c d e f g : Lk) : ansQ Tryz.prog optsK 40 183 [.fsl false [(lkA a), (lkA b), (lkA c), (lkA d), (lkA e), (lkA f), (lkA g)], I 6] = some (.fsl false [(lkA a), (lkA b), (lkA c), (lkA d), (lkA e), (lkA f)]) := by kernel_rfl
theorem dropL8_0 (a b c d e f g h : Lk) : ansQ Tryz.prog optsK 40 183 [.fsl false [(lkA a), (lkA b), (lkA c), (lkA d), (lkA e), (lkA f), (lkA g), (lkA h)], I 0] = some (.fsl false [(lkA b), (lkA c), (lkA d), (lkA e), (lkA f), (lkA g), (lkA h)]) := by kernel_rfl
theorem dropL8_1 (a b c d e f g h : Lk) : ansQ Tryz.prog optsK 40 183 [.fsl false [(lkA a), (lkA b), (lkA c), (lkA d), (lkA e), (lkA f), (lkA g), (lkA h)], I 1] = some (.fsl false [(lkA a), (lkA c), (lkA d), (lkA e), (lkA f), (lkA g), (lkA h)]) := by kernel_rfl
theorem dropL8_2 (a b c d e f g h : Lk) : ansQ Tryz.prog optsK 40 183 [.fsl false [(lkA a), (lkA b), (lkA c), (lkA d), (lkA e), (lkA f), (lkA g), (lkA h)], I 2] = some (.fsl false [(lkA a), (lkA b), (lkA d), (lkA e), (lkA f), (lkA g), (lkA h)]) := by kernel_rfl
theorem dropL8_3 (a b c d e f g h : Lk) : ansQ Tryz.prog optsK 40 183 [.fsl false [(lkA a), (lkA b), (lkA c), (lkA d), (lkA e), (lkA f), (lkA g), (lkA h)], I 3] = some (.fsl false [(lkA a), (lkA b), (lkA c), (lkA e), (lkA f), (lkA g), (lkA h)]) := by kernel_rfl
theorem dropL8_4 (a b c d e f g h : Lk) : ansQ Tryz.prog optsK 40 183 [.fsl false [(lkA a), (lkA b), (lkA c), (lkA d), (lkA e), (lkA f), (lkA g), (lkA h)], I 4] = some (.fsl false [(lkA a), (lkA b), (lkA c), (lkA d), (lkA f), (lkA g), (lkA h)]) := by kernel_rfl
theorem dropL8_5 (a b c d e f g h : Lk) : ansQ Tryz.prog optsK 40 183 [.fsl false [(lkA a), (lkA b), (lkA c), (lkA d), (lkA e), (lkA f), (lkA g), (lkA h)], I 5] = some (.fsl false [(lkA a), (lkA b), (lkA c), (lkA d), (lkA e), (lkA g), (lkA h)]) := by kernel_rfl
theorem dropL8_6 (a b c d e f g h : Lk) : ansQ Tryz.prog optsK 40 183 [.fsl false [(lkA a), (lkA b), (lkA c), (lkA d), (lkA e), (lkA f), (lkA g), (lkA h)], I 6] = some (.fsl false [(lkA a), (lkA b), (lkA c), (lkA d), (lkA e), (lkA f), (lkA h)]) := by kernel_rfl
theorem dropL8_7 (a b c d e f g h : Lk) : ansQ Tryz.prog optsK 40 183 [.fsl false [(lkA a), (lkA b), (lkA c), (lkA d), (lkA e), (lkA f), (lkA g), (lkA h)], I 7] = some (.fsl false [(lkA a), (lkA b), (lkA c), (lkA d), (lkA e), (lkA f), (lkA g)]) := by kernel_rfl
theorem putL_sem : ∀ (l : List (Lk)) (i : Nat) (x : Lk), i ≤ l.length → l.length ≤ 8 → i < 8 → SC 181 [.fsl false (l.map lkA), I (.ofNat i), (lkA x)] (.fsl false ((putL l i x).map lkA))
 | [], 0, x, _, _, _ => SemCall.emptyAt (ansK rfl (putL0_0 x) rfl) (ansK rfl (putL0_0n x) rfl)
 | [a], 0, x, _, _, _ => ansK rfl (putL1_0 a x) rfl
 | [a], 1, x, _, _, _ => ansK rfl (putL1_1 a x) rfl
 | [a, b], 0, x, _, _, _ => ansK rfl (putL2_0 a b x) rfl
 | [a, b], 1, x, _, _, _ => ansK rfl (putL2_1 a b x) rfl
 | [a, b], 2, x, _, _, _ => ansK rfl (putL2_2 a b x) rfl
 | [a, b, c], 0, x, _, _, _ => ansK rfl (putL3_0 a b c x) rfl
 | [a, b, c], 1, x, _, _, _ => ansK rfl (putL3_1 a b c x) rfl
 | [a, b, c], 2, x, _, _, _ => ansK rfl (putL3_2 a b c x) rfl
 | [a, b, c], 3, x, _, _, _ => ansK rfl (putL3_3 a b c x) rfl
 | [a, b, c, d], 0, x, _, _, _ => ansK rfl (putL4_0 a b c d x) rfl
 | [a, b, c, d], 1, x, _, _, _ => ansK rfl (putL4_1 a b c d x) rfl
 | [a, b, c, d], 2, x, _, _, _ => ansK rfl (putL4_2 a b c d x) rfl
 | [a, b, c, d], 3, x, _, _, _ => ansK rfl (putL4_3 a b c d x) rfl
 | [a, b, c, d], 4, x, _, _, _ => ansK rfl (putL4_4 a b c d x) rfl
 | [a, b, c, d, e], 0, x, _, _, _ => ansK rfl (putL5_0 a b c d e x) rfl
 | [a, b, c, d, e], 1, x, _, _, _ => ansK rfl (putL5_1 a b c d e x) rfl
 | [a, b, c, d, e], 2, x, _, _, _ => ansK rfl (putL5_2 a b c d e x) rfl
 | [a, b, c, d, e], 3, x, _, _, _ => ansK rfl (putL5_3 a b c d e x) rfl
 | [a, b, c, d, e], 4, x, _, _, _ => ansK rfl (putL5_4 a b c d e x) rfl
 | [a, b, c, d, e], 5, x, _, _, _ => ansK rfl (putL5_5 a b c d e x) rfl
 | [a, b, c, d, e, f], 0, x, _, _, _ => ansK rfl (putL6_0 a b c d e f x) rfl
 | [a, b, c, d, e, f], 1, x, _, _, _ => ansK rfl (putL6_1 a b c d e f x) rfl
 | [a, b, c, d, e, f], 2, x, _, _, _ => ansK rfl (putL6_2 a b c d e f x) rfl
 | [a, b, c, d, e, f], 3, x, _, _, _ => ansK rfl (putL6_3 a b c d e f x) rfl
 | [a, b, c, d, e, f], 4, x, _, _, _ => ansK rfl (putL6_4 a b c d e f x) rfl
 | [a, b, c, d, e, f], 5, x, _, _, _ => ansK rfl (putL6_5 a b c d e f x) rfl
 | [a, b, c, d, e, f], 6, x, _, _, _ => ansK rfl (putL6_6 a b c d e f x) rfl
 | [a, b, c, d, e, f, g], 0, x, _, _, _ => ansK rfl (putL7_0 a b c d e f g x) rfl
 | [a, b, c, d, e, f, g], 1, x, _, _, _ => ansK rfl (putL7_1 a b c d e f g x) rfl
 | [a, b, c, d, e, f, g], 2, x, _, _, _ => ansK rfl (putL7_2 a b c d e f g x) rfl
 | [a, b, c, d, e, f, g], 3, x, _, _, _ => ansK rfl (putL7_3 a b c d e f g x) rfl
 | [a, b, c, d, e, f, g], 4, x, _, _, _ => ansK rfl (putL7_4 a b c d e f g x) rfl
 | [a, b, c, d, e, f, g], 5, x, _, _, _ => ansK rfl (putL7_5 a b c d e f g x) rfl
 | [a, b, c, d, e, f, g], 6, x, _, _, _ => ansK rfl (putL7_6 a b c d e f g x) rfl
 | [a, b, c, d, e, f, g], 7, x, _, _, _ => ansK rfl (putL7_7 a b c d e f g x) rfl
 | [a, b, c, d, e, f, g, h], 0, x, _, _, _ => ansK rfl (putL8_0 a b c d e f g h x) rfl
 | [a, b, c, d, e, f, g, h], 1, x, _, _, _ => ansK rfl (putL8_1 a b c d e f g h x) rfl
 | [a, b, c, d, e, f, g, h], 2, x, _, _, _ => ansK rfl (putL8_2 a b c d e f g h x) rfl
 | [a, b, c, d, e, f, g, h], 3, x, _, _, _ => ansK rfl (putL8_3 a b c d e f g h x) rfl
 | [a, b, c, d, e, f, g, h], 4, x, _, _, _ => ansK rfl (putL8_4 a b c d e f g h x) rfl
 | [a, b, c, d, e, f, g, h], 5, x, _, _, _ => ansK rfl (putL8_5 a b c d e f g h x) rfl
 | [a, b, c, d, e, f, g, h], 6, x, _, _, _ => ansK rfl (putL8_6 a b c d e f g h x) rfl
 | [a, b, c, d, e, f, g, h], 7, x, _, _, _ => ansK rfl (putL8_7 a b c d e f g h x) rfl
 | [], i + 1, _, h, _, _ => absurd h (by simp)
 | [_], i + 2, _, h, _, _ => absurd h (by simp)
 | [_, _], i + 3, _, h, _, _ => absurd h (by simp)
 | [_, _, _], i + 4, _, h, _, _ => absurd h (by simp)
 | [_, _, _, _], i + 5, _, h, _, _ => absurd h (by simp)
 | [_, _, _, _, _], i + 6, _, h, _, _ => absurd h (by simp)
 | [_, _, _, _, _, _], i + 7, _, h, _, _ => absurd h (by simp)
 | [_, _, _, _, _, _, _], i + 8, _, h, _, _ => absurd h (by simp)
 | [_, _, _, _, _, _, _, _], i + 8, _, _, _, h => absurd h (by omega)
 | _ :: _ :: _ :: _ :: _ :: _ :: _ :: _ :: _ :: _, _, _, _, h, _ => absurd h (by simp)
theorem dropL_sem : ∀ (l : List (Lk)) (i : Nat), i < l.length → l.length ≤ 8 → SC 183 [.fsl false (l.map lkA), I (.ofNat i)] (.fsl false ((dropL l i).map lkA))
 | [], _, h, _ => absurd h (by simp)
 | [a], 0, _, _ => ansK rfl (dropL1_0 a) rfl
 | [_], i + 1, h, _ => absurd h (by simp)
 | [a, b], 0, _, _ => ansK rfl (dropL2_0 a b) rfl
 | [a, b], 1, _, _ => ansK rfl (dropL2_1 a b) rfl
 | [_, _], i + 2, h, _ => absurd h (by simp)
 | [a, b, c], 0, _, _ => ansK rfl (dropL3_0 a b c) rfl
 | [a, b, c], 1, _, _ => ansK rfl (dropL3_1 a b c) rfl
 | [a, b, c], 2, _, _ => ansK rfl (dropL3_2 a b c) rfl
 | [_, _, _], i + 3, h, _ => absurd h (by simp)
 | [a, b, c, d], 0, _, _ => ansK rfl (dropL4_0 a b c d) rfl
 | [a, b, c, d], 1, _, _ => ansK rfl (dropL4_1 a b c d) rfl
 | [a, b, c, d], 2, _, _ => ansK rfl (dropL4_2 a b c d) rfl
 | [a, b, c, d], 3, _, _ => ansK rfl (dropL4_3 a b c d) rfl
 | [_, _, _, _], i + 4, h, _ => absurd h (by simp)
 | [a, b, c, d, e], 0, _, _ => ansK rfl (dropL5_0 a b c d e) rfl
 | [a, b, c, d, e], 1, _, _ => ansK rfl (dropL5_1 a b c d e) rfl
 | [a, b, c, d, e], 2, _, _ => ansK rfl (dropL5_2 a b c d e) rfl
 | [a, b, c, d, e], 3, _, _ => ansK rfl (dropL5_3 a b c d e) rfl
 | [a, b, c, d, e], 4, _, _ => ansK rfl (dropL5_4 a b c d e) rfl
 | [_, _, _, _, _], i + 5, h, _ => absurd h (by simp)
 | [a, b, c, d, e, f], 0, _, _ => ansK rfl (dropL6_0 a b c d e f) rfl
 | [a, b, c, d, e, f], 1, _, _ => ansK rfl (dropL6_1 a b c d e f) rfl
 | [a, b, c, d, e, f], 2, _, _ => ansK rfl (dropL6_2 a b c d e f) rfl
 | [a, b, c, d, e, f], 3, _, _ => ansK rfl (dropL6_3 a b c d e f) rfl
 | [a, b, c, d, e, f], 4, _, _ => ansK rfl (dropL6_4 a b c d e f) rfl
 | [a, b, c, d, e, f], 5, _, _ => ansK rfl (dropL6_5 a b c d e f) rfl
 | [_, _, _, _, _, _], i + 6, h, _ => absurd h (by simp)
 | [a, b, c, d, e, f, g], 0, _, _ => ansK rfl (dropL7_0 a b c d e f g) rfl
 | [a, b, c, d, e, f, g], 1, _, _ => ansK rfl (dropL7_1 a b c d e f g) rfl
 | [a, b, c, d, e, f, g], 2, _, _ => ansK rfl (dropL7_2 a b c d e f g) rfl
 | [a, b, c, d, e, f, g], 3, _, _ => ansK rfl (dropL7_3 a b c d e f g) rfl
 | [a, b, c, d, e, f, g], 4, _, _ => ansK rfl (dropL7_4 a b c d e f g) rfl
 | [a, b, c, d, e, f, g], 5, _, _ => ansK rfl (dropL7_5 a b c d e f g) rfl
 | [a, b, c, d, e, f, g], 6, _, _ => ansK rfl (dropL7_6 a b c d e f g) rfl
 | [_, _, _, _, _, _, _], i + 7, h, _ => absurd h (by simp)
 | [a, b, c, d, e, f, g, h], 0, _, _ => ansK rfl (dropL8_0 a b c d e f g h) rfl
 | [a, b, c, d, e, f, g, h], 1, _, _ => ansK rfl (dropL8_1 a b c d e f g h) rfl
 | [a, b, c, d, e, f, g, h], 2, _, _ => ansK rfl (dropL8_2 a b c d e f g h) rfl
 | [a, b, c, d, e, f, g, h], 3, _, _ => ansK rfl (dropL8_3 a b c d e f g h) rfl
 | [a, b, c, d, e, f, g, h], 4, _, _ => ansK rfl (dropL8_4 a b c d e f g h) rfl
 | [a, b, c, d, e, f, g, h], 5, _, _ => ansK rfl (dropL8_5 a b c d e f g h) rfl
 | [a, b, c, d, e, f, g, h], 6, _, _ => ansK rfl (dropL8_6 a b c d e f g h) rfl
 | [a, b, c, d, e, f, g, h], 7, _, _ => ansK rfl (dropL8_7 a b c d e f g h) rfl
 | [_, _, _, _, _, _, _, _], i + 8, h, _ => absurd h (by simp)
 | _ :: _ :: _ :: _ :: _ :: _ :: _ :: _ :: _ :: _, _, _, h => absurd h (by simp)
theorem putC0_0 (x : Cu) : ansQ Tryz.prog optsK 40 155 [.nilsl, I 0, (cuA x)] = some (.fsl false [(cuA x)]) := by kernel_rfl
theorem putC0_0n (x : Cu) : ansQ Tryz.prog optsK 40 155 [.nesl, I 0, (cuA x)] = some (.fsl false [(cuA x)]) := by kernel_rfl
theorem putC1_0 (a x : Cu) : ansQ Tryz.prog optsK 40 155 [(.fsl false [(cuA a)]), I 0, (cuA x)] = some (.fsl false [(cuA x)]) := by kernel_rfl
theorem putC1_1 (a x : Cu) : ansQ Tryz.prog optsK 40 155 [(.fsl false [(cuA a)]), I 1, (cuA x)] = some (.fsl false [(cuA a), (cuA x)]) := by kernel_rfl
theorem putC2_0 (a b x : Cu) : ansQ Tryz.prog optsK 40 155 [(.fsl false [(cuA a), (cuA b)]), I 0, (cuA x)] = some (.fsl false [(cuA x), (cuA b)]) := by kernel_rfl
theorem putC2_1 (a b x : Cu) : ansQ Tryz.prog optsK 40 155 [(.fsl false [(cuA a), (cuA b)]), I 1, (cuA x)] = some (.fsl false [(cuA a), (cuA x)]) := by kernel_rfl
theorem putC2_2 (a b x : Cu) : ansQ Tryz.prog optsK 40 155 [(.fsl false [(cuA a), (cuA b)]), I 2, (cuA x)] = some (.fsl false [(cuA a), (cuA b), (cuA x)]) := by kernel_rfl
theorem putC3_0 (a b c x : Cu) : ansQ Tryz.prog optsK 40 155 [(.fsl false [(cuA a), (cuA b), (cuA c)]), I 0, (cuA x)] = some (.fsl false [(cuA x), (cuA b), (cuA c)]) := by kernel_rfl
theorem putC3_1 (a b c x : Cu) : ansQ Tryz.prog optsK 40 155 [(.fsl false [(cuA a), (cuA b), (cuA c)]), I 1, (cuA x)] = some (.fsl false [(cuA a), (cuA x), (cuA c)]) := by kernel_rfl
theorem putC3_2 (a b c x : Cu) : ansQ Tryz.prog optsK 40 155 [(.fsl false [(cuA a), (cuA b), (cuA c)]), I 2, (cuA x)] = some (.fsl false [(cuA a), (cuA b), (cuA x)]) := by kernel_rfl
theorem putC3_3 (a b c x : Cu) : ansQ Tryz.prog optsK 40 155 [(.fsl false [(cuA a), (cuA b), (cuA c)]), I 3, (cuA x)] = some (.fsl false [(cuA a), (cuA b), (cuA c), (cuA x)]) := by kernel_rfl
theorem putC4_0 (a b c d x : Cu) : ansQ Tryz.prog optsK 40 155 [(.fsl false [(cuA a), (cuA b), (cuA c), (cuA d)]), I 0, (cuA x)] = some (.fsl false [(cuA x), (cuA b), (cuA c), (cuA d)]) := by kernel_rfl
theorem putC4_1 (a b c d x : Cu) : ansQ Tryz.prog optsK 40 155 [(.fsl false [(cuA a), (cuA b), (cuA c), (cuA d)]), I 1, (cuA x)] = some (.fsl false [(cuA a), (cuA x), (cuA c), (cuA d)]) := by kernel_rfl
theorem putC4_2 (a b c d x : Cu) : ansQ Tryz.prog optsK 40 155 [(.fsl false [(cuA a), (cuA b), (cuA c), (cuA d)]), I 2, (cuA x)] = some (.fsl false [(cuA a), (cuA b), (cuA x), (cuA d)]) := by kernel_rfl
theorem putC4_3 (a b c d x : Cu) : ansQ Tryz.prog optsK 40 155 [(.fsl false [(cuA a), (cuA b), (cuA c), (cuA d)]), I 3, (cuA x)] = some (.fsl false [(cuA a), (cuA b), (cuA c), (cuA x)]) := by kernel_rfl
theorem putC4_4 (a b c d x : Cu) : ansQ Tryz.prog optsK 40 155 [(.fsl false [(cuA a), (cuA b), (cuA c), (cuA d)]), I 4, (cuA x)] = some (.fsl false [(cuA a), (cuA b), (cuA c), (cuA d), (cuA x)]) := by kernel_rfl
theorem putC5_0 (a b c d e x : Cu) : ansQ Tryz.prog optsK 40 155 [(.fsl false [(cuA a), (cuA b), (cuA c), (cuA d), (cuA e)]), I 0, (cuA x)] = some (.fsl false [(cuA x), (cuA b), (cuA c), (cuA d), (cuA e)]) := by kernel_rfl
theorem putC5_1 (a b c d e x : Cu) : ansQ Tryz.prog optsK 40 155 [(.fsl false [(cuA a), (cuA b), (cuA c), (cuA d), (cuA e)]), I 1, (cuA x)] = some (.fsl false [(cuA a), (cuA x), (cuA c), (cuA d), (cuA e)]) := by kernel_rfl
theorem putC5_2 (a b c d e x : Cu) : ansQ Tryz.prog optsK 40 155 [(.fsl false [(cuA a), (cuA b), (cuA c), (cuA d), (cuA e)]), I 2, (cuA x)] = some (.fsl false [(cuA a), (cuA b), (cuA x), (cuA d), (cuA e)]) := by kernel_rfl
theorem putC5_3 (a b c d e x : Cu) : ansQ Tryz.prog optsK 40 155 [(.fsl false [(cuA a), (cuA b), (cuA c), (cuA d), (cuA e)]), I 3, (cuA x)] = some (.fsl false [(cuA a), (cuA b), (cuA c), (cuA x), (cuA e)]) := by kernel_rfl
theorem putC5_4 (a b c d e x : Cu) : ansQ Tryz.prog optsK 40 155 [(.fsl false [(cuA a), (cuA b), (cuA c), (cuA d), (cuA e)]), I 4, (cuA x)] = some (.fsl false [(cuA a), (cuA b), (cuA c), (cuA d), (cuA x)]) := by kernel_rfl
theorem putC5_5 (a b c d e x : Cu) : ansQ Tryz.prog optsK 40 155 [(.fsl false [(cuA a), (cuA b), (cuA c), (cuA d), (cuA e)]), I 5, (cuA x)] = some (.fsl false [(cuA a), (cuA b), (cuA c), (cuA d), (cuA e), (cuA x)]) := by kernel_rfl
theorem putC6_0 (a b c d e f x : Cu) : ansQ Tryz.prog optsK 40 155 [(.fsl false [(cuA a), (cuA b), (cuA c), (cuA d), (cuA e), (cuA f)]), I 0, (cuA x)] = some (.fsl false [(cuA x), (cuA b), (cuA c), (cuA d), (cuA e), (cuA f)]) := by kernel_rfl
theorem putC6_1 (a b c d e f x : Cu) : ansQ Tryz.prog optsK 40 155 [(.fsl false [(cuA a), (cuA b), (cuA c), (cuA d), (cuA e), (cuA f)]), I 1, (cuA x)] = some (.fsl false [(cuA a), (cuA x), (cuA c), (cuA d), (cuA e), (cuA f)]) := by kernel_rfl
theorem putC6_2 (a b c d e f x : Cu) : ansQ Tryz.prog optsK 40 155 [(.fsl false [(cuA a), (cuA b), (cuA c), (cuA d), (cuA e), (cuA f)]), I 2, (cuA x)] = some (.fsl false [(cuA a), (cuA b), (cuA x), (cuA d), (cuA e), (cuA f)]) := by kernel_rfl
theorem putC6_3 (a b c d e f x : Cu) : ansQ Tryz.prog optsK 40 155 [(.fsl false [(cuA a), (cuA b), (cuA c), (cuA d), (cuA e), (cuA f)]), I 3, (cuA x)] = some (.fsl false [(cuA a), (cuA b), (cuA c), (cuA x), (cuA e), (cuA f)]) := by kernel_rfl
theorem putC6_4 (a b c d e f x : Cu) : ansQ Tryz.prog optsK 40 155 [(.fsl false [(cuA a), (cuA b), (cuA c), (cuA d), (cuA e), (cuA f)]), I 4, (cuA x)] = some (.fsl false [(cuA a), (cuA b), (cuA c), (cuA d), (cuA x), (cuA f)]) := by kernel_rfl
theorem putC6_5 (a b c d e f x : Cu) : ansQ Tryz.prog optsK 40 155 [(.fsl false [(cuA a), (cuA b), (cuA c), (cuA d), (cuA e), (cuA f)]), I 5, (cuA x)] = some (.fsl false [(cuA a), (cuA b), (cuA c), (cuA d), (cuA e), (cuA x)]) := by kernel_rfl
theorem dropC1_0 (a : Cu) : ansQ Tryz.prog optsK 40 157 [.fsl false [(cuA a)], I 0] = some (.fsl false []) := by kernel_rfl
theorem dropC2_0 (a b : Cu) : ansQ Tryz.prog optsK 40 157 [.fsl false [(cuA a), (cuA b)], I 0] = some (.fsl false [(cuA b)]) := by kernel_rfl
theorem dropC2_1 (a b : Cu) : ansQ Tryz.prog optsK 40 157 [.fsl false [(cuA a), (cuA b)], I 1] = some (.fsl false [(cuA a)]) := by kernel_rfl
theorem dropC3_0 (a b c : Cu) : ansQ Tryz.prog optsK 40 157 [.fsl false [(cuA a), (cuA b), (cuA c)], I 0] = some (.fsl false [(cuA b), (cuA c)]) := by kernel_rfl
theorem dropC3_1 (a b c : Cu) : ansQ Tryz.prog optsK 40 157 [.fsl false [(cuA a), (cuA b), (cuA c)], I 1] = some (.fsl false [(cuA a), (cuA c)]) := by kernel_rfl
theorem dropC3_2 (a b c : Cu) : ansQ Tryz.prog optsK 40 157 [.fsl false [(cuA a), (cuA b), (cuA c)], I 2] = some (.fsl false [(cuA a), (cuA b)]) := by kernel_rfl
theorem dropC4_0 (a b c d : Cu) : ansQ Tryz.prog optsK 40 157 [.fsl false [(cuA a), (cuA b), (cuA c), (cuA d)], I 0] = some (.fsl false [(cuA b), (cuA c), (cuA d)]) := by kernel_rfl
theorem dropC4_1 (a b c d : Cu) : ansQ Tryz.prog optsK 40 157 [.fsl false [(cuA a), (cuA b), (cuA c), (cuA d)], I 1] = some (.fsl false [(cuA a), (cuA c), (cuA d)]) := by kernel_rfl
theorem dropC4_2 (a b c d : Cu) : ansQ Tryz.prog optsK 40 157 [.fsl false [(cuA a), (cuA b), (cuA c), (cuA d)], I 2] = some (.fsl false [(cuA a), (cuA b), (cuA d)]) := by kernel_rfl
theorem dropC4_3 (a b c d : Cu) : ansQ Tryz.prog optsK 40 157 [.fsl false [(cuA a), (cuA b), (cuA c), (cuA d)], I 3] = some (.fsl false [(cuA a), (cuA b), (cuA c)]) := by kernel_rfl
theorem dropC5_0 (a b c d e : Cu) : ansQ Tryz.prog optsK 40 157 [.fsl false [(cuA a), (cuA b), (cuA c), (cuA d), (cuA e)], I 0] = some (.fsl false [(cuA b), (cuA c), (cuA d), (cuA e)]) := by kernel_rfl
theorem dropC5_1 (a b c d e : Cu) : ansQ Tryz.prog optsK 40 157 [.fsl false [(cuA a), (cuA b), (cuA c), (cuA d), (cuA e)], I 1] = some (.fsl false [(cuA a), (cuA c), (cuA d), (cuA e)]) := by kernel_rfl
theorem dropC5_2 (a b c d e : Cu) : ansQ Tryz.prog optsK 40 157 [.fsl false [(cuA a), (cuA b), (cuA c), (cuA d), (cuA e)], I 2] = some (.fsl false [(cuA a), (cuA b), (cuA d), (cuA e)]) := by kernel_rfl
theorem dropC5_3 (a b c d e : Cu) : ansQ Tryz.prog optsK 40 157 [.fsl false [(cuA a), (cuA b), (cuA c), (cuA d), (cuA e)], I 3] = some (.fsl false [(cuA a), (cuA b), (cuA c), (cuA e)]) := by kernel_rfl
theorem dropC5_4 (a b c d e : Cu) : ansQ Tryz.prog optsK 40 157 [.fsl false [(cuA a), (cuA b), (cuA c), (cuA d), (cuA e)], I 4] = some (.fsl false [(cuA a), (cuA b), (cuA c), (cuA d)]) := by kernel_rfl
theorem dropC6_0 (a b c d e f : Cu) : ansQ Tryz.prog optsK 40 157 [.fsl false [(cuA a), (cuA b), (cuA c), (cuA d), (cuA e), (cuA f)], I 0] = some (.fsl false [(cuA b), (cuA c), (cuA d), (cuA e), (cuA f)]) := by kernel_rfl
theorem dropC6_1 (a b c d e f : Cu) : ansQ Tryz.prog optsK 40 157 [.fsl false [(cuA a), (cuA b), (cuA c), (cuA d), (cuA e), (cuA f)], I 1] = some (.fsl false [(cuA a), (cuA c), (cuA d), (cuA e), (cuA f)]) := by kernel_rfl
theorem dropC6_2 (a b c d e f : Cu) : ansQ Tryz.prog optsK 40 157 [.fsl false [(cuA a), (cuA b), (cuA c), (cuA d), (cuA e), (cuA f)], I 2] = some (.fsl false [(cuA a), (cuA b), (cuA d), (cuA e), (cuA f)]) := by kernel_rfl
theorem dropC6_3 (a b c d e f : Cu) : ansQ Tryz.prog optsK 40 157 [.fsl false [(cuA a), (cuA b), (cuA c), (cuA d), (cuA e), (cuA f)], I 3] = some (.fsl false [(cuA a), (cuA b), (cuA c), (cuA e), (cuA f)]) := by kernel_rfl
theorem dropC6_4 (a b c d e f : Cu) : ansQ Tryz.prog optsK 40 157 [.fsl false [(cuA a), (cuA b), (cuA c), (cuA d), (cuA e), (cuA f)], I 4] = some (.fsl false [(cuA a), (cuA b), (cuA c), (cuA d), (cuA f)]) := by kernel_rfl
theorem dropC6_5 (a b c d e f : Cu) : ansQ Tryz.prog optsK 40 157 [.fsl false [(cuA a), (cuA b), (cuA c), (cuA d), (cuA e), (cuA f)], I 5] = some (.fsl false [(cuA a), (cuA b), (cuA c), (cuA d), (cuA e)]) := by kernel_rfl
theorem putC_sem : ∀ (l : List (Cu)) (i : Nat) (x : Cu), i ≤ l.length → l.length ≤ 6 → i < 6 → SC 155 [.fsl false (l.map cuA), I (.ofNat i), (cuA x)] (.fsl false ((putL l i x).map cuA))
 | [], 0, x, _, _, _ => SemCall.emptyAt (ansK rfl (putC0_0 x) rfl) (ansK rfl (putC0_0n x) rfl)
 | [a], 0, x, _, _, _ => ansK rfl (putC1_0 a x) rfl
 | [a], 1, x, _, _, _ => ansK rfl (putC1_1 a x) rfl
 | [a, b], 0, x, _, _, _ => ansK rfl (putC2_0 a b x) rfl
 | [a, b], 1, x, _, _, _ => ansK rfl (putC2_1 a b x) rfl
 | [a, b], 2, x, _, _, _ => ansK rfl (putC2_2 a b x) rfl
 | [a, b, c], 0, x, _, _, _ => ansK rfl (putC3_0 a b c x) rfl
 | [a, b, c], 1, x, _, _, _ => ansK rfl (putC3_1 a b c x) rfl
 | [a, b, c], 2, x, _, _, _ => ansK rfl (putC3_2 a b c x) rfl
 | [a, b, c], 3, x, _, _, _ => ansK rfl (putC3_3 a b c x) rfl
 | [a, b, c, d], 0, x, _, _, _ => ansK rfl (putC4_0 a b c d x) rfl
 | [a, b, c, d], 1, x, _, _, _ => ansK rfl (putC4_1 a b c d x) rfl
 | [a, b, c, d], 2, x, _, _, _ => ansK rfl (putC4_2 a b c d x) rfl
 | [a, b, c, d], 3, x, _, _, _ => ansK rfl (putC4_3 a b c d x) rfl
 | [a, b, c, d], 4, x, _, _, _ => ansK rfl (putC4_4 a b c d x) rfl
 | [a, b, c, d, e], 0, x, _, _, _ => ansK rfl (putC5_0 a b c d e x) rfl
 | [a, b, c, d, e], 1, x, _, _, _ => ansK rfl (putC5_1 a b c d e x) rfl
 | [a, b, c, d, e], 2, x, _, _, _ => ansK rfl (putC5_2 a b c d e x) rfl
 | [a, b, c, d, e], 3, x, _, _, _ => ansK rfl (putC5_3 a b c d e x) rfl
 | [a, b, c, d, e], 4, x, _, _, _ => ansK rfl (putC5_4 a b c d e x) rfl
 | [a, b, c, d, e], 5, x, _, _, _ => ansK rfl (putC5_5 a b c d e x) rfl
 | [a, b, c, d, e, f], 0, x, _, _, _ => ansK rfl (putC6_0 a b c d e f x) rfl
 | [a, b, c, d, e, f], 1, x, _, _, _ => ansK rfl (putC6_1 a b c d e f x) rfl
 | [a, b, c, d, e, f], 2, x, _, _, _ => ansK rfl (putC6_2 a b c d e f x) rfl
 | [a, b, c, d, e, f], 3, x, _, _, _ => ansK rfl (putC6_3 a b c d e f x) rfl
 | [a, b, c, d, e, f], 4, x, _, _, _ => ansK rfl (putC6_4 a b c d e f x) rfl
 | [a, b, c, d, e, f], 5, x, _, _, _ => ansK rfl (putC6_5 a b c d e f x) rfl
 | [], i + 1, _, h, _, _ => absurd h (by simp)
 | [_], i + 2, _, h, _, _ => absurd h (by simp)
 | [_, _], i + 3, _, h, _, _ => absurd h (by simp)
 | [_, _, _], i + 4, _, h, _, _ => absurd h (by simp)
 | [_, _, _, _], i + 5, _, h, _, _ => absurd h (by simp)
 | [_, _, _, _, _], i + 6, _, h, _, _ => absurd h (by simp)
 | [_, _, _, _, _, _], i + 6, _, _, _, h => absurd h (by omega)
 | _ :: _ :: _ :: _ :: _ :: _ :: _ :: _, _, _, _, h, _ => absurd h (by simp)
theorem dropC_sem : ∀ (l : List (Cu)) (i : Nat), i < l.length → l.length ≤ 6 → SC 157 [.fsl false (l.map cuA), I (.ofNat i)] (.fsl false ((dropL l i).map cuA))
 | [], _, h, _ => absurd h (by simp)
 | [a], 0, _, _ => ansK rfl (dropC1_0 a) rfl
 | [_], i + 1, h, _ => absurd h (by simp)
 | [a, b], 0, _, _ => ansK rfl (dropC2_0 a b) rfl
 | [a, b], 1, _, _ => ansK rfl (dropC2_1 a b) rfl
 | [_, _], i + 2, h, _ => absurd h (by simp)
 | [a, b, c], 0, _, _ => ansK rfl (dropC3_0 a b c) rfl
 | [a, b, c], 1, _, _ => ansK rfl (dropC3_1 a b c) rfl
 | [a, b, c], 2, _, _ => ansK rfl (dropC3_2 a b c) rfl
 | [_, _, _], i + 3, h, _ => absurd h (by simp)
 | [a, b, c, d], 0, _, _ => ansK rfl (dropC4_0 a b c d) rfl
 | [a, b, c, d], 1, _, _ => ansK rfl (dropC4_1 a b c d) rfl
 | [a, b, c, d], 2, _, _ => ansK rfl (dropC4_2 a b c d) rfl
 | [a, b, c, d], 3, _, _ => ansK rfl (dropC4_3 a b c d) rfl
 | [_, _, _, _], i + 4, h, _ => absurd h (by simp)
 | [a, b, c, d, e], 0, _, _ => ansK rfl (dropC5_0 a b c d e) rfl
 | [a, b, c, d, e], 1, _, _ => ansK rfl (dropC5_1 a b c d e) rfl
 | [a, b, c, d, e], 2, _, _ => ansK rfl (dropC5_2 a b c d e) rfl
 | [a, b, c, d, e], 3, _, _ => ansK rfl (dropC5_3 a b c d e) rfl
 | [a, b, c, d, e], 4, _, _ => ansK rfl (dropC5_4 a b c d e) rfl
 | [_, _, _, _, _], i + 5, h, _ => absurd h (by simp)
 | [a, b, c, d, e, f], 0, _, _ => ansK rfl (dropC6_0 a b c d e f) rfl
 | [a, b, c, d, e, f], 1, _, _ => ansK rfl (dropC6_1 a b c d e f) rfl
 | [a, b, c, d, e, f], 2, _, _ => ansK rfl (dropC6_2 a b c d e f) rfl
 | [a, b, c, d, e, f], 3, _, _ => ansK rfl (dropC6_3 a b c d e f) rfl
 | [a, b, c, d, e, f], 4, _, _ => ansK rfl (dropC6_4 a b c d e f) rfl
 | [a, b, c, d, e, f], 5, _, _ => ansK rfl (dropC6_5 a b c d e f) rfl
 | [_, _, _, _, _, _], i + 6, h, _ => absurd h (by simp)
 | _ :: _ :: _ :: _ :: _ :: _ :: _ :: _, _, _, h => absurd h (by simp)
end Go.Proofs.YtjhggnebkfpgcaaGreatDoor
