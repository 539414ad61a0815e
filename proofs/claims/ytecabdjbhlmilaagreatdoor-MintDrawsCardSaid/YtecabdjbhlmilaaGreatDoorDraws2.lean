/- What is drawn, as the document says it; the law's walk. -/
import Derived.Test.YtecabdjbhlmilaaGreatDoorDraws
import Derived.KernelRfl
namespace Go.Proofs.YtecabdjbhlmilaaGreatDoor
open Go Go.RowKit
open Go.Proofs.Abs

noncomputable def dwV (a b c : AV) (n p i : Nat) (l : List UInt8) : View := ⟨[(1, I (.ofNat n)), (2, I (.ofNat p)), (8, I (.ofNat i))], [(3, .ptr 0 0), (7, .rsl true 1 0 n 1)], [(0, .cells [a, b, c], .whole), (1, .cells (toBytes l), .whole)], 2, 34⟩
noncomputable def dwA (k : Nat) (x : UInt8) : Aid := aidJ [(5, 5, .res (I (.ofNat k))), (6, 7, .res (.fptr [.int .u8 (.ofNat x.toNat)] 0))] [] noSem [] []
theorem dw_round (a b c : AV) (n p i k : Nat) (x : UInt8) (l l' : List UInt8) (N : Prop) (Q : AExit → St → Prop) : wpK Tryz.prog opts0 40 (dwA k x) (lpCode Tryz.prog 9 4) (dwV a b c n p i l).st (roundP 0 [(0, 0), (1, 1)] (dwV a b c n p (i + 1) l') N [(0, 0), (1, 1)] (dwV a b c n p i l) Q) =
    (mtB (ltInt (Int.ofNat i) (Int.ofNat n)) (builtinA Tryz.prog Builtin.len { toList := [22] } [b] = some (Eff.val (AV.int IntKind.i64 (Int.ofNat k))) ∧ mtB (ltInt (wrapA IntKind.i64 (Int.ofNat p + Int.ofNat i)) (Int.ofNat k)) (indexAddrA Tryz.prog 22 b (AV.int IntKind.i64 (wrapA IntKind.i64 (Int.ofNat p + Int.ofNat i))) = some (AV.fptr [AV.int IntKind.u8 (Int.ofNat x.toNat)] 0) ∧ oblB (nonneg (Int.ofNat i) && ((Int.ofNat i).toNat.blt n && true)) (oblB ((0 + (Int.ofNat i).toNat * 1 + 1).ble (lenN (toBytes l))) ((((AV.int IntKind.i64 (Int.ofNat n) = AV.int IntKind.i64 (Int.ofNat n) ∧ closedA (AV.int IntKind.i64 (Int.ofNat n)) = true) ∧ (AV.int IntKind.i64 (Int.ofNat p) = AV.int IntKind.i64 (Int.ofNat p) ∧ closedA (AV.int IntKind.i64 (Int.ofNat p)) = true) ∧ (AV.int IntKind.i64 (wrapA IntKind.i64 (Int.ofNat i + 1)) = AV.int IntKind.i64 (Int.ofNat (i + 1)) ∧ closedA (AV.int IntKind.i64 (Int.ofNat (i + 1))) = true) ∧ True) ∧ ((some 0 = some 0 ∧ 0 = 0) ∧ (true = true ∧ some 1 = some 1 ∧ 0 = 0 ∧ n = n ∧ 1 = 1) ∧ True) ∧ ([a, b, c] = [a, b, c] ∧ closedAll [a, b, c] = true) ∧ (List.take (0 + (Int.ofNat i).toNat * 1) (toBytes l) ++ AV.int IntKind.u8 (Int.ofNat x.toNat) :: List.drop (0 + (Int.ofNat i).toNat * 1 + lenN [AV.int IntKind.u8 (Int.ofNat x.toNat)]) (toBytes l) = toBytes l' ∧ closedAll (toBytes l') = true) ∧ True) ∧ N))) ((((AV.int IntKind.i64 (Int.ofNat n) = AV.int IntKind.i64 (Int.ofNat n) ∧ closedA (AV.int IntKind.i64 (Int.ofNat n)) = true) ∧ (AV.int IntKind.i64 (Int.ofNat p) = AV.int IntKind.i64 (Int.ofNat p) ∧ closedA (AV.int IntKind.i64 (Int.ofNat p)) = true) ∧ (AV.int IntKind.i64 (wrapA IntKind.i64 (Int.ofNat i + 1)) = AV.int IntKind.i64 (Int.ofNat (i + 1)) ∧ closedA (AV.int IntKind.i64 (Int.ofNat (i + 1))) = true) ∧ True) ∧ ((some 0 = some 0 ∧ 0 = 0) ∧ (true = true ∧ some 1 = some 1 ∧ 0 = 0 ∧ n = n ∧ 1 = 1) ∧ True) ∧ ([a, b, c] = [a, b, c] ∧ closedAll [a, b, c] = true) ∧ (toBytes l = toBytes l' ∧ closedAll (toBytes l') = true) ∧ True) ∧ N)) ((((AV.int IntKind.i64 (Int.ofNat n) = AV.int IntKind.i64 (Int.ofNat n) ∧ closedA (AV.int IntKind.i64 (Int.ofNat n)) = true) ∧ (AV.int IntKind.i64 (Int.ofNat p) = AV.int IntKind.i64 (Int.ofNat p) ∧ closedA (AV.int IntKind.i64 (Int.ofNat p)) = true) ∧ (AV.int IntKind.i64 (Int.ofNat i) = AV.int IntKind.i64 (Int.ofNat i) ∧ closedA (AV.int IntKind.i64 (Int.ofNat i)) = true) ∧ True) ∧ ((some 0 = some 0 ∧ 0 = 0) ∧ (true = true ∧ some 1 = some 1 ∧ 0 = 0 ∧ n = n ∧ 1 = 1) ∧ True) ∧ ([a, b, c] = [a, b, c] ∧ closedAll [a, b, c] = true) ∧ (toBytes l = toBytes l ∧ closedAll (toBytes l) = true) ∧ True) ∧ Q (AExit.exit 0) (dwV a b c n p i l).st)) := by kernel_rfl
noncomputable def dwL (a b c : AV) (n p : Nat) (l l' : List UInt8) : LoopS := fun s Q => seesK 0 [(0, 0), (1, 3)] (dwV a b c n p 0 l) s ∧ Q (.exit 0) (dwV a b c n p n l').st
theorem dw_fn (a b c : AV) (n p : Nat) (l l' : List UInt8) (Q : AV → Heap → Nat → Prop) : fnK Tryz.prog opts0 40 (aidJ [] [(4, dwL a b c n p l l')] noSem [] []) 9 [.agg [a, b, c], I (.ofNat n), I (.ofNat p)] [] 0 Q =
    (oblB (nonneg (Int.ofNat n) && (nonneg (Int.ofNat n) && ((Int.ofNat n).toNat.ble (Int.ofNat n).toNat && (1 * (Int.ofNat n).toNat).ble 281474976710656 && (Int.ofNat n).toNat.ble 9223372036854775807 && true && true))) ((((AV.int IntKind.i64 (Int.ofNat n) = AV.int IntKind.i64 (Int.ofNat n) ∧ closedA (AV.int IntKind.i64 (Int.ofNat n)) = true) ∧ (AV.int IntKind.i64 (Int.ofNat p) = AV.int IntKind.i64 (Int.ofNat p) ∧ closedA (AV.int IntKind.i64 (Int.ofNat p)) = true) ∧ (AV.int IntKind.i64 0 = AV.int IntKind.i64 0 ∧ true = true) ∧ True) ∧ ((some 0 = some 0 ∧ 0 = 0) ∧ (true = true ∧ some 3 = some 3 ∧ 0 = 0 ∧ n = (Int.ofNat n).toNat ∧ 1 = 1) ∧ True) ∧ ([a, b, c] = [a, b, c] ∧ closedAll [a, b, c] = true) ∧ (flat (repE (AV.int IntKind.u8 0) (Int.ofNat n).toNat) = toBytes l ∧ closedAll (toBytes l) = true) ∧ True) ∧ Q (AV.rsl true 1 0 n 1) [(0, some (Blk.cells [a, b, c])), (1, some (Blk.cells (toBytes l')))] 4)) := by kernel_rfl
noncomputable def dlA (n p : Int) (x y : List UInt8) : Aid := aidJ [(1, 1, .ans (.c (I n))), (2, 1, .ans (.c (I p)))] [] (manyS [(7, .bool true), (8, .fsl false (toBytes x)), (9, .fsl false (toBytes y))]) [] []
theorem dl_fn (D : AV) (n p n' p' : Int) (x y : List UInt8) (Q : AV → Heap → Nat → Prop) : fnK Tryz.prog opts0 40 (dlA n' p' x y) 3 [D, I n, I p] [] 0 Q =
    ((SemCall Tryz.prog opts0.glob 6 [AV.int IntKind.i64 n, AV.int IntKind.i64 50] (AV.int IntKind.i64 n') ∧ True) ∧ (SemCall Tryz.prog opts0.glob 6 [AV.int IntKind.i64 p, AV.int IntKind.i64 50] (AV.int IntKind.i64 p') ∧ True) ∧ oblB (fitsT Tryz.prog 22 D 1 && true) (oblB (fitsT Tryz.prog 25 (AV.agg [AV.int IntKind.i64 0, D, AV.str []]) 3) (SemCall Tryz.prog opts0.glob 7 [] (AV.bool true) ∧ SemCall Tryz.prog opts0.glob 8 [AV.agg [AV.int IntKind.i64 0, D, AV.str []], AV.int IntKind.i64 n', AV.int IntKind.i64 p'] (AV.fsl false (toBytes x)) ∧ oblB (bytesOf (toBytes x)).isSome (SemCall Tryz.prog opts0.glob 9 [AV.agg [AV.int IntKind.i64 0, D, AV.str []], AV.int IntKind.i64 n', AV.int IntKind.i64 p'] (AV.fsl false (toBytes y)) ∧ oblB (bytesOf (toBytes y)).isSome (Q (AV.bool (beqBytes (strOf (toBytes x)) (strOf (toBytes y)))) [(9, some (Blk.cells [AV.int IntKind.i64 0, D, AV.str []]))] 26))))) := by kernel_rfl


theorem drawN_get {l : List UInt8} {n p i : Nat} (hi : i < n) : (drawN l n p)[i]? = some (nthU l (p + i)) := by
  unfold drawN nthU
  rcases Nat.lt_or_ge i ((l.drop p).take n).length with h | h
  · rw [List.getElem?_append_left h, List.getElem?_take_of_lt hi, List.getElem?_drop]
    have h2 : p + i < l.length := by simp at h; omega
    simp [h2]
  · rw [List.getElem?_append_right h]
    have h1 : l.length ≤ p + i := by simp at h; omega
    have h2 : i - ((l.drop p).take n).length < n - (l.length - p) := by simp at h ⊢; omega
    rw [List.getElem?_replicate, if_pos h2, List.getElem?_eq_none h1]
    rfl
/-- What lies in the row behind some rounds. -/
def bufN (l : List UInt8) (n p i : Nat) : List UInt8 := (drawN l n p).take i ++ List.replicate (n - i) 0
theorem bufN_len {l : List UInt8} {n p i : Nat} (h : i ≤ n) : (bufN l n p i).length = n := by simp [bufN, drawN_length]; omega
theorem bufN_zero (l : List UInt8) (n p : Nat) : bufN l n p 0 = List.replicate n 0 := by simp [bufN]
theorem bufN_all (l : List UInt8) (n p : Nat) : bufN l n p n = drawN l n p := by
  unfold bufN
  rw [List.take_of_length_le (by rw [drawN_length]; exact Nat.le_refl _), Nat.sub_self, List.replicate_zero, List.append_nil]
theorem bufN_take {l : List UInt8} {n p i : Nat} (h : i ≤ n) : (bufN l n p i).take i = (drawN l n p).take i := by
  unfold bufN
  rw [List.take_append_of_le_length (by rw [List.length_take, drawN_length]; omega), List.take_take, Nat.min_self]
theorem bufN_drop {l : List UInt8} {n p i : Nat} (h : i < n) : (bufN l n p i).drop (i + 1) = List.replicate (n - (i + 1)) 0 := by
  unfold bufN
  rw [List.drop_append, List.drop_of_length_le (by rw [List.length_take, drawN_length]; omega), List.length_take, drawN_length, List.drop_replicate, List.nil_append]
  congr 1
  omega
theorem bufN_succ {l : List UInt8} {n p i : Nat} (h : i < n) : bufN l n p (i + 1) = (drawN l n p).take i ++ nthU l (p + i) :: List.replicate (n - (i + 1)) 0 := by
  unfold bufN
  rw [List.take_add_one, drawN_get h]
  simp
theorem bufN_set {l : List UInt8} {n p i : Nat} (h : i < n) : (bufN l n p i).take i ++ nthU l (p + i) :: (bufN l n p i).drop (i + 1) = bufN l n p (i + 1) := by
  rw [bufN_take (Nat.le_of_lt h), bufN_drop h, bufN_succ h]
theorem bufN_same {l : List UInt8} {n p i : Nat} (h : i < n) (hl : l.length ≤ p + i) : bufN l n p i = bufN l n p (i + 1) := by
  have e : n - i = (n - (i + 1)) + 1 := by omega
  rw [bufN_succ h, nthU, List.getElem?_eq_none hl]
  show (drawN l n p).take i ++ List.replicate (n - i) 0 = _
  rw [e, List.replicate_succ]
  rfl
theorem lenD {f : Option Bool} {l : List UInt8} (hf : f = none → l = []) : builtinA Tryz.prog .len #[22] [rowV f (toBytes l)] = some (.val (.int .i64 (.ofNat l.length))) := by
  rw [rowV_len (t := 22) (e := 5) rfl (by kernel_rfl) (fun h => by rw [hf h]; rfl), ← lenN_eq, lenN_toBytes]
theorem idxD {f : Option Bool} {l : List UInt8} {i : Nat} {x : UInt8} (hf : f = none → l = []) (hx : l[i]? = some x) : indexAddrA Tryz.prog 22 (rowV f (toBytes l)) (.int .i64 (.ofNat i)) = some (.fptr [.int .u8 (.ofNat x.toNat)] 0) :=
  rowV_index (P := Tryz.prog) (t := 22) (e := 5) (sz := 1) (i := i) (v := .int .u8 (.ofNat x.toNat)) (by kernel_rfl) (by kernel_rfl) (fun h => by rw [hf h]; rfl) (by rw [← getN_eq, getN_toBytes, hx]; rfl) rfl

set_option maxRecDepth 20000 in
theorem dw_loop {a c : AV} {f : Option Bool} {l : List UInt8} {n p : Nat} {Q : AExit → St → Prop} (ha : closedA a = true) (hc : closedA c = true) (hf : f = none → l = []) (hn : n ≤ 1048576) (hp : p ≤ 1048576) (_hl : l.length ≤ 9223372036854775807)
    (hq : Q (.exit 0) (dwV a (rowV f (toBytes l)) c n p n (drawN l n p)).st) :
    ∀ (m i : Nat), i + m = n → ALp Tryz.prog opts0.glob 0 (lpCode Tryz.prog 9 4) (dwV a (rowV f (toBytes l)) c n p i (bufN l n p i)).st Q := by
  have hb : closedA (rowV f (toBytes l)) = true := closed_rowA (by simp)
  intro m
  induction m with
  | zero =>
    intro i hi
    obtain rfl : i = n := by omega
    refine ALp.round (A := dwA 0 0) (V1 := dwV a (rowV f (toBytes l)) c i p (i + 1) []) (F := dwV a (rowV f (toBytes l)) c i p i (bufN l i p i)) (lk := [(0, 0), (1, 1)]) (lk' := [(0, 0), (1, 1)]) base0 aidJ_ok (LsOk.no rfl) .refl ?_
    rw [dw_round]
    refine mtB_of (fun e => ?_) (fun _ => ⟨by simp [closedA, closedAll, ha, hb, hc], ?_⟩)
    · have e : (i : Int) < i := ltInt_iff.1 e
      omega
    · rw [bufN_all]; exact hq
  | succ m ih =>
    intro i hi
    have hlt : i < n := by omega
    have hn1 := ih (i + 1) (by omega)
    have hw : wrapA .i64 (Int.ofNat p + Int.ofNat i) = Int.ofNat (p + i) := by
      rw [wrapA_i64 (by simp; omega) (by simp; omega)]; rfl
    have hw2 : wrapA .i64 (Int.ofNat i + 1) = Int.ofNat (i + 1) := by
      rw [wrapA_i64 (by simp; omega) (by simp; omega)]; rfl
    refine ALp.round (A := dwA l.length (nthU l (p + i))) (V1 := dwV a (rowV f (toBytes l)) c n p (i + 1) (bufN l n p (i + 1))) (V2 := dwV a (rowV f (toBytes l)) c n p (i + 1) (bufN l n p (i + 1))) (F := dwV a (rowV f (toBytes l)) c n p i (bufN l n p i)) (lk := [(0, 0), (1, 1)]) (lk' := [(0, 0), (1, 1)]) base0 aidJ_ok (LsOk.no rfl) .refl ?_
    rw [dw_round, hw, hw2]
    refine mtB_of (fun _ => And.intro (lenD hf) (mtB_of (fun e => ?_) (fun e => ?_))) (fun e => ?_)
    · have e : ((p + i : Nat) : Int) < l.length := ltInt_iff.1 e
      have hx : l[p + i]? = some (nthU l (p + i)) := by
        have h2 : p + i < l.length := by omega
        simp [nthU, h2]
      refine And.intro (idxD hf hx) (oblB_of ?_ (oblB_of ?_ ⟨?_, hn1⟩))
      · simp [nonneg]
        exact hlt
      · rw [lenN_toBytes, bufN_len (by omega)]
        exact Nat.ble_eq_true_of_le (by simp; omega)
      · have e1 : List.take (0 + (Int.ofNat i).toNat * 1) (toBytes (bufN l n p i)) ++ AV.int .u8 (.ofNat (nthU l (p + i)).toNat) :: List.drop (0 + (Int.ofNat i).toNat * 1 + lenN [AV.int .u8 (.ofNat (nthU l (p + i)).toNat)]) (toBytes (bufN l n p i)) = toBytes (bufN l n p (i + 1)) := by
          rw [← bufN_set hlt, toBytes_append, toBytes_take, toBytes_drop]
          have e2 : 0 + (Int.ofNat i).toNat * 1 = i := by simp
          rw [e2]
          rfl
        rw [e1]
        simp [closedA, closedAll, ha, hb, hc]
    · have e : (l.length : Int) ≤ ((p + i : Nat) : Int) := ltInt_false.1 e
      rw [← bufN_same hlt (by omega)] at hn1 ⊢
      exact ⟨by simp [closedA, closedAll, ha, hb, hc], hn1⟩
    · have e : (n : Int) ≤ i := ltInt_false.1 e
      omega
theorem dw_at : loopsAt (fnCode Tryz.prog 9) 4 = [lpCode Tryz.prog 9 4] := by kernel_rfl
set_option maxRecDepth 20000 in
theorem bytes_sem {a c : AV} {f : Option Bool} {l : List UInt8} {n p : Nat} (ha : closedA a = true) (hc : closedA c = true) (hf : f = none → l = []) (hn : n ≤ 1048576) (hp : p ≤ 1048576) (hl : l.length ≤ 9223372036854775807) :
    SemCall Tryz.prog opts0.glob 9 [.agg [a, rowV f (toBytes l), c], I (.ofNat n), I (.ofNat p)] (.fsl false (toBytes (drawN l n p))) := by
  have hb : closedA (rowV f (toBytes l)) = true := closed_rowA (by simp)
  refine fnK_sem (A := aidJ [] [(4, dwL a (rowV f (toBytes l)) c n p (List.replicate n 0) (drawN l n p))] noSem [] []) base0 aidJ_ok (fnLs_of (LsOk.at1 rfl dw_at fun s Q hs => .seen base0.glob hs.1 ?_)) (by simp [closedA, closedAll, ha, hb, hc]) ?_
  · have := dw_loop (Q := Q) ha hc hf hn hp hl hs.2 n 0 (by omega)
    rw [bufN_zero] at this
    exact this
  · rw [dw_fn]
    have hrep : flat (repE (.int .u8 0) (Int.ofNat n).toNat) = toBytes (List.replicate n 0) := by
      show flat (repE (.int .u8 0) n) = _
      rw [repE_zero, flat_toBytes]
    rw [hrep]
    refine oblB_of ?_ ⟨by simp [closedA, closedAll, ha, hb, hc], ?_⟩
    · simp [nonneg]
      omega
    · exact fin_frz (Frz.bytes rfl rfl rfl (by rw [drawN_length])) (by simp [closedA])

set_option maxRecDepth 20000 in
theorem law_sem {f : Option Bool} {l : List UInt8} (n p : Int) (hk : SemCall Tryz.prog opts0.glob 7 [] (.bool true)) (hf : f = none → l = []) (hl : l.length ≤ 9223372036854775807) :
    SemCall Tryz.prog opts0.glob 3 [rowV f (toBytes l), I n, I p] (.bool true) := by
  have hb : closedA (rowV f (toBytes l)) = true := closed_rowA (by simp)
  have h1 := pick_sem n
  have h2 := pick_sem p
  have l1 := pickN_lt n
  have l2 := pickN_lt p
  have hd : SemCall Tryz.prog opts0.glob 8 [.agg [I 0, rowV f (toBytes l), .str []], I (.ofNat (pickN n)), I (.ofNat (pickN p))] (.fsl false (toBytes (drawN l (pickN n) (pickN p)))) := by
    cases f with
    | none =>
      obtain rfl := hf rfl
      exact draw_sem_nil rfl rfl (by omega)
    | some f => exact draw_sem rfl rfl (by omega) hl
  have hr := bytes_sem (a := I 0) (c := .str []) (n := pickN n) (p := pickN p) rfl rfl hf (by omega) (by omega) hl
  refine fnK_sem (A := dlA (.ofNat (pickN n)) (.ofNat (pickN p)) (drawN l (pickN n) (pickN p)) (drawN l (pickN n) (pickN p))) base0 aidJ_ok (fnLs_of (LsOk.no rfl)) (by simp [closedA, closedAll, hb]) ?_
  rw [dl_fn]
  refine ⟨⟨h1, trivial⟩, ⟨h2, trivial⟩, oblB_of (by rw [fits_row (by kernel_rfl)]; rfl) (oblB_of (fits_agg (by kernel_rfl) rfl (by simp [allOne])) ⟨hk, hd, oblB_of (by simp) ⟨hr, oblB_of (by simp) (fin_bool (beqBytes_iff.2 rfl))⟩⟩)⟩

end Go.Proofs.YtecabdjbhlmilaaGreatDoor
