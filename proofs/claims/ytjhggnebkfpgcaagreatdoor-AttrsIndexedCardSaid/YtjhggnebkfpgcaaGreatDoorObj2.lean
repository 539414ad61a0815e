/- Objects of raw numbers: what is in a list; bytes. -/
import Derived.Test.YtjhggnebkfpgcaaGreatDoorObj
import Derived.KernelRfl
namespace Go.Proofs.YtjhggnebkfpgcaaGreatDoor
set_option maxRecDepth 20000
open Go Go.RowKit
open Go.Proofs.Abs
def idl : Nat → List (Nat × Nat)
 | 0 => []
 | n + 1 => (n, n) :: idl n
noncomputable def inV (s : List UInt8) (k i : Nat) (es : List AV) : View := ⟨[(1, .str s), (4, .bool false), (5, I (.ofNat i))], [(0, .rsl true 1 0 k 1)], [(1, .cells es, .whole)], 42, 18⟩
noncomputable def inF (b : Bool) (es : List AV) : View := ⟨[(4, .bool b)], [], [(1, .cells es, .whole)], 60, 18⟩
noncomputable def inA (x : List UInt8) : Aid := aidJ [(4, 3, .ld (.str x))] [] noSem [] []
theorem in_round (s x : List UInt8) (k i j : Nat) (es : List AV) (q : Bool) (N : Prop) (Q : AExit → St → Prop) : wpK Tryz.prog opts0 40 (inA x) (lpCode Tryz.prog 69 3) (inV s k i es).st (roundP 42 (idl 42) (inV s k j es) N (idl 42) (inF q es) Q) =
  (mtB (ltInt (Int.ofNat i) (Int.ofNat k)) (oblB (nonneg (Int.ofNat i) && ((Int.ofNat i).toNat.blt k && true)) (partA Tryz.prog 9 es (0 + (Int.ofNat i).toNat * 1) = some (AV.str x) ∧ mtB (beqBytes x s) ((((AV.bool true = AV.bool q ∧ closedA (AV.bool q) = true) ∧ True) ∧ True ∧ (es = es ∧ closedAll es = true) ∧ True) ∧ Q AExit.ret (inF q es).st) ((((AV.str s = AV.str s ∧ closedA (AV.str s) = true) ∧ (AV.bool false = AV.bool false ∧ true = true) ∧ (I (wrapA IntKind.i64 (Int.ofNat i + 1)) = I (Int.ofNat j) ∧ closedA (I (Int.ofNat j)) = true) ∧ True) ∧ ((true = true ∧ some 1 = some 1 ∧ 0 = 0 ∧ k = k ∧ 1 = 1) ∧ True) ∧ (es = es ∧ closedAll es = true) ∧ True) ∧ N))) ((((AV.bool false = AV.bool q ∧ closedA (AV.bool q) = true) ∧ True) ∧ True ∧ (es = es ∧ closedAll es = true) ∧ True) ∧ Q (AExit.exit 0) (inF q es).st)) := by kernel_rfl
noncomputable def inL (s : List UInt8) (k : Nat) (es : List AV) (q : Bool) : LoopS := fun st Q => seesK 42 (idl 42) (inV s k 0 es) st ∧ mtB q (Q .ret (inF true es).st) (Q (.exit 0) (inF false es).st)
theorem in_fn (s : List UInt8) (k : Nat) (es : List AV) (q : Bool) (Q : AV → Heap → Nat → Prop) : fnK Tryz.prog opts0 40 (aidJ [] [(3, inL s k es q)] noSem [] []) 69 [.rsl true 1 0 k 1, .str s] [(1, some (.cells es))] 42 Q =
  ((((AV.str s = AV.str s ∧ closedA (AV.str s) = true) ∧ (AV.bool false = AV.bool false ∧ true = true) ∧ (I 0 = I 0 ∧ true = true) ∧ True) ∧ ((true = true ∧ some 1 = some 1 ∧ 0 = 0 ∧ k = k ∧ 1 = 1) ∧ True) ∧ (es = es ∧ closedAll es = true) ∧ True) ∧ mtB q (Q (AV.bool true) [(1, some (Blk.cells es))] 60) (Q (AV.bool false) [(1, some (Blk.cells es))] 61)) := by kernel_rfl
theorem in_nil (s : List UInt8) (Q : AV → Prop) : fnK Tryz.prog opts0 40 aid0 69 [.nilsl, .str s] [] 0 (fun v _ _ => Q v) =
  (Q (AV.bool false)) := by kernel_rfl
theorem cnt_up {p : Nat → Prop} (n : Nat) (hn : p n) (hs : ∀ i, i < n → p (i + 1) → p i) : ∀ i, i ≤ n → p i := by
 intro i hi
 obtain ⟨m, rfl⟩ : ∃ m, n = i + m := ⟨n - i, by omega⟩
 clear hi
 induction m generalizing i with
 | zero => exact hn
 | succ m ih => exact hs i (by omega) (ih (i + 1) (by rw [show i + 1 + m = i + (m + 1) by omega]; exact hn) (by intro j hj; exact hs j (by omega)))
def inL' (l : List (List UInt8)) (s : List UInt8) : Bool := l.any fun x => beqBytes x s
theorem inT : isAggA Tryz.prog 9 = some false := by kernel_rfl
theorem part_str {l : List (List UInt8)} {j : Nat} {x : List UInt8} (h : l[j]? = some x) : partA Tryz.prog 9 (l.map .str) (0 + j * 1) = some (.str x) := by
 simp only [partA, inT, getN_eq, Nat.zero_add, Nat.mul_one, List.getElem?_map, h, Option.map_some]
theorem in_loop {s : List UInt8} {l : List (List UInt8)} {Q : AExit → St → Prop} (hb : l.length ≤ 1000) : ∀ i, i ≤ l.length → (mtB (inL' (l.drop i) s) (Q .ret (inF true (l.map .str)).st) (Q (.exit 0) (inF false (l.map .str)).st) → ALp Tryz.prog opts0.glob 42 (lpCode Tryz.prog 69 3) (inV s l.length i (l.map .str)).st Q) := by
 have hc := closed_strs l
 refine cnt_up _ (fun hq => ?_) (fun i hi ih hq => ?_)
 ·rw [List.drop_of_length_le (Nat.le_refl _)] at hq
  refine ALp.round (A := inA []) (V1 := inV s l.length 0 (l.map .str)) (V2 := inV s l.length 0 (l.map .str)) (F := inF false (l.map .str)) (lk := idl 42) (lk' := idl 42) base0 aidJ_ok (LsOk.no rfl) .refl ?_
  rw [in_round]
  refine mtB_of (fun h => ?_) (fun _ => ⟨⟨⟨⟨rfl, rfl⟩, trivial⟩, trivial, ⟨rfl, hc⟩, trivial⟩, hq⟩)
  have h := ltInt_iff.1 h
  simp only [Int.ofNat_eq_natCast] at h
  omega
 ·have g1 := List.getElem?_eq_getElem hi
  rw [List.drop_eq_getElem_cons hi] at hq
  revert g1 hq
  generalize l[i] = x
  intro hq g1
  simp only [inL', List.any_cons] at hq
  have hno : ltInt (Int.ofNat i) (Int.ofNat l.length) = false → False := fun h => by
   have h := ltInt_false.1 h
   simp only [Int.ofNat_eq_natCast] at h
   omega
  have hob : (nonneg (Int.ofNat i) && ((Int.ofNat i).toNat.blt l.length && true)) = true := by
   simp only [nonneg, Bool.true_and, Bool.and_true]
   exact blt_iff.2 hi
  have hw : wrapA .i64 (Int.ofNat i + 1) = Int.ofNat (i + 1) := wrapA_i64 (by simp; omega) (by simp; omega)
  cases hx : beqBytes x s with
  | true =>
   rw [hx] at hq
   refine ALp.round (A := inA x) (V1 := inV s l.length (i + 1) (l.map .str)) (V2 := inV s l.length (i + 1) (l.map .str)) (F := inF true (l.map .str)) (lk := idl 42) (lk' := idl 42) base0 aidJ_ok (LsOk.no rfl) .refl ?_
   rw [in_round]
   refine mtB_of (fun _ => oblB_of hob ⟨part_str g1, mtB_of (fun _ => ⟨⟨⟨⟨rfl, rfl⟩, trivial⟩, trivial, ⟨rfl, hc⟩, trivial⟩, hq⟩) (fun h => by rw [hx] at h; cases h)⟩) (fun h => (hno h).elim)
  | false =>
   rw [hx] at hq
   have hn := ih hq
   refine ALp.round (A := inA x) (V1 := inV s l.length (i + 1) (l.map .str)) (V2 := inV s l.length (i + 1) (l.map .str)) (F := inF false (l.map .str)) (lk := idl 42) (lk' := idl 42) base0 aidJ_ok (LsOk.no rfl) .refl ?_
   rw [in_round, hw]
   refine mtB_of (fun _ => oblB_of hob ⟨part_str g1, mtB_of (fun h => by rw [hx] at h; cases h) (fun _ => ⟨⟨⟨⟨rfl, rfl⟩, ⟨rfl, rfl⟩, ⟨rfl, rfl⟩, trivial⟩, ⟨⟨rfl, rfl, rfl, rfl, rfl⟩, trivial⟩, ⟨rfl, hc⟩, trivial⟩, hn⟩)⟩) (fun h => (hno h).elim)
theorem in_at : loopsAt (fnCode Tryz.prog 69) 3 = [lpCode Tryz.prog 69 3] := by kernel_rfl
theorem in_body (l : List (List UInt8)) (s : List UInt8) (hb : l.length ≤ 1000) : BodySem Tryz.prog opts0.glob 69 [.rsl true 1 0 l.length 1, .str s] [(1, some (.cells (l.map .str)))] 42 (.bool (inL' l s)) [(1, some (.cells (l.map .str)))] 62 := by
 have hc := closed_strs l
 refine fnK_bodyX (k := 2) (A := aidJ [] [(3, inL s l.length (l.map .str) (inL' l s))] noSem [] []) base0 aidJ_ok
  (fnLs_of (LsOk.at1 rfl in_at fun st Q hs => .seen base0.glob hs.1 (in_loop hb 0 (Nat.zero_le _) hs.2))) ?_
 rw [in_fn]
 refine ⟨⟨⟨⟨rfl, rfl⟩, ⟨rfl, rfl⟩, ⟨rfl, rfl⟩, trivial⟩, ⟨⟨rfl, rfl, rfl, rfl, rfl⟩, trivial⟩, ⟨rfl, hc⟩, trivial⟩, mtB_of (fun e => ?_) (fun e => ?_)⟩
 ·rw [e]
  exact ⟨rfl, ⟨.bool true, Frz.closed _ rfl, .refl _⟩, ⟨rfl, .cells (l.map .str), .cells (l.map .str), rfl, FrzL.closed _ hc, WkL.refl _⟩, trivial⟩
 ·rw [e]
  exact ⟨rfl, ⟨.bool false, Frz.closed _ rfl, .refl _⟩, ⟨rfl, .cells (l.map .str), .cells (l.map .str), rfl, FrzL.closed _ hc, WkL.refl _⟩, trivial⟩
theorem in_none (s : List UInt8) : SC 69 [.nilsl, .str s] (.bool false) := by
 refine fnK_semV (A := aid0) base0 aidOk0 (fnLs_of (LsOk.no rfl)) rfl rfl ?_
 rw [in_nil]
theorem part_lk {l : List Lk} {j : Nat} {x : Lk} (h : l[j]? = some x) : partA Tryz.prog 99 (flat (l.map lkA)) (0 + j * 2) = some (.agg [I x.ty, .str x.id]) := by
  have h1 : isAggA Tryz.prog 99 = some true := by kernel_rfl
  have h2 : sizeA Tryz.prog 99 = some 2 := by kernel_rfl
  simp only [partA, h1, h2, Nat.zero_add]
  rw [chunk_flat l j x h]; rfl
 where
  chunk_flat : ∀ (l : List Lk) (j : Nat) (x : Lk), l[j]? = some x → chunk (flat (l.map lkA)) (j * 2) 2 = some [I x.ty, .str x.id]
    | [], _, _, h => by simp at h
    | a :: r, 0, x, h => by
      simp at h; subst h
      show chunk (flat (lkA a :: r.map lkA)) 0 2 = _
      simp [flat, lkA, AV.cells, chunk]
    | a :: r, j + 1, x, h => by
      have ih := chunk_flat r j x (by simpa using h)
      rw [show (j + 1) * 2 = j * 2 + 1 + 1 by omega]
      exact ih
theorem part_cu {l : List Cu} {j : Nat} {x : Cu} (h : l[j]? = some x) : partA Tryz.prog 101 (flat (l.map cuA)) (0 + j * 2) = some (.agg [.str x.name, .str x.text]) := by
  have h1 : isAggA Tryz.prog 101 = some true := by kernel_rfl
  have h2 : sizeA Tryz.prog 101 = some 2 := by kernel_rfl
  simp only [partA, h1, h2, Nat.zero_add]
  rw [chunk_flat l j x h]; rfl
 where
  chunk_flat : ∀ (l : List Cu) (j : Nat) (x : Cu), l[j]? = some x → chunk (flat (l.map cuA)) (j * 2) 2 = some [.str x.name, .str x.text]
    | [], _, _, h => by simp at h
    | a :: r, 0, x, h => by
      simp at h; subst h
      show chunk (flat (cuA a :: r.map cuA)) 0 2 = _
      simp [flat, cuA, AV.cells, chunk]
    | a :: r, j + 1, x, h => by
      have ih := chunk_flat r j x (by simpa using h)
      rw [show (j + 1) * 2 = j * 2 + 1 + 1 by omega]
      exact ih
theorem closed_flk : ∀ l : List Lk, closedAll (flat (l.map lkA)) = true
 | [] => rfl
 | _ :: r => closed_flk r
theorem closed_fcu : ∀ l : List Cu, closedAll (flat (l.map cuA)) = true
 | [] => rfl
 | _ :: r => closed_fcu r
theorem renR_ob {lk : List (Nat × Nat)} {o : Ob} {M N L C N' L' C' : AV} (hM : closedA M = true) (hN : RenV lk N N') (hL : RenV lk L L') (hC : RenV lk C C') : RenR lk (obF o M N L C) (obF o M N' L' C') := by
 refine ⟨?_⟩
 simp only [obF, RenL]
 exact ⟨.same _ rfl, .same _ rfl, .same _ rfl, .same _ rfl, .same _ rfl, .same _ hM, .same _ rfl, .same _ rfl, .same _ rfl, .same _ rfl, .same _ rfl, .same _ rfl, .same _ rfl, .same _ rfl, .same _ rfl, .same _ rfl, .same _ rfl, .same _ rfl, .same _ rfl, .same _ rfl, .same _ rfl, .same _ rfl, .same _ rfl, .same _ rfl, .same _ rfl, .same _ rfl, .same _ rfl, .same _ rfl, .same _ rfl, hN, hL, hC, .same _ rfl, .same _ rfl, .same _ rfl, .same _ rfl, .same _ rfl, trivial⟩
end Go.Proofs.YtjhggnebkfpgcaaGreatDoor
