/- The places of those of a name. -/
import Derived.Test.YtjhggnebkfpgcaaGreatDoorTSame
import Derived.KernelRfl
namespace Go.Proofs.YtjhggnebkfpgcaaGreatDoor
set_option maxRecDepth 20000
open Go Go.RowKit
open Go.Proofs.Abs
noncomputable def plV0 (s : List UInt8) (C : List AV) (i : Nat) : View := ⟨[(1, .str s), (5, .nilsl), (9, .fsl false C), (10, I (.ofNat (lenN C))), (11, I (.ofNat i))], [], [], 1, 26⟩
noncomputable def plV1 (s : List UInt8) (C : List AV) (i k : Nat) (es : List AV) : View := ⟨[(1, .str s), (9, .fsl false C), (10, I (.ofNat (lenN C))), (11, I (.ofNat i))], [(5, .rsl true 0 0 k 1)], [(0, .cells es, .whole)], 1, 26⟩
noncomputable def plA (n t : List UInt8) : Aid := aidJ [(4, 1, .res (.fptr [.str n, .str t] 0))] [] noSem [] []
theorem pl_00 (s : List UInt8) (C : List AV) (i j : Nat) (n t : List UInt8) (N : Prop) (Q : AExit → St → Prop) : wpK Tryz.prog opts0 40 (plA n t) (lpCode Tryz.prog 151 4) (plV0 s C i).st (roundP 0 [] (plV0 s C j) N [] (plV0 s C i) Q) =
  (mtB (ltInt (Int.ofNat i) (Int.ofNat (lenN C))) (indexAddrA Tryz.prog 29 (AV.fsl false C) (I (Int.ofNat i)) = some (AV.fptr [AV.str n, AV.str t] 0) ∧ mtB (beqBytes n s) ((((AV.str s = AV.str s ∧ closedA (AV.str s) = true) ∧ (AV.rsl true 15 0 (lenN [I (Int.ofNat i)]) 1 = AV.nilsl ∧ true = true) ∧ (AV.fsl false C = AV.fsl false C ∧ closedA (AV.fsl false C) = true) ∧ (I (Int.ofNat (lenN C)) = I (Int.ofNat (lenN C)) ∧ closedA (I (Int.ofNat (lenN C))) = true) ∧ (I (wrapA IntKind.i64 (Int.ofNat i + 1)) = I (Int.ofNat j) ∧ closedA (I (Int.ofNat j)) = true) ∧ True) ∧ True ∧ True) ∧ N) ((((AV.str s = AV.str s ∧ closedA (AV.str s) = true) ∧ (AV.nilsl = AV.nilsl ∧ true = true) ∧ (AV.fsl false C = AV.fsl false C ∧ closedA (AV.fsl false C) = true) ∧ (I (Int.ofNat (lenN C)) = I (Int.ofNat (lenN C)) ∧ closedA (I (Int.ofNat (lenN C))) = true) ∧ (I (wrapA IntKind.i64 (Int.ofNat i + 1)) = I (Int.ofNat j) ∧ closedA (I (Int.ofNat j)) = true) ∧ True) ∧ True ∧ True) ∧ N)) ((((AV.str s = AV.str s ∧ closedA (AV.str s) = true) ∧ (AV.nilsl = AV.nilsl ∧ true = true) ∧ (AV.fsl false C = AV.fsl false C ∧ closedA (AV.fsl false C) = true) ∧ (I (Int.ofNat (lenN C)) = I (Int.ofNat (lenN C)) ∧ closedA (I (Int.ofNat (lenN C))) = true) ∧ (I (Int.ofNat i) = I (Int.ofNat i) ∧ closedA (I (Int.ofNat i)) = true) ∧ True) ∧ True ∧ True) ∧ Q (AExit.exit 0) (plV0 s C i).st)) := by kernel_rfl
theorem pl_01 (s : List UInt8) (C : List AV) (i j k : Nat) (es : List AV) (n t : List UInt8) (N : Prop) (Q : AExit → St → Prop) : wpK Tryz.prog opts0 40 (plA n t) (lpCode Tryz.prog 151 4) (plV0 s C i).st (roundP 0 [(0, 15)] (plV1 s C j k es) N [] (plV0 s C i) Q) =
  (mtB (ltInt (Int.ofNat i) (Int.ofNat (lenN C))) (indexAddrA Tryz.prog 29 (AV.fsl false C) (I (Int.ofNat i)) = some (AV.fptr [AV.str n, AV.str t] 0) ∧ mtB (beqBytes n s) ((((AV.str s = AV.str s ∧ closedA (AV.str s) = true) ∧ (AV.fsl false C = AV.fsl false C ∧ closedA (AV.fsl false C) = true) ∧ (I (Int.ofNat (lenN C)) = I (Int.ofNat (lenN C)) ∧ closedA (I (Int.ofNat (lenN C))) = true) ∧ (I (wrapA IntKind.i64 (Int.ofNat i + 1)) = I (Int.ofNat j) ∧ closedA (I (Int.ofNat j)) = true) ∧ True) ∧ ((true = true ∧ some 15 = some 15 ∧ 0 = 0 ∧ k = lenN [I (Int.ofNat i)] ∧ 1 = 1) ∧ True) ∧ (flat [I (Int.ofNat i)] = es ∧ closedAll es = true) ∧ True) ∧ N) ((((AV.str s = AV.str s ∧ closedA (AV.str s) = true) ∧ (AV.fsl false C = AV.fsl false C ∧ closedA (AV.fsl false C) = true) ∧ (I (Int.ofNat (lenN C)) = I (Int.ofNat (lenN C)) ∧ closedA (I (Int.ofNat (lenN C))) = true) ∧ (I (wrapA IntKind.i64 (Int.ofNat i + 1)) = I (Int.ofNat j) ∧ closedA (I (Int.ofNat j)) = true) ∧ True) ∧ (False ∧ True) ∧ False ∧ True) ∧ N)) ((((AV.str s = AV.str s ∧ closedA (AV.str s) = true) ∧ (AV.nilsl = AV.nilsl ∧ true = true) ∧ (AV.fsl false C = AV.fsl false C ∧ closedA (AV.fsl false C) = true) ∧ (I (Int.ofNat (lenN C)) = I (Int.ofNat (lenN C)) ∧ closedA (I (Int.ofNat (lenN C))) = true) ∧ (I (Int.ofNat i) = I (Int.ofNat i) ∧ closedA (I (Int.ofNat i)) = true) ∧ True) ∧ True ∧ True) ∧ Q (AExit.exit 0) (plV0 s C i).st)) := by kernel_rfl
theorem pl_10 (s : List UInt8) (C : List AV) (i j k : Nat) (es : List AV) (n t : List UInt8) (N : Prop) (Q : AExit → St → Prop) : wpK Tryz.prog opts0 40 (plA n t) (lpCode Tryz.prog 151 4) (plV1 s C i k es).st (roundP 0 [(0, 0)] (plV1 s C j k es) N [(0, 0)] (plV1 s C i k es) Q) =
  (mtB (ltInt (Int.ofNat i) (Int.ofNat (lenN C))) (indexAddrA Tryz.prog 29 (AV.fsl false C) (I (Int.ofNat i)) = some (AV.fptr [AV.str n, AV.str t] 0) ∧ mtB (beqBytes n s) (oblB (allSize 1 [I (Int.ofNat i)] && (((k + lenN [I (Int.ofNat i)]) * 8).ble 140737488355328 && (allOne (flat [I (Int.ofNat i)]) && true))) (oblB ((lenN es).beq (k * 1)) ((((AV.str s = AV.str s ∧ closedA (AV.str s) = true) ∧ (AV.fsl false C = AV.fsl false C ∧ closedA (AV.fsl false C) = true) ∧ (I (Int.ofNat (lenN C)) = I (Int.ofNat (lenN C)) ∧ closedA (I (Int.ofNat (lenN C))) = true) ∧ (I (wrapA IntKind.i64 (Int.ofNat i + 1)) = I (Int.ofNat j) ∧ closedA (I (Int.ofNat j)) = true) ∧ True) ∧ ((true = true ∧ some 0 = some 15 ∧ 0 = 0 ∧ k = k + lenN [I (Int.ofNat i)] ∧ 1 = 1) ∧ True) ∧ False ∧ True) ∧ N))) ((((AV.str s = AV.str s ∧ closedA (AV.str s) = true) ∧ (AV.fsl false C = AV.fsl false C ∧ closedA (AV.fsl false C) = true) ∧ (I (Int.ofNat (lenN C)) = I (Int.ofNat (lenN C)) ∧ closedA (I (Int.ofNat (lenN C))) = true) ∧ (I (wrapA IntKind.i64 (Int.ofNat i + 1)) = I (Int.ofNat j) ∧ closedA (I (Int.ofNat j)) = true) ∧ True) ∧ ((true = true ∧ some 0 = some 0 ∧ 0 = 0 ∧ k = k ∧ 1 = 1) ∧ True) ∧ (es = es ∧ closedAll es = true) ∧ True) ∧ N)) ((((AV.str s = AV.str s ∧ closedA (AV.str s) = true) ∧ (AV.fsl false C = AV.fsl false C ∧ closedA (AV.fsl false C) = true) ∧ (I (Int.ofNat (lenN C)) = I (Int.ofNat (lenN C)) ∧ closedA (I (Int.ofNat (lenN C))) = true) ∧ (I (Int.ofNat i) = I (Int.ofNat i) ∧ closedA (I (Int.ofNat i)) = true) ∧ True) ∧ ((true = true ∧ some 0 = some 0 ∧ 0 = 0 ∧ k = k ∧ 1 = 1) ∧ True) ∧ (es = es ∧ closedAll es = true) ∧ True) ∧ Q (AExit.exit 0) (plV1 s C i k es).st)) := by kernel_rfl
theorem pl_11 (s : List UInt8) (C : List AV) (i j k k' : Nat) (es es' : List AV) (n t : List UInt8) (N : Prop) (Q : AExit → St → Prop) : wpK Tryz.prog opts0 40 (plA n t) (lpCode Tryz.prog 151 4) (plV1 s C i k es).st (roundP 0 [(0, 15)] (plV1 s C j k' es') N [(0, 0)] (plV1 s C i k es) Q) =
  (mtB (ltInt (Int.ofNat i) (Int.ofNat (lenN C))) (indexAddrA Tryz.prog 29 (AV.fsl false C) (I (Int.ofNat i)) = some (AV.fptr [AV.str n, AV.str t] 0) ∧ mtB (beqBytes n s) (oblB (allSize 1 [I (Int.ofNat i)] && (((k + lenN [I (Int.ofNat i)]) * 8).ble 140737488355328 && (allOne (flat [I (Int.ofNat i)]) && true))) (oblB ((lenN es).beq (k * 1)) ((((AV.str s = AV.str s ∧ closedA (AV.str s) = true) ∧ (AV.fsl false C = AV.fsl false C ∧ closedA (AV.fsl false C) = true) ∧ (I (Int.ofNat (lenN C)) = I (Int.ofNat (lenN C)) ∧ closedA (I (Int.ofNat (lenN C))) = true) ∧ (I (wrapA IntKind.i64 (Int.ofNat i + 1)) = I (Int.ofNat j) ∧ closedA (I (Int.ofNat j)) = true) ∧ True) ∧ ((true = true ∧ some 15 = some 15 ∧ 0 = 0 ∧ k' = k + lenN [I (Int.ofNat i)] ∧ 1 = 1) ∧ True) ∧ (es ++ flat [I (Int.ofNat i)] = es' ∧ closedAll es' = true) ∧ True) ∧ N))) ((((AV.str s = AV.str s ∧ closedA (AV.str s) = true) ∧ (AV.fsl false C = AV.fsl false C ∧ closedA (AV.fsl false C) = true) ∧ (I (Int.ofNat (lenN C)) = I (Int.ofNat (lenN C)) ∧ closedA (I (Int.ofNat (lenN C))) = true) ∧ (I (wrapA IntKind.i64 (Int.ofNat i + 1)) = I (Int.ofNat j) ∧ closedA (I (Int.ofNat j)) = true) ∧ True) ∧ ((true = true ∧ some 15 = some 0 ∧ 0 = 0 ∧ k' = k ∧ 1 = 1) ∧ True) ∧ False ∧ True) ∧ N)) ((((AV.str s = AV.str s ∧ closedA (AV.str s) = true) ∧ (AV.fsl false C = AV.fsl false C ∧ closedA (AV.fsl false C) = true) ∧ (I (Int.ofNat (lenN C)) = I (Int.ofNat (lenN C)) ∧ closedA (I (Int.ofNat (lenN C))) = true) ∧ (I (Int.ofNat i) = I (Int.ofNat i) ∧ closedA (I (Int.ofNat i)) = true) ∧ True) ∧ ((true = true ∧ some 0 = some 0 ∧ 0 = 0 ∧ k = k ∧ 1 = 1) ∧ True) ∧ (es = es ∧ closedAll es = true) ∧ True) ∧ Q (AExit.exit 0) (plV1 s C i k es).st)) := by kernel_rfl
noncomputable def plL (s : List UInt8) (C : List AV) (F : View) : LoopS := fun st Q => seesK 0 [] (plV0 s C 0) st ∧ Q (.exit 0) F.st
theorem pl_fn0 (o : Ob) (M N L : AV) (s : List UInt8) (C : List AV) (Q : AV → Heap → Nat → Prop) : fnK Tryz.prog opts0 40 (aidJ [] [(4, plL s C (plV0 s C (lenN C)))] noSem [] []) 151 [.agg (obF o M N L (.fsl false C)), .str s] [] 0 Q =
  ((((AV.str s = AV.str s ∧ closedA (AV.str s) = true) ∧ (AV.nilsl = AV.nilsl ∧ true = true) ∧ (AV.fsl false C = AV.fsl false C ∧ closedA (AV.fsl false C) = true) ∧ (I (Int.ofNat (lenN C)) = I (Int.ofNat (lenN C)) ∧ closedA (I (Int.ofNat (lenN C))) = true) ∧ (I 0 = I 0 ∧ true = true) ∧ True) ∧ True ∧ True) ∧ Q AV.nilsl [] 3) := by kernel_rfl
theorem pl_fn1 (o : Ob) (M N L : AV) (s : List UInt8) (C : List AV) (k : Nat) (es : List AV) (Q : AV → Heap → Nat → Prop) : fnK Tryz.prog opts0 40 (aidJ [] [(4, plL s C (plV1 s C (lenN C) k es))] noSem [] []) 151 [.agg (obF o M N L (.fsl false C)), .str s] [] 0 Q =
  ((((AV.str s = AV.str s ∧ closedA (AV.str s) = true) ∧ (AV.nilsl = AV.nilsl ∧ true = true) ∧ (AV.fsl false C = AV.fsl false C ∧ closedA (AV.fsl false C) = true) ∧ (I (Int.ofNat (lenN C)) = I (Int.ofNat (lenN C)) ∧ closedA (I (Int.ofNat (lenN C))) = true) ∧ (I 0 = I 0 ∧ true = true) ∧ True) ∧ True ∧ True) ∧ Q (AV.rsl true 0 0 k 1) [(0, some (Blk.cells es))] 3) := by kernel_rfl
def placesL (s : List UInt8) : List Cu → Nat → List Nat
 | [], _ => []
 | c :: r, k => match beqBytes c.name s with
  | true => k :: placesL s r (k + 1)
  | false => placesL s r (k + 1)
theorem placesL_snoc (s : List UInt8) (c : Cu) : ∀ (l : List Cu) (k : Nat), placesL s (l ++ [c]) k = placesL s l k ++ (match beqBytes c.name s with | true => [k + l.length] | false => [])
 | [], k => by simp only [List.nil_append, placesL]; cases beqBytes c.name s <;> simp
 | a :: r, k => by
  have ih := placesL_snoc s c r (k + 1)
  have e : k + 1 + r.length = k + (r.length + 1) := by omega
  rw [e] at ih
  simp only [List.cons_append, placesL, ih, List.length_cons]
  cases beqBytes a.name s <;> simp
theorem take_snoc {α : Type} {l : List α} {i : Nat} {c : α} (h : l[i]? = some c) : l.take (i + 1) = l.take i ++ [c] := by rw [List.take_add_one, h]; rfl
theorem lt_of_some {α : Type} {l : List α} {i : Nat} {c : α} (h : l[i]? = some c) : i < l.length := by
 rcases Nat.lt_or_ge i l.length with h' | h'
 ·exact h'
 ·rw [List.getElem?_eq_none h'] at h; cases h
theorem placesL_succ {s : List UInt8} {l : List Cu} {i : Nat} {c : Cu} (h : l[i]? = some c) : placesL s (l.take (i + 1)) 0 = placesL s (l.take i) 0 ++ (match beqBytes c.name s with | true => [i] | false => []) := by
 rw [take_snoc h, placesL_snoc, Nat.zero_add, List.length_take, Nat.min_eq_left (Nat.le_of_lt (lt_of_some h))]
theorem placesL_len (s : List UInt8) : ∀ (l : List Cu) (k : Nat), (placesL s l k).length ≤ l.length
 | [], _ => Nat.le_refl _
 | c :: r, k => by
  have := placesL_len s r (k + 1)
  simp only [placesL]
  split <;> simp <;> omega
theorem placesL_lt (s : List UInt8) : ∀ (l : List Cu) (k : Nat), ∀ x ∈ placesL s l k, k ≤ x ∧ x < k + l.length
 | [], _, x, h => by cases h
 | c :: r, k, x, h => by
  have ih := placesL_lt s r (k + 1) x
  simp only [placesL] at h
  simp only [List.length_cons]
  split at h
  ·rcases List.mem_cons.1 h with rfl | h
   ·omega
   ·have := ih h; omega
  ·have := ih h; omega
noncomputable def plV (s : List UInt8) (C : List AV) (i : Nat) (p : List Nat) : View := match p with
 | [] => plV0 s C i
 | _ :: _ => plV1 s C i p.length (p.map nI)
theorem idxC {f : Bool} {l : List Cu} {i : Nat} {c : Cu} (hx : l[i]? = some c) : indexAddrA Tryz.prog 29 (.fsl f (l.map cuA)) (.int .i64 (.ofNat i)) = some (.fptr [.str c.name, .str c.text] 0) :=
 fsl_index (v := cuA c) (e := 101) (sz := 2) (by kernel_rfl) (by kernel_rfl) (by rw [List.getElem?_map, hx]; rfl) rfl
theorem closed_nIs : ∀ p : List Nat, closedAll (p.map nI) = true
 | [] => rfl
 | _ :: t => closed_nIs t
theorem flat_nIs : ∀ p : List Nat, flat (p.map nI) = p.map nI
 | [] => rfl
 | x :: t => by simp only [List.map_cons, flat, flat_nIs t]; rfl
theorem pl_loop {s : List UInt8} {l : List Cu} {Q : AExit → St → Prop} (hb : l.length ≤ big) (hq : Q (.exit 0) (plV s (l.map cuA) l.length (placesL s l 0)).st) :
    ∀ i, i ≤ l.length → ALp Tryz.prog opts0.glob 0 (lpCode Tryz.prog 151 4) (plV s (l.map cuA) i (placesL s (l.take i) 0)).st Q := by
  have hlen : lenN (l.map cuA) = l.length := by rw [lenN_eq, List.length_map]
  have hcl := closed_cus l
  have hb : l.length ≤ 1099511627776 := hb
  refine count_up _ ?_ (fun i hi ih => ?_)
  · rw [List.take_length]
    cases hp : placesL s l 0 with
    | nil =>
      rw [hp] at hq
      refine ALp.round (A := plA [] []) (V1 := plV0 s (l.map cuA) 0) (V2 := plV0 s (l.map cuA) 0) (F := plV0 s (l.map cuA) l.length) (lk := []) (lk' := []) base0 aidJ_ok (LsOk.no rfl) .refl ?_
      simp only [plV]
      rw [pl_00]
      refine mtB_of (fun h => ?_) (fun _ => ⟨by simp [closedA, hcl], hq⟩)
      have h := ltInt_iff.1 h
      simp only [hlen, Int.ofNat_eq_natCast] at h
      omega
    | cons a r =>
      rw [hp] at hq
      refine ALp.round (A := plA [] []) (V1 := plV1 s (l.map cuA) 0 (a :: r).length ((a :: r).map nI)) (V2 := plV1 s (l.map cuA) 0 (a :: r).length ((a :: r).map nI)) (F := plV1 s (l.map cuA) l.length (a :: r).length ((a :: r).map nI)) (lk := [(0, 0)]) (lk' := [(0, 0)]) base0 aidJ_ok (LsOk.no rfl) .refl ?_
      simp only [plV]
      rw [pl_10]
      refine mtB_of (fun h => ?_) (fun _ => ⟨by simp [closedA, hcl, closed_nIs, closedAll, nI], hq⟩)
      have h := ltInt_iff.1 h
      simp only [hlen, Int.ofNat_eq_natCast] at h
      omega
  · have g1 := List.getElem?_eq_getElem hi
    revert g1
    generalize l[i] = c
    intro g1
    have hs := placesL_succ (s := s) g1
    have hw : wrapA .i64 (Int.ofNat i + 1) = Int.ofNat (i + 1) := wrapA_i64 (by simp; omega) (by simp; omega)
    have hno : ltInt (Int.ofNat i) (Int.ofNat (lenN (l.map cuA))) = false → False := fun h => by
      have h := ltInt_false.1 h
      simp only [hlen, Int.ofNat_eq_natCast] at h
      omega
    have hpl : (placesL s (l.take i) 0).length ≤ i := by
      have := placesL_len s (l.take i) 0
      rw [List.length_take] at this
      omega
    rw [hs] at ih
    clear hs
    revert ih hpl
    generalize placesL s (l.take i) 0 = p
    intro ih hpl
    cases hc : beqBytes c.name s with
    | false =>
      rw [hc] at ih
      simp only [List.append_nil] at ih
      cases p with
      | nil =>
        refine ALp.round (A := plA c.name c.text) (V1 := plV0 s (l.map cuA) (i + 1)) (V2 := plV0 s (l.map cuA) (i + 1)) (F := plV0 s (l.map cuA) i) (lk := []) (lk' := []) base0 aidJ_ok (LsOk.no rfl) .refl ?_
        simp only [plV] at ih ⊢
        rw [pl_00]
        refine mtB_of (fun _ => ⟨idxC g1, mtB_of (fun h => ?_) (fun _ => ?_)⟩) (fun h => (hno h).elim)
        · rw [hc] at h; cases h
        · rw [hw]
          exact ⟨by simp [closedA, hcl], ih⟩
      | cons a r =>
        refine ALp.round (A := plA c.name c.text) (V1 := plV1 s (l.map cuA) (i + 1) (a :: r).length ((a :: r).map nI)) (V2 := plV1 s (l.map cuA) (i + 1) (a :: r).length ((a :: r).map nI)) (F := plV1 s (l.map cuA) i (a :: r).length ((a :: r).map nI)) (lk := [(0, 0)]) (lk' := [(0, 0)]) base0 aidJ_ok (LsOk.no rfl) .refl ?_
        simp only [plV] at ih ⊢
        rw [pl_10]
        refine mtB_of (fun _ => ⟨idxC g1, mtB_of (fun h => ?_) (fun _ => ?_)⟩) (fun h => (hno h).elim)
        · rw [hc] at h; cases h
        · rw [hw]
          exact ⟨by simp [closedA, hcl, closed_nIs, closedAll, nI], ih⟩
    | true =>
      rw [hc] at ih
      cases p with
      | nil =>
        refine ALp.round (A := plA c.name c.text) (V1 := plV1 s (l.map cuA) (i + 1) 1 [nI i]) (V2 := plV1 s (l.map cuA) (i + 1) 1 [nI i]) (F := plV0 s (l.map cuA) i) (lk := [(0, 15)]) (lk' := []) base0 aidJ_ok (LsOk.no rfl) .refl ?_
        simp only [plV, List.nil_append] at ih ⊢
        rw [pl_01]
        refine mtB_of (fun _ => ⟨idxC g1, mtB_of (fun _ => ?_) (fun h => ?_)⟩) (fun h => (hno h).elim)
        · rw [hw]
          exact ⟨by simp [closedA, hcl, closedAll, nI, flat, AV.cells, lenN], ih⟩
        · rw [hc] at h; cases h
      | cons a r =>
        refine ALp.round (A := plA c.name c.text) (V1 := plV1 s (l.map cuA) (i + 1) ((a :: r) ++ [i]).length (((a :: r) ++ [i]).map nI)) (V2 := plV1 s (l.map cuA) (i + 1) ((a :: r) ++ [i]).length (((a :: r) ++ [i]).map nI)) (F := plV1 s (l.map cuA) i (a :: r).length ((a :: r).map nI)) (lk := [(0, 15)]) (lk' := [(0, 0)]) base0 aidJ_ok (LsOk.no rfl) .refl ?_
        have ih : ALp Tryz.prog opts0.glob 0 (lpCode Tryz.prog 151 4) (plV1 s (l.map cuA) (i + 1) ((a :: r) ++ [i]).length (((a :: r) ++ [i]).map nI)).st Q := ih
        simp only [plV]
        rw [pl_11]
        refine mtB_of (fun _ => ⟨idxC g1, mtB_of (fun _ => oblB_of ?_ (oblB_of ?_ ⟨?_, ih⟩)) (fun h => ?_)⟩) (fun h => (hno h).elim)
        · simp [allSize, lenN, AV.cells, flat, allOne]
          simp only [List.length_cons] at hpl
          omega
        · rw [beq_iff, lenN_eq, List.length_map, Nat.mul_one]
        · rw [hw]
          have := closed_nIs r
          simp [closedA, hcl, closedAll, nI, flat, AV.cells, lenN] at this ⊢
          exact closed_snoc r i
        · rw [hc] at h; cases h
 where
  closed_snoc : ∀ (r : List Nat) (i : Nat), closedAll (List.map nI r ++ [AV.int .i64 (i : Int)]) = true
    | [], _ => rfl
    | _ :: t, i => closed_snoc t i
theorem pl_at : loopsAt (fnCode Tryz.prog 151) 4 = [lpCode Tryz.prog 151 4] := by kernel_rfl
def plcR (b : Nat) : List Nat → AV
 | [] => .nilsl
 | p@(_ :: _) => .rsl true b 0 p.length 1
def plcH (b : Nat) : List Nat → Heap
 | [] => []
 | p@(_ :: _) => [(b, some (.cells (p.map nI)))]
theorem closed_obF (o : Ob) {M N L C : AV} (hM : closedA M = true) (hN : closedA N = true) (hL : closedA L = true) (hC : closedA C = true) : closedAll (obF o M N L C) = true := by
 simp only [obF, closedAll, closedA, hM, hN, hL, hC, Bool.and_self]
theorem places_body0 (o : Ob) {M N L : AV} (s : List UInt8) (_hM : closedA M = true) (_hN : closedA N = true) (_hL : closedA L = true) (hb : o.cust.length ≤ big) :
  BodySem Tryz.prog opts0.glob 151 [.agg (obF o M N L (cusA o)), .str s] [] 0 (plcR 0 (placesL s o.cust 0)) (plcH 0 (placesL s o.cust 0)) 3 := by
 have hcl := closed_cus o.cust
 have hlen : lenN (o.cust.map cuA) = o.cust.length := by rw [lenN_eq, List.length_map]
 cases hp : placesL s o.cust 0 with
 | nil =>
  refine fnK_bodySem (A := aidJ [] [(4, plL s (o.cust.map cuA) (plV0 s (o.cust.map cuA) (lenN (o.cust.map cuA))))] noSem [] []) base0 aidJ_ok
   (fnLs_of (LsOk.at1 rfl pl_at fun st Q hs => .seen base0.glob hs.1 (pl_loop (s := s) hb (by rw [hp]; have := hs.2; rw [hlen] at this; exact this) 0 (Nat.zero_le _)))) ?_
  simp only [cusA]
  rw [pl_fn0]
  exact ⟨by simp [closedA, hcl], rfl, rfl, rfl⟩
 | cons a r =>
  refine fnK_bodySem (A := aidJ [] [(4, plL s (o.cust.map cuA) (plV1 s (o.cust.map cuA) (lenN (o.cust.map cuA)) (a :: r).length ((a :: r).map nI)))] noSem [] []) base0 aidJ_ok
   (fnLs_of (LsOk.at1 rfl pl_at fun st Q hs => .seen base0.glob hs.1 (pl_loop (s := s) hb (by rw [hp]; have := hs.2; rw [hlen] at this; exact this) 0 (Nat.zero_le _)))) ?_
  simp only [cusA]
  rw [pl_fn1]
  exact ⟨by simp [closedA, hcl], rfl, rfl, rfl⟩
end Go.Proofs.YtjhggnebkfpgcaaGreatDoor
