/- What is told of a custom name. -/
import Derived.Test.YtjhggnebkfpgcaaGreatDoorCls2
import Derived.KernelRfl
namespace Go.Proofs.YtjhggnebkfpgcaaGreatDoor
set_option maxRecDepth 20000
open Go Go.RowKit
open Go.Proofs.Abs
noncomputable def cgV0 (O P : List AV) (i : Nat) : View := ⟨[(4, .nilsl), (9, .fsl false P), (10, I (.ofNat (lenN P))), (11, I (.ofNat i))], [(2, .ptr 0 0)], [(0, .cells O, .whole)], 2, 27⟩
noncomputable def cgV1 (O P : List AV) (i : Nat) (es : List AV) : View := ⟨[(9, .fsl false P), (10, I (.ofNat (lenN P))), (11, I (.ofNat i))], [(2, .ptr 0 0), (4, .rsl true 1 0 i 5)], [(0, .cells O, .whole), (1, .cells es, .whole)], 2, 27⟩
noncomputable def cgA (p : Nat) (n t : List UInt8) : Aid := aidJ [(4, 0, .res (.fptr [nI p] 0)), (5, 4, .res (.fptr [.str n, .str t] 0))] [] noSem [92] []
theorem cg_0 (o : Ob) (M N L C : AV) (P : List AV) (p : Nat) (n t : List UInt8) (es : List AV) (Nx : Prop) (Q : AExit → St → Prop) : wpK Tryz.prog opts0 40 (cgA p n t) (lpCode Tryz.prog 150 4) (cgV0 (obF o M N L C) P 0).st (roundP 0 [(0, 0), (1, 15)] (cgV1 (obF o M N L C) P 1 es) Nx [(0, 0)] (cgV0 (obF o M N L C) P 0) Q) =
  (mtB (ltInt 0 (Int.ofNat (lenN P))) (indexAddrA Tryz.prog 190 (AV.fsl false P) (I 0) = some (AV.fptr [I (Int.ofNat p)] 0) ∧ indexAddrA Tryz.prog 29 C (I (Int.ofNat p)) = some (AV.fptr [AV.str n, AV.str t] 0) ∧ (((AV.fsl false P = AV.fsl false P ∧ closedA (AV.fsl false P) = true) ∧ (I (Int.ofNat (lenN P)) = I (Int.ofNat (lenN P)) ∧ closedA (I (Int.ofNat (lenN P))) = true) ∧ (I 1 = I 1 ∧ true = true) ∧ True) ∧ ((some 0 = some 0 ∧ 0 = 0) ∧ (true = true ∧ some 15 = some 15 ∧ 0 = 0 ∧ 1 = lenN [AV.agg [I 4325387, I 7, I 0, AV.fsl false (toBytes t), AV.nilsl]] ∧ 5 = 5) ∧ True) ∧ ((obF o M N L C) = (obF o M N L C) ∧ closedAll (obF o M N L C) = true) ∧ (flat [AV.agg [I 4325387, I 7, I 0, AV.fsl false (toBytes t), AV.nilsl]] = es ∧ closedAll es = true) ∧ True) ∧ Nx) ((((AV.nilsl = AV.nilsl ∧ true = true) ∧ (AV.fsl false P = AV.fsl false P ∧ closedA (AV.fsl false P) = true) ∧ (I (Int.ofNat (lenN P)) = I (Int.ofNat (lenN P)) ∧ closedA (I (Int.ofNat (lenN P))) = true) ∧ (I 0 = I 0 ∧ true = true) ∧ True) ∧ ((some 0 = some 0 ∧ 0 = 0) ∧ True) ∧ ((obF o M N L C) = (obF o M N L C) ∧ closedAll (obF o M N L C) = true) ∧ True) ∧ Q (AExit.exit 0) (cgV0 (obF o M N L C) P 0).st)) := by kernel_rfl
theorem cg_1 (o : Ob) (M N L C : AV) (P : List AV) (p i j : Nat) (n t : List UInt8) (es es' : List AV) (Nx : Prop) (Q : AExit → St → Prop) : wpK Tryz.prog opts0 40 (cgA p n t) (lpCode Tryz.prog 150 4) (cgV1 (obF o M N L C) P i es).st (roundP 0 [(0, 0), (1, 15)] (cgV1 (obF o M N L C) P j es') Nx [(0, 0), (1, 1)] (cgV1 (obF o M N L C) P i es) Q) =
  (mtB (ltInt (Int.ofNat i) (Int.ofNat (lenN P))) (indexAddrA Tryz.prog 190 (AV.fsl false P) (I (Int.ofNat i)) = some (AV.fptr [I (Int.ofNat p)] 0) ∧ indexAddrA Tryz.prog 29 C (I (Int.ofNat p)) = some (AV.fptr [AV.str n, AV.str t] 0) ∧ oblB (allSize 5 [AV.agg [I 4325387, I 7, I 0, AV.fsl false (toBytes t), AV.nilsl]] && (((i + lenN [AV.agg [I 4325387, I 7, I 0, AV.fsl false (toBytes t), AV.nilsl]]) * 72).ble 140737488355328 && (allOne (flat [AV.agg [I 4325387, I 7, I 0, AV.fsl false (toBytes t), AV.nilsl]]) && true))) (oblB ((lenN es).beq (i * 5)) ((((AV.fsl false P = AV.fsl false P ∧ closedA (AV.fsl false P) = true) ∧ (I (Int.ofNat (lenN P)) = I (Int.ofNat (lenN P)) ∧ closedA (I (Int.ofNat (lenN P))) = true) ∧ (I (wrapA IntKind.i64 (Int.ofNat i + 1)) = I (Int.ofNat j) ∧ closedA (I (Int.ofNat j)) = true) ∧ True) ∧ ((some 0 = some 0 ∧ 0 = 0) ∧ (true = true ∧ some 15 = some 15 ∧ 0 = 0 ∧ j = i + lenN [AV.agg [I 4325387, I 7, I 0, AV.fsl false (toBytes t), AV.nilsl]] ∧ 5 = 5) ∧ True) ∧ ((obF o M N L C) = (obF o M N L C) ∧ closedAll (obF o M N L C) = true) ∧ (es ++ flat [AV.agg [I 4325387, I 7, I 0, AV.fsl false (toBytes t), AV.nilsl]] = es' ∧ closedAll es' = true) ∧ True) ∧ Nx))) ((((AV.fsl false P = AV.fsl false P ∧ closedA (AV.fsl false P) = true) ∧ (I (Int.ofNat (lenN P)) = I (Int.ofNat (lenN P)) ∧ closedA (I (Int.ofNat (lenN P))) = true) ∧ (I (Int.ofNat i) = I (Int.ofNat i) ∧ closedA (I (Int.ofNat i)) = true) ∧ True) ∧ ((some 0 = some 0 ∧ 0 = 0) ∧ (true = true ∧ some 1 = some 1 ∧ 0 = 0 ∧ i = i ∧ 5 = 5) ∧ True) ∧ ((obF o M N L C) = (obF o M N L C) ∧ closedAll (obF o M N L C) = true) ∧ (es = es ∧ closedAll es = true) ∧ True) ∧ Q (AExit.exit 0) (cgV1 (obF o M N L C) P i es).st)) := by kernel_rfl
noncomputable def cgL (O P : List AV) (F : View) : LoopS := fun st Q => seesK 0 [(0, 0)] (cgV0 O P 0) st ∧ Q (.exit 0) F.st
theorem cg_fn0 (o : Ob) (M N L C : AV) (s : List UInt8) (P : List AV) (Q : AV → Heap → Prop) : fnK Tryz.prog opts0 40 (aidJ [] [(4, cgL (obF o M N L C) P (cgV0 (obF o M N L C) P 0))] (manyS [(151, .fsl false P)]) [] []) 150 [.agg (obF o M N L C), .fptr [.str s] 0] [] 0 (fun v H _ => Q v H) =
  (SC 151 [AV.agg (obF o M N L C), AV.str s] (AV.fsl false P) ∧ (((AV.nilsl = AV.nilsl ∧ true = true) ∧ (AV.fsl false P = AV.fsl false P ∧ closedA (AV.fsl false P) = true) ∧ (I (Int.ofNat (lenN P)) = I (Int.ofNat (lenN P)) ∧ closedA (I (Int.ofNat (lenN P))) = true) ∧ (I 0 = I 0 ∧ true = true) ∧ True) ∧ ((some 0 = some 0 ∧ 0 = 0) ∧ True) ∧ ((obF o M N L C) = (obF o M N L C) ∧ closedAll (obF o M N L C) = true) ∧ True) ∧ Q AV.nilsl [(0, some (Blk.cells (obF o M N L C)))]) := by kernel_rfl
theorem cg_fn1 (o : Ob) (M N L C : AV) (s : List UInt8) (P : List AV) (es : List AV) (Q : AV → Heap → Prop) : fnK Tryz.prog opts0 40 (aidJ [] [(4, cgL (obF o M N L C) P (cgV1 (obF o M N L C) P (lenN P) es))] (manyS [(151, .fsl false P)]) [] []) 150 [.agg (obF o M N L C), .fptr [.str s] 0] [] 0 (fun v H _ => Q v H) =
  (SC 151 [AV.agg (obF o M N L C), AV.str s] (AV.fsl false P) ∧ (((AV.nilsl = AV.nilsl ∧ true = true) ∧ (AV.fsl false P = AV.fsl false P ∧ closedA (AV.fsl false P) = true) ∧ (I (Int.ofNat (lenN P)) = I (Int.ofNat (lenN P)) ∧ closedA (I (Int.ofNat (lenN P))) = true) ∧ (I 0 = I 0 ∧ true = true) ∧ True) ∧ ((some 0 = some 0 ∧ 0 = 0) ∧ True) ∧ ((obF o M N L C) = (obF o M N L C) ∧ closedAll (obF o M N L C) = true) ∧ True) ∧ Q (AV.rsl true 1 0 (lenN P) 5) [(0, some (Blk.cells (obF o M N L C))), (1, some (Blk.cells es))]) := by kernel_rfl
theorem good_nIs : ∀ p : List Nat, ∀ e ∈ p.map nI, goodEl 1 e := fun p e he => by
 obtain ⟨x, _, rfl⟩ := List.mem_map.1 he
 exact ⟨rfl, rfl⟩
theorem places_sem (o : Ob) {M N L : AV} (s : List UInt8) (hM : closedA M = true) (hN : closedA N = true) (hL : closedA L = true) (hb : o.cust.length ≤ big) : SC 151 [.agg (obF o M N L (cusA o)), .str s] (.fsl false ((placesL s o.cust 0).map nI)) := by
 have h0 := places_body0 o s hM hN hL hb
 revert h0
 generalize placesL s o.cust 0 = p
 intro h0
 have hcl : closedAll [.agg (obF o M N L (cusA o)), .str s] = true := by simp only [closedAll, closedA, closed_obF o hM hN hL (closed_cusA o), Bool.and_self]
 refine bodySem_sem base0.glob hcl h0 ?_
 cases p with
 | nil => exact ⟨.nilsl, ⟨1, rfl⟩, rfl, .nil⟩
 | cons a r => exact ⟨.fsl false ((a :: r).map nI), Frz.out (Frz.row (es := (a :: r).map nI) rfl rfl (flat_nIs _).symm (by simp) (good_nIs _) (closed_nIs _)), closed_fslA (closed_nIs _), .refl _⟩
def textAt (l : List Cu) (p : Nat) : List UInt8 := match l[p]? with
 | some c => c.text
 | none => []
theorem texts_at (s : List UInt8) : ∀ (l pre : List Cu), (placesL s l pre.length).map (textAt (pre ++ l)) = (l.filter fun c => beqBytes c.name s).map Cu.text
 | [], _ => rfl
 | c :: r, pre => by
  have ih := texts_at s r (pre ++ [c])
  simp only [List.length_append, List.length_cons, List.length_nil, Nat.zero_add, List.append_assoc, List.cons_append, List.nil_append] at ih
  simp only [placesL]
  cases hc : beqBytes c.name s with
  | false => simp only [List.filter_cons, hc, Bool.false_eq_true, if_false, ih]
  | true =>
   have : textAt (pre ++ c :: r) pre.length = c.text := by simp [textAt]
   simp only [List.filter_cons, hc, if_true, List.map_cons, ih, this]
theorem rawN_length (l : List (List UInt8)) : (flat (l.map rawN)).length = l.length * 5 := by
 induction l with
 | nil => rfl
 | cons x r ih => simp only [List.map_cons, flat, List.length_append, ih, rawN, AV.cells, List.length_cons, List.length_nil]; omega
theorem closed_flatN (l : List (List UInt8)) : closedAll (flat (l.map rawN)) = true := closed_flat (closed_rawN l) fun e he => by
 obtain ⟨x, _, rfl⟩ := List.mem_map.1 he
 simp [rawN, AV.cells, closedAll, closedA]
theorem idxP {f : Bool} {l : List Nat} {i p : Nat} (hx : l[i]? = some p) : indexAddrA Tryz.prog 190 (.fsl f (l.map nI)) (.int .i64 (.ofNat i)) = some (.fptr [nI p] 0) :=
 fsl_index (v := nI p) (e := 3) (sz := 1) (by kernel_rfl) (by kernel_rfl) (by rw [List.getElem?_map, hx]; rfl) rfl
def cgE (T : List (List UInt8)) (i : Nat) : List AV := flat ((T.take i).map rawN)
theorem cgE_succ {T : List (List UInt8)} {i : Nat} {x : List UInt8} (h : T[i]? = some x) : cgE T i ++ flat [rawN x] = cgE T (i + 1) := by
 rw [cgE, cgE, take_snoc h, List.map_append, flat_append]
 rfl
theorem cgE_len {T : List (List UInt8)} {i : Nat} (h : i ≤ T.length) : (cgE T i).length = i * 5 := by rw [cgE, rawN_length, List.length_take, Nat.min_eq_left h]
theorem cg_loop {o : Ob} {M N L : AV} {ps : List Nat} {Q : AExit → St → Prop} (hM : closedA M = true) (hN : closedA N = true) (hL : closedA L = true) (hps : ∀ p ∈ ps, p < o.cust.length) (hb : ps.length ≤ big)
  (hq : Q (.exit 0) (cgV1 (obF o M N L (cusA o)) (ps.map nI) ps.length (cgE (ps.map (textAt o.cust)) ps.length)).st) :
  ∀ i, i ≤ ps.length → (0 < i → ALp Tryz.prog opts0.glob 0 (lpCode Tryz.prog 150 4) (cgV1 (obF o M N L (cusA o)) (ps.map nI) i (cgE (ps.map (textAt o.cust)) i)).st Q) := by
 have hO := closed_obF o hM hN hL (closed_cusA o)
 have hP := closed_nIs ps
 have hlen : lenN (ps.map nI) = ps.length := by rw [lenN_eq, List.length_map]
 have hb : ps.length ≤ 1099511627776 := hb
 have hE : ∀ i, closedAll (cgE (ps.map (textAt o.cust)) i) = true := fun i => closed_flatN _
 refine count_up _ (fun _ => ?_) (fun i hi ih h0 => ?_)
 ·refine ALp.round (A := cgA 0 [] []) (V1 := cgV1 (obF o M N L (cusA o)) (ps.map nI) 0 []) (V2 := cgV1 (obF o M N L (cusA o)) (ps.map nI) 0 []) (F := cgV1 (obF o M N L (cusA o)) (ps.map nI) ps.length (cgE (ps.map (textAt o.cust)) ps.length)) (lk := [(0, 0), (1, 15)]) (lk' := [(0, 0), (1, 1)]) base0 aidJ_ok (LsOk.no rfl) .refl ?_
  rw [cg_1]
  refine mtB_of (fun h => ?_) (fun _ => ⟨⟨⟨⟨rfl, closed_fslA hP⟩, ⟨rfl, rfl⟩, ⟨rfl, rfl⟩, trivial⟩, ⟨⟨rfl, rfl⟩, ⟨rfl, rfl, rfl, rfl, rfl⟩, trivial⟩, ⟨rfl, hO⟩, ⟨rfl, hE _⟩, trivial⟩, hq⟩)
  have h := ltInt_iff.1 h
  simp only [hlen, Int.ofNat_eq_natCast] at h
  omega
 ·have g1 := List.getElem?_eq_getElem hi
  have hp := hps _ (List.getElem_mem hi)
  have hT : (ps.map (textAt o.cust))[i]? = some (textAt o.cust ps[i]) := by rw [List.getElem?_map, g1]; rfl
  have hs := cgE_succ hT
  revert g1 hp hs
  generalize ps[i] = p
  intro g1 hp hs
  have g2 := List.getElem?_eq_getElem hp
  have htx : textAt o.cust p = (o.cust[p]).text := by simp [textAt, hp]
  rw [htx] at hs
  revert g2 hs
  generalize o.cust[p] = c
  intro hs g2
  have ih := ih (by omega)
  refine ALp.round (A := cgA p c.name c.text) (V1 := cgV1 (obF o M N L (cusA o)) (ps.map nI) (i + 1) (cgE (ps.map (textAt o.cust)) (i + 1))) (V2 := cgV1 (obF o M N L (cusA o)) (ps.map nI) (i + 1) (cgE (ps.map (textAt o.cust)) (i + 1))) (F := cgV1 (obF o M N L (cusA o)) (ps.map nI) i (cgE (ps.map (textAt o.cust)) i)) (lk := [(0, 0), (1, 15)]) (lk' := [(0, 0), (1, 1)]) base0 aidJ_ok (LsOk.no rfl) .refl ?_
  rw [cg_1]
  refine mtB_of (fun _ => ⟨idxP g1, idxC g2, oblB_of ?_ (oblB_of ?_ ⟨⟨⟨⟨rfl, closed_fslA hP⟩, ⟨rfl, rfl⟩, ⟨?_, rfl⟩, trivial⟩, ⟨⟨rfl, rfl⟩, ⟨rfl, rfl, rfl, rfl, rfl⟩, trivial⟩, ⟨rfl, hO⟩, ⟨hs, hE _⟩, trivial⟩, ih⟩)⟩) (fun h => ?_)
  ·have hi2 : (i + 1) * 72 ≤ 140737488355328 := by omega
   simp only [Bool.and_eq_true, Nat.ble_eq]
   exact ⟨rfl, hi2, rfl, trivial⟩
  ·rw [beq_iff, lenN_eq, cgE_len (by rw [List.length_map]; omega)]
  ·rw [wrapA_i64 (by simp; omega) (by simp; omega)]; rfl
  ·have h := ltInt_false.1 h
   simp only [hlen, Int.ofNat_eq_natCast] at h
   omega
theorem cg_at : loopsAt (fnCode Tryz.prog 150) 4 = [lpCode Tryz.prog 150 4] := by kernel_rfl
theorem g_cus_sem (o : Ob) (s : List UInt8) (hb : o.cust.length ≤ big) : SC 150 [obA o, .fptr [.str s] 0] (.fsl false (itAs (getK o (.cus s)))) := by
 have hpl := places_sem o s (closed_mat o) (closed_nam o) (closed_lnk o) hb
 have htx := texts_at s o.cust []
 have hlt := placesL_lt s o.cust 0
 have hln := placesL_len s o.cust 0
 simp only [List.length_nil, List.nil_append] at htx
 have hget : itAs (getK o (.cus s)) = itAs (((o.cust.filter fun c => beqBytes c.name s).map Cu.text).map txt) := by rw [List.map_map]; rfl
 rw [hget, ← htx]
 clear hget htx
 revert hpl hlt hln
 generalize placesL s o.cust 0 = ps
 intro hpl hlt hln
 have hps : ∀ p ∈ ps, p < o.cust.length := fun p hp => by have := hlt p hp; omega
 have hO := closed_obC o
 have hcl : closedAll [obA o, .fptr [.str s] 0] = true := by simp only [closedAll, obA, closedA, hO, Bool.and_self]
 cases ps with
 | nil =>
  refine fnK_semX (A := aidJ [] [(4, cgL (obC o) [] (cgV0 (obC o) [] 0))] (manyS [(151, .fsl false [])]) [] []) base0 aidJ_ok
   (fnLs_of (LsOk.at1 rfl cg_at fun st Q hs => .seen base0.glob hs.1 ?_)) hcl ?_
  ·refine ALp.round (A := cgA 0 [] []) (V1 := cgV1 (obC o) [] 1 []) (V2 := cgV1 (obC o) [] 1 []) (F := cgV0 (obC o) [] 0) (lk := [(0, 0), (1, 15)]) (lk' := [(0, 0)]) base0 aidJ_ok (LsOk.no rfl) .refl ?_
   simp only [obC]
   rw [cg_0]
   refine mtB_of (fun h => by cases h) (fun _ => ⟨⟨⟨⟨rfl, rfl⟩, ⟨rfl, rfl⟩, ⟨rfl, rfl⟩, ⟨rfl, rfl⟩, trivial⟩, ⟨⟨rfl, rfl⟩, trivial⟩, ⟨rfl, hO⟩, trivial⟩, hs.2⟩)
  ·simp only [obA, obC]
   rw [cg_fn0]
   exact ⟨hpl, ⟨⟨⟨rfl, rfl⟩, ⟨rfl, rfl⟩, ⟨rfl, rfl⟩, ⟨rfl, rfl⟩, trivial⟩, ⟨⟨rfl, rfl⟩, trivial⟩, ⟨rfl, hO⟩, trivial⟩, .nilsl, ⟨1, rfl⟩, rfl, .nil⟩
 | cons p r =>
  have hlen : lenN ((p :: r).map nI) = (p :: r).length := by rw [lenN_eq, List.length_map]
  have hP := closed_nIs (p :: r)
  have hb' : (p :: r).length ≤ big := Nat.le_trans hln hb
  refine fnK_semX (A := aidJ [] [(4, cgL (obC o) ((p :: r).map nI) (cgV1 (obC o) ((p :: r).map nI) (lenN ((p :: r).map nI)) (cgE ((p :: r).map (textAt o.cust)) (p :: r).length)))] (manyS [(151, .fsl false ((p :: r).map nI))]) [] []) base0 aidJ_ok
   (fnLs_of (LsOk.at1 rfl cg_at fun st Q hs => .seen base0.glob hs.1 ?_)) hcl ?_
  ·have hp := hps p (by simp)
   have g2 := List.getElem?_eq_getElem hp
   have htx : textAt o.cust p = (o.cust[p]).text := by simp [textAt, hp]
   have hT : ((p :: r).map (textAt o.cust))[0]? = some (textAt o.cust p) := rfl
   have hs1 := cgE_succ hT
   rw [htx] at hs1
   revert g2 hs1
   generalize o.cust[p] = c
   intro g2 hs1
   have hs1 : flat [rawN c.text] = cgE ((p :: r).map (textAt o.cust)) 1 := hs1
   have hq := hs.2
   rw [hlen] at hq
   refine ALp.round (A := cgA p c.name c.text) (V1 := cgV1 (obC o) ((p :: r).map nI) 1 (cgE ((p :: r).map (textAt o.cust)) 1)) (V2 := cgV1 (obC o) ((p :: r).map nI) 1 (cgE ((p :: r).map (textAt o.cust)) 1)) (F := cgV0 (obC o) ((p :: r).map nI) 0) (lk := [(0, 0), (1, 15)]) (lk' := [(0, 0)]) base0 aidJ_ok (LsOk.no rfl) .refl ?_
   have hnext := cg_loop (closed_mat o) (closed_nam o) (closed_lnk o) hps hb' hq 1 (by simp) (by omega)
   simp only [obC]
   rw [cg_0]
   refine mtB_of (fun _ => ⟨idxP (i := 0) rfl, idxC g2, ⟨⟨⟨rfl, closed_fslA hP⟩, ⟨rfl, rfl⟩, ⟨rfl, rfl⟩, trivial⟩, ⟨⟨rfl, rfl⟩, ⟨rfl, rfl, rfl, rfl, rfl⟩, trivial⟩, ⟨rfl, hO⟩, ⟨hs1, closed_flatN _⟩, trivial⟩, hnext⟩) (fun h => ?_)
   have h := ltInt_false.1 h
   simp only [hlen, Int.ofNat_eq_natCast, List.length_cons] at h
   omega
  ·simp only [obA, obC]
   rw [cg_fn1]
   refine ⟨hpl, ⟨⟨⟨rfl, rfl⟩, ⟨rfl, closed_fslA hP⟩, ⟨rfl, rfl⟩, ⟨rfl, rfl⟩, trivial⟩, ⟨⟨rfl, rfl⟩, trivial⟩, ⟨rfl, hO⟩, trivial⟩, .fsl false (((p :: r).map (textAt o.cust)).map rawN), Frz.out (Frz.row (c := cgE ((p :: r).map (textAt o.cust)) (p :: r).length) (es := ((p :: r).map (textAt o.cust)).map rawN) rfl rfl ?_ ?_ (good_rawN _) (closed_rawN _)), closed_fslA (closed_rawN _), wk_rawN _⟩
   ·rw [cgE, List.take_of_length_le (by simp)]
   ·rw [hlen, List.length_map, List.length_map]
end Go.Proofs.YtjhggnebkfpgcaaGreatDoor
