/- The names of all attributes, as the product tells them: what is answered. -/
import Derived.Test.YtjhggnebkfpgcaaGreatDoorNamesW
import Derived.KernelRfl
namespace Go.Proofs.YtjhggnebkfpgcaaGreatDoor
set_option maxRecDepth 20000
open Go Go.RowKit
open Go.Proofs.Abs
def ixO (s : List UInt8) : List (List UInt8) → Nat → Option Nat
 | [], _ => none
 | x :: r, i => match beqBytes s x with
  | true => some i
  | false => ixO s r (i + 1)
theorem ixO_none {s : List UInt8} : ∀ {l : List (List UInt8)} {i : Nat}, inN s l = false → ixO s l i = none
 | [], _, _ => rfl
 | x :: r, i, h => by
  rw [inN, List.any_cons, Bool.or_eq_false_iff] at h
  have h1 : beqBytes s x = false := beqBytes_no fun e => by subst e; rw [beqBytes_iff.2 rfl] at h; cases h.1
  rw [ixO, h1]
  exact ixO_none h.2
theorem ixO_some {s : List UInt8} : ∀ {l : List (List UInt8)} {i : Nat}, inN s l = true → ∃ j, ixO s l i = some j
 | [], _, h => by cases h
 | x :: r, i, h => by
  rw [ixO]
  cases hb : beqBytes s x with
  | true => exact ⟨i, rfl⟩
  | false =>
   rw [inN, List.any_cons] at h
   have h1 : beqBytes x s = false := beqBytes_no fun e => by subst e; rw [beqBytes_iff.2 rfl] at hb; cases hb
   rw [h1, Bool.false_or] at h
   exact ixO_some h
def ixQ (Q : AExit → St → Prop) (es : List AV) : Option Nat → Prop
 | none => Q (.exit 0) (ixF 0 es).st
 | some j => Q .ret (ixF (.ofNat j) es).st
theorem ix_loop {s : List UInt8} {l : List (List UInt8)} {Q : AExit → St → Prop} (hb : l.length ≤ 100000) : ∀ i, i ≤ l.length → (ixQ Q (l.map .str) (ixO s (l.drop i) i) → ALp Tryz.prog opts0.glob 17 (lpCode Tryz.prog 141 3) (ixV s l.length i (l.map .str)).st Q) := by
 have hc := closed_strs l
 refine cnt_up _ (fun hq => ?_) (fun i hi ih hq => ?_)
 ·rw [List.drop_of_length_le (Nat.le_refl _)] at hq
  refine ALp.round (A := ixA []) (V1 := ixV s l.length 0 (l.map .str)) (V2 := ixV s l.length 0 (l.map .str)) (F := ixF 0 (l.map .str)) (lk := idl 17) (lk' := idl 17) base0 aidJ_ok (LsOk.no rfl) .refl ?_
  rw [ix_r]
  refine mtB_of (fun h => ?_) (fun _ => ⟨⟨⟨⟨rfl, rfl⟩, trivial⟩, trivial, ⟨rfl, hc⟩, trivial⟩, hq⟩)
  have h := ltInt_iff.1 h
  simp only [Int.ofNat_eq_natCast] at h
  omega
 ·have g1 := List.getElem?_eq_getElem hi
  rw [List.drop_eq_getElem_cons hi] at hq
  revert g1 hq
  generalize l[i] = x
  intro hq g1
  have hob : (nonneg (Int.ofNat i) && ((Int.ofNat i).toNat.blt l.length && true)) = true := by
   simp only [nonneg, Bool.true_and, Bool.and_true]
   exact blt_iff.2 hi
  have hw : wrapA .i64 (Int.ofNat i + 1) = Int.ofNat (i + 1) := wrapA_i64 (by simp; omega) (by simp; omega)
  rw [ixO] at hq
  cases hx : beqBytes s x with
  | true =>
   rw [hx] at hq
   refine ALp.round (A := ixA x) (V1 := ixV s l.length (i + 1) (l.map .str)) (V2 := ixV s l.length (i + 1) (l.map .str)) (F := ixF (.ofNat i) (l.map .str)) (lk := idl 17) (lk' := idl 17) base0 aidJ_ok (LsOk.no rfl) .refl ?_
   rw [ix_r]
   exact mtB_of (fun _ => oblB_of hob ⟨part_str g1, mtB_of (fun _ => ⟨⟨⟨⟨rfl, rfl⟩, trivial⟩, trivial, ⟨rfl, hc⟩, trivial⟩, hq⟩) (fun h => by rw [hx] at h; cases h)⟩) (fun h => absurd h (lt_no hi))
  | false =>
   rw [hx] at hq
   have hn := ih hq
   refine ALp.round (A := ixA x) (V1 := ixV s l.length (i + 1) (l.map .str)) (V2 := ixV s l.length (i + 1) (l.map .str)) (F := ixF 0 (l.map .str)) (lk := idl 17) (lk' := idl 17) base0 aidJ_ok (LsOk.no rfl) .refl ?_
   rw [ix_r, hw]
   exact mtB_of (fun _ => oblB_of hob ⟨part_str g1, mtB_of (fun h => by rw [hx] at h; cases h) (fun _ => ⟨⟨⟨⟨rfl, rfl⟩, ⟨rfl, rfl⟩, ⟨rfl, rfl⟩, ⟨rfl, rfl⟩, trivial⟩, ⟨⟨rfl, rfl, rfl, rfl, rfl⟩, trivial⟩, ⟨rfl, hc⟩, trivial⟩, hn⟩)⟩) (fun h => absurd h (lt_no hi))
theorem ix_at : loopsAt (fnCode Tryz.prog 141) 3 = [lpCode Tryz.prog 141 3] := by kernel_rfl
theorem ix_body0 {l : List (List UInt8)} {s : List UInt8} (hb : l.length ≤ 100000) (h : inN s l = false) : BodySem Tryz.prog opts0.glob 141 [.rsl true 0 0 l.length 1, .str s] [(0, some (.cells (l.map .str)))] 17 (I (-1)) [(0, some (.cells (l.map .str)))] 37 := by
 have hc := closed_strs l
 have hi := ixO_none (i := 0) h
 refine fnK_bodyX (k := 1) (A := aidJ [] [(3, ixL0 s l.length (l.map .str))] noSem [] []) base0 aidJ_ok
  (fnLs_of (LsOk.at1 rfl ix_at fun st Q hs => .seen base0.glob hs.1 (ix_loop hb 0 (Nat.zero_le _) (by rw [List.drop_zero, hi]; exact hs.2)))) ?_
 rw [ix_fn0]
 exact ⟨⟨⟨⟨rfl, rfl⟩, ⟨rfl, rfl⟩, ⟨rfl, rfl⟩, ⟨rfl, rfl⟩, trivial⟩, ⟨⟨rfl, rfl, rfl, rfl, rfl⟩, trivial⟩, ⟨rfl, hc⟩, trivial⟩, ⟨rfl, ⟨I (-1), Frz.closed _ rfl, .refl _⟩, ⟨rfl, .cells (l.map .str), .cells (l.map .str), rfl, FrzL.closed _ hc, WkL.refl _⟩, trivial⟩⟩
theorem ix_body1 {l : List (List UInt8)} {s : List UInt8} {j : Nat} (hb : l.length ≤ 100000) (hi : ixO s l 0 = some j) : BodySem Tryz.prog opts0.glob 141 [.rsl true 0 0 l.length 1, .str s] [(0, some (.cells (l.map .str)))] 17 (I (.ofNat j)) [(0, some (.cells (l.map .str)))] 37 := by
 have hc := closed_strs l
 refine fnK_bodyX (k := 1) (A := aidJ [] [(3, ixL1 s l.length (.ofNat j) (l.map .str))] noSem [] []) base0 aidJ_ok
  (fnLs_of (LsOk.at1 rfl ix_at fun st Q hs => .seen base0.glob hs.1 (ix_loop hb 0 (Nat.zero_le _) (by rw [List.drop_zero, hi]; exact hs.2)))) ?_
 rw [ix_fn1]
 exact ⟨⟨⟨⟨rfl, rfl⟩, ⟨rfl, rfl⟩, ⟨rfl, rfl⟩, ⟨rfl, rfl⟩, trivial⟩, ⟨⟨rfl, rfl, rfl, rfl, rfl⟩, trivial⟩, ⟨rfl, hc⟩, trivial⟩, ⟨rfl, ⟨I (.ofNat j), Frz.closed _ rfl, .refl _⟩, ⟨rfl, .cells (l.map .str), .cells (l.map .str), rfl, FrzL.closed _ hc, WkL.refl _⟩, trivial⟩⟩
theorem ix_none (s : List UInt8) : SC 141 [.nilsl, .str s] (I (-1)) := by
 refine fnK_semV (A := aid0) base0 aidOk0 (fnLs_of (LsOk.no rfl)) rfl rfl ?_
 rw [ix_nil]
 rfl
theorem nmS_snoc (a : At) : ∀ (l : List At) (out : List (List UInt8)), nmS out (l ++ [a]) = match inN a.name (nmS out l) with
  | true => nmS out l
  | false => nmS out l ++ [a.name]
 | [], out => by rw [List.nil_append, nmS, nmS]; rfl
 | b :: r, out => by
  rw [List.cons_append, nmS, nmS]
  cases inN b.name out with
  | true => exact nmS_snoc a r out
  | false => exact nmS_snoc a r _
theorem nmS_len : ∀ (l : List At) (out : List (List UInt8)), (nmS out l).length ≤ out.length + l.length
 | [], _ => Nat.le_refl _
 | a :: r, out => by
  rw [nmS, List.length_cons]
  split
  ·have := nmS_len r out; omega
  ·have := nmS_len r (out ++ [a.name])
   rw [List.length_append, List.length_singleton] at this
   omega
theorem idxAt {f : Bool} {l : List At} {i : Nat} {s : List UInt8} {k t y n : Int} {d : List UInt8} {ks : List It} (hx : l[i]? = some ⟨s, k, .mk t y n d ks⟩) : indexAddrA Tryz.prog 43 (.fsl f (l.map atA)) (.int .i64 (.ofNat i)) = some (.fptr (.str s :: I k :: itF t y n (toBytes d) (itAs ks)) 0) :=
 fsl_index (v := atA ⟨s, k, .mk t y n d ks⟩) (e := 39) (sz := 7) (by kernel_rfl) (by kernel_rfl) (by rw [List.getElem?_map, hx]; rfl) rfl
theorem ns_loop {L : List At} (hb : L.length ≤ 90000) {Q : AExit → St → Prop} (hq : Q (.exit 0) (nsV1 (.ofNat L.length) (.ofNat L.length) (nmS [] L).length (L.map atA) ((nmS [] L).map .str)).st) :
  ∀ m i : Nat, i + m = L.length → ALp Tryz.prog opts0.glob 0 (lpCode Tryz.prog 41 4) (nsV1 (.ofNat i) (.ofNat L.length) (nmS [] (L.take i)).length (L.map atA) ((nmS [] (L.take i)).map .str)).st Q := by
 have hL := closed_ats L
 intro m
 induction m with
 | zero =>
  intro i hi
  rw [Nat.add_zero] at hi
  subst hi
  rw [List.take_of_length_le (Nat.le_refl _)]
  have hc := closed_strs (nmS [] L)
  refine ALp.round (A := nsA (.str [] :: I 0 :: itF 0 0 0 [] []) (.ofNat 0) ((nmS [] L).map .str)) (V1 := nsV1 0 (.ofNat L.length) 0 (L.map atA) []) (V2 := nsV1 0 (.ofNat L.length) 0 (L.map atA) []) (F := nsV1 (.ofNat L.length) (.ofNat L.length) (nmS [] L).length (L.map atA) ((nmS [] L).map .str)) (lk := [(0, 0)]) (lk' := [(0, 0)]) base0 aidJ_ok (LsOk.no rfl) .refl ?_
  rw [ns_r2]
  refine mtB_of (fun e => ?_) (fun _ => ⟨⟨⟨⟨rfl, hL⟩, ⟨rfl, rfl⟩, ⟨rfl, rfl⟩, trivial⟩, ⟨⟨rfl, rfl, rfl, rfl, rfl⟩, trivial⟩, ⟨rfl, hc⟩, trivial⟩, hq⟩)
  have e := ltInt_iff.1 e
  omega
 | succ m ih =>
  intro i hi
  have hlt : i < L.length := by omega
  have g := List.getElem?_eq_getElem hlt
  have ih := ih (i + 1) (by omega)
  rw [take_snoc g, nmS_snoc] at ih
  have hpl := nmS_len (L.take i) []
  have htl := List.length_take_le i L
  rw [List.length_nil, Nat.zero_add] at hpl
  revert g ih hpl
  generalize L[i] = a
  generalize nmS [] (L.take i) = out
  obtain ⟨s, idx, ⟨t, y, q, d, ks⟩⟩ := a
  intro g ih hpl
  have hix := idxAt (f := false) g
  have hc := closed_strs out
  have hob : out.length ≤ 100000 := by rw [List.length_take] at hpl; omega
  have hw : wrapA .i64 (Int.ofNat i + 1) = Int.ofNat (i + 1) := wrapA_i64 (by simp; omega) (by simp; omega)
  simp only at ih
  cases hin : inN s out with
  | true =>
   rw [hin] at ih
   obtain ⟨j, hj⟩ := ixO_some (i := 0) hin
   refine ALp.round (A := nsA (.str s :: I idx :: itF t y q (toBytes d) (itAs ks)) (.ofNat j) (out.map .str)) (V1 := nsV1 (.ofNat (i + 1)) (.ofNat L.length) out.length (L.map atA) (out.map .str)) (V2 := nsV1 (.ofNat (i + 1)) (.ofNat L.length) out.length (L.map atA) (out.map .str)) (F := nsV1 (.ofNat i) (.ofNat L.length) out.length (L.map atA) (out.map .str)) (lk := [(0, 0)]) (lk' := [(0, 0)]) base0 aidJ_ok (LsOk.no rfl) .refl ?_
   rw [ns_r2, hw]
   exact mtB_of (fun _ => ⟨hix, ix_body1 hob hj, ⟨⟨⟨rfl, hL⟩, ⟨rfl, rfl⟩, ⟨rfl, rfl⟩, trivial⟩, ⟨⟨rfl, rfl, rfl, rfl, rfl⟩, trivial⟩, ⟨rfl, hc⟩, trivial⟩, ih⟩) (fun e => absurd e (lt_no hlt))
  | false =>
   rw [hin] at ih
   simp only [List.length_append, List.length_singleton, List.map_append, List.map_cons, List.map_nil] at ih
   refine ALp.round (A := nsA (.str s :: I idx :: itF t y q (toBytes d) (itAs ks)) (-1) (out.map .str)) (V1 := nsV1 (.ofNat (i + 1)) (.ofNat L.length) (out.length + 1) (L.map atA) (out.map .str ++ [.str s])) (V2 := nsV1 (.ofNat (i + 1)) (.ofNat L.length) (out.length + 1) (L.map atA) (out.map .str ++ [.str s])) (F := nsV1 (.ofNat i) (.ofNat L.length) out.length (L.map atA) (out.map .str)) (lk := [(0, 41)]) (lk' := [(0, 0)]) base0 aidJ_ok (LsOk.no rfl) .refl ?_
   rw [ns_r1, hw]
   refine mtB_of (fun _ => ⟨hix, ix_body0 hob hin, oblB_of ?_ (oblB_of ?_ ⟨⟨⟨⟨rfl, hL⟩, ⟨rfl, rfl⟩, ⟨rfl, rfl⟩, trivial⟩, ⟨⟨rfl, rfl, rfl, rfl, rfl⟩, trivial⟩, ⟨rfl, ?_⟩, trivial⟩, ih⟩)⟩) (fun e => absurd e (lt_no hlt))
   ·simp [allSize, allOne, flat, AV.cells, lenN]; omega
   ·rw [beq_iff, lenN_eq, List.length_map, Nat.mul_one]
   ·rw [closedAll_append, hc]; rfl
theorem ns_at : loopsAt (fnCode Tryz.prog 41) 4 = [lpCode Tryz.prog 41 4] := by kernel_rfl
theorem all_cons (o : Ob) : ∃ r, allS o = ⟨nameK .uid, 0, txt o.id⟩ :: r := ⟨_, rfl⟩
theorem names_sem {o : Ob} (ho : FitO o) (hg : ∀ k, OkG o k) (hC : ∀ c ∈ o.cust, c.name ∈ cnL) : SC 41 [obA o] (.fsl false ((namesS o).map .str)) := by
 have hall := all_sem ho hg hC
 have hcl : closedAll [obA o] = true := closed_oc o (c := []) rfl
 have hb : (allS o).length ≤ 90000 := by
  have h1 := stdT_len hg kinds
  have h2 := cusR_len o.cust []
  have h3 := wk_cusR o.cust []
  have h4 := h3.len
  have h5 := ho.c
  rw [h2, List.length_map] at h4
  rw [show kinds.length = 20 from rfl] at h1
  rw [allS, List.length_append]
  omega
 have hlen : lenN ((allS o).map atA) = (allS o).length := by rw [lenN_eq, List.length_map]
 have hL := closed_ats (allS o)
 have hc := closed_strs (namesS o)
 refine fnK_semX (A := aidJ [] [(4, nsL (.ofNat (lenN ((allS o).map atA))) (namesS o).length ((allS o).map atA) ((namesS o).map .str))] (manyS [(40, .fsl false ((allS o).map atA))]) [] []) base0 aidJ_ok
  (fnLs_of (LsOk.at1 rfl ns_at fun st Q hs => .seen base0.glob hs.1 ?_)) hcl ?_
 ·have hq := hs.2
  rw [hlen] at hq ⊢
  have h1 := ns_loop hb hq
  obtain ⟨r, hr⟩ := all_cons o
  have h2 := h1 r.length 1 (by rw [hr, List.length_cons]; omega)
  have g : (allS o)[0]? = some ⟨nameK .uid, 0, txt o.id⟩ := by rw [hr]; rfl
  have e1 : nmS [] ((allS o).take 1) = [nameK .uid] := by rw [hr]; rfl
  rw [e1] at h2
  have hix := idxAt (f := false) g
  refine ALp.round (A := nsA (.str (nameK .uid) :: I 0 :: itF 4325387 7 0 (toBytes o.id) (itAs [])) 0 []) (V1 := nsV1 (.ofNat 1) (.ofNat (allS o).length) 1 ((allS o).map atA) [.str (nameK .uid)]) (V2 := nsV1 (.ofNat 1) (.ofNat (allS o).length) 1 ((allS o).map atA) [.str (nameK .uid)]) (F := nsV0 (.ofNat (allS o).length) ((allS o).map atA)) (lk := [(0, 20)]) (lk' := []) base0 aidJ_ok (LsOk.no rfl) .refl ?_
  rw [ns_r0]
  refine mtB_of (fun _ => ⟨hix, ix_none _, ⟨⟨⟨rfl, hL⟩, ⟨rfl, rfl⟩, ⟨rfl, rfl⟩, trivial⟩, ⟨⟨rfl, rfl, rfl, rfl, rfl⟩, trivial⟩, ⟨rfl, rfl⟩, trivial⟩, h2⟩) (fun e => ?_)
  have e := ltInt_false.1 e
  rw [hr, List.length_cons] at e
  simp only [Int.ofNat_eq_natCast] at e
  omega
 ·unfold obA obC at *
  rw [ns_fn]
  exact ⟨hall, ⟨⟨⟨rfl, rfl⟩, ⟨rfl, hL⟩, ⟨rfl, rfl⟩, ⟨rfl, rfl⟩, trivial⟩, trivial, trivial⟩, .fsl false ((namesS o).map .str), (Frz.row rfl rfl (flat_strs _).symm (by rw [List.length_map]) (fun e he => by obtain ⟨a, _, rfl⟩ := List.mem_map.1 he; exact good_str a) hc).out, hc, .refl _⟩
end Go.Proofs.YtjhggnebkfpgcaaGreatDoor
