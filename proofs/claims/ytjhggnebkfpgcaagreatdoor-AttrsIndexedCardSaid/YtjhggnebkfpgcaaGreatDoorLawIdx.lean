/- AttrsIndexed: the law's run. -/
import Derived.Test.YtjhggnebkfpgcaaGreatDoorIdxW
import Derived.Test.YtjhggnebkfpgcaaGreatDoorNamesP
import Derived.KernelRfl
namespace Go.Proofs.YtjhggnebkfpgcaaGreatDoor
set_option maxRecDepth 20000
open Go Go.RowKit
open Go.Proofs.Abs
theorem idxNs {l : List (List UInt8)} {i : Nat} {s : List UInt8} (h : l[i]? = some s) : indexAddrA Tryz.prog 27 (.fsl false (l.map .str)) (.int .i64 (.ofNat i)) = some (.fptr [.str s] 0) :=
 fsl_index (v := .str s) (e := 9) (sz := 1) (by kernel_rfl) (by kernel_rfl) (by rw [List.getElem?_map, h]; rfl) rfl
theorem wr_n {p : Nat} (h : p ≤ 1000000) : wrapA .i64 (Int.ofNat p + 1) = Int.ofNat (p + 1) := wrapA_i64 (by simp; omega) (by simp; omega)
theorem lt_no2 {i : Nat} : ltInt (Int.ofNat i) (Int.ofNat i) = true → False := fun e => by
 have e := ltInt_iff.1 e
 omega
section
variable {s : List UInt8} {l : List It} {k i : Nat} {n : Int} {As Ns O : List AV} {Q : AExit → St → Prop}
theorem xj_loop (hl : l.Nodup) (hok : ∀ x ∈ l, okI big x) (hb : l.length ≤ 1000) (hk : k < l.length) (hA : closedAll As = true) (hN : closedAll Ns = true) (hO : closedAll O = true)
  (hq : Q (.exit 4) (xjV (.ofNat k) (.ofNat k) n (.ofNat i) ((tellL s l 0).map atA) As Ns O).st) :
  ∀ j, j ≤ k → ALp Tryz.prog opts0.glob 0 (lpCode Tryz.prog 9 20) (xjV (.ofNat j) (.ofNat k) n (.ofNat i) ((tellL s l 0).map atA) As Ns O).st Q := by
 have hM := closed_ats (tellL s l 0)
 refine cnt_up _ ?_ (fun j hj ih => ?_)
 ·refine ALp.round (A := xjA (.str [] :: I 0 :: itF 0 0 0 [] []) (.str [] :: I 0 :: itF 0 0 0 [] []) false) (V1 := xjV 0 (.ofNat k) n (.ofNat i) ((tellL s l 0).map atA) As Ns O) (V2 := xjV 0 (.ofNat k) n (.ofNat i) ((tellL s l 0).map atA) As Ns O) (F := xjV (.ofNat k) (.ofNat k) n (.ofNat i) ((tellL s l 0).map atA) As Ns O) (lk := [(0, 0)]) (lk' := [(0, 0)]) base0 aidJ_ok (LsOk.no rfl) .refl ?_
  rw [xj_r]
  exact mtB_of (fun e => (lt_no2 e).elim) fun _ => ⟨⟨⟨⟨rfl, rfl⟩, ⟨rfl, hM⟩, ⟨rfl, rfl⟩, ⟨rfl, hA⟩, ⟨rfl, hN⟩, ⟨rfl, rfl⟩, ⟨rfl, rfl⟩, trivial⟩, ⟨⟨rfl, rfl⟩, trivial⟩, ⟨rfl, hO⟩, trivial⟩, hq⟩
 ·have g1 := List.getElem?_eq_getElem (Nat.lt_trans hj hk)
  have g2 := List.getElem?_eq_getElem hk
  have hne : l[j]'(Nat.lt_trans hj hk) ≠ l[k] := List.pairwise_iff_getElem.1 hl j k (Nat.lt_trans hj hk) hk hj
  have hm := hok _ (List.getElem_mem (Nat.lt_trans hj hk))
  revert g1 g2 hne hm
  generalize l[j]'(Nat.lt_trans hj hk) = x
  generalize l[k] = z
  intro g1 g2 hne hm
  have hs := tsame_sem x z hm
  have hsf : sameI x z = false := by
   cases h : sameI x z with
   | false => rfl
   | true => exact absurd ((sameI_iff x z).1 h) hne
  rw [hsf] at hs
  have k1 := tell_get (s := s) (i := 0) g1
  have k2 := tell_get (s := s) (i := 0) g2
  obtain ⟨t, y, q, d, ks⟩ := x
  obtain ⟨t', y', q', d', ks'⟩ := z
  refine ALp.round (A := xjA (.str s :: I (.ofNat (0 + j)) :: itF t y q (toBytes d) (itAs ks)) (.str s :: I (.ofNat (0 + k)) :: itF t' y' q' (toBytes d') (itAs ks')) false) (V1 := xjV (.ofNat (j + 1)) (.ofNat k) n (.ofNat i) ((tellL s l 0).map atA) As Ns O) (V2 := xjV (.ofNat (j + 1)) (.ofNat k) n (.ofNat i) ((tellL s l 0).map atA) As Ns O) (F := xjV (.ofNat j) (.ofNat k) n (.ofNat i) ((tellL s l 0).map atA) As Ns O) (lk := [(0, 0)]) (lk' := [(0, 0)]) base0 aidJ_ok (LsOk.no rfl) .refl ?_
  rw [xj_r, wr_n (by omega)]
  exact mtB_of (fun _ => ⟨idxAt k1, idxAt k2, hs, mtB_of (fun e => by cases e) fun _ => ⟨⟨⟨⟨rfl, rfl⟩, ⟨rfl, hM⟩, ⟨rfl, rfl⟩, ⟨rfl, hA⟩, ⟨rfl, hN⟩, ⟨rfl, rfl⟩, ⟨rfl, rfl⟩, trivial⟩, ⟨⟨rfl, rfl⟩, trivial⟩, ⟨rfl, hO⟩, trivial⟩, ih⟩⟩) fun e => absurd e (lt_no hj)
theorem xj_at : loopsAt (lpCode Tryz.prog 9 15) 20 = [lpCode Tryz.prog 9 20] := by kernel_rfl
theorem xk_loop {ns : List (List UInt8)} (hs : ns[i]? = some s) (hl : l.Nodup) (hok : ∀ x ∈ l, okI big x) (hb : l.length ≤ 1000) (hA : closedAll As = true) (hO : closedAll O = true)
  (hq : Q (.exit 2) (xkV (.ofNat l.length) n (.ofNat i) ((tellL s l 0).map atA) As (ns.map .str) O).st) :
  ∀ k, k ≤ l.length → ALp Tryz.prog opts0.glob 0 (lpCode Tryz.prog 9 15) (xkV (.ofNat k) n (.ofNat i) ((tellL s l 0).map atA) As (ns.map .str) O).st Q := by
 have hM := closed_ats (tellL s l 0)
 have hN := closed_strs ns
 have hlen : lenN ((tellL s l 0).map atA) = l.length := by rw [lenN_eq, List.length_map, tell_length]
 refine cnt_up _ ?_ (fun k hk ih => ?_)
 ·refine ALp.round (A := xkA False (.str [] :: I 0 :: itF 0 0 0 [] []) s (.ofNat l.length) n (.ofNat i) ((tellL s l 0).map atA) As (ns.map .str) O) (V1 := xkV 0 n (.ofNat i) ((tellL s l 0).map atA) As (ns.map .str) O) (V2 := xkV 0 n (.ofNat i) ((tellL s l 0).map atA) As (ns.map .str) O) (F := xkV (.ofNat l.length) n (.ofNat i) ((tellL s l 0).map atA) As (ns.map .str) O) (lk := [(0, 0)]) (lk' := [(0, 0)]) base0 aidJ_ok (LsOk.at1 rfl xj_at fun st Q hs => hs.1.elim) .refl ?_
  rw [xk_r, hlen]
  exact mtB_of (fun e => (lt_no2 e).elim) fun _ => ⟨⟨⟨⟨rfl, hM⟩, ⟨rfl, rfl⟩, ⟨rfl, hA⟩, ⟨rfl, hN⟩, ⟨rfl, rfl⟩, ⟨rfl, rfl⟩, trivial⟩, ⟨⟨rfl, rfl⟩, trivial⟩, ⟨rfl, hO⟩, trivial⟩, hq⟩
 ·have g := List.getElem?_eq_getElem hk
  revert g
  generalize l[k] = x
  intro g
  have k1 := tell_get (s := s) (i := 0) g
  rw [Nat.zero_add] at k1
  obtain ⟨t, y, q, d, ks⟩ := x
  refine ALp.round (A := xkA True (.str s :: I (.ofNat k) :: itF t y q (toBytes d) (itAs ks)) s (.ofNat k) n (.ofNat i) ((tellL s l 0).map atA) As (ns.map .str) O) (V1 := xkV (.ofNat (k + 1)) n (.ofNat i) ((tellL s l 0).map atA) As (ns.map .str) O) (V2 := xkV (.ofNat (k + 1)) n (.ofNat i) ((tellL s l 0).map atA) As (ns.map .str) O) (F := xkV (.ofNat k) n (.ofNat i) ((tellL s l 0).map atA) As (ns.map .str) O) (lk := [(0, 0)]) (lk' := [(0, 0)]) base0 aidJ_ok
   (LsOk.at1 rfl xj_at fun st Q hs => .seen base0.glob hs.2.1 (xj_loop hl hok hb hk hA hN hO hs.2.2 0 (Nat.zero_le _))) .refl ?_
  rw [xk_r, hlen, wr_n (by omega)]
  exact mtB_of (fun _ => ⟨idxAt k1, mtB_of (fun e => by rw [beqInt_iff.2 rfl] at e; cases e) fun _ => ⟨idxAt k1, idxNs hs, mtB_of (fun e => by rw [beqBytes_iff.2 rfl] at e; cases e) fun _ =>
   ⟨trivial, ⟨⟨⟨rfl, rfl⟩, ⟨rfl, hM⟩, ⟨rfl, rfl⟩, ⟨rfl, hA⟩, ⟨rfl, hN⟩, ⟨rfl, rfl⟩, ⟨rfl, rfl⟩, trivial⟩, ⟨⟨rfl, rfl⟩, trivial⟩, ⟨rfl, hO⟩, trivial⟩, ⟨⟨⟨rfl, hM⟩, ⟨rfl, rfl⟩, ⟨rfl, hA⟩, ⟨rfl, hN⟩, ⟨rfl, rfl⟩, ⟨rfl, rfl⟩, trivial⟩, ⟨⟨rfl, rfl⟩, trivial⟩, ⟨rfl, hO⟩, trivial⟩, ih⟩⟩⟩) fun e => absurd e (lt_no hk)
end
theorem xx_loop {ns : List (List UInt8)} {i : Nat} {n : Int} {As O : List AV} {Q : AExit → St → Prop} (hn : ns.Nodup) (hi : i < ns.length) (hb : ns.length ≤ 1000) (hA : closedAll As = true) (hO : closedAll O = true)
  (hq : Q (.exit 6) (xxV (.ofNat i) n (.ofNat i) As (ns.map .str) O).st) :
  ∀ j, j ≤ i → ALp Tryz.prog opts0.glob 0 (lpCode Tryz.prog 9 26) (xxV (.ofNat j) n (.ofNat i) As (ns.map .str) O).st Q := by
 have hN := closed_strs ns
 refine cnt_up _ ?_ (fun j hj ih => ?_)
 ·refine ALp.round (A := xxA [] []) (V1 := xxV 0 n (.ofNat i) As (ns.map .str) O) (V2 := xxV 0 n (.ofNat i) As (ns.map .str) O) (F := xxV (.ofNat i) n (.ofNat i) As (ns.map .str) O) (lk := [(0, 0)]) (lk' := [(0, 0)]) base0 aidJ_ok (LsOk.no rfl) .refl ?_
  rw [xx_r]
  exact mtB_of (fun e => (lt_no2 e).elim) fun _ => ⟨⟨⟨⟨rfl, rfl⟩, ⟨rfl, hA⟩, ⟨rfl, hN⟩, ⟨rfl, rfl⟩, ⟨rfl, rfl⟩, trivial⟩, ⟨⟨rfl, rfl⟩, trivial⟩, ⟨rfl, hO⟩, trivial⟩, hq⟩
 ·have g1 := List.getElem?_eq_getElem (Nat.lt_trans hj hi)
  have g2 := List.getElem?_eq_getElem hi
  have hne : ns[j]'(Nat.lt_trans hj hi) ≠ ns[i] := List.pairwise_iff_getElem.1 hn j i (Nat.lt_trans hj hi) hi hj
  revert g1 g2 hne
  generalize ns[j]'(Nat.lt_trans hj hi) = x
  generalize ns[i] = z
  intro g1 g2 hne
  refine ALp.round (A := xxA x z) (V1 := xxV (.ofNat (j + 1)) n (.ofNat i) As (ns.map .str) O) (V2 := xxV (.ofNat (j + 1)) n (.ofNat i) As (ns.map .str) O) (F := xxV (.ofNat j) n (.ofNat i) As (ns.map .str) O) (lk := [(0, 0)]) (lk' := [(0, 0)]) base0 aidJ_ok (LsOk.no rfl) .refl ?_
  rw [xx_r, wr_n (by omega)]
  exact mtB_of (fun _ => ⟨idxNs g1, idxNs g2, mtB_of (fun e => by rw [beqBytes_no hne] at e; cases e) fun _ => ⟨⟨⟨⟨rfl, rfl⟩, ⟨rfl, hA⟩, ⟨rfl, hN⟩, ⟨rfl, rfl⟩, ⟨rfl, rfl⟩, trivial⟩, ⟨⟨rfl, rfl⟩, trivial⟩, ⟨rfl, hO⟩, trivial⟩, ih⟩⟩) fun e => absurd e (lt_no hj)
theorem xk_at : loopsAt (lpCode Tryz.prog 9 9) 15 = [lpCode Tryz.prog 9 15] := by kernel_rfl
theorem xx_at : loopsAt (lpCode Tryz.prog 9 9) 26 = [lpCode Tryz.prog 9 26] := by kernel_rfl
theorem xi_at : loopsAt (fnCode Tryz.prog 9) 9 = [lpCode Tryz.prog 9 9] := by kernel_rfl
def cntF (o : Ob) (s : List UInt8) : Nat := (ofN s (allS o)).length
def sumAt (o : Ob) (i : Nat) : Nat := sumN (((namesS o).take i).map (cntF o))
theorem wr_add {a b : Nat} (h : a + b ≤ 1000000) : wrapA .i64 (Int.ofNat a + Int.ofNat b) = Int.ofNat (a + b) := wrapA_i64 (by simp; omega) (by simp; omega)
theorem xi_loop {o : Ob} (ho : OxF o) (hb : (allS o).length ≤ 90000) (hnb : (namesS o).length ≤ 1000) {Q : AExit → St → Prop}
  (hq : Q (.exit 0) (xiV (.ofNat (sumAt o (namesS o).length)) (.ofNat (namesS o).length) ((allS o).map atA) ((namesS o).map .str) (obC o)).st) :
  ∀ i, i ≤ (namesS o).length → ALp Tryz.prog opts0.glob 0 (lpCode Tryz.prog 9 9) (xiV (.ofNat (sumAt o i)) (.ofNat i) ((allS o).map atA) ((namesS o).map .str) (obC o)).st Q := by
 have ok := okay_of ho
 have hA := closed_ats (allS o)
 have hN := closed_strs (namesS o)
 have hO := closed_obC o
 have hlen : lenN ((namesS o).map AV.str) = (namesS o).length := by rw [lenN_eq, List.length_map]
 refine cnt_up _ ?_ (fun i hi ih => ?_)
 ·refine ALp.round (A := xiA False [] false 0 (.ofNat (sumAt o (namesS o).length)) 0 (.ofNat (namesS o).length) [] ((allS o).map atA) ((namesS o).map .str) (obC o)) (V1 := xiV 0 0 ((allS o).map atA) ((namesS o).map .str) (obC o)) (V2 := xiV 0 0 ((allS o).map atA) ((namesS o).map .str) (obC o)) (F := xiV (.ofNat (sumAt o (namesS o).length)) (.ofNat (namesS o).length) ((allS o).map atA) ((namesS o).map .str) (obC o)) (lk := [(0, 0)]) (lk' := [(0, 0)]) base0 aidJ_ok (LsOk.at2 rfl xk_at xx_at (fun st Q hs => hs.1.elim) (fun st Q hs => hs.1.elim)) .refl ?_
  unfold obC at hO hq ⊢
  rw [xi_r, hlen]
  exact mtB_of (fun e => (lt_no2 e).elim) fun _ => ⟨⟨⟨⟨rfl, hA⟩, ⟨rfl, hN⟩, ⟨rfl, rfl⟩, ⟨rfl, rfl⟩, trivial⟩, ⟨⟨rfl, rfl⟩, trivial⟩, ⟨rfl, hO⟩, trivial⟩, hq⟩
 ·have g := List.getElem?_eq_getElem hi
  have hmem := List.getElem_mem hi
  revert g hmem
  generalize (namesS o)[i] = s
  intro g hmem
  obtain ⟨k, hk, hof, hne, hcnt⟩ := names_kd ho hmem
  have hc := cus_sem s (names_in ho hmem)
  have hofs := ofn_sem ok.fit hc ok.g
  have hmany := many_sem hc
  rw [hof] at hofs
  have hmn : manyS' (cusB s) s = manyK k := by rw [manyS', hk]
  rw [hmn] at hmany
  have hnd := get_nodup ho k
  have hokl := (ok.g k).i
  have hbl := (ok.g k).n
  have hone := get_one (o := o) (k := k)
  revert hofs hne hcnt hnd hokl hbl hone
  generalize getK o k = l
  intro hne hcnt hofs hnd hokl hbl hone
  have hml : lenN ((tellL s l 0).map atA) = l.length := by rw [lenN_eq, List.length_map, tell_length]
  have hM := closed_ats (tellL s l 0)
  have hsum : sumAt o (i + 1) = sumAt o i + l.length := by rw [sumAt, sum_take _ g, ← hcnt]; rfl
  have hle : sumAt o i ≤ (allS o).length := by
   have := sum_le (cntF o) (namesS o) i
   rw [show sumN ((namesS o).map (cntF o)) = (allS o).length from names_sum o] at this
   exact this
  have hpos : 0 < l.length := List.length_pos_iff.2 hne
  have hle2 : l.length ≤ (allS o).length := by rw [← hcnt]; exact List.length_filter_le _ _
  rw [hsum] at ih
  refine ALp.round (A := xiA True s (manyK k) (.ofNat l.length) (.ofNat (sumAt o i)) (.ofNat (sumAt o i + l.length)) (.ofNat i) ((tellL s l 0).map atA) ((allS o).map atA) ((namesS o).map .str) (obC o)) (V1 := xiV (.ofNat (sumAt o i + l.length)) (.ofNat (i + 1)) ((allS o).map atA) ((namesS o).map .str) (obC o)) (V2 := xiV (.ofNat (sumAt o i + l.length)) (.ofNat (i + 1)) ((allS o).map atA) ((namesS o).map .str) (obC o)) (F := xiV (.ofNat (sumAt o i)) (.ofNat i) ((allS o).map atA) ((namesS o).map .str) (obC o)) (lk := [(0, 0)]) (lk' := [(0, 0)]) base0 aidJ_ok
   (LsOk.at2 rfl xk_at xx_at (fun st Q hs => .seen base0.glob hs.2.1 (xk_loop g hnd hokl hbl hA hO hs.2.2 0 (Nat.zero_le _))) (fun st Q hs => .seen base0.glob hs.2.1 (xx_loop (names_nodup o) hi hnb hA hO hs.2.2 0 (Nat.zero_le _)))) .refl ?_
  unfold obA at hofs
  unfold obC at hO hofs ih ⊢
  rw [xi_r, hml, wr_add (by omega), wr_n (by omega), hlen]
  refine mtB_of (fun _ => ⟨idxNs g, hofs, mtB_of (fun e => ?_) fun _ => mtB_of (fun e => ⟨idxNs g, hmany, mtB_of (fun e2 => ?_) fun _ => ?_⟩) fun _ => ?_⟩) fun e => absurd e (lt_no hi)
  ·have e := beqInt_iff.1 e
   simp only [Int.ofNat_eq_natCast] at e
   omega
  ·rw [Bool.not_eq_true'] at e2
   have h1 := hone e2
   have e := ltInt_iff.1 e
   simp only [Int.ofNat_eq_natCast] at e
   omega
  all_goals exact ⟨trivial, ⟨⟨⟨rfl, hM⟩, ⟨rfl, rfl⟩, ⟨rfl, hA⟩, ⟨rfl, hN⟩, ⟨rfl, rfl⟩, ⟨rfl, rfl⟩, trivial⟩, ⟨⟨rfl, rfl⟩, trivial⟩, ⟨rfl, hO⟩, trivial⟩, trivial, ⟨⟨⟨rfl, rfl⟩, ⟨rfl, hA⟩, ⟨rfl, hN⟩, ⟨rfl, rfl⟩, ⟨rfl, rfl⟩, trivial⟩, ⟨⟨rfl, rfl⟩, trivial⟩, ⟨rfl, hO⟩, trivial⟩, ⟨⟨⟨rfl, hA⟩, ⟨rfl, hN⟩, ⟨rfl, rfl⟩, ⟨rfl, rfl⟩, trivial⟩, ⟨⟨rfl, rfl⟩, trivial⟩, ⟨rfl, hO⟩, trivial⟩, ih⟩
theorem all_le {o : Ob} (ho : FitO o) (hg : ∀ k, OkG o k) : (allS o).length ≤ 90000 := by
 have h1 := stdT_len hg kinds
 have h2 := cusR_len o.cust []
 have h4 := (wk_cusR o.cust []).len
 have h5 := ho.c
 rw [h2, List.length_map] at h4
 rw [show kinds.length = 20 from rfl] at h1
 rw [allS, List.length_append]
 omega
theorem law_sem (x : Rw) (l : List Rw) : SC 9 [rwA x, .fsl false (l.map rwA)] (.bool true) := by
 obtain ⟨o, ho, hob⟩ := object_sem x l
 have ok := okay_of ho
 have hR := closed_rws l
 have hcl : closedAll [rwA x, .fsl false (l.map rwA)] = true := by simp only [closedAll, closedA, hR, rwA, rwC, Bool.and_self]
 have hC : ∀ c ∈ o.cust, c.name ∈ cnL := fun c hc => (ho.i.c3 c hc).1
 have hall := all_sem ok.fit ok.g hC
 have hnam := names_sem ok.fit ok.g hC
 have hb := all_le ok.fit ok.g
 have hnb : (namesS o).length ≤ 1000 := by
  have := nodup_le (namesS o) nameL (names_nodup o) fun s hs => names_in ho hs
  rw [show nameL.length = 24 from rfl] at this
  omega
 have hA := closed_ats (allS o)
 have hN := closed_strs (namesS o)
 have hO := closed_obC o
 have fo := fits_obC o
 have h4 := all_len o
 have hlen : lenN ((allS o).map atA) = (allS o).length := by rw [lenN_eq, List.length_map]
 have hsum : sumAt o (namesS o).length = (allS o).length := by rw [sumAt, List.take_of_length_le (Nat.le_refl _)]; exact names_sum o
 refine fnK_semV (A := aidJ [] [(9, xiL (.ofNat (namesS o).length) (.ofNat (sumAt o (namesS o).length)) ((allS o).map atA) ((namesS o).map .str) (obC o))] (manyS [(22, .agg (obC o)), (40, .fsl false ((allS o).map atA)), (41, .fsl false ((namesS o).map .str)), (21, .bool true)]) [] []) base0 aidJ_ok
  (fnLs_of (LsOk.at1 rfl xi_at fun st Q hs => .seen base0.glob hs.1 (xi_loop ho hb hnb hs.2 0 (Nat.zero_le _)))) hcl rfl ?_
 unfold obA at hob hall hnam
 unfold obC at hO hob hall hnam fo ⊢
 rw [xi_fn, hlen]
 refine ⟨hob, oblB_of fo ⟨hall, hnam, known_sem, mtB_of (fun e => ?_) fun _ => ⟨⟨⟨⟨rfl, hA⟩, ⟨rfl, hN⟩, ⟨rfl, rfl⟩, ⟨rfl, rfl⟩, trivial⟩, ⟨⟨rfl, rfl⟩, trivial⟩, ⟨rfl, hO⟩, trivial⟩, ?_⟩⟩⟩
 ·have e := ltInt_iff.1 e
  simp only [Int.ofNat_eq_natCast] at e
  omega
 ·rw [hsum, beqInt_iff.2 rfl]
end Go.Proofs.YtjhggnebkfpgcaaGreatDoor
