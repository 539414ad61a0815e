/- What the product tells of a kind. -/
import Derived.Test.YtjhggnebkfpgcaaGreatDoorSet
import Derived.Test.YtjhggnebkfpgcaaGreatDoorG5
import Derived.KernelRfl
namespace Go.Proofs.YtjhggnebkfpgcaaGreatDoor
set_option maxRecDepth 20000
open Go Go.RowKit
open Go.Proofs.Abs
noncomputable def ofV0 (i n : Int) (Ls W : List AV) : View := ⟨[(11, .fsl false Ls), (12, I n), (13, I i), (5, .nilsl)], [(2, .ptr 0 0)], [(0, .cells W, .whole)], 1, 28⟩
noncomputable def ofV1 (i n : Int) (k : Nat) (Ls W es : List AV) : View := ⟨[(11, .fsl false Ls), (12, I n), (13, I i)], [(2, .ptr 0 0), (5, .rsl true 1 0 k 7)], [(0, .cells W, .whole), (1, .cells es, .whole)], 2, 28⟩
noncomputable def ofA (x : List AV) (ls : List (Nat × LoopS)) : Aid := aidJ [(4, 1, .res (.fptr x 0))] ls noSem [] []
theorem of_r0 (h : RowH) (a m re g r p d ro : AV) (i n j : Int) (Ls D K : List AV) (t y q : Int) (es : List AV) (N : Prop) (Q : AExit → St → Prop) : wpK Tryz.prog opts0 40 (ofA (itF t y q D K) []) (lpCode Tryz.prog 83 4) (ofV0 i n Ls (rowW h a m re g r p d ro)).st (roundP 0 [(0, 0), (1, 15)] (ofV1 j n 1 Ls (rowW h a m re g r p d ro) es) N [(0, 0)] (ofV0 i n Ls (rowW h a m re g r p d ro)) Q) =
  (mtB (ltInt i n) (indexAddrA Tryz.prog 35 (AV.fsl false Ls) (I i) = some (AV.fptr [I t, I y, I q, AV.fsl false D, AV.fsl false K] 0) ∧ (((AV.fsl false Ls = AV.fsl false Ls ∧ closedA (AV.fsl false Ls) = true) ∧ (I n = I n ∧ closedA (I n) = true) ∧ (I (wrapA IntKind.i64 (i + 1)) = I j ∧ closedA (I j) = true) ∧ True) ∧ ((some 0 = some 0 ∧ 0 = 0) ∧ (true = true ∧ some 15 = some 15 ∧ 0 = 0 ∧ 1 = lenN [AV.agg [AV.str h.1, I i, I t, I y, I q, AV.fsl false D, AV.fsl false K]] ∧ 7 = 7) ∧ True) ∧ ([AV.str h.1, I h.2, AV.bool h.3, AV.bool h.4, a, m, re, g, r, p, d, ro] = [AV.str h.1, I h.2, AV.bool h.3, AV.bool h.4, a, m, re, g, r, p, d, ro] ∧ closedAll [AV.str h.1, I h.2, AV.bool h.3, AV.bool h.4, a, m, re, g, r, p, d, ro] = true) ∧ (flat [AV.agg [AV.str h.1, I i, I t, I y, I q, AV.fsl false D, AV.fsl false K]] = es ∧ closedAll es = true) ∧ True) ∧ N) ((((AV.fsl false Ls = AV.fsl false Ls ∧ closedA (AV.fsl false Ls) = true) ∧ (I n = I n ∧ closedA (I n) = true) ∧ (I i = I i ∧ closedA (I i) = true) ∧ (AV.nilsl = AV.nilsl ∧ true = true) ∧ True) ∧ ((some 0 = some 0 ∧ 0 = 0) ∧ True) ∧ ([AV.str h.1, I h.2, AV.bool h.3, AV.bool h.4, a, m, re, g, r, p, d, ro] = [AV.str h.1, I h.2, AV.bool h.3, AV.bool h.4, a, m, re, g, r, p, d, ro] ∧ closedAll [AV.str h.1, I h.2, AV.bool h.3, AV.bool h.4, a, m, re, g, r, p, d, ro] = true) ∧ True) ∧ Q (AExit.exit 0) (ofV0 i n Ls (rowW h a m re g r p d ro)).st)) := by kernel_rfl
theorem of_r1 (h : RowH) (a m re g r p d ro : AV) (i n j : Int) (k k' : Nat) (Ls D K : List AV) (t y q : Int) (es es' : List AV) (N : Prop) (Q : AExit → St → Prop) : wpK Tryz.prog opts0 40 (ofA (itF t y q D K) []) (lpCode Tryz.prog 83 4) (ofV1 i n k Ls (rowW h a m re g r p d ro) es).st (roundP 0 [(0, 0), (1, 16)] (ofV1 j n k' Ls (rowW h a m re g r p d ro) es') N [(0, 0), (1, 1)] (ofV1 i n k Ls (rowW h a m re g r p d ro) es) Q) =
  (mtB (ltInt i n) (indexAddrA Tryz.prog 35 (AV.fsl false Ls) (I i) = some (AV.fptr [I t, I y, I q, AV.fsl false D, AV.fsl false K] 0) ∧ oblB (allSize 7 [AV.agg [AV.str h.1, I i, I t, I y, I q, AV.fsl false D, AV.fsl false K]] && (((k + lenN [AV.agg [AV.str h.1, I i, I t, I y, I q, AV.fsl false D, AV.fsl false K]]) * 96).ble 140737488355328 && (allOne (flat [AV.agg [AV.str h.1, I i, I t, I y, I q, AV.fsl false D, AV.fsl false K]]) && true))) (oblB ((lenN es).beq (k * 7)) ((((AV.fsl false Ls = AV.fsl false Ls ∧ closedA (AV.fsl false Ls) = true) ∧ (I n = I n ∧ closedA (I n) = true) ∧ (I (wrapA IntKind.i64 (i + 1)) = I j ∧ closedA (I j) = true) ∧ True) ∧ ((some 0 = some 0 ∧ 0 = 0) ∧ (true = true ∧ some 16 = some 16 ∧ 0 = 0 ∧ k' = k + lenN [AV.agg [AV.str h.1, I i, I t, I y, I q, AV.fsl false D, AV.fsl false K]] ∧ 7 = 7) ∧ True) ∧ ([AV.str h.1, I h.2, AV.bool h.3, AV.bool h.4, a, m, re, g, r, p, d, ro] = [AV.str h.1, I h.2, AV.bool h.3, AV.bool h.4, a, m, re, g, r, p, d, ro] ∧ closedAll [AV.str h.1, I h.2, AV.bool h.3, AV.bool h.4, a, m, re, g, r, p, d, ro] = true) ∧ (es ++ flat [AV.agg [AV.str h.1, I i, I t, I y, I q, AV.fsl false D, AV.fsl false K]] = es' ∧ closedAll es' = true) ∧ True) ∧ N))) ((((AV.fsl false Ls = AV.fsl false Ls ∧ closedA (AV.fsl false Ls) = true) ∧ (I n = I n ∧ closedA (I n) = true) ∧ (I i = I i ∧ closedA (I i) = true) ∧ True) ∧ ((some 0 = some 0 ∧ 0 = 0) ∧ (true = true ∧ some 1 = some 1 ∧ 0 = 0 ∧ k = k ∧ 7 = 7) ∧ True) ∧ ([AV.str h.1, I h.2, AV.bool h.3, AV.bool h.4, a, m, re, g, r, p, d, ro] = [AV.str h.1, I h.2, AV.bool h.3, AV.bool h.4, a, m, re, g, r, p, d, ro] ∧ closedAll [AV.str h.1, I h.2, AV.bool h.3, AV.bool h.4, a, m, re, g, r, p, d, ro] = true) ∧ (es = es ∧ closedAll es = true) ∧ True) ∧ Q (AExit.exit 0) (ofV1 i n k Ls (rowW h a m re g r p d ro) es).st)) := by kernel_rfl
noncomputable def ofL0 (i n : Int) (Ls W : List AV) : LoopS := fun st Q => seesK 0 [(0, 0)] (ofV0 0 n Ls W) st ∧ Q (.exit 0) (ofV0 i n Ls W).st
noncomputable def ofL1 (i n : Int) (k : Nat) (Ls W es : List AV) : LoopS := fun st Q => seesK 0 [(0, 0)] (ofV0 0 n Ls W) st ∧ Q (.exit 0) (ofV1 i n k Ls W es).st
noncomputable def ofG (Ls : List AV) (ls : List (Nat × LoopS)) : Aid := aidJ [] ls (fun _ args _ _ => match args with | .agg _ :: _ => some (.val (.fsl false Ls)) | _ => none) [] []
theorem of_fn0 (h : RowH) (a m re r p d ro : AV) (g : Nat) (c : List AV) (i : Int) (Ls : List AV) (o : Ob) (M N L C : AV) (Q : AV → Heap → Prop) : fnK Tryz.prog opts0 40 (ofG Ls [(4, ofL0 i (.ofNat (lenN Ls)) Ls (rowW h a m re (fnC g c) r p d ro))]) 83 [.agg (rowW h a m re (fnC g c) r p d ro), .agg (obF o M N L C)] [] 0 (fun v H _ => Q v H) =
  (SC g (AV.agg (obF o M N L C) :: c) (AV.fsl false Ls) ∧ (((AV.fsl false Ls = AV.fsl false Ls ∧ closedA (AV.fsl false Ls) = true) ∧ (I (Int.ofNat (lenN Ls)) = I (Int.ofNat (lenN Ls)) ∧ closedA (I (Int.ofNat (lenN Ls))) = true) ∧ (I 0 = I 0 ∧ true = true) ∧ (AV.nilsl = AV.nilsl ∧ true = true) ∧ True) ∧ ((some 0 = some 0 ∧ 0 = 0) ∧ True) ∧ ([AV.str h.1, I h.2, AV.bool h.3, AV.bool h.4, a, m, re, AV.func (Fn.func g) [] c, r, p, d, ro] = [AV.str h.1, I h.2, AV.bool h.3, AV.bool h.4, a, m, re, AV.func (Fn.func g) [] c, r, p, d, ro] ∧ closedAll [AV.str h.1, I h.2, AV.bool h.3, AV.bool h.4, a, m, re, AV.func (Fn.func g) [] c, r, p, d, ro] = true) ∧ True) ∧ Q AV.nilsl [(0, some (Blk.cells [AV.str h.1, I h.2, AV.bool h.3, AV.bool h.4, a, m, re, AV.func (Fn.func g) [] c, r, p, d, ro]))]) := by kernel_rfl
theorem of_fn1 (h : RowH) (a m re r p d ro : AV) (g : Nat) (c : List AV) (i : Int) (k : Nat) (Ls es : List AV) (o : Ob) (M N L C : AV) (Q : AV → Heap → Prop) : fnK Tryz.prog opts0 40 (ofG Ls [(4, ofL1 i (.ofNat (lenN Ls)) k Ls (rowW h a m re (fnC g c) r p d ro) es)]) 83 [.agg (rowW h a m re (fnC g c) r p d ro), .agg (obF o M N L C)] [] 0 (fun v H _ => Q v H) =
  (SC g (AV.agg (obF o M N L C) :: c) (AV.fsl false Ls) ∧ (((AV.fsl false Ls = AV.fsl false Ls ∧ closedA (AV.fsl false Ls) = true) ∧ (I (Int.ofNat (lenN Ls)) = I (Int.ofNat (lenN Ls)) ∧ closedA (I (Int.ofNat (lenN Ls))) = true) ∧ (I 0 = I 0 ∧ true = true) ∧ (AV.nilsl = AV.nilsl ∧ true = true) ∧ True) ∧ ((some 0 = some 0 ∧ 0 = 0) ∧ True) ∧ ([AV.str h.1, I h.2, AV.bool h.3, AV.bool h.4, a, m, re, AV.func (Fn.func g) [] c, r, p, d, ro] = [AV.str h.1, I h.2, AV.bool h.3, AV.bool h.4, a, m, re, AV.func (Fn.func g) [] c, r, p, d, ro] ∧ closedAll [AV.str h.1, I h.2, AV.bool h.3, AV.bool h.4, a, m, re, AV.func (Fn.func g) [] c, r, p, d, ro] = true) ∧ True) ∧ Q (AV.rsl true 1 0 k 7) [(0, some (Blk.cells [AV.str h.1, I h.2, AV.bool h.3, AV.bool h.4, a, m, re, AV.func (Fn.func g) [] c, r, p, d, ro])), (1, some (Blk.cells es))]) := by kernel_rfl
def tellL (s : List UInt8) : List It → Nat → List At
 | [], _ => []
 | v :: r, i => ⟨s, .ofNat i, v⟩ :: tellL s r (i + 1)
theorem tell_length (s : List UInt8) : ∀ (l : List It) (i : Nat), (tellL s l i).length = l.length
 | [], _ => rfl
 | _ :: r, i => congrArg (· + 1) (tell_length s r (i + 1))
theorem flat_at : ∀ l : List At, (flat (l.map atA)).length = l.length * 7
 | [] => rfl
 | ⟨_, _, ⟨_, _, _, _, _⟩⟩ :: r => by
  have ih := flat_at r
  rw [List.length_cons, Nat.succ_mul, ← ih]
  rfl
theorem closed_ats : ∀ l : List At, closedAll (l.map atA) = true
 | [] => rfl
 | a :: r => by rw [List.map_cons, closedAll, closed_atA, closed_ats r]; rfl
theorem closed_fat : ∀ l : List At, closedAll (flat (l.map atA)) = true
 | [] => rfl
 | a :: r => by
  have h := closed_atA a
  rw [List.map_cons, flat, closedAll_append, closed_fat r, Bool.and_true]
  exact h
theorem good_at (a : At) : goodEl 7 (atA a) := by
 obtain ⟨s, i, ⟨t, y, n, d, ks⟩⟩ := a
 exact ⟨rfl, rfl⟩
section
variable {h : RowH} {a m re g r p d ro : AV} {l : List It}
theorem of_loop1 (hW : closedAll (rowW h a m re g r p d ro) = true) (hb : l.length ≤ 1000) {Q : AExit → St → Prop} : ∀ (z : Nat) (pre : List At), pre.length + z = l.length → Q (.exit 0) (ofV1 (.ofNat l.length) (.ofNat l.length) l.length (itAs l) (rowW h a m re g r p d ro) (flat ((pre ++ tellL h.nm (l.drop pre.length) pre.length).map atA))).st → ALp Tryz.prog opts0.glob 0 (lpCode Tryz.prog 83 4) (ofV1 (.ofNat pre.length) (.ofNat l.length) pre.length (itAs l) (rowW h a m re g r p d ro) (flat (pre.map atA))).st Q := by
 have hL : closedA (.fsl false (itAs l)) = true := closed_its l
 intro z
 induction z with
 | zero =>
  intro pre hz hq
  rw [Nat.add_zero] at hz
  rw [List.drop_of_length_le (by omega), show tellL h.nm [] pre.length = [] from rfl, List.append_nil] at hq
  have hz' : Int.ofNat pre.length = Int.ofNat l.length := by rw [hz]
  refine ALp.round (A := ofA (itF 0 0 0 [] []) []) (V1 := ofV1 (.ofNat pre.length) (.ofNat l.length) pre.length (itAs l) (rowW h a m re g r p d ro) (flat (pre.map atA))) (V2 := ofV1 (.ofNat pre.length) (.ofNat l.length) pre.length (itAs l) (rowW h a m re g r p d ro) (flat (pre.map atA))) (F := ofV1 (.ofNat pre.length) (.ofNat l.length) pre.length (itAs l) (rowW h a m re g r p d ro) (flat (pre.map atA))) (lk := [(0, 0), (1, 16)]) (lk' := [(0, 0), (1, 1)]) base0 aidJ_ok (LsOk.no rfl) .refl ?_
  rw [of_r1]
  refine mtB_of (fun e => ?_) (fun _ => ⟨⟨⟨⟨rfl, hL⟩, ⟨rfl, rfl⟩, ⟨rfl, rfl⟩, trivial⟩, ⟨⟨rfl, rfl⟩, ⟨rfl, rfl, rfl, rfl, rfl⟩, trivial⟩, ⟨rfl, hW⟩, ⟨rfl, closed_fat pre⟩, trivial⟩, ?_⟩)
  ·have e := ltInt_iff.1 e
   omega
  ·rw [← hz] at hq
   rw [← hz']
   exact hq
 | succ z ih =>
  intro pre hz hq
  have hi : pre.length < l.length := by omega
  have g1 := List.getElem?_eq_getElem hi
  rw [List.drop_eq_getElem_cons hi] at hq
  revert g1 hq
  generalize l[pre.length] = x
  obtain ⟨t, y, q, dd, ks⟩ := x
  intro hq g1
  have hn := ih (pre ++ [⟨h.nm, .ofNat pre.length, .mk t y q dd ks⟩]) (by simp; omega) (by
   rw [List.append_assoc, List.length_append]
   exact hq)
  have e1 : (pre ++ [(⟨h.nm, .ofNat pre.length, .mk t y q dd ks⟩ : At)]).length = pre.length + 1 := by simp
  have e2 : flat ((pre ++ [(⟨h.nm, .ofNat pre.length, .mk t y q dd ks⟩ : At)]).map atA) = flat (pre.map atA) ++ flat [.agg [.str h.nm, I (.ofNat pre.length), I t, I y, I q, .fsl false (toBytes dd), .fsl false (itAs ks)]] := by rw [List.map_append, flat_append]; rfl
  rw [e1] at hn
  have hw : wrapA .i64 (Int.ofNat pre.length + 1) = Int.ofNat (pre.length + 1) := wrapA_i64 (by simp; omega) (by simp; omega)
  refine ALp.round (A := ofA (itF t y q (toBytes dd) (itAs ks)) []) (V1 := ofV1 (.ofNat (pre.length + 1)) (.ofNat l.length) (pre.length + 1) (itAs l) (rowW h a m re g r p d ro) (flat ((pre ++ [(⟨h.nm, .ofNat pre.length, .mk t y q dd ks⟩ : At)]).map atA))) (V2 := ofV1 (.ofNat (pre.length + 1)) (.ofNat l.length) (pre.length + 1) (itAs l) (rowW h a m re g r p d ro) (flat ((pre ++ [(⟨h.nm, .ofNat pre.length, .mk t y q dd ks⟩ : At)]).map atA))) (F := ofV1 (.ofNat pre.length) (.ofNat l.length) pre.length (itAs l) (rowW h a m re g r p d ro) (flat (pre.map atA))) (lk := [(0, 0), (1, 16)]) (lk' := [(0, 0), (1, 1)]) base0 aidJ_ok (LsOk.no rfl) .refl ?_
  rw [of_r1, hw]
  refine mtB_of (fun _ => ⟨idxI g1, oblB_of ?_ (oblB_of ?_ ⟨⟨⟨⟨rfl, hL⟩, ⟨rfl, rfl⟩, ⟨rfl, rfl⟩, trivial⟩, ⟨⟨rfl, rfl⟩, ⟨rfl, rfl, rfl, rfl, rfl⟩, trivial⟩, ⟨rfl, hW⟩, ⟨e2.symm, closed_fat _⟩, trivial⟩, hn⟩)⟩) (fun e => ?_)
  ·simp [allSize, allOne, flat, AV.cells, lenN]; omega
  ·simp [lenN_eq, flat_at]
  ·have e := ltInt_false.1 e
   simp only [Int.ofNat_eq_natCast] at e
   omega
theorem of_loop0 (hW : closedAll (rowW h a m re g r p d ro) = true) (hl : l = []) {Q : AExit → St → Prop} (hq : Q (.exit 0) (ofV0 0 (.ofNat l.length) (itAs l) (rowW h a m re g r p d ro)).st) : ALp Tryz.prog opts0.glob 0 (lpCode Tryz.prog 83 4) (ofV0 0 (.ofNat l.length) (itAs l) (rowW h a m re g r p d ro)).st Q := by
 have hL : closedA (.fsl false (itAs l)) = true := closed_its l
 refine ALp.round (A := ofA (itF 0 0 0 [] []) []) (V1 := ofV1 0 (.ofNat l.length) 1 (itAs l) (rowW h a m re g r p d ro) []) (V2 := ofV1 0 (.ofNat l.length) 1 (itAs l) (rowW h a m re g r p d ro) []) (F := ofV0 0 (.ofNat l.length) (itAs l) (rowW h a m re g r p d ro)) (lk := [(0, 0), (1, 15)]) (lk' := [(0, 0)]) base0 aidJ_ok (LsOk.no rfl) .refl ?_
 rw [of_r0]
 refine mtB_of (fun e => ?_) (fun _ => ⟨⟨⟨⟨rfl, hL⟩, ⟨rfl, rfl⟩, ⟨rfl, rfl⟩, ⟨rfl, rfl⟩, trivial⟩, ⟨⟨rfl, rfl⟩, trivial⟩, ⟨rfl, hW⟩, trivial⟩, hq⟩)
 have e := ltInt_iff.1 e
 subst hl
 simp at e
theorem of_loopN (hW : closedAll (rowW h a m re g r p d ro) = true) (hb : l.length ≤ 1000) (hl : 0 < l.length) {Q : AExit → St → Prop} (hq : Q (.exit 0) (ofV1 (.ofNat l.length) (.ofNat l.length) l.length (itAs l) (rowW h a m re g r p d ro) (flat ((tellL h.nm l 0).map atA))).st) : ALp Tryz.prog opts0.glob 0 (lpCode Tryz.prog 83 4) (ofV0 0 (.ofNat l.length) (itAs l) (rowW h a m re g r p d ro)).st Q := by
 have hL : closedA (.fsl false (itAs l)) = true := closed_its l
 match l, hb, hl, hL, hq with
 | ⟨t, y, q, dd, ks⟩ :: rs, hb, hl, hL, hq =>
  have hn := of_loop1 (l := ⟨t, y, q, dd, ks⟩ :: rs) hW hb (Q := Q) rs.length [⟨h.nm, .ofNat 0, .mk t y q dd ks⟩] (by simp; omega) hq
  refine ALp.round (A := ofA (itF t y q (toBytes dd) (itAs ks)) []) (V1 := ofV1 (.ofNat 1) (.ofNat (rs.length + 1)) 1 (itAs (⟨t, y, q, dd, ks⟩ :: rs)) (rowW h a m re g r p d ro) (flat ([(⟨h.nm, .ofNat 0, .mk t y q dd ks⟩ : At)].map atA))) (V2 := ofV1 (.ofNat 1) (.ofNat (rs.length + 1)) 1 (itAs (⟨t, y, q, dd, ks⟩ :: rs)) (rowW h a m re g r p d ro) (flat ([(⟨h.nm, .ofNat 0, .mk t y q dd ks⟩ : At)].map atA))) (F := ofV0 0 (.ofNat (rs.length + 1)) (itAs (⟨t, y, q, dd, ks⟩ :: rs)) (rowW h a m re g r p d ro)) (lk := [(0, 0), (1, 15)]) (lk' := [(0, 0)]) base0 aidJ_ok (LsOk.no rfl) .refl ?_
  have hw : wrapA .i64 (0 + 1) = Int.ofNat 1 := rfl
  show wpK Tryz.prog opts0 40 _ _ (ofV0 0 (.ofNat (rs.length + 1)) (itAs (⟨t, y, q, dd, ks⟩ :: rs)) (rowW h a m re g r p d ro)).st _
  rw [of_r0, hw]
  refine mtB_of (fun _ => ⟨idxI (i := 0) rfl, ⟨⟨⟨rfl, hL⟩, ⟨rfl, rfl⟩, ⟨rfl, rfl⟩, trivial⟩, ⟨⟨rfl, rfl⟩, ⟨rfl, rfl, rfl, rfl, rfl⟩, trivial⟩, ⟨rfl, hW⟩, ⟨rfl, closed_fat _⟩, trivial⟩, hn⟩) (fun e => ?_)
  have e := ltInt_false.1 e
  simp only [Int.ofNat_eq_natCast] at e
  omega
end
theorem of_at : loopsAt (fnCode Tryz.prog 83) 4 = [lpCode Tryz.prog 83 4] := by kernel_rfl
theorem of_sem {k : Kd} (hk : kdB k = true) {o : Ob} (ho : FitO o) (hg : OkG o k) : SC 83 [.agg (rowC k), obA o] (.fsl false ((tellL (nameK k) (getK o k) 0).map atA)) := by
 have hget := get_sem hk ho
 have hcl := closed_roc k o (c := []) rfl
 have hW := closed_rowC k
 have hb := hg.n
 rw [rowC_get] at hcl hW ⊢
 have hnm : nameK k = (hdK k).nm := rfl
 rw [hnm]
 revert hget hb
 generalize getK o k = l
 intro hget hb
 simp only [obA, obC] at hget hcl ⊢
 match l, hget, hb with
 | [], hget, hb =>
  refine fnK_semX (A := ofG (itAs []) [(4, ofL0 0 (.ofNat (lenN (itAs []))) (itAs []) (rowW (hdK k) (addK k) (modK k) (remK k) (fnC (gfn k) (gcp k)) (rightF k) (putF k) (dropF k) (roomF k)))]) base0 aidJ_ok
   (fnLs_of (LsOk.at1 rfl of_at fun st Q hs => .seen base0.glob hs.1 (of_loop0 (l := []) hW rfl hs.2))) hcl ?_
  rw [of_fn0]
  exact ⟨hget, ⟨⟨⟨rfl, rfl⟩, ⟨rfl, rfl⟩, ⟨rfl, rfl⟩, ⟨rfl, rfl⟩, trivial⟩, ⟨⟨rfl, rfl⟩, trivial⟩, ⟨rfl, hW⟩, trivial⟩, .nilsl, (Frz.closed _ rfl).out, rfl, .nil⟩
 | x :: r, hget, hb =>
  have hlen : lenN (itAs (x :: r)) = (x :: r).length := by rw [lenN_eq, its_length]
  have ht := tell_length (hdK k).nm (x :: r) 0
  have hln : closedAll (itAs (x :: r)) = true := closed_its _
  refine fnK_semX (A := ofG (itAs (x :: r)) [(4, ofL1 (.ofNat (x :: r).length) (.ofNat (lenN (itAs (x :: r)))) (x :: r).length (itAs (x :: r)) (rowW (hdK k) (addK k) (modK k) (remK k) (fnC (gfn k) (gcp k)) (rightF k) (putF k) (dropF k) (roomF k)) (flat ((tellL (hdK k).nm (x :: r) 0).map atA)))]) base0 aidJ_ok
   (fnLs_of (LsOk.at1 rfl of_at fun st Q hs => .seen base0.glob hs.1 (by
    have h2 := hs.2
    have h1 := of_loopN (l := x :: r) hW hb (by simp) (Q := Q)
    rw [hlen] at h2 ⊢
    exact h1 h2))) hcl ?_
  rw [of_fn1]
  refine ⟨hget, ⟨⟨⟨rfl, hln⟩, ⟨rfl, rfl⟩, ⟨rfl, rfl⟩, ⟨rfl, rfl⟩, trivial⟩, ⟨⟨rfl, rfl⟩, trivial⟩, ⟨rfl, hW⟩, trivial⟩, .fsl false ((tellL (hdK k).nm (x :: r) 0).map atA), (Frz.row rfl rfl rfl (by rw [List.length_map, ht]) (fun e he => by obtain ⟨a, _, rfl⟩ := List.mem_map.1 he; exact good_at a) (closed_ats _)).out, closed_ats _, .refl _⟩
end Go.Proofs.YtjhggnebkfpgcaaGreatDoor
