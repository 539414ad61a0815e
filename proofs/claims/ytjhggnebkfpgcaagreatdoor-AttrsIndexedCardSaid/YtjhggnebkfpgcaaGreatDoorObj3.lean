/- Objects of raw numbers: what a round does, case by case. -/
import Derived.Test.YtjhggnebkfpgcaaGreatDoorObj2
import Derived.Test.YtjhggnebkfpgcaaGreatDoorSet
import Derived.Test.YtjhggnebkfpgcaaGreatDoorG5
import Derived.KernelRfl
namespace Go.Proofs.YtjhggnebkfpgcaaGreatDoor
open Go Go.RowKit
open Go.Proofs.Abs
theorem lss_eq (x y : Operand) (a b : Int) : binA Tryz.prog .lss 3 x y (I a) (I b) = some (.bool (ltInt a b)) := by kernel_rfl
theorem lss_t {x y : Operand} {a b : Int} (h : a < b) : binA Tryz.prog .lss 3 x y (I a) (I b) = some (.bool true) := by rw [lss_eq, ltInt_iff.2 h]
theorem lss_f {x y : Operand} {a b : Int} (h : b ≤ a) : binA Tryz.prog .lss 3 x y (I a) (I b) = some (.bool false) := by rw [lss_eq, ltInt_false.2 h]
theorem pk {n m v : Int} (h : n % m = v) (h0 : 0 < m) (h1 : m ≤ 4611686018427387904) : SC 23 [I n, I m] (I v) := h ▸ pick_sem n h0 h1
structure Go1 (i : Nat) (Rs : List AV) (y : Rw) : Prop where
 c : closedAll Rs = true
 a : binA Tryz.prog .lss 3 (.tmp 55) (.tmp 57) (I (.ofNat i)) (I (.ofNat (lenN Rs))) = some (.bool true)
 b : binA Tryz.prog .lss 3 (.tmp 60) (.const (.int .i64 10)) (I (.ofNat i)) (I 10) = some (.bool true)
 x : indexAddrA Tryz.prog 22 (.fsl false Rs) (I (.ofNat i)) = some (.fptr (rwC y) 0)
 w : wrapA .i64 (Int.ofNat i + 1) = Int.ofNat (i + 1)
theorem closed_rws : ∀ l : List Rw, closedAll (l.map rwA) = true
 | [] => rfl
 | _ :: r => closed_rws r
theorem go_of {l : List Rw} {i : Nat} {y : Rw} (h : l[i]? = some y) (hi : i < 10) : Go1 i (l.map rwA) y := by
 refine ⟨closed_rws l, lss_t ?_, lss_t ?_, ?_, wrapA_i64 (by simp; omega) (by simp; omega)⟩
 ·obtain ⟨h1, _⟩ := List.getElem?_eq_some_iff.1 h
  simp only [lenN_eq, List.length_map, Int.ofNat_eq_natCast]
  omega
 ·simp only [Int.ofNat_eq_natCast]; omega
 ·exact fsl_index (v := rwA y) (e := 42) (sz := 4) (by kernel_rfl) (by kernel_rfl) (by rw [List.getElem?_map, h]; rfl) rfl
abbrev Step (S S' : St) : Prop := ∀ Q, ALp Tryz.prog opts0.glob 0 (lpCode Tryz.prog 22 5) S' Q → ALp Tryz.prog opts0.glob 0 (lpCode Tryz.prog 22 5) S Q
def Rv (k : Nat) (A : AV) : Prop := ∀ lk, lookN lk k = some k → RenV lk A A
theorem idx_pick {α : Type} {T : Nat} {l : List α} {d : α} {f : α → AV} {n : Int} (hl : l ≠ []) (h : ∀ (k : Nat) x, l[k]? = some x → indexA Tryz.prog T (.agg (l.map f)) (I (k : Int)) = some (f x)) : indexA Tryz.prog T (.agg (l.map f)) (I (n % (l.length : Int))) = some (f (ofL l d n)) := by
 have hp : 0 < l.length := List.length_pos_iff.2 hl
 obtain ⟨k, h1, h2⟩ := mod_nat (n := n) (m := (l.length : Int)) (by omega)
 have hk : k < l.length := by omega
 have e := List.getElem?_eq_getElem hk
 unfold ofL
 rw [h1, Int.toNat_natCast, e]
 exact h k _ e
theorem st_dat00 {y : Rw} {i : Nat} {Rs : List AV} {M N L C : AV} {BN BL BC : Option Blk} (o : Ob) (g : Go1 i Rs y) (hM : closedA M = true) (rN : Rv 1 N) (rL : Rv 2 L) (rC : Rv 3 C) (bn : ClosedOB BN) (bl : ClosedOB BL) (bc : ClosedOB BC) (hk : y.k % 9 = 0) (ha : y.a % 10 = 0) : Step (stO (oW (.ofNat i) Rs (obF o M N L C) []) [(1, BN), (2, BL), (3, BC)]) (stO (oW (.ofNat (i + 1)) Rs (obF (setDate o ⟨true, y.b % 60⟩ 0) M N L C) []) [(1, BN), (2, BL), (3, BC)]) := by
 intro Q hq
 refine ALp.roundO (A := oA 0 0 y [] [] none []) (V1 := oW (.ofNat (i + 1)) Rs (obF (setDate o ⟨true, y.b % 60⟩ 0) M N L C) []) (F := oW (.ofNat i) Rs [] []) (opt := [(1, BN), (2, BL), (3, BC)]) (opt' := []) (lk := [(0, 0), (1, 1), (2, 2), (3, 3), (4, 4)]) (lk' := []) base0 aidJ_ok (LsOk.no rfl) .refl ?_
 rw [ob_dat00, g.w]
 exact ⟨g.a, g.b, g.x, pk hk (by decide) (by decide), pk ha (by decide) (by decide), pick_sem _ (by decide) (by decide), ⟨⟨⟨⟨⟨rfl, g.c⟩, ⟨rfl, rfl⟩, trivial⟩, ⟨⟨rfl, rfl⟩, ⟨rfl, rfl⟩, trivial⟩, renR_ob (o := (setDate o ⟨true, y.b % 60⟩ 0)) hM (rN _ rfl) (rL _ rfl) (rC _ rfl), ⟨rfl, rfl⟩, trivial⟩, ⟨rfl, bn⟩, ⟨rfl, bl⟩, ⟨rfl, bc⟩, trivial⟩, hq⟩⟩
theorem st_dat01 {y : Rw} {i : Nat} {Rs : List AV} {M N L C : AV} {BN BL BC : Option Blk} (o : Ob) (g : Go1 i Rs y) (hM : closedA M = true) (rN : Rv 1 N) (rL : Rv 2 L) (rC : Rv 3 C) (bn : ClosedOB BN) (bl : ClosedOB BL) (bc : ClosedOB BC) (hk : y.k % 9 = 0) (ha : y.a % 10 = 1) : Step (stO (oW (.ofNat i) Rs (obF o M N L C) []) [(1, BN), (2, BL), (3, BC)]) (stO (oW (.ofNat (i + 1)) Rs (obF (setDate o ⟨true, y.b % 60⟩ 1) M N L C) []) [(1, BN), (2, BL), (3, BC)]) := by
 intro Q hq
 refine ALp.roundO (A := oA 0 1 y [] [] none []) (V1 := oW (.ofNat (i + 1)) Rs (obF (setDate o ⟨true, y.b % 60⟩ 1) M N L C) []) (F := oW (.ofNat i) Rs [] []) (opt := [(1, BN), (2, BL), (3, BC)]) (opt' := []) (lk := [(0, 0), (1, 1), (2, 2), (3, 3), (4, 4)]) (lk' := []) base0 aidJ_ok (LsOk.no rfl) .refl ?_
 rw [ob_dat01, g.w]
 exact ⟨g.a, g.b, g.x, pk hk (by decide) (by decide), pk ha (by decide) (by decide), pick_sem _ (by decide) (by decide), ⟨⟨⟨⟨⟨rfl, g.c⟩, ⟨rfl, rfl⟩, trivial⟩, ⟨⟨rfl, rfl⟩, ⟨rfl, rfl⟩, trivial⟩, renR_ob (o := (setDate o ⟨true, y.b % 60⟩ 1)) hM (rN _ rfl) (rL _ rfl) (rC _ rfl), ⟨rfl, rfl⟩, trivial⟩, ⟨rfl, bn⟩, ⟨rfl, bl⟩, ⟨rfl, bc⟩, trivial⟩, hq⟩⟩
theorem st_dat02 {y : Rw} {i : Nat} {Rs : List AV} {M N L C : AV} {BN BL BC : Option Blk} (o : Ob) (g : Go1 i Rs y) (hM : closedA M = true) (rN : Rv 1 N) (rL : Rv 2 L) (rC : Rv 3 C) (bn : ClosedOB BN) (bl : ClosedOB BL) (bc : ClosedOB BC) (hk : y.k % 9 = 0) (ha : y.a % 10 = 2) : Step (stO (oW (.ofNat i) Rs (obF o M N L C) []) [(1, BN), (2, BL), (3, BC)]) (stO (oW (.ofNat (i + 1)) Rs (obF (setDate o ⟨true, y.b % 60⟩ 2) M N L C) []) [(1, BN), (2, BL), (3, BC)]) := by
 intro Q hq
 refine ALp.roundO (A := oA 0 2 y [] [] none []) (V1 := oW (.ofNat (i + 1)) Rs (obF (setDate o ⟨true, y.b % 60⟩ 2) M N L C) []) (F := oW (.ofNat i) Rs [] []) (opt := [(1, BN), (2, BL), (3, BC)]) (opt' := []) (lk := [(0, 0), (1, 1), (2, 2), (3, 3), (4, 4)]) (lk' := []) base0 aidJ_ok (LsOk.no rfl) .refl ?_
 rw [ob_dat02, g.w]
 exact ⟨g.a, g.b, g.x, pk hk (by decide) (by decide), pk ha (by decide) (by decide), pick_sem _ (by decide) (by decide), ⟨⟨⟨⟨⟨rfl, g.c⟩, ⟨rfl, rfl⟩, trivial⟩, ⟨⟨rfl, rfl⟩, ⟨rfl, rfl⟩, trivial⟩, renR_ob (o := (setDate o ⟨true, y.b % 60⟩ 2)) hM (rN _ rfl) (rL _ rfl) (rC _ rfl), ⟨rfl, rfl⟩, trivial⟩, ⟨rfl, bn⟩, ⟨rfl, bl⟩, ⟨rfl, bc⟩, trivial⟩, hq⟩⟩
theorem st_dat03 {y : Rw} {i : Nat} {Rs : List AV} {M N L C : AV} {BN BL BC : Option Blk} (o : Ob) (g : Go1 i Rs y) (hM : closedA M = true) (rN : Rv 1 N) (rL : Rv 2 L) (rC : Rv 3 C) (bn : ClosedOB BN) (bl : ClosedOB BL) (bc : ClosedOB BC) (hk : y.k % 9 = 0) (ha : y.a % 10 = 3) : Step (stO (oW (.ofNat i) Rs (obF o M N L C) []) [(1, BN), (2, BL), (3, BC)]) (stO (oW (.ofNat (i + 1)) Rs (obF (setDate o ⟨true, y.b % 60⟩ 3) M N L C) []) [(1, BN), (2, BL), (3, BC)]) := by
 intro Q hq
 refine ALp.roundO (A := oA 0 3 y [] [] none []) (V1 := oW (.ofNat (i + 1)) Rs (obF (setDate o ⟨true, y.b % 60⟩ 3) M N L C) []) (F := oW (.ofNat i) Rs [] []) (opt := [(1, BN), (2, BL), (3, BC)]) (opt' := []) (lk := [(0, 0), (1, 1), (2, 2), (3, 3), (4, 4)]) (lk' := []) base0 aidJ_ok (LsOk.no rfl) .refl ?_
 rw [ob_dat03, g.w]
 exact ⟨g.a, g.b, g.x, pk hk (by decide) (by decide), pk ha (by decide) (by decide), pick_sem _ (by decide) (by decide), ⟨⟨⟨⟨⟨rfl, g.c⟩, ⟨rfl, rfl⟩, trivial⟩, ⟨⟨rfl, rfl⟩, ⟨rfl, rfl⟩, trivial⟩, renR_ob (o := (setDate o ⟨true, y.b % 60⟩ 3)) hM (rN _ rfl) (rL _ rfl) (rC _ rfl), ⟨rfl, rfl⟩, trivial⟩, ⟨rfl, bn⟩, ⟨rfl, bl⟩, ⟨rfl, bc⟩, trivial⟩, hq⟩⟩
theorem st_dat04 {y : Rw} {i : Nat} {Rs : List AV} {M N L C : AV} {BN BL BC : Option Blk} (o : Ob) (g : Go1 i Rs y) (hM : closedA M = true) (rN : Rv 1 N) (rL : Rv 2 L) (rC : Rv 3 C) (bn : ClosedOB BN) (bl : ClosedOB BL) (bc : ClosedOB BC) (hk : y.k % 9 = 0) (ha : y.a % 10 = 4) : Step (stO (oW (.ofNat i) Rs (obF o M N L C) []) [(1, BN), (2, BL), (3, BC)]) (stO (oW (.ofNat (i + 1)) Rs (obF (setDate o ⟨true, y.b % 60⟩ 4) M N L C) []) [(1, BN), (2, BL), (3, BC)]) := by
 intro Q hq
 refine ALp.roundO (A := oA 0 4 y [] [] none []) (V1 := oW (.ofNat (i + 1)) Rs (obF (setDate o ⟨true, y.b % 60⟩ 4) M N L C) []) (F := oW (.ofNat i) Rs [] []) (opt := [(1, BN), (2, BL), (3, BC)]) (opt' := []) (lk := [(0, 0), (1, 1), (2, 2), (3, 3), (4, 4)]) (lk' := []) base0 aidJ_ok (LsOk.no rfl) .refl ?_
 rw [ob_dat04, g.w]
 exact ⟨g.a, g.b, g.x, pk hk (by decide) (by decide), pk ha (by decide) (by decide), pick_sem _ (by decide) (by decide), ⟨⟨⟨⟨⟨rfl, g.c⟩, ⟨rfl, rfl⟩, trivial⟩, ⟨⟨rfl, rfl⟩, ⟨rfl, rfl⟩, trivial⟩, renR_ob (o := (setDate o ⟨true, y.b % 60⟩ 4)) hM (rN _ rfl) (rL _ rfl) (rC _ rfl), ⟨rfl, rfl⟩, trivial⟩, ⟨rfl, bn⟩, ⟨rfl, bl⟩, ⟨rfl, bc⟩, trivial⟩, hq⟩⟩
theorem st_dat05 {y : Rw} {i : Nat} {Rs : List AV} {M N L C : AV} {BN BL BC : Option Blk} (o : Ob) (g : Go1 i Rs y) (hM : closedA M = true) (rN : Rv 1 N) (rL : Rv 2 L) (rC : Rv 3 C) (bn : ClosedOB BN) (bl : ClosedOB BL) (bc : ClosedOB BC) (hk : y.k % 9 = 0) (ha : y.a % 10 = 5) : Step (stO (oW (.ofNat i) Rs (obF o M N L C) []) [(1, BN), (2, BL), (3, BC)]) (stO (oW (.ofNat (i + 1)) Rs (obF (setDate o ⟨true, y.b % 60⟩ 5) M N L C) []) [(1, BN), (2, BL), (3, BC)]) := by
 intro Q hq
 refine ALp.roundO (A := oA 0 5 y [] [] none []) (V1 := oW (.ofNat (i + 1)) Rs (obF (setDate o ⟨true, y.b % 60⟩ 5) M N L C) []) (F := oW (.ofNat i) Rs [] []) (opt := [(1, BN), (2, BL), (3, BC)]) (opt' := []) (lk := [(0, 0), (1, 1), (2, 2), (3, 3), (4, 4)]) (lk' := []) base0 aidJ_ok (LsOk.no rfl) .refl ?_
 rw [ob_dat05, g.w]
 exact ⟨g.a, g.b, g.x, pk hk (by decide) (by decide), pk ha (by decide) (by decide), pick_sem _ (by decide) (by decide), ⟨⟨⟨⟨⟨rfl, g.c⟩, ⟨rfl, rfl⟩, trivial⟩, ⟨⟨rfl, rfl⟩, ⟨rfl, rfl⟩, trivial⟩, renR_ob (o := (setDate o ⟨true, y.b % 60⟩ 5)) hM (rN _ rfl) (rL _ rfl) (rC _ rfl), ⟨rfl, rfl⟩, trivial⟩, ⟨rfl, bn⟩, ⟨rfl, bl⟩, ⟨rfl, bc⟩, trivial⟩, hq⟩⟩
theorem st_dat06 {y : Rw} {i : Nat} {Rs : List AV} {M N L C : AV} {BN BL BC : Option Blk} (o : Ob) (g : Go1 i Rs y) (hM : closedA M = true) (rN : Rv 1 N) (rL : Rv 2 L) (rC : Rv 3 C) (bn : ClosedOB BN) (bl : ClosedOB BL) (bc : ClosedOB BC) (hk : y.k % 9 = 0) (ha : y.a % 10 = 6) : Step (stO (oW (.ofNat i) Rs (obF o M N L C) []) [(1, BN), (2, BL), (3, BC)]) (stO (oW (.ofNat (i + 1)) Rs (obF (setDate o ⟨true, y.b % 60⟩ 6) M N L C) []) [(1, BN), (2, BL), (3, BC)]) := by
 intro Q hq
 refine ALp.roundO (A := oA 0 6 y [] [] none []) (V1 := oW (.ofNat (i + 1)) Rs (obF (setDate o ⟨true, y.b % 60⟩ 6) M N L C) []) (F := oW (.ofNat i) Rs [] []) (opt := [(1, BN), (2, BL), (3, BC)]) (opt' := []) (lk := [(0, 0), (1, 1), (2, 2), (3, 3), (4, 4)]) (lk' := []) base0 aidJ_ok (LsOk.no rfl) .refl ?_
 rw [ob_dat06, g.w]
 exact ⟨g.a, g.b, g.x, pk hk (by decide) (by decide), pk ha (by decide) (by decide), pick_sem _ (by decide) (by decide), ⟨⟨⟨⟨⟨rfl, g.c⟩, ⟨rfl, rfl⟩, trivial⟩, ⟨⟨rfl, rfl⟩, ⟨rfl, rfl⟩, trivial⟩, renR_ob (o := (setDate o ⟨true, y.b % 60⟩ 6)) hM (rN _ rfl) (rL _ rfl) (rC _ rfl), ⟨rfl, rfl⟩, trivial⟩, ⟨rfl, bn⟩, ⟨rfl, bl⟩, ⟨rfl, bc⟩, trivial⟩, hq⟩⟩
theorem st_dat07 {y : Rw} {i : Nat} {Rs : List AV} {M N L C : AV} {BN BL BC : Option Blk} (o : Ob) (g : Go1 i Rs y) (hM : closedA M = true) (rN : Rv 1 N) (rL : Rv 2 L) (rC : Rv 3 C) (bn : ClosedOB BN) (bl : ClosedOB BL) (bc : ClosedOB BC) (hk : y.k % 9 = 0) (ha : y.a % 10 = 7) : Step (stO (oW (.ofNat i) Rs (obF o M N L C) []) [(1, BN), (2, BL), (3, BC)]) (stO (oW (.ofNat (i + 1)) Rs (obF (setDate o ⟨true, y.b % 60⟩ 7) M N L C) []) [(1, BN), (2, BL), (3, BC)]) := by
 intro Q hq
 refine ALp.roundO (A := oA 0 7 y [] [] none []) (V1 := oW (.ofNat (i + 1)) Rs (obF (setDate o ⟨true, y.b % 60⟩ 7) M N L C) []) (F := oW (.ofNat i) Rs [] []) (opt := [(1, BN), (2, BL), (3, BC)]) (opt' := []) (lk := [(0, 0), (1, 1), (2, 2), (3, 3), (4, 4)]) (lk' := []) base0 aidJ_ok (LsOk.no rfl) .refl ?_
 rw [ob_dat07, g.w]
 exact ⟨g.a, g.b, g.x, pk hk (by decide) (by decide), pk ha (by decide) (by decide), pick_sem _ (by decide) (by decide), ⟨⟨⟨⟨⟨rfl, g.c⟩, ⟨rfl, rfl⟩, trivial⟩, ⟨⟨rfl, rfl⟩, ⟨rfl, rfl⟩, trivial⟩, renR_ob (o := (setDate o ⟨true, y.b % 60⟩ 7)) hM (rN _ rfl) (rL _ rfl) (rC _ rfl), ⟨rfl, rfl⟩, trivial⟩, ⟨rfl, bn⟩, ⟨rfl, bl⟩, ⟨rfl, bc⟩, trivial⟩, hq⟩⟩
theorem st_dat08 {y : Rw} {i : Nat} {Rs : List AV} {M N L C : AV} {BN BL BC : Option Blk} (o : Ob) (g : Go1 i Rs y) (hM : closedA M = true) (rN : Rv 1 N) (rL : Rv 2 L) (rC : Rv 3 C) (bn : ClosedOB BN) (bl : ClosedOB BL) (bc : ClosedOB BC) (hk : y.k % 9 = 0) (ha : y.a % 10 = 8) : Step (stO (oW (.ofNat i) Rs (obF o M N L C) []) [(1, BN), (2, BL), (3, BC)]) (stO (oW (.ofNat (i + 1)) Rs (obF (setDate o ⟨true, y.b % 60⟩ 8) M N L C) []) [(1, BN), (2, BL), (3, BC)]) := by
 intro Q hq
 refine ALp.roundO (A := oA 0 8 y [] [] none []) (V1 := oW (.ofNat (i + 1)) Rs (obF (setDate o ⟨true, y.b % 60⟩ 8) M N L C) []) (F := oW (.ofNat i) Rs [] []) (opt := [(1, BN), (2, BL), (3, BC)]) (opt' := []) (lk := [(0, 0), (1, 1), (2, 2), (3, 3), (4, 4)]) (lk' := []) base0 aidJ_ok (LsOk.no rfl) .refl ?_
 rw [ob_dat08, g.w]
 exact ⟨g.a, g.b, g.x, pk hk (by decide) (by decide), pk ha (by decide) (by decide), pick_sem _ (by decide) (by decide), ⟨⟨⟨⟨⟨rfl, g.c⟩, ⟨rfl, rfl⟩, trivial⟩, ⟨⟨rfl, rfl⟩, ⟨rfl, rfl⟩, trivial⟩, renR_ob (o := (setDate o ⟨true, y.b % 60⟩ 8)) hM (rN _ rfl) (rL _ rfl) (rC _ rfl), ⟨rfl, rfl⟩, trivial⟩, ⟨rfl, bn⟩, ⟨rfl, bl⟩, ⟨rfl, bc⟩, trivial⟩, hq⟩⟩
theorem st_dat09 {y : Rw} {i : Nat} {Rs : List AV} {M N L C : AV} {BN BL BC : Option Blk} (o : Ob) (g : Go1 i Rs y) (hM : closedA M = true) (rN : Rv 1 N) (rL : Rv 2 L) (rC : Rv 3 C) (bn : ClosedOB BN) (bl : ClosedOB BL) (bc : ClosedOB BC) (hk : y.k % 9 = 0) (ha : y.a % 10 = 9) : Step (stO (oW (.ofNat i) Rs (obF o M N L C) []) [(1, BN), (2, BL), (3, BC)]) (stO (oW (.ofNat (i + 1)) Rs (obF (setDate o ⟨true, y.b % 60⟩ 9) M N L C) []) [(1, BN), (2, BL), (3, BC)]) := by
 intro Q hq
 refine ALp.roundO (A := oA 0 9 y [] [] none []) (V1 := oW (.ofNat (i + 1)) Rs (obF (setDate o ⟨true, y.b % 60⟩ 9) M N L C) []) (F := oW (.ofNat i) Rs [] []) (opt := [(1, BN), (2, BL), (3, BC)]) (opt' := []) (lk := [(0, 0), (1, 1), (2, 2), (3, 3), (4, 4)]) (lk' := []) base0 aidJ_ok (LsOk.no rfl) .refl ?_
 rw [ob_dat09, g.w]
 exact ⟨g.a, g.b, g.x, pk hk (by decide) (by decide), pk ha (by decide) (by decide), pick_sem _ (by decide) (by decide), ⟨⟨⟨⟨⟨rfl, g.c⟩, ⟨rfl, rfl⟩, trivial⟩, ⟨⟨rfl, rfl⟩, ⟨rfl, rfl⟩, trivial⟩, renR_ob (o := (setDate o ⟨true, y.b % 60⟩ 9)) hM (rN _ rfl) (rL _ rfl) (rC _ rfl), ⟨rfl, rfl⟩, trivial⟩, ⟨rfl, bn⟩, ⟨rfl, bl⟩, ⟨rfl, bc⟩, trivial⟩, hq⟩⟩
theorem st_dat10 {y : Rw} {i : Nat} {Rs : List AV} {M N L C : AV} {BN BL BC : Option Blk} (o : Ob) (g : Go1 i Rs y) (hM : closedA M = true) (rN : Rv 1 N) (rL : Rv 2 L) (rC : Rv 3 C) (bn : ClosedOB BN) (bl : ClosedOB BL) (bc : ClosedOB BC) (hk : y.k % 9 = 1) (ha : y.a % 10 = 0) : Step (stO (oW (.ofNat i) Rs (obF o M N L C) []) [(1, BN), (2, BL), (3, BC)]) (stO (oW (.ofNat (i + 1)) Rs (obF (setDate o ⟨true, y.b % 60⟩ 0) M N L C) []) [(1, BN), (2, BL), (3, BC)]) := by
 intro Q hq
 refine ALp.roundO (A := oA 1 0 y [] [] none []) (V1 := oW (.ofNat (i + 1)) Rs (obF (setDate o ⟨true, y.b % 60⟩ 0) M N L C) []) (F := oW (.ofNat i) Rs [] []) (opt := [(1, BN), (2, BL), (3, BC)]) (opt' := []) (lk := [(0, 0), (1, 1), (2, 2), (3, 3), (4, 4)]) (lk' := []) base0 aidJ_ok (LsOk.no rfl) .refl ?_
 rw [ob_dat10, g.w]
 exact ⟨g.a, g.b, g.x, pk hk (by decide) (by decide), pk ha (by decide) (by decide), pick_sem _ (by decide) (by decide), ⟨⟨⟨⟨⟨rfl, g.c⟩, ⟨rfl, rfl⟩, trivial⟩, ⟨⟨rfl, rfl⟩, ⟨rfl, rfl⟩, trivial⟩, renR_ob (o := (setDate o ⟨true, y.b % 60⟩ 0)) hM (rN _ rfl) (rL _ rfl) (rC _ rfl), ⟨rfl, rfl⟩, trivial⟩, ⟨rfl, bn⟩, ⟨rfl, bl⟩, ⟨rfl, bc⟩, trivial⟩, hq⟩⟩
theorem st_dat11 {y : Rw} {i : Nat} {Rs : List AV} {M N L C : AV} {BN BL BC : Option Blk} (o : Ob) (g : Go1 i Rs y) (hM : closedA M = true) (rN : Rv 1 N) (rL : Rv 2 L) (rC : Rv 3 C) (bn : ClosedOB BN) (bl : ClosedOB BL) (bc : ClosedOB BC) (hk : y.k % 9 = 1) (ha : y.a % 10 = 1) : Step (stO (oW (.ofNat i) Rs (obF o M N L C) []) [(1, BN), (2, BL), (3, BC)]) (stO (oW (.ofNat (i + 1)) Rs (obF (setDate o ⟨true, y.b % 60⟩ 1) M N L C) []) [(1, BN), (2, BL), (3, BC)]) := by
 intro Q hq
 refine ALp.roundO (A := oA 1 1 y [] [] none []) (V1 := oW (.ofNat (i + 1)) Rs (obF (setDate o ⟨true, y.b % 60⟩ 1) M N L C) []) (F := oW (.ofNat i) Rs [] []) (opt := [(1, BN), (2, BL), (3, BC)]) (opt' := []) (lk := [(0, 0), (1, 1), (2, 2), (3, 3), (4, 4)]) (lk' := []) base0 aidJ_ok (LsOk.no rfl) .refl ?_
 rw [ob_dat11, g.w]
 exact ⟨g.a, g.b, g.x, pk hk (by decide) (by decide), pk ha (by decide) (by decide), pick_sem _ (by decide) (by decide), ⟨⟨⟨⟨⟨rfl, g.c⟩, ⟨rfl, rfl⟩, trivial⟩, ⟨⟨rfl, rfl⟩, ⟨rfl, rfl⟩, trivial⟩, renR_ob (o := (setDate o ⟨true, y.b % 60⟩ 1)) hM (rN _ rfl) (rL _ rfl) (rC _ rfl), ⟨rfl, rfl⟩, trivial⟩, ⟨rfl, bn⟩, ⟨rfl, bl⟩, ⟨rfl, bc⟩, trivial⟩, hq⟩⟩
theorem st_dat12 {y : Rw} {i : Nat} {Rs : List AV} {M N L C : AV} {BN BL BC : Option Blk} (o : Ob) (g : Go1 i Rs y) (hM : closedA M = true) (rN : Rv 1 N) (rL : Rv 2 L) (rC : Rv 3 C) (bn : ClosedOB BN) (bl : ClosedOB BL) (bc : ClosedOB BC) (hk : y.k % 9 = 1) (ha : y.a % 10 = 2) : Step (stO (oW (.ofNat i) Rs (obF o M N L C) []) [(1, BN), (2, BL), (3, BC)]) (stO (oW (.ofNat (i + 1)) Rs (obF (setDate o ⟨true, y.b % 60⟩ 2) M N L C) []) [(1, BN), (2, BL), (3, BC)]) := by
 intro Q hq
 refine ALp.roundO (A := oA 1 2 y [] [] none []) (V1 := oW (.ofNat (i + 1)) Rs (obF (setDate o ⟨true, y.b % 60⟩ 2) M N L C) []) (F := oW (.ofNat i) Rs [] []) (opt := [(1, BN), (2, BL), (3, BC)]) (opt' := []) (lk := [(0, 0), (1, 1), (2, 2), (3, 3), (4, 4)]) (lk' := []) base0 aidJ_ok (LsOk.no rfl) .refl ?_
 rw [ob_dat12, g.w]
 exact ⟨g.a, g.b, g.x, pk hk (by decide) (by decide), pk ha (by decide) (by decide), pick_sem _ (by decide) (by decide), ⟨⟨⟨⟨⟨rfl, g.c⟩, ⟨rfl, rfl⟩, trivial⟩, ⟨⟨rfl, rfl⟩, ⟨rfl, rfl⟩, trivial⟩, renR_ob (o := (setDate o ⟨true, y.b % 60⟩ 2)) hM (rN _ rfl) (rL _ rfl) (rC _ rfl), ⟨rfl, rfl⟩, trivial⟩, ⟨rfl, bn⟩, ⟨rfl, bl⟩, ⟨rfl, bc⟩, trivial⟩, hq⟩⟩
theorem st_dat13 {y : Rw} {i : Nat} {Rs : List AV} {M N L C : AV} {BN BL BC : Option Blk} (o : Ob) (g : Go1 i Rs y) (hM : closedA M = true) (rN : Rv 1 N) (rL : Rv 2 L) (rC : Rv 3 C) (bn : ClosedOB BN) (bl : ClosedOB BL) (bc : ClosedOB BC) (hk : y.k % 9 = 1) (ha : y.a % 10 = 3) : Step (stO (oW (.ofNat i) Rs (obF o M N L C) []) [(1, BN), (2, BL), (3, BC)]) (stO (oW (.ofNat (i + 1)) Rs (obF (setDate o ⟨true, y.b % 60⟩ 3) M N L C) []) [(1, BN), (2, BL), (3, BC)]) := by
 intro Q hq
 refine ALp.roundO (A := oA 1 3 y [] [] none []) (V1 := oW (.ofNat (i + 1)) Rs (obF (setDate o ⟨true, y.b % 60⟩ 3) M N L C) []) (F := oW (.ofNat i) Rs [] []) (opt := [(1, BN), (2, BL), (3, BC)]) (opt' := []) (lk := [(0, 0), (1, 1), (2, 2), (3, 3), (4, 4)]) (lk' := []) base0 aidJ_ok (LsOk.no rfl) .refl ?_
 rw [ob_dat13, g.w]
 exact ⟨g.a, g.b, g.x, pk hk (by decide) (by decide), pk ha (by decide) (by decide), pick_sem _ (by decide) (by decide), ⟨⟨⟨⟨⟨rfl, g.c⟩, ⟨rfl, rfl⟩, trivial⟩, ⟨⟨rfl, rfl⟩, ⟨rfl, rfl⟩, trivial⟩, renR_ob (o := (setDate o ⟨true, y.b % 60⟩ 3)) hM (rN _ rfl) (rL _ rfl) (rC _ rfl), ⟨rfl, rfl⟩, trivial⟩, ⟨rfl, bn⟩, ⟨rfl, bl⟩, ⟨rfl, bc⟩, trivial⟩, hq⟩⟩
theorem st_dat14 {y : Rw} {i : Nat} {Rs : List AV} {M N L C : AV} {BN BL BC : Option Blk} (o : Ob) (g : Go1 i Rs y) (hM : closedA M = true) (rN : Rv 1 N) (rL : Rv 2 L) (rC : Rv 3 C) (bn : ClosedOB BN) (bl : ClosedOB BL) (bc : ClosedOB BC) (hk : y.k % 9 = 1) (ha : y.a % 10 = 4) : Step (stO (oW (.ofNat i) Rs (obF o M N L C) []) [(1, BN), (2, BL), (3, BC)]) (stO (oW (.ofNat (i + 1)) Rs (obF (setDate o ⟨true, y.b % 60⟩ 4) M N L C) []) [(1, BN), (2, BL), (3, BC)]) := by
 intro Q hq
 refine ALp.roundO (A := oA 1 4 y [] [] none []) (V1 := oW (.ofNat (i + 1)) Rs (obF (setDate o ⟨true, y.b % 60⟩ 4) M N L C) []) (F := oW (.ofNat i) Rs [] []) (opt := [(1, BN), (2, BL), (3, BC)]) (opt' := []) (lk := [(0, 0), (1, 1), (2, 2), (3, 3), (4, 4)]) (lk' := []) base0 aidJ_ok (LsOk.no rfl) .refl ?_
 rw [ob_dat14, g.w]
 exact ⟨g.a, g.b, g.x, pk hk (by decide) (by decide), pk ha (by decide) (by decide), pick_sem _ (by decide) (by decide), ⟨⟨⟨⟨⟨rfl, g.c⟩, ⟨rfl, rfl⟩, trivial⟩, ⟨⟨rfl, rfl⟩, ⟨rfl, rfl⟩, trivial⟩, renR_ob (o := (setDate o ⟨true, y.b % 60⟩ 4)) hM (rN _ rfl) (rL _ rfl) (rC _ rfl), ⟨rfl, rfl⟩, trivial⟩, ⟨rfl, bn⟩, ⟨rfl, bl⟩, ⟨rfl, bc⟩, trivial⟩, hq⟩⟩
theorem st_dat15 {y : Rw} {i : Nat} {Rs : List AV} {M N L C : AV} {BN BL BC : Option Blk} (o : Ob) (g : Go1 i Rs y) (hM : closedA M = true) (rN : Rv 1 N) (rL : Rv 2 L) (rC : Rv 3 C) (bn : ClosedOB BN) (bl : ClosedOB BL) (bc : ClosedOB BC) (hk : y.k % 9 = 1) (ha : y.a % 10 = 5) : Step (stO (oW (.ofNat i) Rs (obF o M N L C) []) [(1, BN), (2, BL), (3, BC)]) (stO (oW (.ofNat (i + 1)) Rs (obF (setDate o ⟨true, y.b % 60⟩ 5) M N L C) []) [(1, BN), (2, BL), (3, BC)]) := by
 intro Q hq
 refine ALp.roundO (A := oA 1 5 y [] [] none []) (V1 := oW (.ofNat (i + 1)) Rs (obF (setDate o ⟨true, y.b % 60⟩ 5) M N L C) []) (F := oW (.ofNat i) Rs [] []) (opt := [(1, BN), (2, BL), (3, BC)]) (opt' := []) (lk := [(0, 0), (1, 1), (2, 2), (3, 3), (4, 4)]) (lk' := []) base0 aidJ_ok (LsOk.no rfl) .refl ?_
 rw [ob_dat15, g.w]
 exact ⟨g.a, g.b, g.x, pk hk (by decide) (by decide), pk ha (by decide) (by decide), pick_sem _ (by decide) (by decide), ⟨⟨⟨⟨⟨rfl, g.c⟩, ⟨rfl, rfl⟩, trivial⟩, ⟨⟨rfl, rfl⟩, ⟨rfl, rfl⟩, trivial⟩, renR_ob (o := (setDate o ⟨true, y.b % 60⟩ 5)) hM (rN _ rfl) (rL _ rfl) (rC _ rfl), ⟨rfl, rfl⟩, trivial⟩, ⟨rfl, bn⟩, ⟨rfl, bl⟩, ⟨rfl, bc⟩, trivial⟩, hq⟩⟩
theorem st_dat16 {y : Rw} {i : Nat} {Rs : List AV} {M N L C : AV} {BN BL BC : Option Blk} (o : Ob) (g : Go1 i Rs y) (hM : closedA M = true) (rN : Rv 1 N) (rL : Rv 2 L) (rC : Rv 3 C) (bn : ClosedOB BN) (bl : ClosedOB BL) (bc : ClosedOB BC) (hk : y.k % 9 = 1) (ha : y.a % 10 = 6) : Step (stO (oW (.ofNat i) Rs (obF o M N L C) []) [(1, BN), (2, BL), (3, BC)]) (stO (oW (.ofNat (i + 1)) Rs (obF (setDate o ⟨true, y.b % 60⟩ 6) M N L C) []) [(1, BN), (2, BL), (3, BC)]) := by
 intro Q hq
 refine ALp.roundO (A := oA 1 6 y [] [] none []) (V1 := oW (.ofNat (i + 1)) Rs (obF (setDate o ⟨true, y.b % 60⟩ 6) M N L C) []) (F := oW (.ofNat i) Rs [] []) (opt := [(1, BN), (2, BL), (3, BC)]) (opt' := []) (lk := [(0, 0), (1, 1), (2, 2), (3, 3), (4, 4)]) (lk' := []) base0 aidJ_ok (LsOk.no rfl) .refl ?_
 rw [ob_dat16, g.w]
 exact ⟨g.a, g.b, g.x, pk hk (by decide) (by decide), pk ha (by decide) (by decide), pick_sem _ (by decide) (by decide), ⟨⟨⟨⟨⟨rfl, g.c⟩, ⟨rfl, rfl⟩, trivial⟩, ⟨⟨rfl, rfl⟩, ⟨rfl, rfl⟩, trivial⟩, renR_ob (o := (setDate o ⟨true, y.b % 60⟩ 6)) hM (rN _ rfl) (rL _ rfl) (rC _ rfl), ⟨rfl, rfl⟩, trivial⟩, ⟨rfl, bn⟩, ⟨rfl, bl⟩, ⟨rfl, bc⟩, trivial⟩, hq⟩⟩
theorem st_dat17 {y : Rw} {i : Nat} {Rs : List AV} {M N L C : AV} {BN BL BC : Option Blk} (o : Ob) (g : Go1 i Rs y) (hM : closedA M = true) (rN : Rv 1 N) (rL : Rv 2 L) (rC : Rv 3 C) (bn : ClosedOB BN) (bl : ClosedOB BL) (bc : ClosedOB BC) (hk : y.k % 9 = 1) (ha : y.a % 10 = 7) : Step (stO (oW (.ofNat i) Rs (obF o M N L C) []) [(1, BN), (2, BL), (3, BC)]) (stO (oW (.ofNat (i + 1)) Rs (obF (setDate o ⟨true, y.b % 60⟩ 7) M N L C) []) [(1, BN), (2, BL), (3, BC)]) := by
 intro Q hq
 refine ALp.roundO (A := oA 1 7 y [] [] none []) (V1 := oW (.ofNat (i + 1)) Rs (obF (setDate o ⟨true, y.b % 60⟩ 7) M N L C) []) (F := oW (.ofNat i) Rs [] []) (opt := [(1, BN), (2, BL), (3, BC)]) (opt' := []) (lk := [(0, 0), (1, 1), (2, 2), (3, 3), (4, 4)]) (lk' := []) base0 aidJ_ok (LsOk.no rfl) .refl ?_
 rw [ob_dat17, g.w]
 exact ⟨g.a, g.b, g.x, pk hk (by decide) (by decide), pk ha (by decide) (by decide), pick_sem _ (by decide) (by decide), ⟨⟨⟨⟨⟨rfl, g.c⟩, ⟨rfl, rfl⟩, trivial⟩, ⟨⟨rfl, rfl⟩, ⟨rfl, rfl⟩, trivial⟩, renR_ob (o := (setDate o ⟨true, y.b % 60⟩ 7)) hM (rN _ rfl) (rL _ rfl) (rC _ rfl), ⟨rfl, rfl⟩, trivial⟩, ⟨rfl, bn⟩, ⟨rfl, bl⟩, ⟨rfl, bc⟩, trivial⟩, hq⟩⟩
theorem st_dat18 {y : Rw} {i : Nat} {Rs : List AV} {M N L C : AV} {BN BL BC : Option Blk} (o : Ob) (g : Go1 i Rs y) (hM : closedA M = true) (rN : Rv 1 N) (rL : Rv 2 L) (rC : Rv 3 C) (bn : ClosedOB BN) (bl : ClosedOB BL) (bc : ClosedOB BC) (hk : y.k % 9 = 1) (ha : y.a % 10 = 8) : Step (stO (oW (.ofNat i) Rs (obF o M N L C) []) [(1, BN), (2, BL), (3, BC)]) (stO (oW (.ofNat (i + 1)) Rs (obF (setDate o ⟨true, y.b % 60⟩ 8) M N L C) []) [(1, BN), (2, BL), (3, BC)]) := by
 intro Q hq
 refine ALp.roundO (A := oA 1 8 y [] [] none []) (V1 := oW (.ofNat (i + 1)) Rs (obF (setDate o ⟨true, y.b % 60⟩ 8) M N L C) []) (F := oW (.ofNat i) Rs [] []) (opt := [(1, BN), (2, BL), (3, BC)]) (opt' := []) (lk := [(0, 0), (1, 1), (2, 2), (3, 3), (4, 4)]) (lk' := []) base0 aidJ_ok (LsOk.no rfl) .refl ?_
 rw [ob_dat18, g.w]
 exact ⟨g.a, g.b, g.x, pk hk (by decide) (by decide), pk ha (by decide) (by decide), pick_sem _ (by decide) (by decide), ⟨⟨⟨⟨⟨rfl, g.c⟩, ⟨rfl, rfl⟩, trivial⟩, ⟨⟨rfl, rfl⟩, ⟨rfl, rfl⟩, trivial⟩, renR_ob (o := (setDate o ⟨true, y.b % 60⟩ 8)) hM (rN _ rfl) (rL _ rfl) (rC _ rfl), ⟨rfl, rfl⟩, trivial⟩, ⟨rfl, bn⟩, ⟨rfl, bl⟩, ⟨rfl, bc⟩, trivial⟩, hq⟩⟩
theorem st_dat19 {y : Rw} {i : Nat} {Rs : List AV} {M N L C : AV} {BN BL BC : Option Blk} (o : Ob) (g : Go1 i Rs y) (hM : closedA M = true) (rN : Rv 1 N) (rL : Rv 2 L) (rC : Rv 3 C) (bn : ClosedOB BN) (bl : ClosedOB BL) (bc : ClosedOB BC) (hk : y.k % 9 = 1) (ha : y.a % 10 = 9) : Step (stO (oW (.ofNat i) Rs (obF o M N L C) []) [(1, BN), (2, BL), (3, BC)]) (stO (oW (.ofNat (i + 1)) Rs (obF (setDate o ⟨true, y.b % 60⟩ 9) M N L C) []) [(1, BN), (2, BL), (3, BC)]) := by
 intro Q hq
 refine ALp.roundO (A := oA 1 9 y [] [] none []) (V1 := oW (.ofNat (i + 1)) Rs (obF (setDate o ⟨true, y.b % 60⟩ 9) M N L C) []) (F := oW (.ofNat i) Rs [] []) (opt := [(1, BN), (2, BL), (3, BC)]) (opt' := []) (lk := [(0, 0), (1, 1), (2, 2), (3, 3), (4, 4)]) (lk' := []) base0 aidJ_ok (LsOk.no rfl) .refl ?_
 rw [ob_dat19, g.w]
 exact ⟨g.a, g.b, g.x, pk hk (by decide) (by decide), pk ha (by decide) (by decide), pick_sem _ (by decide) (by decide), ⟨⟨⟨⟨⟨rfl, g.c⟩, ⟨rfl, rfl⟩, trivial⟩, ⟨⟨rfl, rfl⟩, ⟨rfl, rfl⟩, trivial⟩, renR_ob (o := (setDate o ⟨true, y.b % 60⟩ 9)) hM (rN _ rfl) (rL _ rfl) (rC _ rfl), ⟨rfl, rfl⟩, trivial⟩, ⟨rfl, bn⟩, ⟨rfl, bl⟩, ⟨rfl, bc⟩, trivial⟩, hq⟩⟩
theorem st_dat20 {y : Rw} {i : Nat} {Rs : List AV} {M N L C : AV} {BN BL BC : Option Blk} (o : Ob) (g : Go1 i Rs y) (hM : closedA M = true) (rN : Rv 1 N) (rL : Rv 2 L) (rC : Rv 3 C) (bn : ClosedOB BN) (bl : ClosedOB BL) (bc : ClosedOB BC) (hk : y.k % 9 = 2) (ha : y.a % 10 = 0) : Step (stO (oW (.ofNat i) Rs (obF o M N L C) []) [(1, BN), (2, BL), (3, BC)]) (stO (oW (.ofNat (i + 1)) Rs (obF (setDate o ⟨true, y.b % 60⟩ 0) M N L C) []) [(1, BN), (2, BL), (3, BC)]) := by
 intro Q hq
 refine ALp.roundO (A := oA 2 0 y [] [] none []) (V1 := oW (.ofNat (i + 1)) Rs (obF (setDate o ⟨true, y.b % 60⟩ 0) M N L C) []) (F := oW (.ofNat i) Rs [] []) (opt := [(1, BN), (2, BL), (3, BC)]) (opt' := []) (lk := [(0, 0), (1, 1), (2, 2), (3, 3), (4, 4)]) (lk' := []) base0 aidJ_ok (LsOk.no rfl) .refl ?_
 rw [ob_dat20, g.w]
 exact ⟨g.a, g.b, g.x, pk hk (by decide) (by decide), pk ha (by decide) (by decide), pick_sem _ (by decide) (by decide), ⟨⟨⟨⟨⟨rfl, g.c⟩, ⟨rfl, rfl⟩, trivial⟩, ⟨⟨rfl, rfl⟩, ⟨rfl, rfl⟩, trivial⟩, renR_ob (o := (setDate o ⟨true, y.b % 60⟩ 0)) hM (rN _ rfl) (rL _ rfl) (rC _ rfl), ⟨rfl, rfl⟩, trivial⟩, ⟨rfl, bn⟩, ⟨rfl, bl⟩, ⟨rfl, bc⟩, trivial⟩, hq⟩⟩
theorem st_dat21 {y : Rw} {i : Nat} {Rs : List AV} {M N L C : AV} {BN BL BC : Option Blk} (o : Ob) (g : Go1 i Rs y) (hM : closedA M = true) (rN : Rv 1 N) (rL : Rv 2 L) (rC : Rv 3 C) (bn : ClosedOB BN) (bl : ClosedOB BL) (bc : ClosedOB BC) (hk : y.k % 9 = 2) (ha : y.a % 10 = 1) : Step (stO (oW (.ofNat i) Rs (obF o M N L C) []) [(1, BN), (2, BL), (3, BC)]) (stO (oW (.ofNat (i + 1)) Rs (obF (setDate o ⟨true, y.b % 60⟩ 1) M N L C) []) [(1, BN), (2, BL), (3, BC)]) := by
 intro Q hq
 refine ALp.roundO (A := oA 2 1 y [] [] none []) (V1 := oW (.ofNat (i + 1)) Rs (obF (setDate o ⟨true, y.b % 60⟩ 1) M N L C) []) (F := oW (.ofNat i) Rs [] []) (opt := [(1, BN), (2, BL), (3, BC)]) (opt' := []) (lk := [(0, 0), (1, 1), (2, 2), (3, 3), (4, 4)]) (lk' := []) base0 aidJ_ok (LsOk.no rfl) .refl ?_
 rw [ob_dat21, g.w]
 exact ⟨g.a, g.b, g.x, pk hk (by decide) (by decide), pk ha (by decide) (by decide), pick_sem _ (by decide) (by decide), ⟨⟨⟨⟨⟨rfl, g.c⟩, ⟨rfl, rfl⟩, trivial⟩, ⟨⟨rfl, rfl⟩, ⟨rfl, rfl⟩, trivial⟩, renR_ob (o := (setDate o ⟨true, y.b % 60⟩ 1)) hM (rN _ rfl) (rL _ rfl) (rC _ rfl), ⟨rfl, rfl⟩, trivial⟩, ⟨rfl, bn⟩, ⟨rfl, bl⟩, ⟨rfl, bc⟩, trivial⟩, hq⟩⟩
theorem st_dat22 {y : Rw} {i : Nat} {Rs : List AV} {M N L C : AV} {BN BL BC : Option Blk} (o : Ob) (g : Go1 i Rs y) (hM : closedA M = true) (rN : Rv 1 N) (rL : Rv 2 L) (rC : Rv 3 C) (bn : ClosedOB BN) (bl : ClosedOB BL) (bc : ClosedOB BC) (hk : y.k % 9 = 2) (ha : y.a % 10 = 2) : Step (stO (oW (.ofNat i) Rs (obF o M N L C) []) [(1, BN), (2, BL), (3, BC)]) (stO (oW (.ofNat (i + 1)) Rs (obF (setDate o ⟨true, y.b % 60⟩ 2) M N L C) []) [(1, BN), (2, BL), (3, BC)]) := by
 intro Q hq
 refine ALp.roundO (A := oA 2 2 y [] [] none []) (V1 := oW (.ofNat (i + 1)) Rs (obF (setDate o ⟨true, y.b % 60⟩ 2) M N L C) []) (F := oW (.ofNat i) Rs [] []) (opt := [(1, BN), (2, BL), (3, BC)]) (opt' := []) (lk := [(0, 0), (1, 1), (2, 2), (3, 3), (4, 4)]) (lk' := []) base0 aidJ_ok (LsOk.no rfl) .refl ?_
 rw [ob_dat22, g.w]
 exact ⟨g.a, g.b, g.x, pk hk (by decide) (by decide), pk ha (by decide) (by decide), pick_sem _ (by decide) (by decide), ⟨⟨⟨⟨⟨rfl, g.c⟩, ⟨rfl, rfl⟩, trivial⟩, ⟨⟨rfl, rfl⟩, ⟨rfl, rfl⟩, trivial⟩, renR_ob (o := (setDate o ⟨true, y.b % 60⟩ 2)) hM (rN _ rfl) (rL _ rfl) (rC _ rfl), ⟨rfl, rfl⟩, trivial⟩, ⟨rfl, bn⟩, ⟨rfl, bl⟩, ⟨rfl, bc⟩, trivial⟩, hq⟩⟩
theorem st_dat23 {y : Rw} {i : Nat} {Rs : List AV} {M N L C : AV} {BN BL BC : Option Blk} (o : Ob) (g : Go1 i Rs y) (hM : closedA M = true) (rN : Rv 1 N) (rL : Rv 2 L) (rC : Rv 3 C) (bn : ClosedOB BN) (bl : ClosedOB BL) (bc : ClosedOB BC) (hk : y.k % 9 = 2) (ha : y.a % 10 = 3) : Step (stO (oW (.ofNat i) Rs (obF o M N L C) []) [(1, BN), (2, BL), (3, BC)]) (stO (oW (.ofNat (i + 1)) Rs (obF (setDate o ⟨true, y.b % 60⟩ 3) M N L C) []) [(1, BN), (2, BL), (3, BC)]) := by
 intro Q hq
 refine ALp.roundO (A := oA 2 3 y [] [] none []) (V1 := oW (.ofNat (i + 1)) Rs (obF (setDate o ⟨true, y.b % 60⟩ 3) M N L C) []) (F := oW (.ofNat i) Rs [] []) (opt := [(1, BN), (2, BL), (3, BC)]) (opt' := []) (lk := [(0, 0), (1, 1), (2, 2), (3, 3), (4, 4)]) (lk' := []) base0 aidJ_ok (LsOk.no rfl) .refl ?_
 rw [ob_dat23, g.w]
 exact ⟨g.a, g.b, g.x, pk hk (by decide) (by decide), pk ha (by decide) (by decide), pick_sem _ (by decide) (by decide), ⟨⟨⟨⟨⟨rfl, g.c⟩, ⟨rfl, rfl⟩, trivial⟩, ⟨⟨rfl, rfl⟩, ⟨rfl, rfl⟩, trivial⟩, renR_ob (o := (setDate o ⟨true, y.b % 60⟩ 3)) hM (rN _ rfl) (rL _ rfl) (rC _ rfl), ⟨rfl, rfl⟩, trivial⟩, ⟨rfl, bn⟩, ⟨rfl, bl⟩, ⟨rfl, bc⟩, trivial⟩, hq⟩⟩
theorem st_dat24 {y : Rw} {i : Nat} {Rs : List AV} {M N L C : AV} {BN BL BC : Option Blk} (o : Ob) (g : Go1 i Rs y) (hM : closedA M = true) (rN : Rv 1 N) (rL : Rv 2 L) (rC : Rv 3 C) (bn : ClosedOB BN) (bl : ClosedOB BL) (bc : ClosedOB BC) (hk : y.k % 9 = 2) (ha : y.a % 10 = 4) : Step (stO (oW (.ofNat i) Rs (obF o M N L C) []) [(1, BN), (2, BL), (3, BC)]) (stO (oW (.ofNat (i + 1)) Rs (obF (setDate o ⟨true, y.b % 60⟩ 4) M N L C) []) [(1, BN), (2, BL), (3, BC)]) := by
 intro Q hq
 refine ALp.roundO (A := oA 2 4 y [] [] none []) (V1 := oW (.ofNat (i + 1)) Rs (obF (setDate o ⟨true, y.b % 60⟩ 4) M N L C) []) (F := oW (.ofNat i) Rs [] []) (opt := [(1, BN), (2, BL), (3, BC)]) (opt' := []) (lk := [(0, 0), (1, 1), (2, 2), (3, 3), (4, 4)]) (lk' := []) base0 aidJ_ok (LsOk.no rfl) .refl ?_
 rw [ob_dat24, g.w]
 exact ⟨g.a, g.b, g.x, pk hk (by decide) (by decide), pk ha (by decide) (by decide), pick_sem _ (by decide) (by decide), ⟨⟨⟨⟨⟨rfl, g.c⟩, ⟨rfl, rfl⟩, trivial⟩, ⟨⟨rfl, rfl⟩, ⟨rfl, rfl⟩, trivial⟩, renR_ob (o := (setDate o ⟨true, y.b % 60⟩ 4)) hM (rN _ rfl) (rL _ rfl) (rC _ rfl), ⟨rfl, rfl⟩, trivial⟩, ⟨rfl, bn⟩, ⟨rfl, bl⟩, ⟨rfl, bc⟩, trivial⟩, hq⟩⟩
theorem st_dat25 {y : Rw} {i : Nat} {Rs : List AV} {M N L C : AV} {BN BL BC : Option Blk} (o : Ob) (g : Go1 i Rs y) (hM : closedA M = true) (rN : Rv 1 N) (rL : Rv 2 L) (rC : Rv 3 C) (bn : ClosedOB BN) (bl : ClosedOB BL) (bc : ClosedOB BC) (hk : y.k % 9 = 2) (ha : y.a % 10 = 5) : Step (stO (oW (.ofNat i) Rs (obF o M N L C) []) [(1, BN), (2, BL), (3, BC)]) (stO (oW (.ofNat (i + 1)) Rs (obF (setDate o ⟨true, y.b % 60⟩ 5) M N L C) []) [(1, BN), (2, BL), (3, BC)]) := by
 intro Q hq
 refine ALp.roundO (A := oA 2 5 y [] [] none []) (V1 := oW (.ofNat (i + 1)) Rs (obF (setDate o ⟨true, y.b % 60⟩ 5) M N L C) []) (F := oW (.ofNat i) Rs [] []) (opt := [(1, BN), (2, BL), (3, BC)]) (opt' := []) (lk := [(0, 0), (1, 1), (2, 2), (3, 3), (4, 4)]) (lk' := []) base0 aidJ_ok (LsOk.no rfl) .refl ?_
 rw [ob_dat25, g.w]
 exact ⟨g.a, g.b, g.x, pk hk (by decide) (by decide), pk ha (by decide) (by decide), pick_sem _ (by decide) (by decide), ⟨⟨⟨⟨⟨rfl, g.c⟩, ⟨rfl, rfl⟩, trivial⟩, ⟨⟨rfl, rfl⟩, ⟨rfl, rfl⟩, trivial⟩, renR_ob (o := (setDate o ⟨true, y.b % 60⟩ 5)) hM (rN _ rfl) (rL _ rfl) (rC _ rfl), ⟨rfl, rfl⟩, trivial⟩, ⟨rfl, bn⟩, ⟨rfl, bl⟩, ⟨rfl, bc⟩, trivial⟩, hq⟩⟩
theorem st_dat26 {y : Rw} {i : Nat} {Rs : List AV} {M N L C : AV} {BN BL BC : Option Blk} (o : Ob) (g : Go1 i Rs y) (hM : closedA M = true) (rN : Rv 1 N) (rL : Rv 2 L) (rC : Rv 3 C) (bn : ClosedOB BN) (bl : ClosedOB BL) (bc : ClosedOB BC) (hk : y.k % 9 = 2) (ha : y.a % 10 = 6) : Step (stO (oW (.ofNat i) Rs (obF o M N L C) []) [(1, BN), (2, BL), (3, BC)]) (stO (oW (.ofNat (i + 1)) Rs (obF (setDate o ⟨true, y.b % 60⟩ 6) M N L C) []) [(1, BN), (2, BL), (3, BC)]) := by
 intro Q hq
 refine ALp.roundO (A := oA 2 6 y [] [] none []) (V1 := oW (.ofNat (i + 1)) Rs (obF (setDate o ⟨true, y.b % 60⟩ 6) M N L C) []) (F := oW (.ofNat i) Rs [] []) (opt := [(1, BN), (2, BL), (3, BC)]) (opt' := []) (lk := [(0, 0), (1, 1), (2, 2), (3, 3), (4, 4)]) (lk' := []) base0 aidJ_ok (LsOk.no rfl) .refl ?_
 rw [ob_dat26, g.w]
 exact ⟨g.a, g.b, g.x, pk hk (by decide) (by decide), pk ha (by decide) (by decide), pick_sem _ (by decide) (by decide), ⟨⟨⟨⟨⟨rfl, g.c⟩, ⟨rfl, rfl⟩, trivial⟩, ⟨⟨rfl, rfl⟩, ⟨rfl, rfl⟩, trivial⟩, renR_ob (o := (setDate o ⟨true, y.b % 60⟩ 6)) hM (rN _ rfl) (rL _ rfl) (rC _ rfl), ⟨rfl, rfl⟩, trivial⟩, ⟨rfl, bn⟩, ⟨rfl, bl⟩, ⟨rfl, bc⟩, trivial⟩, hq⟩⟩
theorem st_dat27 {y : Rw} {i : Nat} {Rs : List AV} {M N L C : AV} {BN BL BC : Option Blk} (o : Ob) (g : Go1 i Rs y) (hM : closedA M = true) (rN : Rv 1 N) (rL : Rv 2 L) (rC : Rv 3 C) (bn : ClosedOB BN) (bl : ClosedOB BL) (bc : ClosedOB BC) (hk : y.k % 9 = 2) (ha : y.a % 10 = 7) : Step (stO (oW (.ofNat i) Rs (obF o M N L C) []) [(1, BN), (2, BL), (3, BC)]) (stO (oW (.ofNat (i + 1)) Rs (obF (setDate o ⟨true, y.b % 60⟩ 7) M N L C) []) [(1, BN), (2, BL), (3, BC)]) := by
 intro Q hq
 refine ALp.roundO (A := oA 2 7 y [] [] none []) (V1 := oW (.ofNat (i + 1)) Rs (obF (setDate o ⟨true, y.b % 60⟩ 7) M N L C) []) (F := oW (.ofNat i) Rs [] []) (opt := [(1, BN), (2, BL), (3, BC)]) (opt' := []) (lk := [(0, 0), (1, 1), (2, 2), (3, 3), (4, 4)]) (lk' := []) base0 aidJ_ok (LsOk.no rfl) .refl ?_
 rw [ob_dat27, g.w]
 exact ⟨g.a, g.b, g.x, pk hk (by decide) (by decide), pk ha (by decide) (by decide), pick_sem _ (by decide) (by decide), ⟨⟨⟨⟨⟨rfl, g.c⟩, ⟨rfl, rfl⟩, trivial⟩, ⟨⟨rfl, rfl⟩, ⟨rfl, rfl⟩, trivial⟩, renR_ob (o := (setDate o ⟨true, y.b % 60⟩ 7)) hM (rN _ rfl) (rL _ rfl) (rC _ rfl), ⟨rfl, rfl⟩, trivial⟩, ⟨rfl, bn⟩, ⟨rfl, bl⟩, ⟨rfl, bc⟩, trivial⟩, hq⟩⟩
theorem st_dat28 {y : Rw} {i : Nat} {Rs : List AV} {M N L C : AV} {BN BL BC : Option Blk} (o : Ob) (g : Go1 i Rs y) (hM : closedA M = true) (rN : Rv 1 N) (rL : Rv 2 L) (rC : Rv 3 C) (bn : ClosedOB BN) (bl : ClosedOB BL) (bc : ClosedOB BC) (hk : y.k % 9 = 2) (ha : y.a % 10 = 8) : Step (stO (oW (.ofNat i) Rs (obF o M N L C) []) [(1, BN), (2, BL), (3, BC)]) (stO (oW (.ofNat (i + 1)) Rs (obF (setDate o ⟨true, y.b % 60⟩ 8) M N L C) []) [(1, BN), (2, BL), (3, BC)]) := by
 intro Q hq
 refine ALp.roundO (A := oA 2 8 y [] [] none []) (V1 := oW (.ofNat (i + 1)) Rs (obF (setDate o ⟨true, y.b % 60⟩ 8) M N L C) []) (F := oW (.ofNat i) Rs [] []) (opt := [(1, BN), (2, BL), (3, BC)]) (opt' := []) (lk := [(0, 0), (1, 1), (2, 2), (3, 3), (4, 4)]) (lk' := []) base0 aidJ_ok (LsOk.no rfl) .refl ?_
 rw [ob_dat28, g.w]
 exact ⟨g.a, g.b, g.x, pk hk (by decide) (by decide), pk ha (by decide) (by decide), pick_sem _ (by decide) (by decide), ⟨⟨⟨⟨⟨rfl, g.c⟩, ⟨rfl, rfl⟩, trivial⟩, ⟨⟨rfl, rfl⟩, ⟨rfl, rfl⟩, trivial⟩, renR_ob (o := (setDate o ⟨true, y.b % 60⟩ 8)) hM (rN _ rfl) (rL _ rfl) (rC _ rfl), ⟨rfl, rfl⟩, trivial⟩, ⟨rfl, bn⟩, ⟨rfl, bl⟩, ⟨rfl, bc⟩, trivial⟩, hq⟩⟩
theorem st_dat29 {y : Rw} {i : Nat} {Rs : List AV} {M N L C : AV} {BN BL BC : Option Blk} (o : Ob) (g : Go1 i Rs y) (hM : closedA M = true) (rN : Rv 1 N) (rL : Rv 2 L) (rC : Rv 3 C) (bn : ClosedOB BN) (bl : ClosedOB BL) (bc : ClosedOB BC) (hk : y.k % 9 = 2) (ha : y.a % 10 = 9) : Step (stO (oW (.ofNat i) Rs (obF o M N L C) []) [(1, BN), (2, BL), (3, BC)]) (stO (oW (.ofNat (i + 1)) Rs (obF (setDate o ⟨true, y.b % 60⟩ 9) M N L C) []) [(1, BN), (2, BL), (3, BC)]) := by
 intro Q hq
 refine ALp.roundO (A := oA 2 9 y [] [] none []) (V1 := oW (.ofNat (i + 1)) Rs (obF (setDate o ⟨true, y.b % 60⟩ 9) M N L C) []) (F := oW (.ofNat i) Rs [] []) (opt := [(1, BN), (2, BL), (3, BC)]) (opt' := []) (lk := [(0, 0), (1, 1), (2, 2), (3, 3), (4, 4)]) (lk' := []) base0 aidJ_ok (LsOk.no rfl) .refl ?_
 rw [ob_dat29, g.w]
 exact ⟨g.a, g.b, g.x, pk hk (by decide) (by decide), pk ha (by decide) (by decide), pick_sem _ (by decide) (by decide), ⟨⟨⟨⟨⟨rfl, g.c⟩, ⟨rfl, rfl⟩, trivial⟩, ⟨⟨rfl, rfl⟩, ⟨rfl, rfl⟩, trivial⟩, renR_ob (o := (setDate o ⟨true, y.b % 60⟩ 9)) hM (rN _ rfl) (rL _ rfl) (rC _ rfl), ⟨rfl, rfl⟩, trivial⟩, ⟨rfl, bn⟩, ⟨rfl, bl⟩, ⟨rfl, bc⟩, trivial⟩, hq⟩⟩
def limOb (o : Ob) (y : Rw) : Ob := { o with lh := true, lt := 1 + y.a % 50, lc := 1 + y.a % 50 - y.b % (1 + y.a % 50 + 1), lu := 1 + y.c % 2 }
theorem st_lim {y : Rw} {i : Nat} {Rs : List AV} {M N L C : AV} {BN BL BC : Option Blk} (o : Ob) (g : Go1 i Rs y) (hM : closedA M = true) (rN : Rv 1 N) (rL : Rv 2 L) (rC : Rv 3 C) (bn : ClosedOB BN) (bl : ClosedOB BL) (bc : ClosedOB BC) (hk : y.k % 9 = 5) : Step (stO (oW (.ofNat i) Rs (obF o M N L C) []) [(1, BN), (2, BL), (3, BC)]) (stO (oW (.ofNat (i + 1)) Rs (obF (limOb o y) M N L C) []) [(1, BN), (2, BL), (3, BC)]) := by
 intro Q hq
 refine ALp.roundO (A := oA 5 0 y [] [] none []) (V1 := oW (.ofNat (i + 1)) Rs (obF (limOb o y) M N L C) []) (F := oW (.ofNat i) Rs [] []) (opt := [(1, BN), (2, BL), (3, BC)]) (opt' := []) (lk := [(0, 0), (1, 1), (2, 2), (3, 3), (4, 4)]) (lk' := []) base0 aidJ_ok (LsOk.no rfl) .refl ?_
 have q1 := Int.emod_nonneg y.a (b := 50) (by decide)
 have q2 := Int.emod_lt_of_pos y.a (b := 50) (by decide)
 have q3 := Int.emod_nonneg y.b (b := 1 + y.a % 50 + 1) (by omega)
 have q4 := Int.emod_lt_of_pos y.b (b := 1 + y.a % 50 + 1) (by omega)
 have q5 := Int.emod_nonneg y.c (b := 2) (by decide)
 have q6 := Int.emod_lt_of_pos y.c (b := 2) (by decide)
 have w1 : wrapA .i64 (1 + y.a % 50) = 1 + y.a % 50 := wrapA_i64 (by omega) (by omega)
 have w2 : wrapA .i64 (1 + y.a % 50 + 1) = 1 + y.a % 50 + 1 := wrapA_i64 (by omega) (by omega)
 have w3 : wrapA .i64 (1 + y.a % 50 - y.b % (1 + y.a % 50 + 1)) = 1 + y.a % 50 - y.b % (1 + y.a % 50 + 1) := wrapA_i64 (by omega) (by omega)
 have w4 : wrapA .i64 (1 + y.c % 2) = 1 + y.c % 2 := wrapA_i64 (by omega) (by omega)
 rw [ob_lim, g.w, w1, w2, w3, w4]
 exact ⟨g.a, g.b, g.x, pk hk (by decide) (by decide), pick_sem _ (by decide) (by decide), pick_sem _ (by omega) (by omega), pick_sem _ (by decide) (by decide), ⟨⟨⟨⟨⟨rfl, g.c⟩, ⟨rfl, rfl⟩, trivial⟩, ⟨⟨rfl, rfl⟩, ⟨rfl, rfl⟩, trivial⟩, renR_ob (o := (limOb o y)) hM (rN _ rfl) (rL _ rfl) (rC _ rfl), ⟨rfl, rfl⟩, trivial⟩, ⟨rfl, bn⟩, ⟨rfl, bl⟩, ⟨rfl, bc⟩, trivial⟩, hq⟩⟩
def msL : List (List UInt8) := [[], [109], [108, 111, 115, 116]]
def whyOb (o : Ob) (y : Rw) : Ob := { o with why := 1 + y.a % 7, msg := ofL msL [] y.b }
theorem idx_ms (n : Int) : indexA Tryz.prog 110 (.agg (msL.map .str)) (I (n % 3)) = some (.str (ofL msL [] n)) :=
 idx_pick (T := 110) (d := []) (l := msL) (f := .str) (by decide) fun k x h => by
  match k, h with
  | 0, h => obtain rfl : _ = x := Option.some.inj h; show indexA _ _ _ _ = _; kernel_rfl
  | 1, h => obtain rfl : _ = x := Option.some.inj h; show indexA _ _ _ _ = _; kernel_rfl
  | 2, h => obtain rfl : _ = x := Option.some.inj h; show indexA _ _ _ _ = _; kernel_rfl
theorem st_why {y : Rw} {i : Nat} {Rs : List AV} {M N L C : AV} {BN BL BC : Option Blk} (o : Ob) (g : Go1 i Rs y) (hM : closedA M = true) (rN : Rv 1 N) (rL : Rv 2 L) (rC : Rv 3 C) (bn : ClosedOB BN) (bl : ClosedOB BL) (bc : ClosedOB BC) (hk : y.k % 9 = 7) : Step (stO (oW (.ofNat i) Rs (obF o M N L C) []) [(1, BN), (2, BL), (3, BC)]) (stO (oW (.ofNat (i + 1)) Rs (obF (whyOb o y) M N L C) []) [(1, BN), (2, BL), (3, BC)]) := by
 intro Q hq
 refine ALp.roundO (A := oA 7 0 y [(40, 4, .res (.str (ofL msL [] y.b)))] [] none []) (V1 := oW (.ofNat (i + 1)) Rs (obF (whyOb o y) M N L C) []) (F := oW (.ofNat i) Rs [] []) (opt := [(1, BN), (2, BL), (3, BC)]) (opt' := []) (lk := [(0, 0), (1, 1), (2, 2), (3, 3), (4, 4)]) (lk' := []) base0 aidJ_ok (LsOk.no rfl) .refl ?_
 have q1 := Int.emod_nonneg y.a (b := 7) (by decide)
 have q2 := Int.emod_lt_of_pos y.a (b := 7) (by decide)
 have w1 : wrapA .i64 (1 + y.a % 7) = 1 + y.a % 7 := wrapA_i64 (by omega) (by omega)
 rw [ob_why, g.w, w1]
 exact ⟨g.a, g.b, g.x, pk hk (by decide) (by decide), pick_sem _ (by decide) (by decide), pick_sem _ (by decide) (by decide), idx_ms _, ⟨⟨⟨⟨⟨rfl, g.c⟩, ⟨rfl, rfl⟩, trivial⟩, ⟨⟨rfl, rfl⟩, ⟨rfl, rfl⟩, trivial⟩, renR_ob (o := (whyOb o y)) hM (rN _ rfl) (rL _ rfl) (rC _ rfl), ⟨rfl, rfl⟩, trivial⟩, ⟨rfl, bn⟩, ⟨rfl, bl⟩, ⟨rfl, bc⟩, trivial⟩, hq⟩⟩
def arcOb (o : Ob) (y : Rw) : Ob := { o with arch := beqInt (y.a.tmod 3) 0 }
theorem st_arc {y : Rw} {i : Nat} {Rs : List AV} {M N L C : AV} {BN BL BC : Option Blk} (o : Ob) (g : Go1 i Rs y) (hM : closedA M = true) (rN : Rv 1 N) (rL : Rv 2 L) (rC : Rv 3 C) (bn : ClosedOB BN) (bl : ClosedOB BL) (bc : ClosedOB BC) (hk : y.k % 9 = 8) : Step (stO (oW (.ofNat i) Rs (obF o M N L C) []) [(1, BN), (2, BL), (3, BC)]) (stO (oW (.ofNat (i + 1)) Rs (obF (arcOb o y) M N L C) []) [(1, BN), (2, BL), (3, BC)]) := by
 intro Q hq
 refine ALp.roundO (A := oA 8 0 y [] [] none []) (V1 := oW (.ofNat (i + 1)) Rs (obF (arcOb o y) M N L C) []) (F := oW (.ofNat i) Rs [] []) (opt := [(1, BN), (2, BL), (3, BC)]) (opt' := []) (lk := [(0, 0), (1, 1), (2, 2), (3, 3), (4, 4)]) (lk' := []) base0 aidJ_ok (LsOk.no rfl) .refl ?_
 rw [ob_arc, g.w]
 exact ⟨g.a, g.b, g.x, pk hk (by decide) (by decide), ⟨⟨⟨⟨⟨rfl, g.c⟩, ⟨rfl, rfl⟩, trivial⟩, ⟨⟨rfl, rfl⟩, ⟨rfl, rfl⟩, trivial⟩, renR_ob (o := (arcOb o y)) hM (rN _ rfl) (rL _ rfl) (rC _ rfl), ⟨rfl, rfl⟩, trivial⟩, ⟨rfl, bn⟩, ⟨rfl, bl⟩, ⟨rfl, bc⟩, trivial⟩, hq⟩⟩
def nmL : List (List UInt8) := [[111, 110, 101], [116, 119, 111], [116, 104, 114, 101, 101], [102, 111, 117, 114], [102, 105, 118, 101]]
theorem idx_nm (n : Int) : indexA Tryz.prog 106 (.agg (nmL.map .str)) (I (n % 5)) = some (.str (ofL nmL [] n)) :=
 idx_pick (T := 106) (d := []) (l := nmL) (f := .str) (by decide) fun k x h => by
  match k, h with
  | 0, h => obtain rfl : _ = x := Option.some.inj h; show indexA _ _ _ _ = _; kernel_rfl
  | 1, h => obtain rfl : _ = x := Option.some.inj h; show indexA _ _ _ _ = _; kernel_rfl
  | 2, h => obtain rfl : _ = x := Option.some.inj h; show indexA _ _ _ _ = _; kernel_rfl
  | 3, h => obtain rfl : _ = x := Option.some.inj h; show indexA _ _ _ _ = _; kernel_rfl
  | 4, h => obtain rfl : _ = x := Option.some.inj h; show indexA _ _ _ _ = _; kernel_rfl
theorem st_nam0 {y : Rw} {i : Nat} {Rs : List AV} {M L C : AV} {BL BC : Option Blk} (o : Ob) (g : Go1 i Rs y) (hM : closedA M = true) (rL : Rv 2 L) (rC : Rv 3 C) (bl : ClosedOB BL) (bc : ClosedOB BC) (hk : y.k % 9 = 3)  : Step (stO (oW (.ofNat i) Rs (obF o M .nilsl L C) []) [(2, BL), (3, BC)]) (stO (oW (.ofNat (i + 1)) Rs (obF o M (.rsl true 1 0 1 1) L C) [(1, .cells [.str (ofL nmL [] y.a)], .whole)]) [(2, BL), (3, BC)]) := by
 intro Q hq
 refine ALp.roundO (A := oA 3 0 y [(14, 4, .res (.str (ofL nmL [] y.a)))] [] (some (.val (.bool false))) []) (V1 := oW (.ofNat (i + 1)) Rs (obF o M (.rsl true 1 0 1 1) L C) [(1, .cells [.str (ofL nmL [] y.a)], .whole)]) (F := oW (.ofNat i) Rs [] []) (opt := [(2, BL), (3, BC)]) (opt' := []) (lk := [(0, 0), (1, 46), (2, 2), (3, 3), (4, 4)]) (lk' := []) base0 aidJ_ok (LsOk.no rfl) .refl ?_
 rw [ob_nam0, g.w]
 exact ⟨g.a, g.b, g.x, pk hk (by decide) (by decide), pick_sem _ (by decide) (by decide), idx_nm _, in_none _, ⟨⟨⟨⟨⟨rfl, g.c⟩, ⟨rfl, rfl⟩, trivial⟩, ⟨⟨rfl, rfl⟩, ⟨rfl, rfl⟩, trivial⟩, renR_ob (o := o) hM (.rsl _ _ _ _ _ _ rfl) (rL _ rfl) (rC _ rfl), ⟨rfl, rfl⟩, ⟨rfl, rfl⟩, trivial⟩, ⟨rfl, bl⟩, ⟨rfl, bc⟩, trivial⟩, hq⟩⟩
theorem st_nam1t {y : Rw} {i : Nat} {Rs : List AV} {M L C : AV} {BL BC : Option Blk} (o : Ob) (g : Go1 i Rs y) (hM : closedA M = true) (rL : Rv 2 L) (rC : Rv 3 C) (bl : ClosedOB BL) (bc : ClosedOB BC) (hk : y.k % 9 = 3) {l : List (List UInt8)} (hl : l.length ≤ 1000) (hin : inL' l (ofL nmL [] y.a) = true) : Step (stO (oW (.ofNat i) Rs (obF o M (.rsl true 1 0 l.length 1) L C) [(1, .cells (l.map .str), .whole)]) [(2, BL), (3, BC)]) (stO (oW (.ofNat (i + 1)) Rs (obF o M (.rsl true 1 0 l.length 1) L C) [(1, .cells (l.map .str), .whole)]) [(2, BL), (3, BC)]) := by
 intro Q hq
 refine ALp.roundO (A := oA 3 0 y [(14, 4, .res (.str (ofL nmL [] y.a)))] [] (some (.part [1] (.bool true) [(1, some (.cells (l.map .str)))] 20)) []) (V1 := oW (.ofNat (i + 1)) Rs (obF o M (.rsl true 1 0 l.length 1) L C) [(1, .cells (l.map .str), .whole)]) (F := oW (.ofNat i) Rs [] []) (opt := [(2, BL), (3, BC)]) (opt' := []) (lk := [(0, 0), (1, 1), (2, 2), (3, 3), (4, 4)]) (lk' := []) base0 aidJ_ok (LsOk.no rfl) .refl ?_
 rw [ob_nam1t, g.w]
 exact ⟨g.a, g.b, g.x, pk hk (by decide) (by decide), pick_sem _ (by decide) (by decide), idx_nm _, hin ▸ in_body l _ hl, ⟨⟨⟨⟨⟨rfl, g.c⟩, ⟨rfl, rfl⟩, trivial⟩, ⟨⟨rfl, rfl⟩, ⟨rfl, rfl⟩, trivial⟩, renR_ob (o := o) hM (.rsl _ _ _ _ _ _ rfl) (rL _ rfl) (rC _ rfl), ⟨rfl, rfl⟩, ⟨rfl, closed_strs l⟩, trivial⟩, ⟨rfl, bl⟩, ⟨rfl, bc⟩, trivial⟩, hq⟩⟩
theorem st_nam1f {y : Rw} {i : Nat} {Rs : List AV} {M L C : AV} {BL BC : Option Blk} (o : Ob) (g : Go1 i Rs y) (hM : closedA M = true) (rL : Rv 2 L) (rC : Rv 3 C) (bl : ClosedOB BL) (bc : ClosedOB BC) (hk : y.k % 9 = 3) {l : List (List UInt8)} (hl : l.length ≤ 1000) (hin : inL' l (ofL nmL [] y.a) = false) : Step (stO (oW (.ofNat i) Rs (obF o M (.rsl true 1 0 l.length 1) L C) [(1, .cells (l.map .str), .whole)]) [(2, BL), (3, BC)]) (stO (oW (.ofNat (i + 1)) Rs (obF o M (.rsl true 1 0 (l.length + 1) 1) L C) [(1, .cells (l.map .str ++ [.str (ofL nmL [] y.a)]), .whole)]) [(2, BL), (3, BC)]) := by
 intro Q hq
 refine ALp.roundO (A := oA 3 0 y [(14, 4, .res (.str (ofL nmL [] y.a)))] [] (some (.part [1] (.bool false) [(1, some (.cells (l.map .str)))] 20)) []) (V1 := oW (.ofNat (i + 1)) Rs (obF o M (.rsl true 1 0 (l.length + 1) 1) L C) [(1, .cells (l.map .str ++ [.str (ofL nmL [] y.a)]), .whole)]) (F := oW (.ofNat i) Rs [] []) (opt := [(2, BL), (3, BC)]) (opt' := []) (lk := [(0, 0), (1, 66), (2, 2), (3, 3), (4, 4)]) (lk' := []) base0 aidJ_ok (LsOk.no rfl) .refl ?_
 rw [ob_nam1f, g.w]
 exact ⟨g.a, g.b, g.x, pk hk (by decide) (by decide), pick_sem _ (by decide) (by decide), idx_nm _, hin ▸ in_body l _ hl, oblB_of (by simp [allSize, allOne, flat, AV.cells, lenN]; omega) (oblB_of (by simp [lenN_eq]) ⟨⟨⟨⟨⟨rfl, g.c⟩, ⟨rfl, rfl⟩, trivial⟩, ⟨⟨rfl, rfl⟩, ⟨rfl, rfl⟩, trivial⟩, renR_ob (o := o) hM (.rsl _ _ _ _ _ _ rfl) (rL _ rfl) (rC _ rfl), ⟨rfl, rfl⟩, ⟨rfl, by simp [closedAll_append, closed_strs]; rfl⟩, trivial⟩, ⟨rfl, bl⟩, ⟨rfl, bc⟩, trivial⟩, hq⟩)⟩
end Go.Proofs.YtjhggnebkfpgcaaGreatDoor
