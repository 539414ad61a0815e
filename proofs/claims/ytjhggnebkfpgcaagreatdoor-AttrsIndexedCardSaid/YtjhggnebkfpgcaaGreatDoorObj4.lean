/- Objects of raw numbers: links, customs. -/
import Derived.Test.YtjhggnebkfpgcaaGreatDoorObj3
import Derived.KernelRfl
namespace Go.Proofs.YtjhggnebkfpgcaaGreatDoor
set_option maxRecDepth 20000
open Go Go.RowKit
open Go.Proofs.Abs
def lkEq (z x : Lk) : Bool := beqInt z.ty x.ty && (beqBytes z.id x.id && true)
def cuEq (z x : Cu) : Bool := beqBytes z.name x.name && (beqBytes z.text x.text && true)
def hasLk (x : Lk) (l : List Lk) : Bool := l.any fun z => lkEq z x
theorem lnk_none {i : Nat} {Rs : List AV} {o : Ob} {M N C : AV} {BN BC : Option Blk} {x : Lk} {b : Bool} (hR : closedAll Rs = true) (hM : closedA M = true) (rN : Rv 1 N) (rX : Rv 3 C) (bn : ClosedOB BN) (bx : ClosedOB BC) {Q : AExit → St → Prop} (hq : Q (.exit 3) (stO (ilnkV (.ofNat i) Rs (obF o M N .nilsl C) [I x.ty, .str x.id] b 0 []) [(1, BN), (3, BC)])) : ALp Tryz.prog opts0.glob 0 (lpCode Tryz.prog 22 22) (stO (ilnkV (.ofNat i) Rs (obF o M N .nilsl C) [I x.ty, .str x.id] b 0 []) [(1, BN), (3, BC)]) Q := by
 refine ALp.roundO (A := aidJ [] [] noSem [] []) (V1 := ilnkV (.ofNat i) Rs [] [] b 0 []) (F := ilnkV (.ofNat i) Rs (obF o M N .nilsl C) [I x.ty, .str x.id] b 0 []) (opt := []) (opt' := [(1, BN), (3, BC)]) (lk := []) (lk' := [(0, 0), (1, 1), (3, 3), (4, 4), (5, 5)]) base0 aidJ_ok (LsOk.no rfl) .refl ?_
 rw [ilnk_nil]
 exact ⟨⟨⟨⟨⟨rfl, hR⟩, ⟨rfl, rfl⟩, ⟨rfl, rfl⟩, ⟨rfl, rfl⟩, trivial⟩, ⟨⟨rfl, rfl⟩, ⟨rfl, rfl⟩, ⟨rfl, rfl⟩, trivial⟩, renR_ob (o := o) hM (rN _ rfl) (.same _ rfl) (rX _ rfl), ⟨rfl, rfl⟩, ⟨rfl, rfl⟩, trivial⟩, ⟨rfl, bn⟩, ⟨rfl, bx⟩, trivial⟩, hq⟩
theorem lnk_loop {i : Nat} {Rs : List AV} {o : Ob} {M N C : AV} {BN BC : Option Blk} {x : Lk} (hR : closedAll Rs = true) (hM : closedA M = true) (rN : Rv 1 N) (rX : Rv 3 C) (bn : ClosedOB BN) (bx : ClosedOB BC) {l : List Lk} (hl : l.length ≤ 1000) {Q : AExit → St → Prop} : ∀ (m t : Nat) (b : Bool), t + m = l.length → Q (.exit 3) (stO (ilnkV (.ofNat i) Rs (obF o M N (.rsl true 2 0 l.length 2) C) [I x.ty, .str x.id] (b || hasLk x (l.drop t)) (.ofNat l.length) [(2, .cells (flat (l.map lkA)), .whole)]) [(1, BN), (3, BC)]) → ALp Tryz.prog opts0.glob 0 (lpCode Tryz.prog 22 22) (stO (ilnkV (.ofNat i) Rs (obF o M N (.rsl true 2 0 l.length 2) C) [I x.ty, .str x.id] b (.ofNat t) [(2, .cells (flat (l.map lkA)), .whole)]) [(1, BN), (3, BC)]) Q := by
 have hc := closed_flk l
 intro m
 induction m with
 | zero =>
  intro t b ht hq
  rw [Nat.add_zero] at ht
  subst ht
  rw [List.drop_of_length_le (Nat.le_refl _), show hasLk x [] = false from rfl, Bool.or_false] at hq
  refine ALp.roundO (A := aidJ [(23, 5, .res .nilp), (35, 5, .res .nilp)] [] noSem [] []) (V1 := ilnkV (.ofNat i) Rs [] [] b 0 []) (F := ilnkV (.ofNat i) Rs (obF o M N (.rsl true 2 0 l.length 2) C) [I x.ty, .str x.id] b (.ofNat l.length) [(2, .cells (flat (l.map lkA)), .whole)]) (opt := []) (opt' := [(1, BN), (3, BC)]) (lk := []) (lk' := [(0, 0), (1, 1), (2, 2), (3, 3), (4, 4), (5, 5)]) base0 aidJ_ok (LsOk.no rfl) .refl ?_
  rw [ilnk_end]
  refine mtB_of (fun e => ?_) (fun _ => ⟨⟨⟨⟨⟨rfl, hR⟩, ⟨rfl, rfl⟩, ⟨rfl, rfl⟩, ⟨rfl, rfl⟩, trivial⟩, ⟨⟨rfl, rfl⟩, ⟨rfl, rfl⟩, ⟨rfl, rfl⟩, trivial⟩, renR_ob (o := o) hM (rN _ rfl) (.rsl _ _ _ _ _ _ rfl) (rX _ rfl), ⟨rfl, rfl⟩, ⟨rfl, rfl⟩, ⟨rfl, hc⟩, trivial⟩, ⟨rfl, bn⟩, ⟨rfl, bx⟩, trivial⟩, hq⟩)
  have e := ltInt_iff.1 e
  omega
 | succ m ih =>
  intro t b ht hq
  have hi : t < l.length := by omega
  have g1 := List.getElem?_eq_getElem hi
  rw [List.drop_eq_getElem_cons hi] at hq
  revert g1 hq
  generalize l[t] = z
  intro hq g1
  have hw : wrapA .i64 (Int.ofNat t + 1) = Int.ofNat (t + 1) := wrapA_i64 (by simp; omega) (by simp; omega)
  have hob : (nonneg (Int.ofNat t) && ((Int.ofNat t).toNat.blt l.length && true)) = true := by
   simp only [nonneg, Bool.true_and, Bool.and_true]
   exact blt_iff.2 hi
  have hn := ih (t + 1) (b || lkEq z x) (by omega) (by
   simpa only [hasLk, List.any_cons, Bool.or_assoc] using hq)
  refine ALp.roundO (A := aidJ [(21, 4, .res (.bool true)), (23, 6, .ld (.agg [I z.ty, .str z.id]))] [] noSem [] []) (V1 := ilnkV (.ofNat i) Rs (obF o M N (.rsl true 2 0 l.length 2) C) [I x.ty, .str x.id] (b || lkEq z x) (.ofNat (t + 1)) [(2, .cells (flat (l.map lkA)), .whole)]) (F := ilnkV (.ofNat i) Rs [] [] b 0 []) (opt := [(1, BN), (3, BC)]) (opt' := []) (lk := [(0, 0), (1, 1), (2, 2), (3, 3), (4, 4), (5, 5)]) (lk' := []) base0 aidJ_ok (LsOk.no rfl) .refl ?_
  rw [ilnk_go, hw]
  refine ⟨lss_t (by simp; omega), mtB_of (fun e => ⟨⟨⟨⟨⟨rfl, hR⟩, ⟨rfl, rfl⟩, ⟨by rw [e]; rfl, rfl⟩, ⟨rfl, rfl⟩, trivial⟩, ⟨⟨rfl, rfl⟩, ⟨rfl, rfl⟩, ⟨rfl, rfl⟩, trivial⟩, renR_ob (o := o) hM (rN _ rfl) (.rsl _ _ _ _ _ _ rfl) (rX _ rfl), ⟨rfl, rfl⟩, ⟨rfl, rfl⟩, ⟨rfl, hc⟩, trivial⟩, ⟨rfl, bn⟩, ⟨rfl, bx⟩, trivial⟩, hn⟩)
   (fun e => oblB_of hob ⟨part_lk g1, ⟨⟨⟨⟨rfl, hR⟩, ⟨rfl, rfl⟩, ⟨by rw [e]; rfl, rfl⟩, ⟨rfl, rfl⟩, trivial⟩, ⟨⟨rfl, rfl⟩, ⟨rfl, rfl⟩, ⟨rfl, rfl⟩, trivial⟩, renR_ob (o := o) hM (rN _ rfl) (.rsl _ _ _ _ _ _ rfl) (rX _ rfl), ⟨rfl, rfl⟩, ⟨rfl, rfl⟩, ⟨rfl, hc⟩, trivial⟩, ⟨rfl, bn⟩, ⟨rfl, bx⟩, trivial⟩, hn⟩)⟩
theorem lnk_at : loopsAt (lpCode Tryz.prog 22 5) 22 = [lpCode Tryz.prog 22 22] := by kernel_rfl
def lkOf (y : Rw) : Lk := ⟨wrapA .i64 (101 + y.a % 5), ofL idL [] y.b⟩
theorem st_lnk0 {y : Rw} {i : Nat} {Rs : List AV} {M N C : AV} {BN BC : Option Blk} (o : Ob) (g : Go1 i Rs y) (hM : closedA M = true) (rN : Rv 1 N) (rX : Rv 3 C) (bn : ClosedOB BN) (bx : ClosedOB BC) (hk : y.k % 9 = 4)  : Step (stO (oW (.ofNat i) Rs (obF o M N .nilsl C) []) [(1, BN), (3, BC)]) (stO (oW (.ofNat (i + 1)) Rs (obF o M N (.rsl true 2 0 1 2) C) [(2, .cells [I (wrapA .i64 (101 + y.a % 5)), .str (ofL idL [] y.b)], .whole)]) [(1, BN), (3, BC)]) := by
 intro Q hq
 have hR := g.c
 refine ALp.roundO (A := oA 4 0 y [] [(22, fun s Q => seesO 0 [(0, 0), (1, 1), (3, 3), (4, 4), (5, 41)] (ilnkV (.ofNat i) Rs (obF o M N .nilsl C) [I (wrapA .i64 (101 + y.a % 5)), .str (ofL idL [] y.b)] false 0 []) [(1, BN), (3, BC)] s ∧ Q (.exit 3) (stO (ilnkV (.ofNat i) Rs (obF o M N .nilsl C) [I (wrapA .i64 (101 + y.a % 5)), .str (ofL idL [] y.b)] false 0 []) [(1, BN), (3, BC)]))] none (ofL idL [] y.b)) (V1 := oW (.ofNat (i + 1)) Rs (obF o M N (.rsl true 2 0 1 2) C) [(2, .cells [I (wrapA .i64 (101 + y.a % 5)), .str (ofL idL [] y.b)], .whole)]) (F := oW (.ofNat i) Rs [] []) (opt := [(1, BN), (3, BC)]) (opt' := []) (lk := [(0, 0), (1, 1), (2, 13), (3, 3), (4, 4)]) (lk' := []) base0 aidJ_ok (LsOk.at1 rfl lnk_at fun st Q hs => .seenO base0.glob hs.1 (lnk_none (x := lkOf y) g.c hM rN rX bn bx hs.2)) .refl ?_
 rw [ob_lnk0, g.w]
 exact ⟨g.a, g.b, g.x, pk hk (by decide) (by decide), pick_sem _ (by decide) (by decide), id_sem _, ⟨⟨⟨⟨rfl, hR⟩, ⟨rfl, rfl⟩, ⟨rfl, rfl⟩, ⟨rfl, rfl⟩, trivial⟩, ⟨⟨rfl, rfl⟩, ⟨rfl, rfl⟩, ⟨rfl, rfl⟩, trivial⟩, renR_ob (o := o) hM (rN _ rfl) (.same _ rfl) (rX _ rfl), ⟨rfl, rfl⟩, ⟨rfl, rfl⟩, trivial⟩, ⟨rfl, bn⟩, ⟨rfl, bx⟩, trivial⟩, ⟨⟨⟨⟨⟨rfl, g.c⟩, ⟨rfl, rfl⟩, trivial⟩, ⟨⟨rfl, rfl⟩, ⟨rfl, rfl⟩, trivial⟩, renR_ob (o := o) hM (rN _ rfl) (.rsl _ _ _ _ _ _ rfl) (rX _ rfl), ⟨rfl, rfl⟩, ⟨rfl, rfl⟩, trivial⟩, ⟨rfl, bn⟩, ⟨rfl, bx⟩, trivial⟩, hq⟩⟩
theorem st_lnk1t {y : Rw} {i : Nat} {Rs : List AV} {M N C : AV} {BN BC : Option Blk} (o : Ob) (g : Go1 i Rs y) (hM : closedA M = true) (rN : Rv 1 N) (rX : Rv 3 C) (bn : ClosedOB BN) (bx : ClosedOB BC) (hk : y.k % 9 = 4) {l : List Lk} (hl : l.length ≤ 1000) (hin : hasLk (lkOf y) l = true) : Step (stO (oW (.ofNat i) Rs (obF o M N (.rsl true 2 0 l.length 2) C) [(2, .cells (flat (l.map lkA)), .whole)]) [(1, BN), (3, BC)]) (stO (oW (.ofNat (i + 1)) Rs (obF o M N (.rsl true 2 0 l.length 2) C) [(2, .cells (flat (l.map lkA)), .whole)]) [(1, BN), (3, BC)]) := by
 intro Q hq
 have hR := g.c
 refine ALp.roundO (A := oA 4 0 y [] [(22, fun s Q => seesO 0 [(0, 0), (1, 1), (2, 2), (3, 3), (4, 4), (5, 41)] (ilnkV (.ofNat i) Rs (obF o M N (.rsl true 2 0 l.length 2) C) [I (wrapA .i64 (101 + y.a % 5)), .str (ofL idL [] y.b)] false 0 [(2, .cells (flat (l.map lkA)), .whole)]) [(1, BN), (3, BC)] s ∧ Q (.exit 3) (stO (ilnkV (.ofNat i) Rs (obF o M N (.rsl true 2 0 l.length 2) C) [I (wrapA .i64 (101 + y.a % 5)), .str (ofL idL [] y.b)] true (.ofNat l.length) [(2, .cells (flat (l.map lkA)), .whole)]) [(1, BN), (3, BC)]))] none (ofL idL [] y.b)) (V1 := oW (.ofNat (i + 1)) Rs (obF o M N (.rsl true 2 0 l.length 2) C) [(2, .cells (flat (l.map lkA)), .whole)]) (F := oW (.ofNat i) Rs [] []) (opt := [(1, BN), (3, BC)]) (opt' := []) (lk := [(0, 0), (1, 1), (2, 2), (3, 3), (4, 4)]) (lk' := []) base0 aidJ_ok (LsOk.at1 rfl lnk_at fun st Q hs => .seenO base0.glob hs.1 (lnk_loop (x := lkOf y) g.c hM rN rX bn bx hl l.length 0 false (by omega) (by rw [List.drop_zero, hin]; exact hs.2))) .refl ?_
 rw [ob_lnk1t, g.w]
 exact ⟨g.a, g.b, g.x, pk hk (by decide) (by decide), pick_sem _ (by decide) (by decide), id_sem _, ⟨⟨⟨⟨rfl, hR⟩, ⟨rfl, rfl⟩, ⟨rfl, rfl⟩, ⟨rfl, rfl⟩, trivial⟩, ⟨⟨rfl, rfl⟩, ⟨rfl, rfl⟩, ⟨rfl, rfl⟩, trivial⟩, renR_ob (o := o) hM (rN _ rfl) (.rsl _ _ _ _ _ _ rfl) (rX _ rfl), ⟨rfl, rfl⟩, ⟨rfl, rfl⟩, ⟨rfl, closed_flk l⟩, trivial⟩, ⟨rfl, bn⟩, ⟨rfl, bx⟩, trivial⟩, ⟨⟨⟨⟨⟨rfl, g.c⟩, ⟨rfl, rfl⟩, trivial⟩, ⟨⟨rfl, rfl⟩, ⟨rfl, rfl⟩, trivial⟩, renR_ob (o := o) hM (rN _ rfl) (.rsl _ _ _ _ _ _ rfl) (rX _ rfl), ⟨rfl, rfl⟩, ⟨rfl, closed_flk l⟩, trivial⟩, ⟨rfl, bn⟩, ⟨rfl, bx⟩, trivial⟩, hq⟩⟩
theorem flat_lnk : ∀ l : List Lk, (flat (l.map lkA)).length = l.length * 2
 | [] => rfl
 | _ :: r => by
  have ih := flat_lnk r
  rw [List.length_cons, Nat.succ_mul, ← ih]
  rfl
theorem st_lnk1f {y : Rw} {i : Nat} {Rs : List AV} {M N C : AV} {BN BC : Option Blk} (o : Ob) (g : Go1 i Rs y) (hM : closedA M = true) (rN : Rv 1 N) (rX : Rv 3 C) (bn : ClosedOB BN) (bx : ClosedOB BC) (hk : y.k % 9 = 4) {l : List Lk} (hl : l.length ≤ 1000) (hin : hasLk (lkOf y) l = false) : Step (stO (oW (.ofNat i) Rs (obF o M N (.rsl true 2 0 l.length 2) C) [(2, .cells (flat (l.map lkA)), .whole)]) [(1, BN), (3, BC)]) (stO (oW (.ofNat (i + 1)) Rs (obF o M N (.rsl true 2 0 (l.length + 1) 2) C) [(2, .cells (flat (l.map lkA) ++ [I (wrapA .i64 (101 + y.a % 5)), .str (ofL idL [] y.b)]), .whole)]) [(1, BN), (3, BC)]) := by
 intro Q hq
 have hR := g.c
 refine ALp.roundO (A := oA 4 0 y [] [(22, fun s Q => seesO 0 [(0, 0), (1, 1), (2, 2), (3, 3), (4, 4), (5, 41)] (ilnkV (.ofNat i) Rs (obF o M N (.rsl true 2 0 l.length 2) C) [I (wrapA .i64 (101 + y.a % 5)), .str (ofL idL [] y.b)] false 0 [(2, .cells (flat (l.map lkA)), .whole)]) [(1, BN), (3, BC)] s ∧ Q (.exit 3) (stO (ilnkV (.ofNat i) Rs (obF o M N (.rsl true 2 0 l.length 2) C) [I (wrapA .i64 (101 + y.a % 5)), .str (ofL idL [] y.b)] false (.ofNat l.length) [(2, .cells (flat (l.map lkA)), .whole)]) [(1, BN), (3, BC)]))] none (ofL idL [] y.b)) (V1 := oW (.ofNat (i + 1)) Rs (obF o M N (.rsl true 2 0 (l.length + 1) 2) C) [(2, .cells (flat (l.map lkA) ++ [I (wrapA .i64 (101 + y.a % 5)), .str (ofL idL [] y.b)]), .whole)]) (F := oW (.ofNat i) Rs [] []) (opt := [(1, BN), (3, BC)]) (opt' := []) (lk := [(0, 0), (1, 1), (2, 13), (3, 3), (4, 4)]) (lk' := []) base0 aidJ_ok (LsOk.at1 rfl lnk_at fun st Q hs => .seenO base0.glob hs.1 (lnk_loop (x := lkOf y) g.c hM rN rX bn bx hl l.length 0 false (by omega) (by rw [List.drop_zero, hin]; exact hs.2))) .refl ?_
 rw [ob_lnk1f, g.w]
 exact ⟨g.a, g.b, g.x, pk hk (by decide) (by decide), pick_sem _ (by decide) (by decide), id_sem _, ⟨⟨⟨⟨rfl, hR⟩, ⟨rfl, rfl⟩, ⟨rfl, rfl⟩, ⟨rfl, rfl⟩, trivial⟩, ⟨⟨rfl, rfl⟩, ⟨rfl, rfl⟩, ⟨rfl, rfl⟩, trivial⟩, renR_ob (o := o) hM (rN _ rfl) (.rsl _ _ _ _ _ _ rfl) (rX _ rfl), ⟨rfl, rfl⟩, ⟨rfl, rfl⟩, ⟨rfl, closed_flk l⟩, trivial⟩, ⟨rfl, bn⟩, ⟨rfl, bx⟩, trivial⟩, oblB_of (by simp [allSize, allOne, flat, AV.cells, lenN]; omega) (oblB_of (by simp [lenN_eq, flat_lnk]) ⟨⟨⟨⟨⟨rfl, g.c⟩, ⟨rfl, rfl⟩, trivial⟩, ⟨⟨rfl, rfl⟩, ⟨rfl, rfl⟩, trivial⟩, renR_ob (o := o) hM (rN _ rfl) (.rsl _ _ _ _ _ _ rfl) (rX _ rfl), ⟨rfl, rfl⟩, ⟨rfl, by simp [closedAll_append, closed_flk]; rfl⟩, trivial⟩, ⟨rfl, bn⟩, ⟨rfl, bx⟩, trivial⟩, hq⟩)⟩
def hasCu (x : Cu) (l : List Cu) : Bool := l.any fun z => cuEq z x
theorem cus_none {i : Nat} {Rs : List AV} {o : Ob} {M N L : AV} {BN BL : Option Blk} {x : Cu} {b : Bool} (hR : closedAll Rs = true) (hM : closedA M = true) (rN : Rv 1 N) (rX : Rv 2 L) (bn : ClosedOB BN) (bx : ClosedOB BL) {Q : AExit → St → Prop} (hq : Q (.exit 5) (stO (icusV (.ofNat i) Rs (obF o M N L .nilsl) [.str x.name, .str x.text] b 0 []) [(1, BN), (2, BL)])) : ALp Tryz.prog opts0.glob 0 (lpCode Tryz.prog 22 34) (stO (icusV (.ofNat i) Rs (obF o M N L .nilsl) [.str x.name, .str x.text] b 0 []) [(1, BN), (2, BL)]) Q := by
 refine ALp.roundO (A := aidJ [] [] noSem [] []) (V1 := icusV (.ofNat i) Rs [] [] b 0 []) (F := icusV (.ofNat i) Rs (obF o M N L .nilsl) [.str x.name, .str x.text] b 0 []) (opt := []) (opt' := [(1, BN), (2, BL)]) (lk := []) (lk' := [(0, 0), (1, 1), (2, 2), (4, 4), (5, 5)]) base0 aidJ_ok (LsOk.no rfl) .refl ?_
 rw [icus_nil]
 exact ⟨⟨⟨⟨⟨rfl, hR⟩, ⟨rfl, rfl⟩, ⟨rfl, rfl⟩, ⟨rfl, rfl⟩, trivial⟩, ⟨⟨rfl, rfl⟩, ⟨rfl, rfl⟩, ⟨rfl, rfl⟩, trivial⟩, renR_ob (o := o) hM (rN _ rfl) (rX _ rfl) (.same _ rfl), ⟨rfl, rfl⟩, ⟨rfl, rfl⟩, trivial⟩, ⟨rfl, bn⟩, ⟨rfl, bx⟩, trivial⟩, hq⟩
theorem cus_loop {i : Nat} {Rs : List AV} {o : Ob} {M N L : AV} {BN BL : Option Blk} {x : Cu} (hR : closedAll Rs = true) (hM : closedA M = true) (rN : Rv 1 N) (rX : Rv 2 L) (bn : ClosedOB BN) (bx : ClosedOB BL) {l : List Cu} (hl : l.length ≤ 1000) {Q : AExit → St → Prop} : ∀ (m t : Nat) (b : Bool), t + m = l.length → Q (.exit 5) (stO (icusV (.ofNat i) Rs (obF o M N L (.rsl true 3 0 l.length 2)) [.str x.name, .str x.text] (b || hasCu x (l.drop t)) (.ofNat l.length) [(3, .cells (flat (l.map cuA)), .whole)]) [(1, BN), (2, BL)]) → ALp Tryz.prog opts0.glob 0 (lpCode Tryz.prog 22 34) (stO (icusV (.ofNat i) Rs (obF o M N L (.rsl true 3 0 l.length 2)) [.str x.name, .str x.text] b (.ofNat t) [(3, .cells (flat (l.map cuA)), .whole)]) [(1, BN), (2, BL)]) Q := by
 have hc := closed_fcu l
 intro m
 induction m with
 | zero =>
  intro t b ht hq
  rw [Nat.add_zero] at ht
  subst ht
  rw [List.drop_of_length_le (Nat.le_refl _), show hasCu x [] = false from rfl, Bool.or_false] at hq
  refine ALp.roundO (A := aidJ [(23, 5, .res .nilp), (35, 5, .res .nilp)] [] noSem [] []) (V1 := icusV (.ofNat i) Rs [] [] b 0 []) (F := icusV (.ofNat i) Rs (obF o M N L (.rsl true 3 0 l.length 2)) [.str x.name, .str x.text] b (.ofNat l.length) [(3, .cells (flat (l.map cuA)), .whole)]) (opt := []) (opt' := [(1, BN), (2, BL)]) (lk := []) (lk' := [(0, 0), (1, 1), (2, 2), (3, 3), (4, 4), (5, 5)]) base0 aidJ_ok (LsOk.no rfl) .refl ?_
  rw [icus_end]
  refine mtB_of (fun e => ?_) (fun _ => ⟨⟨⟨⟨⟨rfl, hR⟩, ⟨rfl, rfl⟩, ⟨rfl, rfl⟩, ⟨rfl, rfl⟩, trivial⟩, ⟨⟨rfl, rfl⟩, ⟨rfl, rfl⟩, ⟨rfl, rfl⟩, trivial⟩, renR_ob (o := o) hM (rN _ rfl) (rX _ rfl) (.rsl _ _ _ _ _ _ rfl), ⟨rfl, rfl⟩, ⟨rfl, rfl⟩, ⟨rfl, hc⟩, trivial⟩, ⟨rfl, bn⟩, ⟨rfl, bx⟩, trivial⟩, hq⟩)
  have e := ltInt_iff.1 e
  omega
 | succ m ih =>
  intro t b ht hq
  have hi : t < l.length := by omega
  have g1 := List.getElem?_eq_getElem hi
  rw [List.drop_eq_getElem_cons hi] at hq
  revert g1 hq
  generalize l[t] = z
  intro hq g1
  have hw : wrapA .i64 (Int.ofNat t + 1) = Int.ofNat (t + 1) := wrapA_i64 (by simp; omega) (by simp; omega)
  have hob : (nonneg (Int.ofNat t) && ((Int.ofNat t).toNat.blt l.length && true)) = true := by
   simp only [nonneg, Bool.true_and, Bool.and_true]
   exact blt_iff.2 hi
  have hn := ih (t + 1) (b || cuEq z x) (by omega) (by
   simpa only [hasCu, List.any_cons, Bool.or_assoc] using hq)
  refine ALp.roundO (A := aidJ [(33, 4, .res (.bool true)), (35, 6, .ld (.agg [.str z.name, .str z.text]))] [] noSem [] []) (V1 := icusV (.ofNat i) Rs (obF o M N L (.rsl true 3 0 l.length 2)) [.str x.name, .str x.text] (b || cuEq z x) (.ofNat (t + 1)) [(3, .cells (flat (l.map cuA)), .whole)]) (F := icusV (.ofNat i) Rs [] [] b 0 []) (opt := [(1, BN), (2, BL)]) (opt' := []) (lk := [(0, 0), (1, 1), (2, 2), (3, 3), (4, 4), (5, 5)]) (lk' := []) base0 aidJ_ok (LsOk.no rfl) .refl ?_
  rw [icus_go, hw]
  refine ⟨lss_t (by simp; omega), mtB_of (fun e => ⟨⟨⟨⟨⟨rfl, hR⟩, ⟨rfl, rfl⟩, ⟨by rw [e]; rfl, rfl⟩, ⟨rfl, rfl⟩, trivial⟩, ⟨⟨rfl, rfl⟩, ⟨rfl, rfl⟩, ⟨rfl, rfl⟩, trivial⟩, renR_ob (o := o) hM (rN _ rfl) (rX _ rfl) (.rsl _ _ _ _ _ _ rfl), ⟨rfl, rfl⟩, ⟨rfl, rfl⟩, ⟨rfl, hc⟩, trivial⟩, ⟨rfl, bn⟩, ⟨rfl, bx⟩, trivial⟩, hn⟩)
   (fun e => oblB_of hob ⟨part_cu g1, ⟨⟨⟨⟨rfl, hR⟩, ⟨rfl, rfl⟩, ⟨by rw [e]; rfl, rfl⟩, ⟨rfl, rfl⟩, trivial⟩, ⟨⟨rfl, rfl⟩, ⟨rfl, rfl⟩, ⟨rfl, rfl⟩, trivial⟩, renR_ob (o := o) hM (rN _ rfl) (rX _ rfl) (.rsl _ _ _ _ _ _ rfl), ⟨rfl, rfl⟩, ⟨rfl, rfl⟩, ⟨rfl, hc⟩, trivial⟩, ⟨rfl, bn⟩, ⟨rfl, bx⟩, trivial⟩, hn⟩)⟩
theorem cus_at : loopsAt (lpCode Tryz.prog 22 5) 34 = [lpCode Tryz.prog 22 34] := by kernel_rfl
def cnL : List (List UInt8) := [[120, 45, 97], [120, 45, 98]]
def ctL : List (List UInt8) := [[111, 110, 101], [116, 119, 111], [116, 104, 114, 101, 101], [102, 111, 117, 114]]
def cuOf (y : Rw) : Cu := ⟨ofL cnL [] y.a, ofL ctL [] y.b⟩
theorem idx_cn (n : Int) : indexA Tryz.prog 108 (.agg (cnL.map .str)) (I (n % 2)) = some (.str (ofL cnL [] n)) :=
 idx_pick (T := 108) (d := []) (l := cnL) (f := .str) (by decide) fun k x h => by
  match k, h with
  | 0, h => obtain rfl : _ = x := Option.some.inj h; show indexA _ _ _ _ = _; kernel_rfl
  | 1, h => obtain rfl : _ = x := Option.some.inj h; show indexA _ _ _ _ = _; kernel_rfl
theorem idx_ct (n : Int) : indexA Tryz.prog 109 (.agg (ctL.map .str)) (I (n % 4)) = some (.str (ofL ctL [] n)) :=
 idx_pick (T := 109) (d := []) (l := ctL) (f := .str) (by decide) fun k x h => by
  match k, h with
  | 0, h => obtain rfl : _ = x := Option.some.inj h; show indexA _ _ _ _ = _; kernel_rfl
  | 1, h => obtain rfl : _ = x := Option.some.inj h; show indexA _ _ _ _ = _; kernel_rfl
  | 2, h => obtain rfl : _ = x := Option.some.inj h; show indexA _ _ _ _ = _; kernel_rfl
  | 3, h => obtain rfl : _ = x := Option.some.inj h; show indexA _ _ _ _ = _; kernel_rfl
theorem st_cus0 {y : Rw} {i : Nat} {Rs : List AV} {M N L : AV} {BN BL : Option Blk} (o : Ob) (g : Go1 i Rs y) (hM : closedA M = true) (rN : Rv 1 N) (rX : Rv 2 L) (bn : ClosedOB BN) (bx : ClosedOB BL) (hk : y.k % 9 = 6)  : Step (stO (oW (.ofNat i) Rs (obF o M N L .nilsl) []) [(1, BN), (2, BL)]) (stO (oW (.ofNat (i + 1)) Rs (obF o M N L (.rsl true 3 0 1 2)) [(3, .cells [.str (ofL cnL [] y.a), .str (ofL ctL [] y.b)], .whole)]) [(1, BN), (2, BL)]) := by
 intro Q hq
 have hR := g.c
 refine ALp.roundO (A := oA 6 0 y [(30, 4, .res (.str (ofL cnL [] y.a))), (30, 9, .res (.str (ofL ctL [] y.b)))] [(34, fun s Q => seesO 0 [(0, 0), (1, 1), (2, 2), (4, 4), (5, 48)] (icusV (.ofNat i) Rs (obF o M N L .nilsl) [.str (ofL cnL [] y.a), .str (ofL ctL [] y.b)] false 0 []) [(1, BN), (2, BL)] s ∧ Q (.exit 5) (stO (icusV (.ofNat i) Rs (obF o M N L .nilsl) [.str (ofL cnL [] y.a), .str (ofL ctL [] y.b)] false 0 []) [(1, BN), (2, BL)]))] none []) (V1 := oW (.ofNat (i + 1)) Rs (obF o M N L (.rsl true 3 0 1 2)) [(3, .cells [.str (ofL cnL [] y.a), .str (ofL ctL [] y.b)], .whole)]) (F := oW (.ofNat i) Rs [] []) (opt := [(1, BN), (2, BL)]) (opt' := []) (lk := [(0, 0), (1, 1), (2, 2), (3, 19), (4, 4)]) (lk' := []) base0 aidJ_ok (LsOk.at1 rfl cus_at fun st Q hs => .seenO base0.glob hs.1 (cus_none (x := cuOf y) g.c hM rN rX bn bx hs.2)) .refl ?_
 rw [ob_cus0, g.w]
 exact ⟨g.a, g.b, g.x, pk hk (by decide) (by decide), pick_sem _ (by decide) (by decide), idx_cn _, pick_sem _ (by decide) (by decide), idx_ct _, ⟨⟨⟨⟨rfl, hR⟩, ⟨rfl, rfl⟩, ⟨rfl, rfl⟩, ⟨rfl, rfl⟩, trivial⟩, ⟨⟨rfl, rfl⟩, ⟨rfl, rfl⟩, ⟨rfl, rfl⟩, trivial⟩, renR_ob (o := o) hM (rN _ rfl) (rX _ rfl) (.same _ rfl), ⟨rfl, rfl⟩, ⟨rfl, rfl⟩, trivial⟩, ⟨rfl, bn⟩, ⟨rfl, bx⟩, trivial⟩, ⟨⟨⟨⟨⟨rfl, g.c⟩, ⟨rfl, rfl⟩, trivial⟩, ⟨⟨rfl, rfl⟩, ⟨rfl, rfl⟩, trivial⟩, renR_ob (o := o) hM (rN _ rfl) (rX _ rfl) (.rsl _ _ _ _ _ _ rfl), ⟨rfl, rfl⟩, ⟨rfl, rfl⟩, trivial⟩, ⟨rfl, bn⟩, ⟨rfl, bx⟩, trivial⟩, hq⟩⟩
theorem st_cus1t {y : Rw} {i : Nat} {Rs : List AV} {M N L : AV} {BN BL : Option Blk} (o : Ob) (g : Go1 i Rs y) (hM : closedA M = true) (rN : Rv 1 N) (rX : Rv 2 L) (bn : ClosedOB BN) (bx : ClosedOB BL) (hk : y.k % 9 = 6) {l : List Cu} (hl : l.length ≤ 1000) (hin : hasCu (cuOf y) l = true) : Step (stO (oW (.ofNat i) Rs (obF o M N L (.rsl true 3 0 l.length 2)) [(3, .cells (flat (l.map cuA)), .whole)]) [(1, BN), (2, BL)]) (stO (oW (.ofNat (i + 1)) Rs (obF o M N L (.rsl true 3 0 l.length 2)) [(3, .cells (flat (l.map cuA)), .whole)]) [(1, BN), (2, BL)]) := by
 intro Q hq
 have hR := g.c
 refine ALp.roundO (A := oA 6 0 y [(30, 4, .res (.str (ofL cnL [] y.a))), (30, 9, .res (.str (ofL ctL [] y.b)))] [(34, fun s Q => seesO 0 [(0, 0), (1, 1), (2, 2), (3, 3), (4, 4), (5, 48)] (icusV (.ofNat i) Rs (obF o M N L (.rsl true 3 0 l.length 2)) [.str (ofL cnL [] y.a), .str (ofL ctL [] y.b)] false 0 [(3, .cells (flat (l.map cuA)), .whole)]) [(1, BN), (2, BL)] s ∧ Q (.exit 5) (stO (icusV (.ofNat i) Rs (obF o M N L (.rsl true 3 0 l.length 2)) [.str (ofL cnL [] y.a), .str (ofL ctL [] y.b)] true (.ofNat l.length) [(3, .cells (flat (l.map cuA)), .whole)]) [(1, BN), (2, BL)]))] none []) (V1 := oW (.ofNat (i + 1)) Rs (obF o M N L (.rsl true 3 0 l.length 2)) [(3, .cells (flat (l.map cuA)), .whole)]) (F := oW (.ofNat i) Rs [] []) (opt := [(1, BN), (2, BL)]) (opt' := []) (lk := [(0, 0), (1, 1), (2, 2), (3, 3), (4, 4)]) (lk' := []) base0 aidJ_ok (LsOk.at1 rfl cus_at fun st Q hs => .seenO base0.glob hs.1 (cus_loop (x := cuOf y) g.c hM rN rX bn bx hl l.length 0 false (by omega) (by rw [List.drop_zero, hin]; exact hs.2))) .refl ?_
 rw [ob_cus1t, g.w]
 exact ⟨g.a, g.b, g.x, pk hk (by decide) (by decide), pick_sem _ (by decide) (by decide), idx_cn _, pick_sem _ (by decide) (by decide), idx_ct _, ⟨⟨⟨⟨rfl, hR⟩, ⟨rfl, rfl⟩, ⟨rfl, rfl⟩, ⟨rfl, rfl⟩, trivial⟩, ⟨⟨rfl, rfl⟩, ⟨rfl, rfl⟩, ⟨rfl, rfl⟩, trivial⟩, renR_ob (o := o) hM (rN _ rfl) (rX _ rfl) (.rsl _ _ _ _ _ _ rfl), ⟨rfl, rfl⟩, ⟨rfl, rfl⟩, ⟨rfl, closed_fcu l⟩, trivial⟩, ⟨rfl, bn⟩, ⟨rfl, bx⟩, trivial⟩, ⟨⟨⟨⟨⟨rfl, g.c⟩, ⟨rfl, rfl⟩, trivial⟩, ⟨⟨rfl, rfl⟩, ⟨rfl, rfl⟩, trivial⟩, renR_ob (o := o) hM (rN _ rfl) (rX _ rfl) (.rsl _ _ _ _ _ _ rfl), ⟨rfl, rfl⟩, ⟨rfl, closed_fcu l⟩, trivial⟩, ⟨rfl, bn⟩, ⟨rfl, bx⟩, trivial⟩, hq⟩⟩
theorem flat_cus : ∀ l : List Cu, (flat (l.map cuA)).length = l.length * 2
 | [] => rfl
 | _ :: r => by
  have ih := flat_cus r
  rw [List.length_cons, Nat.succ_mul, ← ih]
  rfl
theorem st_cus1f {y : Rw} {i : Nat} {Rs : List AV} {M N L : AV} {BN BL : Option Blk} (o : Ob) (g : Go1 i Rs y) (hM : closedA M = true) (rN : Rv 1 N) (rX : Rv 2 L) (bn : ClosedOB BN) (bx : ClosedOB BL) (hk : y.k % 9 = 6) {l : List Cu} (hl : l.length ≤ 1000) (hin : hasCu (cuOf y) l = false) (h6 : l.length < 6) : Step (stO (oW (.ofNat i) Rs (obF o M N L (.rsl true 3 0 l.length 2)) [(3, .cells (flat (l.map cuA)), .whole)]) [(1, BN), (2, BL)]) (stO (oW (.ofNat (i + 1)) Rs (obF o M N L (.rsl true 3 0 (l.length + 1) 2)) [(3, .cells (flat (l.map cuA) ++ [.str (ofL cnL [] y.a), .str (ofL ctL [] y.b)]), .whole)]) [(1, BN), (2, BL)]) := by
 intro Q hq
 have hR := g.c
 refine ALp.roundO (A := oA 6 0 y [(30, 4, .res (.str (ofL cnL [] y.a))), (30, 9, .res (.str (ofL ctL [] y.b))), (36, 6, .res (.bool true))] [(34, fun s Q => seesO 0 [(0, 0), (1, 1), (2, 2), (3, 3), (4, 4), (5, 48)] (icusV (.ofNat i) Rs (obF o M N L (.rsl true 3 0 l.length 2)) [.str (ofL cnL [] y.a), .str (ofL ctL [] y.b)] false 0 [(3, .cells (flat (l.map cuA)), .whole)]) [(1, BN), (2, BL)] s ∧ Q (.exit 5) (stO (icusV (.ofNat i) Rs (obF o M N L (.rsl true 3 0 l.length 2)) [.str (ofL cnL [] y.a), .str (ofL ctL [] y.b)] false (.ofNat l.length) [(3, .cells (flat (l.map cuA)), .whole)]) [(1, BN), (2, BL)]))] none []) (V1 := oW (.ofNat (i + 1)) Rs (obF o M N L (.rsl true 3 0 (l.length + 1) 2)) [(3, .cells (flat (l.map cuA) ++ [.str (ofL cnL [] y.a), .str (ofL ctL [] y.b)]), .whole)]) (F := oW (.ofNat i) Rs [] []) (opt := [(1, BN), (2, BL)]) (opt' := []) (lk := [(0, 0), (1, 1), (2, 2), (3, 19), (4, 4)]) (lk' := []) base0 aidJ_ok (LsOk.at1 rfl cus_at fun st Q hs => .seenO base0.glob hs.1 (cus_loop (x := cuOf y) g.c hM rN rX bn bx hl l.length 0 false (by omega) (by rw [List.drop_zero, hin]; exact hs.2))) .refl ?_
 rw [ob_cus1f, g.w]
 exact ⟨g.a, g.b, g.x, pk hk (by decide) (by decide), pick_sem _ (by decide) (by decide), idx_cn _, pick_sem _ (by decide) (by decide), idx_ct _, ⟨⟨⟨⟨rfl, hR⟩, ⟨rfl, rfl⟩, ⟨rfl, rfl⟩, ⟨rfl, rfl⟩, trivial⟩, ⟨⟨rfl, rfl⟩, ⟨rfl, rfl⟩, ⟨rfl, rfl⟩, trivial⟩, renR_ob (o := o) hM (rN _ rfl) (rX _ rfl) (.rsl _ _ _ _ _ _ rfl), ⟨rfl, rfl⟩, ⟨rfl, rfl⟩, ⟨rfl, closed_fcu l⟩, trivial⟩, ⟨rfl, bn⟩, ⟨rfl, bx⟩, trivial⟩, lss_t (by simp; omega), oblB_of (by simp [allSize, allOne, flat, AV.cells, lenN]; omega) (oblB_of (by simp [lenN_eq, flat_cus]) ⟨⟨⟨⟨⟨rfl, g.c⟩, ⟨rfl, rfl⟩, trivial⟩, ⟨⟨rfl, rfl⟩, ⟨rfl, rfl⟩, trivial⟩, renR_ob (o := o) hM (rN _ rfl) (rX _ rfl) (.rsl _ _ _ _ _ _ rfl), ⟨rfl, rfl⟩, ⟨rfl, by simp [closedAll_append, closed_fcu]; rfl⟩, trivial⟩, ⟨rfl, bn⟩, ⟨rfl, bx⟩, trivial⟩, hq⟩)⟩
theorem st_cus1s {y : Rw} {i : Nat} {Rs : List AV} {M N L : AV} {BN BL : Option Blk} (o : Ob) (g : Go1 i Rs y) (hM : closedA M = true) (rN : Rv 1 N) (rX : Rv 2 L) (bn : ClosedOB BN) (bx : ClosedOB BL) (hk : y.k % 9 = 6) {l : List Cu} (hl : l.length ≤ 1000) (hin : hasCu (cuOf y) l = false) (h6 : 6 ≤ l.length) : Step (stO (oW (.ofNat i) Rs (obF o M N L (.rsl true 3 0 l.length 2)) [(3, .cells (flat (l.map cuA)), .whole)]) [(1, BN), (2, BL)]) (stO (oW (.ofNat (i + 1)) Rs (obF o M N L (.rsl true 3 0 l.length 2)) [(3, .cells (flat (l.map cuA)), .whole)]) [(1, BN), (2, BL)]) := by
 intro Q hq
 have hR := g.c
 refine ALp.roundO (A := oA 6 0 y [(30, 4, .res (.str (ofL cnL [] y.a))), (30, 9, .res (.str (ofL ctL [] y.b))), (36, 6, .res (.bool false))] [(34, fun s Q => seesO 0 [(0, 0), (1, 1), (2, 2), (3, 3), (4, 4), (5, 48)] (icusV (.ofNat i) Rs (obF o M N L (.rsl true 3 0 l.length 2)) [.str (ofL cnL [] y.a), .str (ofL ctL [] y.b)] false 0 [(3, .cells (flat (l.map cuA)), .whole)]) [(1, BN), (2, BL)] s ∧ Q (.exit 5) (stO (icusV (.ofNat i) Rs (obF o M N L (.rsl true 3 0 l.length 2)) [.str (ofL cnL [] y.a), .str (ofL ctL [] y.b)] false (.ofNat l.length) [(3, .cells (flat (l.map cuA)), .whole)]) [(1, BN), (2, BL)]))] none []) (V1 := oW (.ofNat (i + 1)) Rs (obF o M N L (.rsl true 3 0 l.length 2)) [(3, .cells (flat (l.map cuA)), .whole)]) (F := oW (.ofNat i) Rs [] []) (opt := [(1, BN), (2, BL)]) (opt' := []) (lk := [(0, 0), (1, 1), (2, 2), (3, 3), (4, 4)]) (lk' := []) base0 aidJ_ok (LsOk.at1 rfl cus_at fun st Q hs => .seenO base0.glob hs.1 (cus_loop (x := cuOf y) g.c hM rN rX bn bx hl l.length 0 false (by omega) (by rw [List.drop_zero, hin]; exact hs.2))) .refl ?_
 rw [ob_cus1s, g.w]
 exact ⟨g.a, g.b, g.x, pk hk (by decide) (by decide), pick_sem _ (by decide) (by decide), idx_cn _, pick_sem _ (by decide) (by decide), idx_ct _, ⟨⟨⟨⟨rfl, hR⟩, ⟨rfl, rfl⟩, ⟨rfl, rfl⟩, ⟨rfl, rfl⟩, trivial⟩, ⟨⟨rfl, rfl⟩, ⟨rfl, rfl⟩, ⟨rfl, rfl⟩, trivial⟩, renR_ob (o := o) hM (rN _ rfl) (rX _ rfl) (.rsl _ _ _ _ _ _ rfl), ⟨rfl, rfl⟩, ⟨rfl, rfl⟩, ⟨rfl, closed_fcu l⟩, trivial⟩, ⟨rfl, bn⟩, ⟨rfl, bx⟩, trivial⟩, lss_f (by simp; omega), ⟨⟨⟨⟨⟨rfl, g.c⟩, ⟨rfl, rfl⟩, trivial⟩, ⟨⟨rfl, rfl⟩, ⟨rfl, rfl⟩, trivial⟩, renR_ob (o := o) hM (rN _ rfl) (rX _ rfl) (.rsl _ _ _ _ _ _ rfl), ⟨rfl, rfl⟩, ⟨rfl, closed_fcu l⟩, trivial⟩, ⟨rfl, bn⟩, ⟨rfl, bx⟩, trivial⟩, hq⟩⟩
end Go.Proofs.YtjhggnebkfpgcaaGreatDoor
