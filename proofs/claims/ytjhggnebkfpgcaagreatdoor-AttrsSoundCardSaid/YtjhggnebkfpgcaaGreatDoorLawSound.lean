/- AttrsSound: the law's run. -/
import Derived.Test.YtjhggnebkfpgcaaGreatDoorOkay
import Derived.KernelRfl
namespace Go.Proofs.YtjhggnebkfpgcaaGreatDoor
open Go Go.RowKit
open Go.Proofs.Abs

noncomputable def soV (i : Int) (Cs O : List AV) : View := ⟨[(2, .fsl false Cs), (8, I i)], [(7, .ptr 0 0)], [(0, .cells O, .whole)], 1, 65⟩
noncomputable def soF : View := ⟨[], [], [], 0, 65⟩
noncomputable def soA (y : Rw) (s : List UInt8) (idx t yy n : Int) (D K : List AV) (v : Int) (P : List AV) (r : Int) (b : Bool) : Aid := aidJ [(3, 3, .res (.bool true)), (3, 6, .res (.bool true)), (5, 2, .res (.fptr (rwC y) 0)), (8, 2, .res (.fptr (rwC y) 0))] [] (manyF [(16, fun _ => some (.agg (.str s :: I idx :: itF t yy n D K))), (23, fun _ => some (I v)), (18, fun _ => some (.tuple [.agg P, I r])), (24, fun _ => some (.tuple [.agg P, I r])), (25, fun _ => some (.tuple [.agg P, I r])), (26, fun _ => some (.bool b))]) [] []
theorem so_set (y : Rw) (i j : Int) (Cs : List AV) (s : List UInt8) (idx t yy n : Int) (D K : List AV) (o p : Ob) (M N L C M' N' L' C' : AV) (r : Int) (b : Bool) (O : List AV) (Nx : Prop) (Q : AExit → St → Prop) : wpK Tryz.prog opts0 40 (soA y s idx t yy n D K 0 (obF p M' N' L' C') r b) (lpCode Tryz.prog 4 4) (soV i Cs (obF o M N L C)).st (roundP 0 [(0, 0)] (soV j Cs O) Nx [] soF Q) =
    (binA Tryz.prog BinOp.lss 3 (Operand.tmp 15) (Operand.tmp 17) (I i) (I (Int.ofNat (lenN Cs))) = some (AV.bool true) ∧ binA Tryz.prog BinOp.lss 3 (Operand.tmp 20) (Operand.const (Value.int IntKind.i64 20)) (I i) (I 20) = some (AV.bool true) ∧ indexAddrA Tryz.prog 22 (AV.fsl false Cs) (I i) = some (AV.fptr [I y.1, I y.2, I y.3, I y.4] 0) ∧ SemCall Tryz.prog opts0.glob 16 [AV.agg [I y.1, I y.2, I y.3, I y.4]] (AV.agg [AV.str s, I idx, I t, I yy, I n, AV.fsl false D, AV.fsl false K]) ∧ indexAddrA Tryz.prog 22 (AV.fsl false Cs) (I i) = some (AV.fptr [I y.1, I y.2, I y.3, I y.4] 0) ∧ SemCall Tryz.prog opts0.glob 23 [I y.2, I 3] (I 0) ∧ SemCall Tryz.prog opts0.glob 18 [AV.agg (obF o M N L C), AV.agg [AV.str s, I idx, I t, I yy, I n, AV.fsl false D, AV.fsl false K]] (AV.tuple [AV.agg (obF p M' N' L' C'), I r]) ∧ oblB (fitsT Tryz.prog 33 (AV.agg (obF p M' N' L' C')) 37) (mtB (!beqInt r 0) ((((AV.fsl false Cs = AV.fsl false Cs ∧ closedA (AV.fsl false Cs) = true) ∧ (I (wrapA IntKind.i64 (i + 1)) = I j ∧ closedA (I j) = true) ∧ True) ∧ ((some 0 = some 0 ∧ 0 = 0) ∧ True) ∧ ((obF o M N L C) = O ∧ closedAll O = true) ∧ True) ∧ Nx) (SemCall Tryz.prog opts0.glob 26 [AV.agg (obF p M' N' L' C')] (AV.bool b) ∧ mtB (!b) ((True ∧ True ∧ True) ∧ Q AExit.ret soF.st) (oblB (fitsT Tryz.prog 33 (AV.agg (obF p M' N' L' C')) 37) ((((AV.fsl false Cs = AV.fsl false Cs ∧ closedA (AV.fsl false Cs) = true) ∧ (I (wrapA IntKind.i64 (i + 1)) = I j ∧ closedA (I j) = true) ∧ True) ∧ ((some 0 = some 0 ∧ 0 = 0) ∧ True) ∧ ((obF p M' N' L' C') = O ∧ closedAll O = true) ∧ True) ∧ Nx))))) := by kernel_rfl
theorem so_add (y : Rw) (i j : Int) (Cs : List AV) (s : List UInt8) (idx t yy n : Int) (D K : List AV) (o p : Ob) (M N L C M' N' L' C' : AV) (r : Int) (b : Bool) (O : List AV) (Nx : Prop) (Q : AExit → St → Prop) : wpK Tryz.prog opts0 40 (soA y s idx t yy n D K 1 (obF p M' N' L' C') r b) (lpCode Tryz.prog 4 4) (soV i Cs (obF o M N L C)).st (roundP 0 [(0, 0)] (soV j Cs O) Nx [] soF Q) =
    (binA Tryz.prog BinOp.lss 3 (Operand.tmp 15) (Operand.tmp 17) (I i) (I (Int.ofNat (lenN Cs))) = some (AV.bool true) ∧ binA Tryz.prog BinOp.lss 3 (Operand.tmp 20) (Operand.const (Value.int IntKind.i64 20)) (I i) (I 20) = some (AV.bool true) ∧ indexAddrA Tryz.prog 22 (AV.fsl false Cs) (I i) = some (AV.fptr [I y.1, I y.2, I y.3, I y.4] 0) ∧ SemCall Tryz.prog opts0.glob 16 [AV.agg [I y.1, I y.2, I y.3, I y.4]] (AV.agg [AV.str s, I idx, I t, I yy, I n, AV.fsl false D, AV.fsl false K]) ∧ indexAddrA Tryz.prog 22 (AV.fsl false Cs) (I i) = some (AV.fptr [I y.1, I y.2, I y.3, I y.4] 0) ∧ SemCall Tryz.prog opts0.glob 23 [I y.2, I 3] (I 1) ∧ SemCall Tryz.prog opts0.glob 24 [AV.agg (obF o M N L C), AV.agg [AV.str s, I idx, I t, I yy, I n, AV.fsl false D, AV.fsl false K], I 9] (AV.tuple [AV.agg (obF p M' N' L' C'), I r]) ∧ oblB (fitsT Tryz.prog 33 (AV.agg (obF p M' N' L' C')) 37) (mtB (!beqInt r 0) ((((AV.fsl false Cs = AV.fsl false Cs ∧ closedA (AV.fsl false Cs) = true) ∧ (I (wrapA IntKind.i64 (i + 1)) = I j ∧ closedA (I j) = true) ∧ True) ∧ ((some 0 = some 0 ∧ 0 = 0) ∧ True) ∧ ((obF o M N L C) = O ∧ closedAll O = true) ∧ True) ∧ Nx) (SemCall Tryz.prog opts0.glob 26 [AV.agg (obF p M' N' L' C')] (AV.bool b) ∧ mtB (!b) ((True ∧ True ∧ True) ∧ Q AExit.ret soF.st) (oblB (fitsT Tryz.prog 33 (AV.agg (obF p M' N' L' C')) 37) ((((AV.fsl false Cs = AV.fsl false Cs ∧ closedA (AV.fsl false Cs) = true) ∧ (I (wrapA IntKind.i64 (i + 1)) = I j ∧ closedA (I j) = true) ∧ True) ∧ ((some 0 = some 0 ∧ 0 = 0) ∧ True) ∧ ((obF p M' N' L' C') = O ∧ closedAll O = true) ∧ True) ∧ Nx))))) := by kernel_rfl
theorem so_mod (y : Rw) (i j : Int) (Cs : List AV) (s : List UInt8) (idx t yy n : Int) (D K : List AV) (o p : Ob) (M N L C M' N' L' C' : AV) (r : Int) (b : Bool) (O : List AV) (Nx : Prop) (Q : AExit → St → Prop) : wpK Tryz.prog opts0 40 (soA y s idx t yy n D K 2 (obF p M' N' L' C') r b) (lpCode Tryz.prog 4 4) (soV i Cs (obF o M N L C)).st (roundP 0 [(0, 0)] (soV j Cs O) Nx [] soF Q) =
    (binA Tryz.prog BinOp.lss 3 (Operand.tmp 15) (Operand.tmp 17) (I i) (I (Int.ofNat (lenN Cs))) = some (AV.bool true) ∧ binA Tryz.prog BinOp.lss 3 (Operand.tmp 20) (Operand.const (Value.int IntKind.i64 20)) (I i) (I 20) = some (AV.bool true) ∧ indexAddrA Tryz.prog 22 (AV.fsl false Cs) (I i) = some (AV.fptr [I y.1, I y.2, I y.3, I y.4] 0) ∧ SemCall Tryz.prog opts0.glob 16 [AV.agg [I y.1, I y.2, I y.3, I y.4]] (AV.agg [AV.str s, I idx, I t, I yy, I n, AV.fsl false D, AV.fsl false K]) ∧ indexAddrA Tryz.prog 22 (AV.fsl false Cs) (I i) = some (AV.fptr [I y.1, I y.2, I y.3, I y.4] 0) ∧ SemCall Tryz.prog opts0.glob 23 [I y.2, I 3] (I 2) ∧ SemCall Tryz.prog opts0.glob 25 [AV.agg (obF o M N L C), AV.agg [AV.str s, I idx, I t, I yy, I n, AV.fsl false D, AV.fsl false K], I 9] (AV.tuple [AV.agg (obF p M' N' L' C'), I r]) ∧ oblB (fitsT Tryz.prog 33 (AV.agg (obF p M' N' L' C')) 37) (mtB (!beqInt r 0) ((((AV.fsl false Cs = AV.fsl false Cs ∧ closedA (AV.fsl false Cs) = true) ∧ (I (wrapA IntKind.i64 (i + 1)) = I j ∧ closedA (I j) = true) ∧ True) ∧ ((some 0 = some 0 ∧ 0 = 0) ∧ True) ∧ ((obF o M N L C) = O ∧ closedAll O = true) ∧ True) ∧ Nx) (SemCall Tryz.prog opts0.glob 26 [AV.agg (obF p M' N' L' C')] (AV.bool b) ∧ mtB (!b) ((True ∧ True ∧ True) ∧ Q AExit.ret soF.st) (oblB (fitsT Tryz.prog 33 (AV.agg (obF p M' N' L' C')) 37) ((((AV.fsl false Cs = AV.fsl false Cs ∧ closedA (AV.fsl false Cs) = true) ∧ (I (wrapA IntKind.i64 (i + 1)) = I j ∧ closedA (I j) = true) ∧ True) ∧ ((some 0 = some 0 ∧ 0 = 0) ∧ True) ∧ ((obF p M' N' L' C') = O ∧ closedAll O = true) ∧ True) ∧ Nx))))) := by kernel_rfl
theorem so_endA (i : Int) (Cs O : List AV) (Nx : Prop) (Q : AExit → St → Prop) : wpK Tryz.prog opts0 40 (aidJ [(3, 3, .res (.bool false))] [] noSem [] []) (lpCode Tryz.prog 4 4) (soV i Cs O).st (roundP 0 [] (soV 0 [] []) Nx [] soF Q) =
    (binA Tryz.prog BinOp.lss 3 (Operand.tmp 15) (Operand.tmp 17) (I i) (I (Int.ofNat (lenN Cs))) = some (AV.bool false) ∧ (True ∧ True ∧ True) ∧ Q (AExit.exit 0) soF.st) := by kernel_rfl
theorem so_endB (i : Int) (Cs O : List AV) (Nx : Prop) (Q : AExit → St → Prop) : wpK Tryz.prog opts0 40 (aidJ [(3, 3, .res (.bool true)), (3, 6, .res (.bool false))] [] noSem [] []) (lpCode Tryz.prog 4 4) (soV i Cs O).st (roundP 0 [] (soV 0 [] []) Nx [] soF Q) =
    (binA Tryz.prog BinOp.lss 3 (Operand.tmp 15) (Operand.tmp 17) (I i) (I (Int.ofNat (lenN Cs))) = some (AV.bool true) ∧ binA Tryz.prog BinOp.lss 3 (Operand.tmp 20) (Operand.const (Value.int IntKind.i64 20)) (I i) (I 20) = some (AV.bool false) ∧ (True ∧ True ∧ True) ∧ Q (AExit.exit 0) soF.st) := by kernel_rfl
noncomputable def soL (Cs O : List AV) : LoopS := fun st Q => seesK 0 [(0, 5)] (soV 0 Cs O) st ∧ Q (.exit 0) soF.st
theorem so_fn (x : Rw) (Rs Cs : List AV) (o : Ob) (M N L C : AV) (Q : AV → Prop) : fnK Tryz.prog opts0 40 (aidJ [] [(4, soL Cs (obF o M N L C))] (manyF [(22, fun _ => some (.agg (obF o M N L C))), (21, fun _ => some (.bool true))]) [] []) 4 [rwA x, .fsl false Rs, .fsl false Cs] [] 0 (fun v _ _ => Q v) =
    (SemCall Tryz.prog opts0.glob 22 [AV.agg [I x.1, I x.2, I x.3, I x.4], AV.fsl false Rs] (AV.agg (obF o M N L C)) ∧ oblB (fitsT Tryz.prog 33 (AV.agg (obF o M N L C)) 37) ((((AV.fsl false Cs = AV.fsl false Cs ∧ closedA (AV.fsl false Cs) = true) ∧ (I 0 = I 0 ∧ true = true) ∧ True) ∧ ((some 5 = some 5 ∧ 0 = 0) ∧ True) ∧ ((obF o M N L C) = (obF o M N L C) ∧ closedAll (obF o M N L C) = true) ∧ True) ∧ SemCall Tryz.prog opts0.glob 21 [] (AV.bool true) ∧ Q (AV.bool true))) := by kernel_rfl
noncomputable def optsB : Opts := { how := fun f => match memN [119, 120, 121, 151, 191, 193, 194] f with | true => .fresh | false => match memN [102, 104, 144, 145, 214, 215] f with | true => .keep | false => .pure, summ := fun _ _ => none, glob := gl, lf := 100000 }
theorem known_sem : SemCall Tryz.prog opts0.glob 21 [] (.bool true) :=
  sem_of_calls (O := optsB) (n := 20) Tryz.mixed (fun _ _ _ h => by cases h) noCall_ok' gl_closed fun id h nx => pureT_ok (O := optsB) (n := 19) (T := []) (F := []) rfl rfl (by kernel_rfl) trivial id h nx

theorem fits_obC (o : Ob) : fitsT Tryz.prog 33 (.agg (obC o)) 37 = true := by kernel_rfl
theorem lss20_t {i n : Nat} (h : i < n) : binA Tryz.prog .lss 3 (.tmp 15) (.tmp 17) (I (.ofNat i)) (I (.ofNat n)) = some (.bool true) := lss_t (by simp only [Int.ofNat_eq_natCast]; omega)
set_option maxRecDepth 20000 in
theorem so_step {l : List Rw} {i : Nat} {y : Rw} (hy : l[i]? = some y) (hi : i < 20) {o : Ob} (h : Okay o) : ∃ o', Okay o' ∧ ∀ Q : AExit → St → Prop, ALp Tryz.prog opts0.glob 0 (lpCode Tryz.prog 4 4) (soV (.ofNat (i + 1)) (l.map rwA) (obC o')).st Q → ALp Tryz.prog opts0.glob 0 (lpCode Tryz.prog 4 4) (soV (.ofNat i) (l.map rwA) (obC o)).st Q := by
  have ha : txI (attrI y).v := value_tx _ _
  have hc := cus_sem _ (ofL_mem nameL [] y.k (by simp [nameL]))
  have hat := attr_sem y
  have hR := closed_rws l
  have hl : i < (l.map rwA).length := by
    obtain ⟨h1, _⟩ := List.getElem?_eq_some_iff.1 hy
    simpa using h1
  have ga := lss20_t (i := i) (n := (l.map rwA).length) hl
  rw [← lenN_eq] at ga
  have gb : binA Tryz.prog .lss 3 (.tmp 20) (.const (.int .i64 20)) (I (.ofNat i)) (I 20) = some (.bool true) := lss_t (by simp only [Int.ofNat_eq_natCast]; omega)
  have gx : indexAddrA Tryz.prog 22 (.fsl false (l.map rwA)) (I (.ofNat i)) = some (.fptr (rwC y) 0) := fsl_index (v := rwA y) (e := 42) (sz := 4) (by kernel_rfl) (by kernel_rfl) (by rw [List.getElem?_map, hy]; rfl) rfl
  have hw : wrapA .i64 (Int.ofNat i + 1) = Int.ofNat (i + 1) := wrapA_i64 (by simp; omega) (by simp; omega)
  have hname : (attrI y).name = ofL nameL [] y.k := rfl
  rw [← hname] at hc
  revert ha hc hat
  generalize attrI y = a
  intro ha hc hat
  have hset := set_sem h.fit hc h.g ha
  have hadd := add_sem (now := 9) h.fit hc h.g ha
  have hmod := mod_sem (now := 9) h.fit hc h.g ha
  have kset := set_ok (c := cusB a.name) h ha
  have kadd := add_ok (c := cusB a.name) h ha 9
  have kmod := mod_ok (c := cusB a.name) h ha 9
  clear hc ha
  revert hset hadd hmod kset kadd kmod
  generalize setS (cusB a.name) o a = p0
  generalize addS (cusB a.name) o a 9 = p1
  generalize modS (cusB a.name) o a 9 = p2
  intro hset hadd hmod kset kadd kmod
  obtain ⟨s, idx, ⟨t, yy, n, d, ks⟩⟩ := a
  obtain ⟨k, hk, hlt⟩ := mod_nat (n := y.a) (m := 3) (by decide)
  match k, hk, hlt with
  | 0, hk, _ =>
    cases h0 : beqInt p0.2 0 with
    | true =>
      obtain ⟨k1, k2⟩ := kset (beqInt_iff.1 h0)
      refine ⟨p0.1, k1, fun Q hq => ?_⟩
      refine ALp.round (A := soA y s idx t yy n (toBytes d) (itAs ks) 0 (obF p0.1 (matA p0.1) (namA p0.1) (lnkA p0.1) (cusA p0.1)) p0.2 (soundB p0.1)) (V1 := soV (.ofNat (i + 1)) (l.map rwA) (obC p0.1)) (V2 := soV (.ofNat (i + 1)) (l.map rwA) (obC p0.1)) (F := soF) (lk := [(0, 0)]) (lk' := []) base0 aidJ_ok (LsOk.no rfl) .refl ?_
      unfold obC at hq ⊢
      rw [so_set, hw]
      exact ⟨ga, gb, gx, hat, gx, pk hk (by decide) (by decide), hset, oblB_of (fits_obC p0.1) (mtB_of (fun e => by rw [h0] at e; cases e) (fun _ => ⟨sound_sem p0.1, mtB_of (fun e => by rw [k2] at e; cases e) (fun _ => oblB_of (fits_obC p0.1) ⟨⟨⟨⟨rfl, hR⟩, ⟨rfl, rfl⟩, trivial⟩, ⟨⟨rfl, rfl⟩, trivial⟩, ⟨rfl, closed_obC p0.1⟩, trivial⟩, hq⟩)⟩))⟩
    | false =>
      refine ⟨o, h, fun Q hq => ?_⟩
      refine ALp.round (A := soA y s idx t yy n (toBytes d) (itAs ks) 0 (obF p0.1 (matA p0.1) (namA p0.1) (lnkA p0.1) (cusA p0.1)) p0.2 (soundB p0.1)) (V1 := soV (.ofNat (i + 1)) (l.map rwA) (obC o)) (V2 := soV (.ofNat (i + 1)) (l.map rwA) (obC o)) (F := soF) (lk := [(0, 0)]) (lk' := []) base0 aidJ_ok (LsOk.no rfl) .refl ?_
      unfold obC at hq ⊢
      rw [so_set, hw]
      exact ⟨ga, gb, gx, hat, gx, pk hk (by decide) (by decide), hset, oblB_of (fits_obC p0.1) (mtB_of (fun _ => ⟨⟨⟨⟨rfl, hR⟩, ⟨rfl, rfl⟩, trivial⟩, ⟨⟨rfl, rfl⟩, trivial⟩, ⟨rfl, closed_obC o⟩, trivial⟩, hq⟩) (fun e => by rw [h0] at e; cases e))⟩
  | 1, hk, _ =>
    cases h0 : beqInt p1.2 0 with
    | true =>
      obtain ⟨k1, k2⟩ := kadd (beqInt_iff.1 h0)
      refine ⟨p1.1, k1, fun Q hq => ?_⟩
      refine ALp.round (A := soA y s idx t yy n (toBytes d) (itAs ks) 1 (obF p1.1 (matA p1.1) (namA p1.1) (lnkA p1.1) (cusA p1.1)) p1.2 (soundB p1.1)) (V1 := soV (.ofNat (i + 1)) (l.map rwA) (obC p1.1)) (V2 := soV (.ofNat (i + 1)) (l.map rwA) (obC p1.1)) (F := soF) (lk := [(0, 0)]) (lk' := []) base0 aidJ_ok (LsOk.no rfl) .refl ?_
      unfold obC at hq ⊢
      rw [so_add, hw]
      exact ⟨ga, gb, gx, hat, gx, pk hk (by decide) (by decide), hadd, oblB_of (fits_obC p1.1) (mtB_of (fun e => by rw [h0] at e; cases e) (fun _ => ⟨sound_sem p1.1, mtB_of (fun e => by rw [k2] at e; cases e) (fun _ => oblB_of (fits_obC p1.1) ⟨⟨⟨⟨rfl, hR⟩, ⟨rfl, rfl⟩, trivial⟩, ⟨⟨rfl, rfl⟩, trivial⟩, ⟨rfl, closed_obC p1.1⟩, trivial⟩, hq⟩)⟩))⟩
    | false =>
      refine ⟨o, h, fun Q hq => ?_⟩
      refine ALp.round (A := soA y s idx t yy n (toBytes d) (itAs ks) 1 (obF p1.1 (matA p1.1) (namA p1.1) (lnkA p1.1) (cusA p1.1)) p1.2 (soundB p1.1)) (V1 := soV (.ofNat (i + 1)) (l.map rwA) (obC o)) (V2 := soV (.ofNat (i + 1)) (l.map rwA) (obC o)) (F := soF) (lk := [(0, 0)]) (lk' := []) base0 aidJ_ok (LsOk.no rfl) .refl ?_
      unfold obC at hq ⊢
      rw [so_add, hw]
      exact ⟨ga, gb, gx, hat, gx, pk hk (by decide) (by decide), hadd, oblB_of (fits_obC p1.1) (mtB_of (fun _ => ⟨⟨⟨⟨rfl, hR⟩, ⟨rfl, rfl⟩, trivial⟩, ⟨⟨rfl, rfl⟩, trivial⟩, ⟨rfl, closed_obC o⟩, trivial⟩, hq⟩) (fun e => by rw [h0] at e; cases e))⟩
  | 2, hk, _ =>
    cases h0 : beqInt p2.2 0 with
    | true =>
      obtain ⟨k1, k2⟩ := kmod (beqInt_iff.1 h0)
      refine ⟨p2.1, k1, fun Q hq => ?_⟩
      refine ALp.round (A := soA y s idx t yy n (toBytes d) (itAs ks) 2 (obF p2.1 (matA p2.1) (namA p2.1) (lnkA p2.1) (cusA p2.1)) p2.2 (soundB p2.1)) (V1 := soV (.ofNat (i + 1)) (l.map rwA) (obC p2.1)) (V2 := soV (.ofNat (i + 1)) (l.map rwA) (obC p2.1)) (F := soF) (lk := [(0, 0)]) (lk' := []) base0 aidJ_ok (LsOk.no rfl) .refl ?_
      unfold obC at hq ⊢
      rw [so_mod, hw]
      exact ⟨ga, gb, gx, hat, gx, pk hk (by decide) (by decide), hmod, oblB_of (fits_obC p2.1) (mtB_of (fun e => by rw [h0] at e; cases e) (fun _ => ⟨sound_sem p2.1, mtB_of (fun e => by rw [k2] at e; cases e) (fun _ => oblB_of (fits_obC p2.1) ⟨⟨⟨⟨rfl, hR⟩, ⟨rfl, rfl⟩, trivial⟩, ⟨⟨rfl, rfl⟩, trivial⟩, ⟨rfl, closed_obC p2.1⟩, trivial⟩, hq⟩)⟩))⟩
    | false =>
      refine ⟨o, h, fun Q hq => ?_⟩
      refine ALp.round (A := soA y s idx t yy n (toBytes d) (itAs ks) 2 (obF p2.1 (matA p2.1) (namA p2.1) (lnkA p2.1) (cusA p2.1)) p2.2 (soundB p2.1)) (V1 := soV (.ofNat (i + 1)) (l.map rwA) (obC o)) (V2 := soV (.ofNat (i + 1)) (l.map rwA) (obC o)) (F := soF) (lk := [(0, 0)]) (lk' := []) base0 aidJ_ok (LsOk.no rfl) .refl ?_
      unfold obC at hq ⊢
      rw [so_mod, hw]
      exact ⟨ga, gb, gx, hat, gx, pk hk (by decide) (by decide), hmod, oblB_of (fits_obC p2.1) (mtB_of (fun _ => ⟨⟨⟨⟨rfl, hR⟩, ⟨rfl, rfl⟩, trivial⟩, ⟨⟨rfl, rfl⟩, trivial⟩, ⟨rfl, closed_obC o⟩, trivial⟩, hq⟩) (fun e => by rw [h0] at e; cases e))⟩
  | _ + 3, _, hlt => exact absurd hlt (by omega)
theorem so_run {l : List Rw} : ∀ (m i : Nat) (o : Ob), i + m = min l.length 20 → Okay o → ∀ Q : AExit → St → Prop, Q (.exit 0) soF.st → ALp Tryz.prog opts0.glob 0 (lpCode Tryz.prog 4 4) (soV (.ofNat i) (l.map rwA) (obC o)).st Q
  | 0, i, o, hm, h, Q, hq => by
    rw [Nat.add_zero] at hm
    by_cases hi : i < l.length
    · refine ALp.round (A := aidJ [(3, 3, .res (.bool true)), (3, 6, .res (.bool false))] [] noSem [] []) (V1 := soV 0 [] []) (V2 := soV 0 [] []) (F := soF) (lk := []) (lk' := []) base0 aidJ_ok (LsOk.no rfl) .refl ?_
      rw [so_endB]
      exact ⟨lss_t (by simp only [lenN_eq, List.length_map, Int.ofNat_eq_natCast]; omega), lss_f (by simp only [Int.ofNat_eq_natCast]; omega), ⟨trivial, trivial, trivial⟩, hq⟩
    · refine ALp.round (A := aidJ [(3, 3, .res (.bool false))] [] noSem [] []) (V1 := soV 0 [] []) (V2 := soV 0 [] []) (F := soF) (lk := []) (lk' := []) base0 aidJ_ok (LsOk.no rfl) .refl ?_
      rw [so_endA]
      exact ⟨lss_f (by simp only [lenN_eq, List.length_map, Int.ofNat_eq_natCast]; omega), ⟨trivial, trivial, trivial⟩, hq⟩
  | m + 1, i, o, hm, h, Q, hq => by
    have hi : i < l.length := by omega
    obtain ⟨o1, h1, s1⟩ := so_step (l := l) (List.getElem?_eq_getElem hi) (by omega) h
    exact s1 Q (so_run (l := l) m (i + 1) o1 (by omega) h1 Q hq)
theorem so_at : loopsAt (fnCode Tryz.prog 4) 4 = [lpCode Tryz.prog 4 4] := by kernel_rfl
set_option maxRecDepth 20000 in
theorem law_sem (x : Rw) (l cs : List Rw) : SemCall Tryz.prog opts0.glob 4 [rwA x, .fsl false (l.map rwA), .fsl false (cs.map rwA)] (.bool true) := by
  obtain ⟨o, ho, hob⟩ := object_sem x l
  have h1 := closed_rws l
  have h2 := closed_rws cs
  refine fnK_semV (A := aidJ [] [(4, soL (cs.map rwA) (obF o (matA o) (namA o) (lnkA o) (cusA o)))] (manyF [(22, fun _ => some (.agg (obF o (matA o) (namA o) (lnkA o) (cusA o)))), (21, fun _ => some (.bool true))]) [] []) base0 aidJ_ok
    (fnLs_of (LsOk.at1 rfl so_at fun st Q hs => .seen base0.glob hs.1 (so_run (l := cs) (min cs.length 20) 0 o (Nat.zero_add _) (okay_of ho) Q hs.2))) (by simp only [closedAll, closedA, h1, h2, rwA, rwC, Bool.and_self]) rfl ?_
  rw [so_fn]
  exact ⟨hob, oblB_of (fits_obC o) ⟨⟨⟨⟨rfl, h2⟩, ⟨rfl, rfl⟩, trivial⟩, ⟨⟨rfl, rfl⟩, trivial⟩, ⟨rfl, closed_obC o⟩, trivial⟩, known_sem, rfl⟩⟩

end Go.Proofs.YtjhggnebkfpgcaaGreatDoor
