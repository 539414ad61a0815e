/- An object is the same as itself, says the reference. -/
import Derived.Test.YtjhggnebkfpgcaaGreatDoorOf2
import Derived.Test.YtjhggnebkfpgcaaGreatDoorObj2
import Derived.KernelRfl
namespace Go.Proofs.YtjhggnebkfpgcaaGreatDoor
set_option maxRecDepth 20000
open Go Go.RowKit
open Go.Proofs.Abs
abbrev oN (o : Ob) (M L C : AV) (R : List AV) : List AV := obF o M (.fsl false R) L C
abbrev oL (o : Ob) (M N C : AV) (R : List AV) : List AV := obF o M N (.fsl false R) C
abbrev oC (o : Ob) (M N L : AV) (R : List AV) : List AV := obF o M N L (.fsl false R)
noncomputable def osV (k : Nat) (i : Int) (O : List AV) : View := ⟨[(k, I i)], [(2, .ptr 0 0), (3, .ptr 1 0)], [(0, .cells O, .whole), (1, .cells O, .whole)], 2, 173⟩
noncomputable def osA (r : Nat) (x : List AV) : Aid := aidJ [(r, 3, .res (.fptr x 0)), (r, 8, .res (.fptr x 0))] [] noSem [] []
theorem os_n (o : Ob) (M L C : AV) (R : List AV) (x : List UInt8) (i j : Int) (Nx : Prop) (Q : AExit → St → Prop) : wpK Tryz.prog opts0 40 (osA 6 [.str x]) (lpCode Tryz.prog 20 5) (osV 5 i (obF o M (.fsl false R) L C)).st (roundP 0 [(0, 0), (1, 1)] (osV 5 j (obF o M (.fsl false R) L C)) Nx [(0, 0), (1, 1)] (osV 5 i (obF o M (.fsl false R) L C)) Q) =
  (mtB (ltInt i (Int.ofNat (lenN R))) (indexAddrA Tryz.prog 27 (AV.fsl false R) (I i) = some (AV.fptr [AV.str x] 0) ∧ indexAddrA Tryz.prog 27 (AV.fsl false R) (I i) = some (AV.fptr [AV.str x] 0) ∧ mtB (!beqBytes x x) ((((I i = I i ∧ closedA (I i) = true) ∧ True) ∧ ((some 0 = some 0 ∧ 0 = 0) ∧ (some 1 = some 1 ∧ 0 = 0) ∧ True) ∧ ((oN o M L C R) = (oN o M L C R) ∧ closedAll (oN o M L C R) = true) ∧ ((oN o M L C R) = (oN o M L C R) ∧ closedAll (oN o M L C R) = true) ∧ True) ∧ Q AExit.ret (osV 5 i (oN o M L C R)).st) ((((I (wrapA IntKind.i64 (i + 1)) = I j ∧ closedA (I j) = true) ∧ True) ∧ ((some 0 = some 0 ∧ 0 = 0) ∧ (some 1 = some 1 ∧ 0 = 0) ∧ True) ∧ ((oN o M L C R) = (oN o M L C R) ∧ closedAll (oN o M L C R) = true) ∧ ((oN o M L C R) = (oN o M L C R) ∧ closedAll (oN o M L C R) = true) ∧ True) ∧ Nx)) ((((I i = I i ∧ closedA (I i) = true) ∧ True) ∧ ((some 0 = some 0 ∧ 0 = 0) ∧ (some 1 = some 1 ∧ 0 = 0) ∧ True) ∧ ((oN o M L C R) = (oN o M L C R) ∧ closedAll (oN o M L C R) = true) ∧ ((oN o M L C R) = (oN o M L C R) ∧ closedAll (oN o M L C R) = true) ∧ True) ∧ Q (AExit.exit 0) (osV 5 i (oN o M L C R)).st)) := by kernel_rfl
theorem os_l (o : Ob) (M N C : AV) (R : List AV) (x : Lk) (i j : Int) (Nx : Prop) (Q : AExit → St → Prop) : wpK Tryz.prog opts0 40 (osA 11 [I x.ty, .str x.id]) (lpCode Tryz.prog 20 10) (osV 6 i (obF o M N (.fsl false R) C)).st (roundP 0 [(0, 0), (1, 1)] (osV 6 j (obF o M N (.fsl false R) C)) Nx [(0, 0), (1, 1)] (osV 6 i (obF o M N (.fsl false R) C)) Q) =
  (mtB (ltInt i (Int.ofNat (lenN R))) (indexAddrA Tryz.prog 28 (AV.fsl false R) (I i) = some (AV.fptr [I x.1, AV.str x.2] 0) ∧ indexAddrA Tryz.prog 28 (AV.fsl false R) (I i) = some (AV.fptr [I x.1, AV.str x.2] 0) ∧ mtB (!(beqInt x.1 x.1 && (beqBytes x.2 x.2 && true))) ((((I i = I i ∧ closedA (I i) = true) ∧ True) ∧ ((some 0 = some 0 ∧ 0 = 0) ∧ (some 1 = some 1 ∧ 0 = 0) ∧ True) ∧ ((oL o M N C R) = (oL o M N C R) ∧ closedAll (oL o M N C R) = true) ∧ ((oL o M N C R) = (oL o M N C R) ∧ closedAll (oL o M N C R) = true) ∧ True) ∧ Q AExit.ret (osV 6 i (oL o M N C R)).st) ((((I (wrapA IntKind.i64 (i + 1)) = I j ∧ closedA (I j) = true) ∧ True) ∧ ((some 0 = some 0 ∧ 0 = 0) ∧ (some 1 = some 1 ∧ 0 = 0) ∧ True) ∧ ((oL o M N C R) = (oL o M N C R) ∧ closedAll (oL o M N C R) = true) ∧ ((oL o M N C R) = (oL o M N C R) ∧ closedAll (oL o M N C R) = true) ∧ True) ∧ Nx)) ((((I i = I i ∧ closedA (I i) = true) ∧ True) ∧ ((some 0 = some 0 ∧ 0 = 0) ∧ (some 1 = some 1 ∧ 0 = 0) ∧ True) ∧ ((oL o M N C R) = (oL o M N C R) ∧ closedAll (oL o M N C R) = true) ∧ ((oL o M N C R) = (oL o M N C R) ∧ closedAll (oL o M N C R) = true) ∧ True) ∧ Q (AExit.exit 2) (osV 6 i (oL o M N C R)).st)) := by kernel_rfl
theorem os_c (o : Ob) (M N L : AV) (R : List AV) (x : Cu) (i j : Int) (Nx : Prop) (Q : AExit → St → Prop) : wpK Tryz.prog opts0 40 (osA 16 [.str x.name, .str x.text]) (lpCode Tryz.prog 20 15) (osV 7 i (obF o M N L (.fsl false R))).st (roundP 0 [(0, 0), (1, 1)] (osV 7 j (obF o M N L (.fsl false R))) Nx [(0, 0), (1, 1)] (osV 7 i (obF o M N L (.fsl false R))) Q) =
  (mtB (ltInt i (Int.ofNat (lenN R))) (indexAddrA Tryz.prog 29 (AV.fsl false R) (I i) = some (AV.fptr [AV.str x.1, AV.str x.2] 0) ∧ indexAddrA Tryz.prog 29 (AV.fsl false R) (I i) = some (AV.fptr [AV.str x.1, AV.str x.2] 0) ∧ mtB (!(beqBytes x.1 x.1 && (beqBytes x.2 x.2 && true))) ((((I i = I i ∧ closedA (I i) = true) ∧ True) ∧ ((some 0 = some 0 ∧ 0 = 0) ∧ (some 1 = some 1 ∧ 0 = 0) ∧ True) ∧ ((oC o M N L R) = (oC o M N L R) ∧ closedAll (oC o M N L R) = true) ∧ ((oC o M N L R) = (oC o M N L R) ∧ closedAll (oC o M N L R) = true) ∧ True) ∧ Q AExit.ret (osV 7 i (oC o M N L R)).st) ((((I (wrapA IntKind.i64 (i + 1)) = I j ∧ closedA (I j) = true) ∧ True) ∧ ((some 0 = some 0 ∧ 0 = 0) ∧ (some 1 = some 1 ∧ 0 = 0) ∧ True) ∧ ((oC o M N L R) = (oC o M N L R) ∧ closedAll (oC o M N L R) = true) ∧ ((oC o M N L R) = (oC o M N L R) ∧ closedAll (oC o M N L R) = true) ∧ True) ∧ Nx)) ((((I i = I i ∧ closedA (I i) = true) ∧ True) ∧ ((some 0 = some 0 ∧ 0 = 0) ∧ (some 1 = some 1 ∧ 0 = 0) ∧ True) ∧ ((oC o M N L R) = (oC o M N L R) ∧ closedAll (oC o M N L R) = true) ∧ ((oC o M N L R) = (oC o M N L R) ∧ closedAll (oC o M N L R) = true) ∧ True) ∧ Q (AExit.exit 4) (osV 7 i (oC o M N L R)).st)) := by kernel_rfl
noncomputable def osL (k : Nat) (e : Nat) (n : Int) (O : List AV) : LoopS := fun st Q => seesK 0 [(0, 0), (1, 1)] (osV k 0 O) st ∧ Q (.exit e) (osV k n O).st
theorem os_fn (o : Ob) (m : List UInt8) (N L C : List AV) (n l c : Int) (Q : AV → Prop) : fnK Tryz.prog opts0 40 (aidJ [(1, 36, .res (.str m)), (1, 39, .res (.str m))] [(5, osL 5 0 n (obF o (.fsl false (toBytes m)) (.fsl false N) (.fsl false L) (.fsl false C))), (10, osL 6 2 l (obF o (.fsl false (toBytes m)) (.fsl false N) (.fsl false L) (.fsl false C))), (15, osL 7 4 c (obF o (.fsl false (toBytes m)) (.fsl false N) (.fsl false L) (.fsl false C)))] noSem [] []) 20 [.agg (obF o (.fsl false (toBytes m)) (.fsl false N) (.fsl false L) (.fsl false C)), .agg (obF o (.fsl false (toBytes m)) (.fsl false N) (.fsl false L) (.fsl false C))] [] 0 (fun v _ _ => Q v) =
  (mtB (!beqBytes o.1 o.1) (Q (AV.bool false)) (mtB (!beqInt o.2 o.2) (Q (AV.bool false)) (mtB (!beqInt o.3 o.3) (Q (AV.bool false)) (mtB (!beqInt o.4 o.4) (Q (AV.bool false)) (mtB (!beqInt o.5 o.5) (Q (AV.bool false)) (convA Tryz.prog 23 9 (AV.fsl false (toBytes m)) = some (Eff.val (AV.str m)) ∧ convA Tryz.prog 23 9 (AV.fsl false (toBytes m)) = some (Eff.val (AV.str m)) ∧ mtB (!beqBytes m m) (Q (AV.bool false)) (mtB (!beqInt o.7 o.7) (Q (AV.bool false)) (mtB (!(decide (o.d0.has = o.d0.has) && (beqInt o.d0.2 o.d0.2 && true) && (decide (o.d1.has = o.d1.has) && (beqInt o.d1.2 o.d1.2 && true) && (decide (o.d2.has = o.d2.has) && (beqInt o.d2.2 o.d2.2 && true) && (decide (o.d3.has = o.d3.has) && (beqInt o.d3.2 o.d3.2 && true) && (decide (o.d4.has = o.d4.has) && (beqInt o.d4.2 o.d4.2 && true) && (decide (o.d5.has = o.d5.has) && (beqInt o.d5.2 o.d5.2 && true) && (decide (o.d6.has = o.d6.has) && (beqInt o.d6.2 o.d6.2 && true) && (decide (o.d7.has = o.d7.has) && (beqInt o.d7.2 o.d7.2 && true) && (decide (o.d8.has = o.d8.has) && (beqInt o.d8.2 o.d8.2 && true) && (decide (o.d9.has = o.d9.has) && (beqInt o.d9.2 o.d9.2 && true) && true))))))))))) (Q (AV.bool false)) (mtB (!beqInt o.18 o.18) (Q (AV.bool false)) (mtB (!beqBytes o.19 o.19) (Q (AV.bool false)) (mtB (!(decide (o.lh = o.lh) && (beqInt o.24 o.24 && (beqInt o.25 o.25 && (beqInt o.26 o.26 && true))))) (Q (AV.bool false)) (mtB (!decide (o.arch = o.arch)) (Q (AV.bool false)) (mtB (!beqInt (Int.ofNat (lenN N)) (Int.ofNat (lenN N))) (Q (AV.bool false)) (mtB (!beqInt (Int.ofNat (lenN L)) (Int.ofNat (lenN L))) (Q (AV.bool false)) (mtB (!beqInt (Int.ofNat (lenN C)) (Int.ofNat (lenN C))) (Q (AV.bool false)) ((((I 0 = I 0 ∧ true = true) ∧ True) ∧ ((some 0 = some 0 ∧ 0 = 0) ∧ (some 1 = some 1 ∧ 0 = 0) ∧ True) ∧ ((obF o (AV.fsl false (toBytes m)) (AV.fsl false N) (AV.fsl false L) (AV.fsl false C)) = (obF o (AV.fsl false (toBytes m)) (AV.fsl false N) (AV.fsl false L) (AV.fsl false C)) ∧ closedAll (obF o (AV.fsl false (toBytes m)) (AV.fsl false N) (AV.fsl false L) (AV.fsl false C)) = true) ∧ ((obF o (AV.fsl false (toBytes m)) (AV.fsl false N) (AV.fsl false L) (AV.fsl false C)) = (obF o (AV.fsl false (toBytes m)) (AV.fsl false N) (AV.fsl false L) (AV.fsl false C)) ∧ closedAll (obF o (AV.fsl false (toBytes m)) (AV.fsl false N) (AV.fsl false L) (AV.fsl false C)) = true) ∧ True) ∧ (((I 0 = I 0 ∧ true = true) ∧ True) ∧ ((some 0 = some 0 ∧ 0 = 0) ∧ (some 1 = some 1 ∧ 0 = 0) ∧ True) ∧ ((obF o (AV.fsl false (toBytes m)) (AV.fsl false N) (AV.fsl false L) (AV.fsl false C)) = (obF o (AV.fsl false (toBytes m)) (AV.fsl false N) (AV.fsl false L) (AV.fsl false C)) ∧ closedAll (obF o (AV.fsl false (toBytes m)) (AV.fsl false N) (AV.fsl false L) (AV.fsl false C)) = true) ∧ ((obF o (AV.fsl false (toBytes m)) (AV.fsl false N) (AV.fsl false L) (AV.fsl false C)) = (obF o (AV.fsl false (toBytes m)) (AV.fsl false N) (AV.fsl false L) (AV.fsl false C)) ∧ closedAll (obF o (AV.fsl false (toBytes m)) (AV.fsl false N) (AV.fsl false L) (AV.fsl false C)) = true) ∧ True) ∧ (((I 0 = I 0 ∧ true = true) ∧ True) ∧ ((some 0 = some 0 ∧ 0 = 0) ∧ (some 1 = some 1 ∧ 0 = 0) ∧ True) ∧ ((obF o (AV.fsl false (toBytes m)) (AV.fsl false N) (AV.fsl false L) (AV.fsl false C)) = (obF o (AV.fsl false (toBytes m)) (AV.fsl false N) (AV.fsl false L) (AV.fsl false C)) ∧ closedAll (obF o (AV.fsl false (toBytes m)) (AV.fsl false N) (AV.fsl false L) (AV.fsl false C)) = true) ∧ ((obF o (AV.fsl false (toBytes m)) (AV.fsl false N) (AV.fsl false L) (AV.fsl false C)) = (obF o (AV.fsl false (toBytes m)) (AV.fsl false N) (AV.fsl false L) (AV.fsl false C)) ∧ closedAll (obF o (AV.fsl false (toBytes m)) (AV.fsl false N) (AV.fsl false L) (AV.fsl false C)) = true) ∧ True) ∧ Q (AV.bool true))))))))))))))))) := by kernel_rfl
theorem os_loop_n {o : Ob} (hb : o.names.length ≤ 1000) {Q : AExit → St → Prop} (hq : Q (.exit 0) (osV 5 (.ofNat o.names.length) (obC o)).st) : ∀ i, i ≤ o.names.length → ALp Tryz.prog opts0.glob 0 (lpCode Tryz.prog 20 5) (osV 5 (.ofNat i) (obC o)).st Q := by
 have hc : closedAll (obF o (matA o) (.fsl false (o.names.map .str)) (lnkA o) (cusA o)) = true := closed_obC o
 refine cnt_up _ ?_ (fun i hi hn => ?_)
 ·refine ALp.round (A := osA 6 [.str []]) (V1 := osV 5 0 (obF o (matA o) (.fsl false (o.names.map .str)) (lnkA o) (cusA o))) (V2 := osV 5 0 (obF o (matA o) (.fsl false (o.names.map .str)) (lnkA o) (cusA o))) (F := osV 5 (.ofNat o.names.length) (obF o (matA o) (.fsl false (o.names.map .str)) (lnkA o) (cusA o))) (lk := [(0, 0), (1, 1)]) (lk' := [(0, 0), (1, 1)]) base0 aidJ_ok (LsOk.no rfl) .refl ?_
  show wpK Tryz.prog opts0 40 _ _ (osV 5 (.ofNat o.names.length) (obF o (matA o) (.fsl false (o.names.map .str)) (lnkA o) (cusA o))).st _
  rw [os_n (x := [])]
  refine mtB_of (fun e => ?_) (fun _ => ⟨⟨⟨⟨rfl, rfl⟩, trivial⟩, ⟨⟨rfl, rfl⟩, ⟨rfl, rfl⟩, trivial⟩, ⟨rfl, hc⟩, ⟨rfl, hc⟩, trivial⟩, hq⟩)
  have e := ltInt_iff.1 e
  simp [lenN_eq] at e
 ·have g1 := List.getElem?_eq_getElem hi
  revert g1
  generalize o.names[i] = x
  intro g1
  have hx : indexAddrA Tryz.prog 27 (.fsl false (o.names.map .str)) (.int .i64 (.ofNat i)) = some (.fptr [.str x] 0) := fsl_index (v := .str x) (e := 9) (sz := 1) (by kernel_rfl) (by kernel_rfl) (by rw [List.getElem?_map, g1]; rfl) rfl
  have hw : wrapA .i64 (Int.ofNat i + 1) = Int.ofNat (i + 1) := wrapA_i64 (by simp; omega) (by simp; omega)
  refine ALp.round (A := osA 6 [.str x]) (V1 := osV 5 (.ofNat (i + 1)) (obF o (matA o) (.fsl false (o.names.map .str)) (lnkA o) (cusA o))) (V2 := osV 5 (.ofNat (i + 1)) (obF o (matA o) (.fsl false (o.names.map .str)) (lnkA o) (cusA o))) (F := osV 5 (.ofNat i) (obF o (matA o) (.fsl false (o.names.map .str)) (lnkA o) (cusA o))) (lk := [(0, 0), (1, 1)]) (lk' := [(0, 0), (1, 1)]) base0 aidJ_ok (LsOk.no rfl) .refl ?_
  show wpK Tryz.prog opts0 40 _ _ (osV 5 (.ofNat i) (obF o (matA o) (.fsl false (o.names.map .str)) (lnkA o) (cusA o))).st _
  rw [os_n, hw]
  refine mtB_of (fun _ => ⟨hx, hx, mtB_of (fun e => ?_) (fun _ => ⟨⟨⟨⟨rfl, rfl⟩, trivial⟩, ⟨⟨rfl, rfl⟩, ⟨rfl, rfl⟩, trivial⟩, ⟨rfl, hc⟩, ⟨rfl, hc⟩, trivial⟩, hn⟩)⟩) (fun e => ?_)
  ·have h0 : beqBytes x x = true := beqBytes_iff.2 rfl
   rw [h0] at e
   cases e
  ·have e := ltInt_false.1 e
   simp only [lenN_eq, List.length_map, Int.ofNat_eq_natCast] at e
   omega
theorem os_loop_l {o : Ob} (hb : o.links.length ≤ 1000) {Q : AExit → St → Prop} (hq : Q (.exit 2) (osV 6 (.ofNat o.links.length) (obC o)).st) : ∀ i, i ≤ o.links.length → ALp Tryz.prog opts0.glob 0 (lpCode Tryz.prog 20 10) (osV 6 (.ofNat i) (obC o)).st Q := by
 have hc : closedAll (obF o (matA o) (namA o) (.fsl false (o.links.map lkA)) (cusA o)) = true := closed_obC o
 refine cnt_up _ ?_ (fun i hi hn => ?_)
 ·refine ALp.round (A := osA 11 [I (⟨0, []⟩ : Lk).ty, .str (⟨0, []⟩ : Lk).id]) (V1 := osV 6 0 (obF o (matA o) (namA o) (.fsl false (o.links.map lkA)) (cusA o))) (V2 := osV 6 0 (obF o (matA o) (namA o) (.fsl false (o.links.map lkA)) (cusA o))) (F := osV 6 (.ofNat o.links.length) (obF o (matA o) (namA o) (.fsl false (o.links.map lkA)) (cusA o))) (lk := [(0, 0), (1, 1)]) (lk' := [(0, 0), (1, 1)]) base0 aidJ_ok (LsOk.no rfl) .refl ?_
  show wpK Tryz.prog opts0 40 _ _ (osV 6 (.ofNat o.links.length) (obF o (matA o) (namA o) (.fsl false (o.links.map lkA)) (cusA o))).st _
  rw [os_l (x := ⟨0, []⟩)]
  refine mtB_of (fun e => ?_) (fun _ => ⟨⟨⟨⟨rfl, rfl⟩, trivial⟩, ⟨⟨rfl, rfl⟩, ⟨rfl, rfl⟩, trivial⟩, ⟨rfl, hc⟩, ⟨rfl, hc⟩, trivial⟩, hq⟩)
  have e := ltInt_iff.1 e
  simp [lenN_eq] at e
 ·have g1 := List.getElem?_eq_getElem hi
  revert g1
  generalize o.links[i] = x
  intro g1
  have hx : indexAddrA Tryz.prog 28 (.fsl false (o.links.map lkA)) (.int .i64 (.ofNat i)) = some (.fptr [I x.ty, .str x.id] 0) := fsl_index (v := lkA x) (e := 99) (sz := 2) (by kernel_rfl) (by kernel_rfl) (by rw [List.getElem?_map, g1]; rfl) rfl
  have hw : wrapA .i64 (Int.ofNat i + 1) = Int.ofNat (i + 1) := wrapA_i64 (by simp; omega) (by simp; omega)
  refine ALp.round (A := osA 11 [I x.ty, .str x.id]) (V1 := osV 6 (.ofNat (i + 1)) (obF o (matA o) (namA o) (.fsl false (o.links.map lkA)) (cusA o))) (V2 := osV 6 (.ofNat (i + 1)) (obF o (matA o) (namA o) (.fsl false (o.links.map lkA)) (cusA o))) (F := osV 6 (.ofNat i) (obF o (matA o) (namA o) (.fsl false (o.links.map lkA)) (cusA o))) (lk := [(0, 0), (1, 1)]) (lk' := [(0, 0), (1, 1)]) base0 aidJ_ok (LsOk.no rfl) .refl ?_
  show wpK Tryz.prog opts0 40 _ _ (osV 6 (.ofNat i) (obF o (matA o) (namA o) (.fsl false (o.links.map lkA)) (cusA o))).st _
  rw [os_l, hw]
  refine mtB_of (fun _ => ⟨hx, hx, mtB_of (fun e => ?_) (fun _ => ⟨⟨⟨⟨rfl, rfl⟩, trivial⟩, ⟨⟨rfl, rfl⟩, ⟨rfl, rfl⟩, trivial⟩, ⟨rfl, hc⟩, ⟨rfl, hc⟩, trivial⟩, hn⟩)⟩) (fun e => ?_)
  ·have h0 : (beqInt x.ty x.ty && (beqBytes x.id x.id && true)) = true := by simp [beqInt_iff, beqBytes_iff]
   rw [h0] at e
   cases e
  ·have e := ltInt_false.1 e
   simp only [lenN_eq, List.length_map, Int.ofNat_eq_natCast] at e
   omega
theorem os_loop_c {o : Ob} (hb : o.cust.length ≤ 1000) {Q : AExit → St → Prop} (hq : Q (.exit 4) (osV 7 (.ofNat o.cust.length) (obC o)).st) : ∀ i, i ≤ o.cust.length → ALp Tryz.prog opts0.glob 0 (lpCode Tryz.prog 20 15) (osV 7 (.ofNat i) (obC o)).st Q := by
 have hc : closedAll (obF o (matA o) (namA o) (lnkA o) (.fsl false (o.cust.map cuA))) = true := closed_obC o
 refine cnt_up _ ?_ (fun i hi hn => ?_)
 ·refine ALp.round (A := osA 16 [.str (⟨[], []⟩ : Cu).name, .str (⟨[], []⟩ : Cu).text]) (V1 := osV 7 0 (obF o (matA o) (namA o) (lnkA o) (.fsl false (o.cust.map cuA)))) (V2 := osV 7 0 (obF o (matA o) (namA o) (lnkA o) (.fsl false (o.cust.map cuA)))) (F := osV 7 (.ofNat o.cust.length) (obF o (matA o) (namA o) (lnkA o) (.fsl false (o.cust.map cuA)))) (lk := [(0, 0), (1, 1)]) (lk' := [(0, 0), (1, 1)]) base0 aidJ_ok (LsOk.no rfl) .refl ?_
  show wpK Tryz.prog opts0 40 _ _ (osV 7 (.ofNat o.cust.length) (obF o (matA o) (namA o) (lnkA o) (.fsl false (o.cust.map cuA)))).st _
  rw [os_c (x := ⟨[], []⟩)]
  refine mtB_of (fun e => ?_) (fun _ => ⟨⟨⟨⟨rfl, rfl⟩, trivial⟩, ⟨⟨rfl, rfl⟩, ⟨rfl, rfl⟩, trivial⟩, ⟨rfl, hc⟩, ⟨rfl, hc⟩, trivial⟩, hq⟩)
  have e := ltInt_iff.1 e
  simp [lenN_eq] at e
 ·have g1 := List.getElem?_eq_getElem hi
  revert g1
  generalize o.cust[i] = x
  intro g1
  have hx : indexAddrA Tryz.prog 29 (.fsl false (o.cust.map cuA)) (.int .i64 (.ofNat i)) = some (.fptr [.str x.name, .str x.text] 0) := fsl_index (v := cuA x) (e := 101) (sz := 2) (by kernel_rfl) (by kernel_rfl) (by rw [List.getElem?_map, g1]; rfl) rfl
  have hw : wrapA .i64 (Int.ofNat i + 1) = Int.ofNat (i + 1) := wrapA_i64 (by simp; omega) (by simp; omega)
  refine ALp.round (A := osA 16 [.str x.name, .str x.text]) (V1 := osV 7 (.ofNat (i + 1)) (obF o (matA o) (namA o) (lnkA o) (.fsl false (o.cust.map cuA)))) (V2 := osV 7 (.ofNat (i + 1)) (obF o (matA o) (namA o) (lnkA o) (.fsl false (o.cust.map cuA)))) (F := osV 7 (.ofNat i) (obF o (matA o) (namA o) (lnkA o) (.fsl false (o.cust.map cuA)))) (lk := [(0, 0), (1, 1)]) (lk' := [(0, 0), (1, 1)]) base0 aidJ_ok (LsOk.no rfl) .refl ?_
  show wpK Tryz.prog opts0 40 _ _ (osV 7 (.ofNat i) (obF o (matA o) (namA o) (lnkA o) (.fsl false (o.cust.map cuA)))).st _
  rw [os_c, hw]
  refine mtB_of (fun _ => ⟨hx, hx, mtB_of (fun e => ?_) (fun _ => ⟨⟨⟨⟨rfl, rfl⟩, trivial⟩, ⟨⟨rfl, rfl⟩, ⟨rfl, rfl⟩, trivial⟩, ⟨rfl, hc⟩, ⟨rfl, hc⟩, trivial⟩, hn⟩)⟩) (fun e => ?_)
  ·have h0 : (beqBytes x.name x.name && (beqBytes x.text x.text && true)) = true := by simp [beqBytes_iff]
   rw [h0] at e
   cases e
  ·have e := ltInt_false.1 e
   simp only [lenN_eq, List.length_map, Int.ofNat_eq_natCast] at e
   omega
theorem os_at1 : loopsAt (fnCode Tryz.prog 20) 5 = [lpCode Tryz.prog 20 5] := by kernel_rfl
theorem os_at2 : loopsAt (fnCode Tryz.prog 20) 10 = [lpCode Tryz.prog 20 10] := by kernel_rfl
theorem os_at3 : loopsAt (fnCode Tryz.prog 20) 15 = [lpCode Tryz.prog 20 15] := by kernel_rfl
theorem no_b {b : Bool} (h : b = true) {p : Prop} (e : (!b) = true) : p := by rw [h] at e; cases e
theorem osame_sem {o : Ob} (ho : FitO o) : SC 20 [obA o, obA o] (.bool true) := by
 have hc : closedAll (obF o (.fsl false (toBytes o.mat)) (.fsl false (o.names.map .str)) (.fsl false (o.links.map lkA)) (.fsl false (o.cust.map cuA))) = true := closed_obC o
 have hcl := closed_oc o (c := [obA o]) (closed_o o)
 have hv : convA Tryz.prog 23 9 (.fsl false (toBytes o.mat)) = some (Eff.val (.str o.mat)) := fsl_conv (e := 5) (by kernel_rfl) (by kernel_rfl) (by kernel_rfl)
 have h1 := ho.n
 have h2 := ho.l
 have h3 := ho.c
 refine fnK_semV (A := aidJ [(1, 36, .res (.str o.mat)), (1, 39, .res (.str o.mat))] [(5, osL 5 0 (.ofNat o.names.length) (obF o (.fsl false (toBytes o.mat)) (.fsl false (o.names.map .str)) (.fsl false (o.links.map lkA)) (.fsl false (o.cust.map cuA)))), (10, osL 6 2 (.ofNat o.links.length) (obF o (.fsl false (toBytes o.mat)) (.fsl false (o.names.map .str)) (.fsl false (o.links.map lkA)) (.fsl false (o.cust.map cuA)))), (15, osL 7 4 (.ofNat o.cust.length) (obF o (.fsl false (toBytes o.mat)) (.fsl false (o.names.map .str)) (.fsl false (o.links.map lkA)) (.fsl false (o.cust.map cuA))))] noSem [] []) base0 aidJ_ok
  (fnLs_of (LsOk.at3 rfl os_at1 os_at2 os_at3 (fun st Q hs => .seen base0.glob hs.1 (os_loop_n (by omega) hs.2 0 (Nat.zero_le _))) (fun st Q hs => .seen base0.glob hs.1 (os_loop_l (by omega) hs.2 0 (Nat.zero_le _))) (fun st Q hs => .seen base0.glob hs.1 (os_loop_c (by omega) hs.2 0 (Nat.zero_le _))))) hcl rfl ?_
 simp only [obA, obC, matA, namA, lnkA, cusA]
 rw [os_fn]
 repeat (refine mtB_of (fun e => no_b (by simp [beqInt_iff, beqBytes_iff]) e) (fun _ => ?_))
 refine ⟨hv, hv, ?_⟩
 repeat (refine mtB_of (fun e => no_b (by simp [beqInt_iff, beqBytes_iff]) e) (fun _ => ?_))
 exact ⟨⟨⟨⟨rfl, rfl⟩, trivial⟩, ⟨⟨rfl, rfl⟩, ⟨rfl, rfl⟩, trivial⟩, ⟨rfl, hc⟩, ⟨rfl, hc⟩, trivial⟩, ⟨⟨⟨rfl, rfl⟩, trivial⟩, ⟨⟨rfl, rfl⟩, ⟨rfl, rfl⟩, trivial⟩, ⟨rfl, hc⟩, ⟨rfl, hc⟩, trivial⟩, ⟨⟨⟨rfl, rfl⟩, trivial⟩, ⟨⟨rfl, rfl⟩, ⟨rfl, rfl⟩, trivial⟩, ⟨rfl, hc⟩, ⟨rfl, hc⟩, trivial⟩, rfl⟩
end Go.Proofs.YtjhggnebkfpgcaaGreatDoor
