/- Obj3, ListW, Of, Of2, OSame. -/
import Derived.Test.YtjhggnebkfpgcaaGreatDoorQ3
import Derived.Test.YtjhggnebkfpgcaaGreatDoorQ4
import Derived.Test.YtjhggnebkfpgcaaGreatDoorG5
import Derived.KernelRfl
import Derived.Test.YtjhggnebkfpgcaaGreatDoorQ1
namespace Go.Proofs.YtjhggnebkfpgcaaGreatDoor
open Go Go.RowKit
open Go.Proofs.Abs
theorem lss_eq (x y:Operand) (a b:Int):binA Tryz.prog .lss 3 x y (I a) (I b)=some (.bool (ltInt a b)):=by kernel_rfl
theorem lss_t {x y:Operand} {a b:Int} (h:a<b):binA Tryz.prog .lss 3 x y (I a) (I b)=some (.bool true):=by rw[lss_eq,ltInt_iff.2 h]
theorem lss_f {x y:Operand} {a b:Int} (h:b≤a):binA Tryz.prog .lss 3 x y (I a) (I b)=some (.bool false):=by rw[lss_eq,ltInt_false.2 h]
theorem pk {n m v:Int} (h:n%m=v) (h0:0<m) (h1:m≤4611686018427387904):SC 23 [I n,I m] (I v):=h▸pick_sem n h0 h1
structure Go1 (i:Nat) (Rs:List AV) (y:Rw):Prop where
 c:closedAll Rs=true
 a:binA Tryz.prog .lss 3 (.tmp 55) (.tmp 57) (I (.ofNat i)) (I (.ofNat (lenN Rs)))=some (.bool true)
 b:binA Tryz.prog .lss 3 (.tmp 60) (.const (.int .i64 10)) (I (.ofNat i)) (I 10)=some (.bool true)
 x:indexAddrA Tryz.prog 22 (.fsl false Rs) (I (.ofNat i))=some (.fptr (rwC y) 0)
 w:wrapA .i64 (Int.ofNat i+1)=Int.ofNat (i+1)
theorem closed_rws:∀l:List Rw,closedAll (l.map rwA)=true
 |[]=>rfl
 |_::r=>closed_rws r
theorem go_of {l:List Rw} {i:Nat} {y:Rw} (h:l[i]? =some y) (hi:i<10):Go1 i (l.map rwA) y:=by
 refine ⟨closed_rws l,lss_t ?_,lss_t ?_, ?_,wrapA_i64 (by simp;omega) (by simp;omega)⟩
 ·obtain ⟨h1,_⟩:=List.getElem?_eq_some_iff.1 h
  simp only[lenN_eq,List.length_map,Int.ofNat_eq_natCast]
  omega
 ·simp only[Int.ofNat_eq_natCast];omega
 ·exact fsl_index (v:=rwA y) (e:=42) (sz:=4) (by kernel_rfl) (by kernel_rfl) (by rw[List.getElem?_map,h];rfl) rfl
abbrev Step (S S':St):Prop:=∀Q,ALp Tryz.prog opts0.glob 0 (lpCode Tryz.prog 22 5) S' Q→ALp Tryz.prog opts0.glob 0 (lpCode Tryz.prog 22 5) S Q
def Rv (k:Nat) (A:AV):Prop:=∀lk,lookN lk k=some k→RenV lk A A
theorem idx_pick {α:Type} {T:Nat} {l:List α} {d:α} {f:α→AV} {n:Int} (hl:l≠[]) (h:∀ (k:Nat) x,l[k]? =some x→indexA Tryz.prog T (.agg (l.map f)) (I (k:Int))=some (f x)):indexA Tryz.prog T (.agg (l.map f)) (I (n%(l.length:Int)))=some (f (ofL l d n)):=by
 have hp:0<l.length:=List.length_pos_iff.2 hl
 obtain ⟨k,h1,h2⟩:=mod_nat (n:=n) (m:=(l.length:Int)) (by omega)
 have hk:k<l.length:=by omega
 have e:=List.getElem?_eq_getElem hk
 unfold ofL
 rw[h1,Int.toNat_natCast,e]
 exact h k _ e
theorem st_dat00 {y:Rw} {i:Nat} {Rs:List AV} {M N L C:AV} {BN BL BC:Option Blk} (o:Ob) (g:Go1 i Rs y) (hM:closedA M=true) (rN:Rv 1 N) (rL:Rv 2 L) (rC:Rv 3 C) (bn:ClosedOB BN) (bl:ClosedOB BL) (bc:ClosedOB BC) (hk:y.k%9=0) (ha:y.a%10=0):Step (stO (oW (.ofNat i) Rs (obF o M N L C) []) [(1,BN),(2,BL),(3,BC)]) (stO (oW (.ofNat (i+1)) Rs (obF (setDate o ⟨true,y.b%60⟩ 0) M N L C) []) [(1,BN),(2,BL),(3,BC)]):=by
 intro Q hq
 refine ALp.roundO (A:=oA 0 0 y [] [] none []) (V1:=oW (.ofNat (i+1)) Rs (obF (setDate o ⟨true,y.b%60⟩ 0) M N L C) []) (F:=oW (.ofNat i) Rs [] []) (opt:=[(1,BN),(2,BL),(3,BC)]) (opt':=[]) (lk:=[(0,0),(1,1),(2,2),(3,3),(4,4)]) (lk':=[]) base0 aidJ_ok (LsOk.no rfl) .refl ?_
 rw[ob_dat00,g.w]
 exact ⟨g.a,g.b,g.x,pk hk (by decide) (by decide),pk ha (by decide) (by decide),pick_sem _ (by decide) (by decide),⟨⟨⟨⟨⟨rfl,g.c⟩,⟨rfl,rfl⟩,trivial⟩,⟨⟨rfl,rfl⟩,⟨rfl,rfl⟩,trivial⟩,renR_ob (o:=(setDate o ⟨true,y.b%60⟩ 0)) hM (rN _ rfl) (rL _ rfl) (rC _ rfl),⟨rfl,rfl⟩,trivial⟩,⟨rfl,bn⟩,⟨rfl,bl⟩,⟨rfl,bc⟩,trivial⟩,hq⟩⟩
theorem st_dat01 {y:Rw} {i:Nat} {Rs:List AV} {M N L C:AV} {BN BL BC:Option Blk} (o:Ob) (g:Go1 i Rs y) (hM:closedA M=true) (rN:Rv 1 N) (rL:Rv 2 L) (rC:Rv 3 C) (bn:ClosedOB BN) (bl:ClosedOB BL) (bc:ClosedOB BC) (hk:y.k%9=0) (ha:y.a%10=1):Step (stO (oW (.ofNat i) Rs (obF o M N L C) []) [(1,BN),(2,BL),(3,BC)]) (stO (oW (.ofNat (i+1)) Rs (obF (setDate o ⟨true,y.b%60⟩ 1) M N L C) []) [(1,BN),(2,BL),(3,BC)]):=by
 intro Q hq
 refine ALp.roundO (A:=oA 0 1 y [] [] none []) (V1:=oW (.ofNat (i+1)) Rs (obF (setDate o ⟨true,y.b%60⟩ 1) M N L C) []) (F:=oW (.ofNat i) Rs [] []) (opt:=[(1,BN),(2,BL),(3,BC)]) (opt':=[]) (lk:=[(0,0),(1,1),(2,2),(3,3),(4,4)]) (lk':=[]) base0 aidJ_ok (LsOk.no rfl) .refl ?_
 rw[ob_dat01,g.w]
 exact ⟨g.a,g.b,g.x,pk hk (by decide) (by decide),pk ha (by decide) (by decide),pick_sem _ (by decide) (by decide),⟨⟨⟨⟨⟨rfl,g.c⟩,⟨rfl,rfl⟩,trivial⟩,⟨⟨rfl,rfl⟩,⟨rfl,rfl⟩,trivial⟩,renR_ob (o:=(setDate o ⟨true,y.b%60⟩ 1)) hM (rN _ rfl) (rL _ rfl) (rC _ rfl),⟨rfl,rfl⟩,trivial⟩,⟨rfl,bn⟩,⟨rfl,bl⟩,⟨rfl,bc⟩,trivial⟩,hq⟩⟩
theorem st_dat02 {y:Rw} {i:Nat} {Rs:List AV} {M N L C:AV} {BN BL BC:Option Blk} (o:Ob) (g:Go1 i Rs y) (hM:closedA M=true) (rN:Rv 1 N) (rL:Rv 2 L) (rC:Rv 3 C) (bn:ClosedOB BN) (bl:ClosedOB BL) (bc:ClosedOB BC) (hk:y.k%9=0) (ha:y.a%10=2):Step (stO (oW (.ofNat i) Rs (obF o M N L C) []) [(1,BN),(2,BL),(3,BC)]) (stO (oW (.ofNat (i+1)) Rs (obF (setDate o ⟨true,y.b%60⟩ 2) M N L C) []) [(1,BN),(2,BL),(3,BC)]):=by
 intro Q hq
 refine ALp.roundO (A:=oA 0 2 y [] [] none []) (V1:=oW (.ofNat (i+1)) Rs (obF (setDate o ⟨true,y.b%60⟩ 2) M N L C) []) (F:=oW (.ofNat i) Rs [] []) (opt:=[(1,BN),(2,BL),(3,BC)]) (opt':=[]) (lk:=[(0,0),(1,1),(2,2),(3,3),(4,4)]) (lk':=[]) base0 aidJ_ok (LsOk.no rfl) .refl ?_
 rw[ob_dat02,g.w]
 exact ⟨g.a,g.b,g.x,pk hk (by decide) (by decide),pk ha (by decide) (by decide),pick_sem _ (by decide) (by decide),⟨⟨⟨⟨⟨rfl,g.c⟩,⟨rfl,rfl⟩,trivial⟩,⟨⟨rfl,rfl⟩,⟨rfl,rfl⟩,trivial⟩,renR_ob (o:=(setDate o ⟨true,y.b%60⟩ 2)) hM (rN _ rfl) (rL _ rfl) (rC _ rfl),⟨rfl,rfl⟩,trivial⟩,⟨rfl,bn⟩,⟨rfl,bl⟩,⟨rfl,bc⟩,trivial⟩,hq⟩⟩
theorem st_dat03 {y:Rw} {i:Nat} {Rs:List AV} {M N L C:AV} {BN BL BC:Option Blk} (o:Ob) (g:Go1 i Rs y) (hM:closedA M=true) (rN:Rv 1 N) (rL:Rv 2 L) (rC:Rv 3 C) (bn:ClosedOB BN) (bl:ClosedOB BL) (bc:ClosedOB BC) (hk:y.k%9=0) (ha:y.a%10=3):Step (stO (oW (.ofNat i) Rs (obF o M N L C) []) [(1,BN),(2,BL),(3,BC)]) (stO (oW (.ofNat (i+1)) Rs (obF (setDate o ⟨true,y.b%60⟩ 3) M N L C) []) [(1,BN),(2,BL),(3,BC)]):=by
 intro Q hq
 refine ALp.roundO (A:=oA 0 3 y [] [] none []) (V1:=oW (.ofNat (i+1)) Rs (obF (setDate o ⟨true,y.b%60⟩ 3) M N L C) []) (F:=oW (.ofNat i) Rs [] []) (opt:=[(1,BN),(2,BL),(3,BC)]) (opt':=[]) (lk:=[(0,0),(1,1),(2,2),(3,3),(4,4)]) (lk':=[]) base0 aidJ_ok (LsOk.no rfl) .refl ?_
 rw[ob_dat03,g.w]
 exact ⟨g.a,g.b,g.x,pk hk (by decide) (by decide),pk ha (by decide) (by decide),pick_sem _ (by decide) (by decide),⟨⟨⟨⟨⟨rfl,g.c⟩,⟨rfl,rfl⟩,trivial⟩,⟨⟨rfl,rfl⟩,⟨rfl,rfl⟩,trivial⟩,renR_ob (o:=(setDate o ⟨true,y.b%60⟩ 3)) hM (rN _ rfl) (rL _ rfl) (rC _ rfl),⟨rfl,rfl⟩,trivial⟩,⟨rfl,bn⟩,⟨rfl,bl⟩,⟨rfl,bc⟩,trivial⟩,hq⟩⟩
theorem st_dat04 {y:Rw} {i:Nat} {Rs:List AV} {M N L C:AV} {BN BL BC:Option Blk} (o:Ob) (g:Go1 i Rs y) (hM:closedA M=true) (rN:Rv 1 N) (rL:Rv 2 L) (rC:Rv 3 C) (bn:ClosedOB BN) (bl:ClosedOB BL) (bc:ClosedOB BC) (hk:y.k%9=0) (ha:y.a%10=4):Step (stO (oW (.ofNat i) Rs (obF o M N L C) []) [(1,BN),(2,BL),(3,BC)]) (stO (oW (.ofNat (i+1)) Rs (obF (setDate o ⟨true,y.b%60⟩ 4) M N L C) []) [(1,BN),(2,BL),(3,BC)]):=by
 intro Q hq
 refine ALp.roundO (A:=oA 0 4 y [] [] none []) (V1:=oW (.ofNat (i+1)) Rs (obF (setDate o ⟨true,y.b%60⟩ 4) M N L C) []) (F:=oW (.ofNat i) Rs [] []) (opt:=[(1,BN),(2,BL),(3,BC)]) (opt':=[]) (lk:=[(0,0),(1,1),(2,2),(3,3),(4,4)]) (lk':=[]) base0 aidJ_ok (LsOk.no rfl) .refl ?_
 rw[ob_dat04,g.w]
 exact ⟨g.a,g.b,g.x,pk hk (by decide) (by decide),pk ha (by decide) (by decide),pick_sem _ (by decide) (by decide),⟨⟨⟨⟨⟨rfl,g.c⟩,⟨rfl,rfl⟩,trivial⟩,⟨⟨rfl,rfl⟩,⟨rfl,rfl⟩,trivial⟩,renR_ob (o:=(setDate o ⟨true,y.b%60⟩ 4)) hM (rN _ rfl) (rL _ rfl) (rC _ rfl),⟨rfl,rfl⟩,trivial⟩,⟨rfl,bn⟩,⟨rfl,bl⟩,⟨rfl,bc⟩,trivial⟩,hq⟩⟩
theorem st_dat05 {y:Rw} {i:Nat} {Rs:List AV} {M N L C:AV} {BN BL BC:Option Blk} (o:Ob) (g:Go1 i Rs y) (hM:closedA M=true) (rN:Rv 1 N) (rL:Rv 2 L) (rC:Rv 3 C) (bn:ClosedOB BN) (bl:ClosedOB BL) (bc:ClosedOB BC) (hk:y.k%9=0) (ha:y.a%10=5):Step (stO (oW (.ofNat i) Rs (obF o M N L C) []) [(1,BN),(2,BL),(3,BC)]) (stO (oW (.ofNat (i+1)) Rs (obF (setDate o ⟨true,y.b%60⟩ 5) M N L C) []) [(1,BN),(2,BL),(3,BC)]):=by
 intro Q hq
 refine ALp.roundO (A:=oA 0 5 y [] [] none []) (V1:=oW (.ofNat (i+1)) Rs (obF (setDate o ⟨true,y.b%60⟩ 5) M N L C) []) (F:=oW (.ofNat i) Rs [] []) (opt:=[(1,BN),(2,BL),(3,BC)]) (opt':=[]) (lk:=[(0,0),(1,1),(2,2),(3,3),(4,4)]) (lk':=[]) base0 aidJ_ok (LsOk.no rfl) .refl ?_
 rw[ob_dat05,g.w]
 exact ⟨g.a,g.b,g.x,pk hk (by decide) (by decide),pk ha (by decide) (by decide),pick_sem _ (by decide) (by decide),⟨⟨⟨⟨⟨rfl,g.c⟩,⟨rfl,rfl⟩,trivial⟩,⟨⟨rfl,rfl⟩,⟨rfl,rfl⟩,trivial⟩,renR_ob (o:=(setDate o ⟨true,y.b%60⟩ 5)) hM (rN _ rfl) (rL _ rfl) (rC _ rfl),⟨rfl,rfl⟩,trivial⟩,⟨rfl,bn⟩,⟨rfl,bl⟩,⟨rfl,bc⟩,trivial⟩,hq⟩⟩
theorem st_dat06 {y:Rw} {i:Nat} {Rs:List AV} {M N L C:AV} {BN BL BC:Option Blk} (o:Ob) (g:Go1 i Rs y) (hM:closedA M=true) (rN:Rv 1 N) (rL:Rv 2 L) (rC:Rv 3 C) (bn:ClosedOB BN) (bl:ClosedOB BL) (bc:ClosedOB BC) (hk:y.k%9=0) (ha:y.a%10=6):Step (stO (oW (.ofNat i) Rs (obF o M N L C) []) [(1,BN),(2,BL),(3,BC)]) (stO (oW (.ofNat (i+1)) Rs (obF (setDate o ⟨true,y.b%60⟩ 6) M N L C) []) [(1,BN),(2,BL),(3,BC)]):=by
 intro Q hq
 refine ALp.roundO (A:=oA 0 6 y [] [] none []) (V1:=oW (.ofNat (i+1)) Rs (obF (setDate o ⟨true,y.b%60⟩ 6) M N L C) []) (F:=oW (.ofNat i) Rs [] []) (opt:=[(1,BN),(2,BL),(3,BC)]) (opt':=[]) (lk:=[(0,0),(1,1),(2,2),(3,3),(4,4)]) (lk':=[]) base0 aidJ_ok (LsOk.no rfl) .refl ?_
 rw[ob_dat06,g.w]
 exact ⟨g.a,g.b,g.x,pk hk (by decide) (by decide),pk ha (by decide) (by decide),pick_sem _ (by decide) (by decide),⟨⟨⟨⟨⟨rfl,g.c⟩,⟨rfl,rfl⟩,trivial⟩,⟨⟨rfl,rfl⟩,⟨rfl,rfl⟩,trivial⟩,renR_ob (o:=(setDate o ⟨true,y.b%60⟩ 6)) hM (rN _ rfl) (rL _ rfl) (rC _ rfl),⟨rfl,rfl⟩,trivial⟩,⟨rfl,bn⟩,⟨rfl,bl⟩,⟨rfl,bc⟩,trivial⟩,hq⟩⟩
theorem st_dat07 {y:Rw} {i:Nat} {Rs:List AV} {M N L C:AV} {BN BL BC:Option Blk} (o:Ob) (g:Go1 i Rs y) (hM:closedA M=true) (rN:Rv 1 N) (rL:Rv 2 L) (rC:Rv 3 C) (bn:ClosedOB BN) (bl:ClosedOB BL) (bc:ClosedOB BC) (hk:y.k%9=0) (ha:y.a%10=7):Step (stO (oW (.ofNat i) Rs (obF o M N L C) []) [(1,BN),(2,BL),(3,BC)]) (stO (oW (.ofNat (i+1)) Rs (obF (setDate o ⟨true,y.b%60⟩ 7) M N L C) []) [(1,BN),(2,BL),(3,BC)]):=by
 intro Q hq
 refine ALp.roundO (A:=oA 0 7 y [] [] none []) (V1:=oW (.ofNat (i+1)) Rs (obF (setDate o ⟨true,y.b%60⟩ 7) M N L C) []) (F:=oW (.ofNat i) Rs [] []) (opt:=[(1,BN),(2,BL),(3,BC)]) (opt':=[]) (lk:=[(0,0),(1,1),(2,2),(3,3),(4,4)]) (lk':=[]) base0 aidJ_ok (LsOk.no rfl) .refl ?_
 rw[ob_dat07,g.w]
 exact ⟨g.a,g.b,g.x,pk hk (by decide) (by decide),pk ha (by decide) (by decide),pick_sem _ (by decide) (by decide),⟨⟨⟨⟨⟨rfl,g.c⟩,⟨rfl,rfl⟩,trivial⟩,⟨⟨rfl,rfl⟩,⟨rfl,rfl⟩,trivial⟩,renR_ob (o:=(setDate o ⟨true,y.b%60⟩ 7)) hM (rN _ rfl) (rL _ rfl) (rC _ rfl),⟨rfl,rfl⟩,trivial⟩,⟨rfl,bn⟩,⟨rfl,bl⟩,⟨rfl,bc⟩,trivial⟩,hq⟩⟩
theorem st_dat08 {y:Rw} {i:Nat} {Rs:List AV} {M N L C:AV} {BN BL BC:Option Blk} (o:Ob) (g:Go1 i Rs y) (hM:closedA M=true) (rN:Rv 1 N) (rL:Rv 2 L) (rC:Rv 3 C) (bn:ClosedOB BN) (bl:ClosedOB BL) (bc:ClosedOB BC) (hk:y.k%9=0) (ha:y.a%10=8):Step (stO (oW (.ofNat i) Rs (obF o M N L C) []) [(1,BN),(2,BL),(3,BC)]) (stO (oW (.ofNat (i+1)) Rs (obF (setDate o ⟨true,y.b%60⟩ 8) M N L C) []) [(1,BN),(2,BL),(3,BC)]):=by
 intro Q hq
 refine ALp.roundO (A:=oA 0 8 y [] [] none []) (V1:=oW (.ofNat (i+1)) Rs (obF (setDate o ⟨true,y.b%60⟩ 8) M N L C) []) (F:=oW (.ofNat i) Rs [] []) (opt:=[(1,BN),(2,BL),(3,BC)]) (opt':=[]) (lk:=[(0,0),(1,1),(2,2),(3,3),(4,4)]) (lk':=[]) base0 aidJ_ok (LsOk.no rfl) .refl ?_
 rw[ob_dat08,g.w]
 exact ⟨g.a,g.b,g.x,pk hk (by decide) (by decide),pk ha (by decide) (by decide),pick_sem _ (by decide) (by decide),⟨⟨⟨⟨⟨rfl,g.c⟩,⟨rfl,rfl⟩,trivial⟩,⟨⟨rfl,rfl⟩,⟨rfl,rfl⟩,trivial⟩,renR_ob (o:=(setDate o ⟨true,y.b%60⟩ 8)) hM (rN _ rfl) (rL _ rfl) (rC _ rfl),⟨rfl,rfl⟩,trivial⟩,⟨rfl,bn⟩,⟨rfl,bl⟩,⟨rfl,bc⟩,trivial⟩,hq⟩⟩
theorem st_dat09 {y:Rw} {i:Nat} {Rs:List AV} {M N L C:AV} {BN BL BC:Option Blk} (o:Ob) (g:Go1 i Rs y) (hM:closedA M=true) (rN:Rv 1 N) (rL:Rv 2 L) (rC:Rv 3 C) (bn:ClosedOB BN) (bl:ClosedOB BL) (bc:ClosedOB BC) (hk:y.k%9=0) (ha:y.a%10=9):Step (stO (oW (.ofNat i) Rs (obF o M N L C) []) [(1,BN),(2,BL),(3,BC)]) (stO (oW (.ofNat (i+1)) Rs (obF (setDate o ⟨true,y.b%60⟩ 9) M N L C) []) [(1,BN),(2,BL),(3,BC)]):=by
 intro Q hq
 refine ALp.roundO (A:=oA 0 9 y [] [] none []) (V1:=oW (.ofNat (i+1)) Rs (obF (setDate o ⟨true,y.b%60⟩ 9) M N L C) []) (F:=oW (.ofNat i) Rs [] []) (opt:=[(1,BN),(2,BL),(3,BC)]) (opt':=[]) (lk:=[(0,0),(1,1),(2,2),(3,3),(4,4)]) (lk':=[]) base0 aidJ_ok (LsOk.no rfl) .refl ?_
 rw[ob_dat09,g.w]
 exact ⟨g.a,g.b,g.x,pk hk (by decide) (by decide),pk ha (by decide) (by decide),pick_sem _ (by decide) (by decide),⟨⟨⟨⟨⟨rfl,g.c⟩,⟨rfl,rfl⟩,trivial⟩,⟨⟨rfl,rfl⟩,⟨rfl,rfl⟩,trivial⟩,renR_ob (o:=(setDate o ⟨true,y.b%60⟩ 9)) hM (rN _ rfl) (rL _ rfl) (rC _ rfl),⟨rfl,rfl⟩,trivial⟩,⟨rfl,bn⟩,⟨rfl,bl⟩,⟨rfl,bc⟩,trivial⟩,hq⟩⟩
theorem st_dat10 {y:Rw} {i:Nat} {Rs:List AV} {M N L C:AV} {BN BL BC:Option Blk} (o:Ob) (g:Go1 i Rs y) (hM:closedA M=true) (rN:Rv 1 N) (rL:Rv 2 L) (rC:Rv 3 C) (bn:ClosedOB BN) (bl:ClosedOB BL) (bc:ClosedOB BC) (hk:y.k%9=1) (ha:y.a%10=0):Step (stO (oW (.ofNat i) Rs (obF o M N L C) []) [(1,BN),(2,BL),(3,BC)]) (stO (oW (.ofNat (i+1)) Rs (obF (setDate o ⟨true,y.b%60⟩ 0) M N L C) []) [(1,BN),(2,BL),(3,BC)]):=by
 intro Q hq
 refine ALp.roundO (A:=oA 1 0 y [] [] none []) (V1:=oW (.ofNat (i+1)) Rs (obF (setDate o ⟨true,y.b%60⟩ 0) M N L C) []) (F:=oW (.ofNat i) Rs [] []) (opt:=[(1,BN),(2,BL),(3,BC)]) (opt':=[]) (lk:=[(0,0),(1,1),(2,2),(3,3),(4,4)]) (lk':=[]) base0 aidJ_ok (LsOk.no rfl) .refl ?_
 rw[ob_dat10,g.w]
 exact ⟨g.a,g.b,g.x,pk hk (by decide) (by decide),pk ha (by decide) (by decide),pick_sem _ (by decide) (by decide),⟨⟨⟨⟨⟨rfl,g.c⟩,⟨rfl,rfl⟩,trivial⟩,⟨⟨rfl,rfl⟩,⟨rfl,rfl⟩,trivial⟩,renR_ob (o:=(setDate o ⟨true,y.b%60⟩ 0)) hM (rN _ rfl) (rL _ rfl) (rC _ rfl),⟨rfl,rfl⟩,trivial⟩,⟨rfl,bn⟩,⟨rfl,bl⟩,⟨rfl,bc⟩,trivial⟩,hq⟩⟩
theorem st_dat11 {y:Rw} {i:Nat} {Rs:List AV} {M N L C:AV} {BN BL BC:Option Blk} (o:Ob) (g:Go1 i Rs y) (hM:closedA M=true) (rN:Rv 1 N) (rL:Rv 2 L) (rC:Rv 3 C) (bn:ClosedOB BN) (bl:ClosedOB BL) (bc:ClosedOB BC) (hk:y.k%9=1) (ha:y.a%10=1):Step (stO (oW (.ofNat i) Rs (obF o M N L C) []) [(1,BN),(2,BL),(3,BC)]) (stO (oW (.ofNat (i+1)) Rs (obF (setDate o ⟨true,y.b%60⟩ 1) M N L C) []) [(1,BN),(2,BL),(3,BC)]):=by
 intro Q hq
 refine ALp.roundO (A:=oA 1 1 y [] [] none []) (V1:=oW (.ofNat (i+1)) Rs (obF (setDate o ⟨true,y.b%60⟩ 1) M N L C) []) (F:=oW (.ofNat i) Rs [] []) (opt:=[(1,BN),(2,BL),(3,BC)]) (opt':=[]) (lk:=[(0,0),(1,1),(2,2),(3,3),(4,4)]) (lk':=[]) base0 aidJ_ok (LsOk.no rfl) .refl ?_
 rw[ob_dat11,g.w]
 exact ⟨g.a,g.b,g.x,pk hk (by decide) (by decide),pk ha (by decide) (by decide),pick_sem _ (by decide) (by decide),⟨⟨⟨⟨⟨rfl,g.c⟩,⟨rfl,rfl⟩,trivial⟩,⟨⟨rfl,rfl⟩,⟨rfl,rfl⟩,trivial⟩,renR_ob (o:=(setDate o ⟨true,y.b%60⟩ 1)) hM (rN _ rfl) (rL _ rfl) (rC _ rfl),⟨rfl,rfl⟩,trivial⟩,⟨rfl,bn⟩,⟨rfl,bl⟩,⟨rfl,bc⟩,trivial⟩,hq⟩⟩
theorem st_dat12 {y:Rw} {i:Nat} {Rs:List AV} {M N L C:AV} {BN BL BC:Option Blk} (o:Ob) (g:Go1 i Rs y) (hM:closedA M=true) (rN:Rv 1 N) (rL:Rv 2 L) (rC:Rv 3 C) (bn:ClosedOB BN) (bl:ClosedOB BL) (bc:ClosedOB BC) (hk:y.k%9=1) (ha:y.a%10=2):Step (stO (oW (.ofNat i) Rs (obF o M N L C) []) [(1,BN),(2,BL),(3,BC)]) (stO (oW (.ofNat (i+1)) Rs (obF (setDate o ⟨true,y.b%60⟩ 2) M N L C) []) [(1,BN),(2,BL),(3,BC)]):=by
 intro Q hq
 refine ALp.roundO (A:=oA 1 2 y [] [] none []) (V1:=oW (.ofNat (i+1)) Rs (obF (setDate o ⟨true,y.b%60⟩ 2) M N L C) []) (F:=oW (.ofNat i) Rs [] []) (opt:=[(1,BN),(2,BL),(3,BC)]) (opt':=[]) (lk:=[(0,0),(1,1),(2,2),(3,3),(4,4)]) (lk':=[]) base0 aidJ_ok (LsOk.no rfl) .refl ?_
 rw[ob_dat12,g.w]
 exact ⟨g.a,g.b,g.x,pk hk (by decide) (by decide),pk ha (by decide) (by decide),pick_sem _ (by decide) (by decide),⟨⟨⟨⟨⟨rfl,g.c⟩,⟨rfl,rfl⟩,trivial⟩,⟨⟨rfl,rfl⟩,⟨rfl,rfl⟩,trivial⟩,renR_ob (o:=(setDate o ⟨true,y.b%60⟩ 2)) hM (rN _ rfl) (rL _ rfl) (rC _ rfl),⟨rfl,rfl⟩,trivial⟩,⟨rfl,bn⟩,⟨rfl,bl⟩,⟨rfl,bc⟩,trivial⟩,hq⟩⟩
theorem st_dat13 {y:Rw} {i:Nat} {Rs:List AV} {M N L C:AV} {BN BL BC:Option Blk} (o:Ob) (g:Go1 i Rs y) (hM:closedA M=true) (rN:Rv 1 N) (rL:Rv 2 L) (rC:Rv 3 C) (bn:ClosedOB BN) (bl:ClosedOB BL) (bc:ClosedOB BC) (hk:y.k%9=1) (ha:y.a%10=3):Step (stO (oW (.ofNat i) Rs (obF o M N L C) []) [(1,BN),(2,BL),(3,BC)]) (stO (oW (.ofNat (i+1)) Rs (obF (setDate o ⟨true,y.b%60⟩ 3) M N L C) []) [(1,BN),(2,BL),(3,BC)]):=by
 intro Q hq
 refine ALp.roundO (A:=oA 1 3 y [] [] none []) (V1:=oW (.ofNat (i+1)) Rs (obF (setDate o ⟨true,y.b%60⟩ 3) M N L C) []) (F:=oW (.ofNat i) Rs [] []) (opt:=[(1,BN),(2,BL),(3,BC)]) (opt':=[]) (lk:=[(0,0),(1,1),(2,2),(3,3),(4,4)]) (lk':=[]) base0 aidJ_ok (LsOk.no rfl) .refl ?_
 rw[ob_dat13,g.w]
 exact ⟨g.a,g.b,g.x,pk hk (by decide) (by decide),pk ha (by decide) (by decide),pick_sem _ (by decide) (by decide),⟨⟨⟨⟨⟨rfl,g.c⟩,⟨rfl,rfl⟩,trivial⟩,⟨⟨rfl,rfl⟩,⟨rfl,rfl⟩,trivial⟩,renR_ob (o:=(setDate o ⟨true,y.b%60⟩ 3)) hM (rN _ rfl) (rL _ rfl) (rC _ rfl),⟨rfl,rfl⟩,trivial⟩,⟨rfl,bn⟩,⟨rfl,bl⟩,⟨rfl,bc⟩,trivial⟩,hq⟩⟩
theorem st_dat14 {y:Rw} {i:Nat} {Rs:List AV} {M N L C:AV} {BN BL BC:Option Blk} (o:Ob) (g:Go1 i Rs y) (hM:closedA M=true) (rN:Rv 1 N) (rL:Rv 2 L) (rC:Rv 3 C) (bn:ClosedOB BN) (bl:ClosedOB BL) (bc:ClosedOB BC) (hk:y.k%9=1) (ha:y.a%10=4):Step (stO (oW (.ofNat i) Rs (obF o M N L C) []) [(1,BN),(2,BL),(3,BC)]) (stO (oW (.ofNat (i+1)) Rs (obF (setDate o ⟨true,y.b%60⟩ 4) M N L C) []) [(1,BN),(2,BL),(3,BC)]):=by
 intro Q hq
 refine ALp.roundO (A:=oA 1 4 y [] [] none []) (V1:=oW (.ofNat (i+1)) Rs (obF (setDate o ⟨true,y.b%60⟩ 4) M N L C) []) (F:=oW (.ofNat i) Rs [] []) (opt:=[(1,BN),(2,BL),(3,BC)]) (opt':=[]) (lk:=[(0,0),(1,1),(2,2),(3,3),(4,4)]) (lk':=[]) base0 aidJ_ok (LsOk.no rfl) .refl ?_
 rw[ob_dat14,g.w]
 exact ⟨g.a,g.b,g.x,pk hk (by decide) (by decide),pk ha (by decide) (by decide),pick_sem _ (by decide) (by decide),⟨⟨⟨⟨⟨rfl,g.c⟩,⟨rfl,rfl⟩,trivial⟩,⟨⟨rfl,rfl⟩,⟨rfl,rfl⟩,trivial⟩,renR_ob (o:=(setDate o ⟨true,y.b%60⟩ 4)) hM (rN _ rfl) (rL _ rfl) (rC _ rfl),⟨rfl,rfl⟩,trivial⟩,⟨rfl,bn⟩,⟨rfl,bl⟩,⟨rfl,bc⟩,trivial⟩,hq⟩⟩
theorem st_dat15 {y:Rw} {i:Nat} {Rs:List AV} {M N L C:AV} {BN BL BC:Option Blk} (o:Ob) (g:Go1 i Rs y) (hM:closedA M=true) (rN:Rv 1 N) (rL:Rv 2 L) (rC:Rv 3 C) (bn:ClosedOB BN) (bl:ClosedOB BL) (bc:ClosedOB BC) (hk:y.k%9=1) (ha:y.a%10=5):Step (stO (oW (.ofNat i) Rs (obF o M N L C) []) [(1,BN),(2,BL),(3,BC)]) (stO (oW (.ofNat (i+1)) Rs (obF (setDate o ⟨true,y.b%60⟩ 5) M N L C) []) [(1,BN),(2,BL),(3,BC)]):=by
 intro Q hq
 refine ALp.roundO (A:=oA 1 5 y [] [] none []) (V1:=oW (.ofNat (i+1)) Rs (obF (setDate o ⟨true,y.b%60⟩ 5) M N L C) []) (F:=oW (.ofNat i) Rs [] []) (opt:=[(1,BN),(2,BL),(3,BC)]) (opt':=[]) (lk:=[(0,0),(1,1),(2,2),(3,3),(4,4)]) (lk':=[]) base0 aidJ_ok (LsOk.no rfl) .refl ?_
 rw[ob_dat15,g.w]
 exact ⟨g.a,g.b,g.x,pk hk (by decide) (by decide),pk ha (by decide) (by decide),pick_sem _ (by decide) (by decide),⟨⟨⟨⟨⟨rfl,g.c⟩,⟨rfl,rfl⟩,trivial⟩,⟨⟨rfl,rfl⟩,⟨rfl,rfl⟩,trivial⟩,renR_ob (o:=(setDate o ⟨true,y.b%60⟩ 5)) hM (rN _ rfl) (rL _ rfl) (rC _ rfl),⟨rfl,rfl⟩,trivial⟩,⟨rfl,bn⟩,⟨rfl,bl⟩,⟨rfl,bc⟩,trivial⟩,hq⟩⟩
theorem st_dat16 {y:Rw} {i:Nat} {Rs:List AV} {M N L C:AV} {BN BL BC:Option Blk} (o:Ob) (g:Go1 i Rs y) (hM:closedA M=true) (rN:Rv 1 N) (rL:Rv 2 L) (rC:Rv 3 C) (bn:ClosedOB BN) (bl:ClosedOB BL) (bc:ClosedOB BC) (hk:y.k%9=1) (ha:y.a%10=6):Step (stO (oW (.ofNat i) Rs (obF o M N L C) []) [(1,BN),(2,BL),(3,BC)]) (stO (oW (.ofNat (i+1)) Rs (obF (setDate o ⟨true,y.b%60⟩ 6) M N L C) []) [(1,BN),(2,BL),(3,BC)]):=by
 intro Q hq
 refine ALp.roundO (A:=oA 1 6 y [] [] none []) (V1:=oW (.ofNat (i+1)) Rs (obF (setDate o ⟨true,y.b%60⟩ 6) M N L C) []) (F:=oW (.ofNat i) Rs [] []) (opt:=[(1,BN),(2,BL),(3,BC)]) (opt':=[]) (lk:=[(0,0),(1,1),(2,2),(3,3),(4,4)]) (lk':=[]) base0 aidJ_ok (LsOk.no rfl) .refl ?_
 rw[ob_dat16,g.w]
 exact ⟨g.a,g.b,g.x,pk hk (by decide) (by decide),pk ha (by decide) (by decide),pick_sem _ (by decide) (by decide),⟨⟨⟨⟨⟨rfl,g.c⟩,⟨rfl,rfl⟩,trivial⟩,⟨⟨rfl,rfl⟩,⟨rfl,rfl⟩,trivial⟩,renR_ob (o:=(setDate o ⟨true,y.b%60⟩ 6)) hM (rN _ rfl) (rL _ rfl) (rC _ rfl),⟨rfl,rfl⟩,trivial⟩,⟨rfl,bn⟩,⟨rfl,bl⟩,⟨rfl,bc⟩,trivial⟩,hq⟩⟩
theorem st_dat17 {y:Rw} {i:Nat} {Rs:List AV} {M N L C:AV} {BN BL BC:Option Blk} (o:Ob) (g:Go1 i Rs y) (hM:closedA M=true) (rN:Rv 1 N) (rL:Rv 2 L) (rC:Rv 3 C) (bn:ClosedOB BN) (bl:ClosedOB BL) (bc:ClosedOB BC) (hk:y.k%9=1) (ha:y.a%10=7):Step (stO (oW (.ofNat i) Rs (obF o M N L C) []) [(1,BN),(2,BL),(3,BC)]) (stO (oW (.ofNat (i+1)) Rs (obF (setDate o ⟨true,y.b%60⟩ 7) M N L C) []) [(1,BN),(2,BL),(3,BC)]):=by
 intro Q hq
 refine ALp.roundO (A:=oA 1 7 y [] [] none []) (V1:=oW (.ofNat (i+1)) Rs (obF (setDate o ⟨true,y.b%60⟩ 7) M N L C) []) (F:=oW (.ofNat i) Rs [] []) (opt:=[(1,BN),(2,BL),(3,BC)]) (opt':=[]) (lk:=[(0,0),(1,1),(2,2),(3,3),(4,4)]) (lk':=[]) base0 aidJ_ok (LsOk.no rfl) .refl ?_
 rw[ob_dat17,g.w]
 exact ⟨g.a,g.b,g.x,pk hk (by decide) (by decide),pk ha (by decide) (by decide),pick_sem _ (by decide) (by decide),⟨⟨⟨⟨⟨rfl,g.c⟩,⟨rfl,rfl⟩,trivial⟩,⟨⟨rfl,rfl⟩,⟨rfl,rfl⟩,trivial⟩,renR_ob (o:=(setDate o ⟨true,y.b%60⟩ 7)) hM (rN _ rfl) (rL _ rfl) (rC _ rfl),⟨rfl,rfl⟩,trivial⟩,⟨rfl,bn⟩,⟨rfl,bl⟩,⟨rfl,bc⟩,trivial⟩,hq⟩⟩
theorem st_dat18 {y:Rw} {i:Nat} {Rs:List AV} {M N L C:AV} {BN BL BC:Option Blk} (o:Ob) (g:Go1 i Rs y) (hM:closedA M=true) (rN:Rv 1 N) (rL:Rv 2 L) (rC:Rv 3 C) (bn:ClosedOB BN) (bl:ClosedOB BL) (bc:ClosedOB BC) (hk:y.k%9=1) (ha:y.a%10=8):Step (stO (oW (.ofNat i) Rs (obF o M N L C) []) [(1,BN),(2,BL),(3,BC)]) (stO (oW (.ofNat (i+1)) Rs (obF (setDate o ⟨true,y.b%60⟩ 8) M N L C) []) [(1,BN),(2,BL),(3,BC)]):=by
 intro Q hq
 refine ALp.roundO (A:=oA 1 8 y [] [] none []) (V1:=oW (.ofNat (i+1)) Rs (obF (setDate o ⟨true,y.b%60⟩ 8) M N L C) []) (F:=oW (.ofNat i) Rs [] []) (opt:=[(1,BN),(2,BL),(3,BC)]) (opt':=[]) (lk:=[(0,0),(1,1),(2,2),(3,3),(4,4)]) (lk':=[]) base0 aidJ_ok (LsOk.no rfl) .refl ?_
 rw[ob_dat18,g.w]
 exact ⟨g.a,g.b,g.x,pk hk (by decide) (by decide),pk ha (by decide) (by decide),pick_sem _ (by decide) (by decide),⟨⟨⟨⟨⟨rfl,g.c⟩,⟨rfl,rfl⟩,trivial⟩,⟨⟨rfl,rfl⟩,⟨rfl,rfl⟩,trivial⟩,renR_ob (o:=(setDate o ⟨true,y.b%60⟩ 8)) hM (rN _ rfl) (rL _ rfl) (rC _ rfl),⟨rfl,rfl⟩,trivial⟩,⟨rfl,bn⟩,⟨rfl,bl⟩,⟨rfl,bc⟩,trivial⟩,hq⟩⟩
theorem st_dat19 {y:Rw} {i:Nat} {Rs:List AV} {M N L C:AV} {BN BL BC:Option Blk} (o:Ob) (g:Go1 i Rs y) (hM:closedA M=true) (rN:Rv 1 N) (rL:Rv 2 L) (rC:Rv 3 C) (bn:ClosedOB BN) (bl:ClosedOB BL) (bc:ClosedOB BC) (hk:y.k%9=1) (ha:y.a%10=9):Step (stO (oW (.ofNat i) Rs (obF o M N L C) []) [(1,BN),(2,BL),(3,BC)]) (stO (oW (.ofNat (i+1)) Rs (obF (setDate o ⟨true,y.b%60⟩ 9) M N L C) []) [(1,BN),(2,BL),(3,BC)]):=by
 intro Q hq
 refine ALp.roundO (A:=oA 1 9 y [] [] none []) (V1:=oW (.ofNat (i+1)) Rs (obF (setDate o ⟨true,y.b%60⟩ 9) M N L C) []) (F:=oW (.ofNat i) Rs [] []) (opt:=[(1,BN),(2,BL),(3,BC)]) (opt':=[]) (lk:=[(0,0),(1,1),(2,2),(3,3),(4,4)]) (lk':=[]) base0 aidJ_ok (LsOk.no rfl) .refl ?_
 rw[ob_dat19,g.w]
 exact ⟨g.a,g.b,g.x,pk hk (by decide) (by decide),pk ha (by decide) (by decide),pick_sem _ (by decide) (by decide),⟨⟨⟨⟨⟨rfl,g.c⟩,⟨rfl,rfl⟩,trivial⟩,⟨⟨rfl,rfl⟩,⟨rfl,rfl⟩,trivial⟩,renR_ob (o:=(setDate o ⟨true,y.b%60⟩ 9)) hM (rN _ rfl) (rL _ rfl) (rC _ rfl),⟨rfl,rfl⟩,trivial⟩,⟨rfl,bn⟩,⟨rfl,bl⟩,⟨rfl,bc⟩,trivial⟩,hq⟩⟩
theorem st_dat20 {y:Rw} {i:Nat} {Rs:List AV} {M N L C:AV} {BN BL BC:Option Blk} (o:Ob) (g:Go1 i Rs y) (hM:closedA M=true) (rN:Rv 1 N) (rL:Rv 2 L) (rC:Rv 3 C) (bn:ClosedOB BN) (bl:ClosedOB BL) (bc:ClosedOB BC) (hk:y.k%9=2) (ha:y.a%10=0):Step (stO (oW (.ofNat i) Rs (obF o M N L C) []) [(1,BN),(2,BL),(3,BC)]) (stO (oW (.ofNat (i+1)) Rs (obF (setDate o ⟨true,y.b%60⟩ 0) M N L C) []) [(1,BN),(2,BL),(3,BC)]):=by
 intro Q hq
 refine ALp.roundO (A:=oA 2 0 y [] [] none []) (V1:=oW (.ofNat (i+1)) Rs (obF (setDate o ⟨true,y.b%60⟩ 0) M N L C) []) (F:=oW (.ofNat i) Rs [] []) (opt:=[(1,BN),(2,BL),(3,BC)]) (opt':=[]) (lk:=[(0,0),(1,1),(2,2),(3,3),(4,4)]) (lk':=[]) base0 aidJ_ok (LsOk.no rfl) .refl ?_
 rw[ob_dat20,g.w]
 exact ⟨g.a,g.b,g.x,pk hk (by decide) (by decide),pk ha (by decide) (by decide),pick_sem _ (by decide) (by decide),⟨⟨⟨⟨⟨rfl,g.c⟩,⟨rfl,rfl⟩,trivial⟩,⟨⟨rfl,rfl⟩,⟨rfl,rfl⟩,trivial⟩,renR_ob (o:=(setDate o ⟨true,y.b%60⟩ 0)) hM (rN _ rfl) (rL _ rfl) (rC _ rfl),⟨rfl,rfl⟩,trivial⟩,⟨rfl,bn⟩,⟨rfl,bl⟩,⟨rfl,bc⟩,trivial⟩,hq⟩⟩
theorem st_dat21 {y:Rw} {i:Nat} {Rs:List AV} {M N L C:AV} {BN BL BC:Option Blk} (o:Ob) (g:Go1 i Rs y) (hM:closedA M=true) (rN:Rv 1 N) (rL:Rv 2 L) (rC:Rv 3 C) (bn:ClosedOB BN) (bl:ClosedOB BL) (bc:ClosedOB BC) (hk:y.k%9=2) (ha:y.a%10=1):Step (stO (oW (.ofNat i) Rs (obF o M N L C) []) [(1,BN),(2,BL),(3,BC)]) (stO (oW (.ofNat (i+1)) Rs (obF (setDate o ⟨true,y.b%60⟩ 1) M N L C) []) [(1,BN),(2,BL),(3,BC)]):=by
 intro Q hq
 refine ALp.roundO (A:=oA 2 1 y [] [] none []) (V1:=oW (.ofNat (i+1)) Rs (obF (setDate o ⟨true,y.b%60⟩ 1) M N L C) []) (F:=oW (.ofNat i) Rs [] []) (opt:=[(1,BN),(2,BL),(3,BC)]) (opt':=[]) (lk:=[(0,0),(1,1),(2,2),(3,3),(4,4)]) (lk':=[]) base0 aidJ_ok (LsOk.no rfl) .refl ?_
 rw[ob_dat21,g.w]
 exact ⟨g.a,g.b,g.x,pk hk (by decide) (by decide),pk ha (by decide) (by decide),pick_sem _ (by decide) (by decide),⟨⟨⟨⟨⟨rfl,g.c⟩,⟨rfl,rfl⟩,trivial⟩,⟨⟨rfl,rfl⟩,⟨rfl,rfl⟩,trivial⟩,renR_ob (o:=(setDate o ⟨true,y.b%60⟩ 1)) hM (rN _ rfl) (rL _ rfl) (rC _ rfl),⟨rfl,rfl⟩,trivial⟩,⟨rfl,bn⟩,⟨rfl,bl⟩,⟨rfl,bc⟩,trivial⟩,hq⟩⟩
theorem st_dat22 {y:Rw} {i:Nat} {Rs:List AV} {M N L C:AV} {BN BL BC:Option Blk} (o:Ob) (g:Go1 i Rs y) (hM:closedA M=true) (rN:Rv 1 N) (rL:Rv 2 L) (rC:Rv 3 C) (bn:ClosedOB BN) (bl:ClosedOB BL) (bc:ClosedOB BC) (hk:y.k%9=2) (ha:y.a%10=2):Step (stO (oW (.ofNat i) Rs (obF o M N L C) []) [(1,BN),(2,BL),(3,BC)]) (stO (oW (.ofNat (i+1)) Rs (obF (setDate o ⟨true,y.b%60⟩ 2) M N L C) []) [(1,BN),(2,BL),(3,BC)]):=by
 intro Q hq
 refine ALp.roundO (A:=oA 2 2 y [] [] none []) (V1:=oW (.ofNat (i+1)) Rs (obF (setDate o ⟨true,y.b%60⟩ 2) M N L C) []) (F:=oW (.ofNat i) Rs [] []) (opt:=[(1,BN),(2,BL),(3,BC)]) (opt':=[]) (lk:=[(0,0),(1,1),(2,2),(3,3),(4,4)]) (lk':=[]) base0 aidJ_ok (LsOk.no rfl) .refl ?_
 rw[ob_dat22,g.w]
 exact ⟨g.a,g.b,g.x,pk hk (by decide) (by decide),pk ha (by decide) (by decide),pick_sem _ (by decide) (by decide),⟨⟨⟨⟨⟨rfl,g.c⟩,⟨rfl,rfl⟩,trivial⟩,⟨⟨rfl,rfl⟩,⟨rfl,rfl⟩,trivial⟩,renR_ob (o:=(setDate o ⟨true,y.b%60⟩ 2)) hM (rN _ rfl) (rL _ rfl) (rC _ rfl),⟨rfl,rfl⟩,trivial⟩,⟨rfl,bn⟩,⟨rfl,bl⟩,⟨rfl,bc⟩,trivial⟩,hq⟩⟩
theorem st_dat23 {y:Rw} {i:Nat} {Rs:List AV} {M N L C:AV} {BN BL BC:Option Blk} (o:Ob) (g:Go1 i Rs y) (hM:closedA M=true) (rN:Rv 1 N) (rL:Rv 2 L) (rC:Rv 3 C) (bn:ClosedOB BN) (bl:ClosedOB BL) (bc:ClosedOB BC) (hk:y.k%9=2) (ha:y.a%10=3):Step (stO (oW (.ofNat i) Rs (obF o M N L C) []) [(1,BN),(2,BL),(3,BC)]) (stO (oW (.ofNat (i+1)) Rs (obF (setDate o ⟨true,y.b%60⟩ 3) M N L C) []) [(1,BN),(2,BL),(3,BC)]):=by
 intro Q hq
 refine ALp.roundO (A:=oA 2 3 y [] [] none []) (V1:=oW (.ofNat (i+1)) Rs (obF (setDate o ⟨true,y.b%60⟩ 3) M N L C) []) (F:=oW (.ofNat i) Rs [] []) (opt:=[(1,BN),(2,BL),(3,BC)]) (opt':=[]) (lk:=[(0,0),(1,1),(2,2),(3,3),(4,4)]) (lk':=[]) base0 aidJ_ok (LsOk.no rfl) .refl ?_
 rw[ob_dat23,g.w]
 exact ⟨g.a,g.b,g.x,pk hk (by decide) (by decide),pk ha (by decide) (by decide),pick_sem _ (by decide) (by decide),⟨⟨⟨⟨⟨rfl,g.c⟩,⟨rfl,rfl⟩,trivial⟩,⟨⟨rfl,rfl⟩,⟨rfl,rfl⟩,trivial⟩,renR_ob (o:=(setDate o ⟨true,y.b%60⟩ 3)) hM (rN _ rfl) (rL _ rfl) (rC _ rfl),⟨rfl,rfl⟩,trivial⟩,⟨rfl,bn⟩,⟨rfl,bl⟩,⟨rfl,bc⟩,trivial⟩,hq⟩⟩
theorem st_dat24 {y:Rw} {i:Nat} {Rs:List AV} {M N L C:AV} {BN BL BC:Option Blk} (o:Ob) (g:Go1 i Rs y) (hM:closedA M=true) (rN:Rv 1 N) (rL:Rv 2 L) (rC:Rv 3 C) (bn:ClosedOB BN) (bl:ClosedOB BL) (bc:ClosedOB BC) (hk:y.k%9=2) (ha:y.a%10=4):Step (stO (oW (.ofNat i) Rs (obF o M N L C) []) [(1,BN),(2,BL),(3,BC)]) (stO (oW (.ofNat (i+1)) Rs (obF (setDate o ⟨true,y.b%60⟩ 4) M N L C) []) [(1,BN),(2,BL),(3,BC)]):=by
 intro Q hq
 refine ALp.roundO (A:=oA 2 4 y [] [] none []) (V1:=oW (.ofNat (i+1)) Rs (obF (setDate o ⟨true,y.b%60⟩ 4) M N L C) []) (F:=oW (.ofNat i) Rs [] []) (opt:=[(1,BN),(2,BL),(3,BC)]) (opt':=[]) (lk:=[(0,0),(1,1),(2,2),(3,3),(4,4)]) (lk':=[]) base0 aidJ_ok (LsOk.no rfl) .refl ?_
 rw[ob_dat24,g.w]
 exact ⟨g.a,g.b,g.x,pk hk (by decide) (by decide),pk ha (by decide) (by decide),pick_sem _ (by decide) (by decide),⟨⟨⟨⟨⟨rfl,g.c⟩,⟨rfl,rfl⟩,trivial⟩,⟨⟨rfl,rfl⟩,⟨rfl,rfl⟩,trivial⟩,renR_ob (o:=(setDate o ⟨true,y.b%60⟩ 4)) hM (rN _ rfl) (rL _ rfl) (rC _ rfl),⟨rfl,rfl⟩,trivial⟩,⟨rfl,bn⟩,⟨rfl,bl⟩,⟨rfl,bc⟩,trivial⟩,hq⟩⟩
theorem st_dat25 {y:Rw} {i:Nat} {Rs:List AV} {M N L C:AV} {BN BL BC:Option Blk} (o:Ob) (g:Go1 i Rs y) (hM:closedA M=true) (rN:Rv 1 N) (rL:Rv 2 L) (rC:Rv 3 C) (bn:ClosedOB BN) (bl:ClosedOB BL) (bc:ClosedOB BC) (hk:y.k%9=2) (ha:y.a%10=5):Step (stO (oW (.ofNat i) Rs (obF o M N L C) []) [(1,BN),(2,BL),(3,BC)]) (stO (oW (.ofNat (i+1)) Rs (obF (setDate o ⟨true,y.b%60⟩ 5) M N L C) []) [(1,BN),(2,BL),(3,BC)]):=by
 intro Q hq
 refine ALp.roundO (A:=oA 2 5 y [] [] none []) (V1:=oW (.ofNat (i+1)) Rs (obF (setDate o ⟨true,y.b%60⟩ 5) M N L C) []) (F:=oW (.ofNat i) Rs [] []) (opt:=[(1,BN),(2,BL),(3,BC)]) (opt':=[]) (lk:=[(0,0),(1,1),(2,2),(3,3),(4,4)]) (lk':=[]) base0 aidJ_ok (LsOk.no rfl) .refl ?_
 rw[ob_dat25,g.w]
 exact ⟨g.a,g.b,g.x,pk hk (by decide) (by decide),pk ha (by decide) (by decide),pick_sem _ (by decide) (by decide),⟨⟨⟨⟨⟨rfl,g.c⟩,⟨rfl,rfl⟩,trivial⟩,⟨⟨rfl,rfl⟩,⟨rfl,rfl⟩,trivial⟩,renR_ob (o:=(setDate o ⟨true,y.b%60⟩ 5)) hM (rN _ rfl) (rL _ rfl) (rC _ rfl),⟨rfl,rfl⟩,trivial⟩,⟨rfl,bn⟩,⟨rfl,bl⟩,⟨rfl,bc⟩,trivial⟩,hq⟩⟩
theorem st_dat26 {y:Rw} {i:Nat} {Rs:List AV} {M N L C:AV} {BN BL BC:Option Blk} (o:Ob) (g:Go1 i Rs y) (hM:closedA M=true) (rN:Rv 1 N) (rL:Rv 2 L) (rC:Rv 3 C) (bn:ClosedOB BN) (bl:ClosedOB BL) (bc:ClosedOB BC) (hk:y.k%9=2) (ha:y.a%10=6):Step (stO (oW (.ofNat i) Rs (obF o M N L C) []) [(1,BN),(2,BL),(3,BC)]) (stO (oW (.ofNat (i+1)) Rs (obF (setDate o ⟨true,y.b%60⟩ 6) M N L C) []) [(1,BN),(2,BL),(3,BC)]):=by
 intro Q hq
 refine ALp.roundO (A:=oA 2 6 y [] [] none []) (V1:=oW (.ofNat (i+1)) Rs (obF (setDate o ⟨true,y.b%60⟩ 6) M N L C) []) (F:=oW (.ofNat i) Rs [] []) (opt:=[(1,BN),(2,BL),(3,BC)]) (opt':=[]) (lk:=[(0,0),(1,1),(2,2),(3,3),(4,4)]) (lk':=[]) base0 aidJ_ok (LsOk.no rfl) .refl ?_
 rw[ob_dat26,g.w]
 exact ⟨g.a,g.b,g.x,pk hk (by decide) (by decide),pk ha (by decide) (by decide),pick_sem _ (by decide) (by decide),⟨⟨⟨⟨⟨rfl,g.c⟩,⟨rfl,rfl⟩,trivial⟩,⟨⟨rfl,rfl⟩,⟨rfl,rfl⟩,trivial⟩,renR_ob (o:=(setDate o ⟨true,y.b%60⟩ 6)) hM (rN _ rfl) (rL _ rfl) (rC _ rfl),⟨rfl,rfl⟩,trivial⟩,⟨rfl,bn⟩,⟨rfl,bl⟩,⟨rfl,bc⟩,trivial⟩,hq⟩⟩
theorem st_dat27 {y:Rw} {i:Nat} {Rs:List AV} {M N L C:AV} {BN BL BC:Option Blk} (o:Ob) (g:Go1 i Rs y) (hM:closedA M=true) (rN:Rv 1 N) (rL:Rv 2 L) (rC:Rv 3 C) (bn:ClosedOB BN) (bl:ClosedOB BL) (bc:ClosedOB BC) (hk:y.k%9=2) (ha:y.a%10=7):Step (stO (oW (.ofNat i) Rs (obF o M N L C) []) [(1,BN),(2,BL),(3,BC)]) (stO (oW (.ofNat (i+1)) Rs (obF (setDate o ⟨true,y.b%60⟩ 7) M N L C) []) [(1,BN),(2,BL),(3,BC)]):=by
 intro Q hq
 refine ALp.roundO (A:=oA 2 7 y [] [] none []) (V1:=oW (.ofNat (i+1)) Rs (obF (setDate o ⟨true,y.b%60⟩ 7) M N L C) []) (F:=oW (.ofNat i) Rs [] []) (opt:=[(1,BN),(2,BL),(3,BC)]) (opt':=[]) (lk:=[(0,0),(1,1),(2,2),(3,3),(4,4)]) (lk':=[]) base0 aidJ_ok (LsOk.no rfl) .refl ?_
 rw[ob_dat27,g.w]
 exact ⟨g.a,g.b,g.x,pk hk (by decide) (by decide),pk ha (by decide) (by decide),pick_sem _ (by decide) (by decide),⟨⟨⟨⟨⟨rfl,g.c⟩,⟨rfl,rfl⟩,trivial⟩,⟨⟨rfl,rfl⟩,⟨rfl,rfl⟩,trivial⟩,renR_ob (o:=(setDate o ⟨true,y.b%60⟩ 7)) hM (rN _ rfl) (rL _ rfl) (rC _ rfl),⟨rfl,rfl⟩,trivial⟩,⟨rfl,bn⟩,⟨rfl,bl⟩,⟨rfl,bc⟩,trivial⟩,hq⟩⟩
theorem st_dat28 {y:Rw} {i:Nat} {Rs:List AV} {M N L C:AV} {BN BL BC:Option Blk} (o:Ob) (g:Go1 i Rs y) (hM:closedA M=true) (rN:Rv 1 N) (rL:Rv 2 L) (rC:Rv 3 C) (bn:ClosedOB BN) (bl:ClosedOB BL) (bc:ClosedOB BC) (hk:y.k%9=2) (ha:y.a%10=8):Step (stO (oW (.ofNat i) Rs (obF o M N L C) []) [(1,BN),(2,BL),(3,BC)]) (stO (oW (.ofNat (i+1)) Rs (obF (setDate o ⟨true,y.b%60⟩ 8) M N L C) []) [(1,BN),(2,BL),(3,BC)]):=by
 intro Q hq
 refine ALp.roundO (A:=oA 2 8 y [] [] none []) (V1:=oW (.ofNat (i+1)) Rs (obF (setDate o ⟨true,y.b%60⟩ 8) M N L C) []) (F:=oW (.ofNat i) Rs [] []) (opt:=[(1,BN),(2,BL),(3,BC)]) (opt':=[]) (lk:=[(0,0),(1,1),(2,2),(3,3),(4,4)]) (lk':=[]) base0 aidJ_ok (LsOk.no rfl) .refl ?_
 rw[ob_dat28,g.w]
 exact ⟨g.a,g.b,g.x,pk hk (by decide) (by decide),pk ha (by decide) (by decide),pick_sem _ (by decide) (by decide),⟨⟨⟨⟨⟨rfl,g.c⟩,⟨rfl,rfl⟩,trivial⟩,⟨⟨rfl,rfl⟩,⟨rfl,rfl⟩,trivial⟩,renR_ob (o:=(setDate o ⟨true,y.b%60⟩ 8)) hM (rN _ rfl) (rL _ rfl) (rC _ rfl),⟨rfl,rfl⟩,trivial⟩,⟨rfl,bn⟩,⟨rfl,bl⟩,⟨rfl,bc⟩,trivial⟩,hq⟩⟩
theorem st_dat29 {y:Rw} {i:Nat} {Rs:List AV} {M N L C:AV} {BN BL BC:Option Blk} (o:Ob) (g:Go1 i Rs y) (hM:closedA M=true) (rN:Rv 1 N) (rL:Rv 2 L) (rC:Rv 3 C) (bn:ClosedOB BN) (bl:ClosedOB BL) (bc:ClosedOB BC) (hk:y.k%9=2) (ha:y.a%10=9):Step (stO (oW (.ofNat i) Rs (obF o M N L C) []) [(1,BN),(2,BL),(3,BC)]) (stO (oW (.ofNat (i+1)) Rs (obF (setDate o ⟨true,y.b%60⟩ 9) M N L C) []) [(1,BN),(2,BL),(3,BC)]):=by
 intro Q hq
 refine ALp.roundO (A:=oA 2 9 y [] [] none []) (V1:=oW (.ofNat (i+1)) Rs (obF (setDate o ⟨true,y.b%60⟩ 9) M N L C) []) (F:=oW (.ofNat i) Rs [] []) (opt:=[(1,BN),(2,BL),(3,BC)]) (opt':=[]) (lk:=[(0,0),(1,1),(2,2),(3,3),(4,4)]) (lk':=[]) base0 aidJ_ok (LsOk.no rfl) .refl ?_
 rw[ob_dat29,g.w]
 exact ⟨g.a,g.b,g.x,pk hk (by decide) (by decide),pk ha (by decide) (by decide),pick_sem _ (by decide) (by decide),⟨⟨⟨⟨⟨rfl,g.c⟩,⟨rfl,rfl⟩,trivial⟩,⟨⟨rfl,rfl⟩,⟨rfl,rfl⟩,trivial⟩,renR_ob (o:=(setDate o ⟨true,y.b%60⟩ 9)) hM (rN _ rfl) (rL _ rfl) (rC _ rfl),⟨rfl,rfl⟩,trivial⟩,⟨rfl,bn⟩,⟨rfl,bl⟩,⟨rfl,bc⟩,trivial⟩,hq⟩⟩
def limOb (o:Ob) (y:Rw):Ob:={o with lh:=true,lt:=1+y.a%50,lc:=1+y.a%50-y.b%(1+y.a%50+1),lu:=1+y.c%2}
theorem st_lim {y:Rw} {i:Nat} {Rs:List AV} {M N L C:AV} {BN BL BC:Option Blk} (o:Ob) (g:Go1 i Rs y) (hM:closedA M=true) (rN:Rv 1 N) (rL:Rv 2 L) (rC:Rv 3 C) (bn:ClosedOB BN) (bl:ClosedOB BL) (bc:ClosedOB BC) (hk:y.k%9=5):Step (stO (oW (.ofNat i) Rs (obF o M N L C) []) [(1,BN),(2,BL),(3,BC)]) (stO (oW (.ofNat (i+1)) Rs (obF (limOb o y) M N L C) []) [(1,BN),(2,BL),(3,BC)]):=by
 intro Q hq
 refine ALp.roundO (A:=oA 5 0 y [] [] none []) (V1:=oW (.ofNat (i+1)) Rs (obF (limOb o y) M N L C) []) (F:=oW (.ofNat i) Rs [] []) (opt:=[(1,BN),(2,BL),(3,BC)]) (opt':=[]) (lk:=[(0,0),(1,1),(2,2),(3,3),(4,4)]) (lk':=[]) base0 aidJ_ok (LsOk.no rfl) .refl ?_
 have q1:=Int.emod_nonneg y.a (b:=50) (by decide)
 have q2:=Int.emod_lt_of_pos y.a (b:=50) (by decide)
 have q3:=Int.emod_nonneg y.b (b:=1+y.a%50+1) (by omega)
 have q4:=Int.emod_lt_of_pos y.b (b:=1+y.a%50+1) (by omega)
 have q5:=Int.emod_nonneg y.c (b:=2) (by decide)
 have q6:=Int.emod_lt_of_pos y.c (b:=2) (by decide)
 have w1:wrapA .i64 (1+y.a%50)=1+y.a%50:=wrapA_i64 (by omega) (by omega)
 have w2:wrapA .i64 (1+y.a%50+1)=1+y.a%50+1:=wrapA_i64 (by omega) (by omega)
 have w3:wrapA .i64 (1+y.a%50-y.b%(1+y.a%50+1))=1+y.a%50-y.b%(1+y.a%50+1):=wrapA_i64 (by omega) (by omega)
 have w4:wrapA .i64 (1+y.c%2)=1+y.c%2:=wrapA_i64 (by omega) (by omega)
 rw[ob_lim,g.w,w1,w2,w3,w4]
 exact ⟨g.a,g.b,g.x,pk hk (by decide) (by decide),pick_sem _ (by decide) (by decide),pick_sem _ (by omega) (by omega),pick_sem _ (by decide) (by decide),⟨⟨⟨⟨⟨rfl,g.c⟩,⟨rfl,rfl⟩,trivial⟩,⟨⟨rfl,rfl⟩,⟨rfl,rfl⟩,trivial⟩,renR_ob (o:=(limOb o y)) hM (rN _ rfl) (rL _ rfl) (rC _ rfl),⟨rfl,rfl⟩,trivial⟩,⟨rfl,bn⟩,⟨rfl,bl⟩,⟨rfl,bc⟩,trivial⟩,hq⟩⟩
def msL:List (List UInt8):=[[],[109],[108,111,115,116]]
def whyOb (o:Ob) (y:Rw):Ob:={o with why:=1+y.a%7,msg:=ofL msL [] y.b}
theorem idx_ms (n:Int):indexA Tryz.prog 110 (.agg (msL.map .str)) (I (n%3))=some (.str (ofL msL [] n)):=
 idx_pick (T:=110) (d:=[]) (l:=msL) (f:= .str) (by decide) fun k x h=>by
  match k,h with
  |0,h=>obtain rfl:_=x:=Option.some.inj h;show indexA _ _ _ _=_;kernel_rfl
  |1,h=>obtain rfl:_=x:=Option.some.inj h;show indexA _ _ _ _=_;kernel_rfl
  |2,h=>obtain rfl:_=x:=Option.some.inj h;show indexA _ _ _ _=_;kernel_rfl
theorem st_why {y:Rw} {i:Nat} {Rs:List AV} {M N L C:AV} {BN BL BC:Option Blk} (o:Ob) (g:Go1 i Rs y) (hM:closedA M=true) (rN:Rv 1 N) (rL:Rv 2 L) (rC:Rv 3 C) (bn:ClosedOB BN) (bl:ClosedOB BL) (bc:ClosedOB BC) (hk:y.k%9=7):Step (stO (oW (.ofNat i) Rs (obF o M N L C) []) [(1,BN),(2,BL),(3,BC)]) (stO (oW (.ofNat (i+1)) Rs (obF (whyOb o y) M N L C) []) [(1,BN),(2,BL),(3,BC)]):=by
 intro Q hq
 refine ALp.roundO (A:=oA 7 0 y [(40,4,.res (.str (ofL msL [] y.b)))] [] none []) (V1:=oW (.ofNat (i+1)) Rs (obF (whyOb o y) M N L C) []) (F:=oW (.ofNat i) Rs [] []) (opt:=[(1,BN),(2,BL),(3,BC)]) (opt':=[]) (lk:=[(0,0),(1,1),(2,2),(3,3),(4,4)]) (lk':=[]) base0 aidJ_ok (LsOk.no rfl) .refl ?_
 have q1:=Int.emod_nonneg y.a (b:=7) (by decide)
 have q2:=Int.emod_lt_of_pos y.a (b:=7) (by decide)
 have w1:wrapA .i64 (1+y.a%7)=1+y.a%7:=wrapA_i64 (by omega) (by omega)
 rw[ob_why,g.w,w1]
 exact ⟨g.a,g.b,g.x,pk hk (by decide) (by decide),pick_sem _ (by decide) (by decide),pick_sem _ (by decide) (by decide),idx_ms _,⟨⟨⟨⟨⟨rfl,g.c⟩,⟨rfl,rfl⟩,trivial⟩,⟨⟨rfl,rfl⟩,⟨rfl,rfl⟩,trivial⟩,renR_ob (o:=(whyOb o y)) hM (rN _ rfl) (rL _ rfl) (rC _ rfl),⟨rfl,rfl⟩,trivial⟩,⟨rfl,bn⟩,⟨rfl,bl⟩,⟨rfl,bc⟩,trivial⟩,hq⟩⟩
def arcOb (o:Ob) (y:Rw):Ob:={o with arch:=beqInt (y.a.tmod 3) 0}
theorem st_arc {y:Rw} {i:Nat} {Rs:List AV} {M N L C:AV} {BN BL BC:Option Blk} (o:Ob) (g:Go1 i Rs y) (hM:closedA M=true) (rN:Rv 1 N) (rL:Rv 2 L) (rC:Rv 3 C) (bn:ClosedOB BN) (bl:ClosedOB BL) (bc:ClosedOB BC) (hk:y.k%9=8):Step (stO (oW (.ofNat i) Rs (obF o M N L C) []) [(1,BN),(2,BL),(3,BC)]) (stO (oW (.ofNat (i+1)) Rs (obF (arcOb o y) M N L C) []) [(1,BN),(2,BL),(3,BC)]):=by
 intro Q hq
 refine ALp.roundO (A:=oA 8 0 y [] [] none []) (V1:=oW (.ofNat (i+1)) Rs (obF (arcOb o y) M N L C) []) (F:=oW (.ofNat i) Rs [] []) (opt:=[(1,BN),(2,BL),(3,BC)]) (opt':=[]) (lk:=[(0,0),(1,1),(2,2),(3,3),(4,4)]) (lk':=[]) base0 aidJ_ok (LsOk.no rfl) .refl ?_
 rw[ob_arc,g.w]
 exact ⟨g.a,g.b,g.x,pk hk (by decide) (by decide),⟨⟨⟨⟨⟨rfl,g.c⟩,⟨rfl,rfl⟩,trivial⟩,⟨⟨rfl,rfl⟩,⟨rfl,rfl⟩,trivial⟩,renR_ob (o:=(arcOb o y)) hM (rN _ rfl) (rL _ rfl) (rC _ rfl),⟨rfl,rfl⟩,trivial⟩,⟨rfl,bn⟩,⟨rfl,bl⟩,⟨rfl,bc⟩,trivial⟩,hq⟩⟩
def nmL:List (List UInt8):=[[111,110,101],[116,119,111],[116,104,114,101,101],[102,111,117,114],[102,105,118,101]]
theorem idx_nm (n:Int):indexA Tryz.prog 106 (.agg (nmL.map .str)) (I (n%5))=some (.str (ofL nmL [] n)):=
 idx_pick (T:=106) (d:=[]) (l:=nmL) (f:= .str) (by decide) fun k x h=>by
  match k,h with
  |0,h=>obtain rfl:_=x:=Option.some.inj h;show indexA _ _ _ _=_;kernel_rfl
  |1,h=>obtain rfl:_=x:=Option.some.inj h;show indexA _ _ _ _=_;kernel_rfl
  |2,h=>obtain rfl:_=x:=Option.some.inj h;show indexA _ _ _ _=_;kernel_rfl
  |3,h=>obtain rfl:_=x:=Option.some.inj h;show indexA _ _ _ _=_;kernel_rfl
  |4,h=>obtain rfl:_=x:=Option.some.inj h;show indexA _ _ _ _=_;kernel_rfl
theorem st_nam0 {y:Rw} {i:Nat} {Rs:List AV} {M L C:AV} {BL BC:Option Blk} (o:Ob) (g:Go1 i Rs y) (hM:closedA M=true) (rL:Rv 2 L) (rC:Rv 3 C) (bl:ClosedOB BL) (bc:ClosedOB BC) (hk:y.k%9=3):Step (stO (oW (.ofNat i) Rs (obF o M .nilsl L C) []) [(2,BL),(3,BC)]) (stO (oW (.ofNat (i+1)) Rs (obF o M (.rsl true 1 0 1 1) L C) [(1,.cells [.str (ofL nmL [] y.a)],.whole)]) [(2,BL),(3,BC)]):=by
 intro Q hq
 refine ALp.roundO (A:=oA 3 0 y [(14,4,.res (.str (ofL nmL [] y.a)))] [] (some (.val (.bool false))) []) (V1:=oW (.ofNat (i+1)) Rs (obF o M (.rsl true 1 0 1 1) L C) [(1,.cells [.str (ofL nmL [] y.a)],.whole)]) (F:=oW (.ofNat i) Rs [] []) (opt:=[(2,BL),(3,BC)]) (opt':=[]) (lk:=[(0,0),(1,46),(2,2),(3,3),(4,4)]) (lk':=[]) base0 aidJ_ok (LsOk.no rfl) .refl ?_
 rw[ob_nam0,g.w]
 exact ⟨g.a,g.b,g.x,pk hk (by decide) (by decide),pick_sem _ (by decide) (by decide),idx_nm _,in_none _,⟨⟨⟨⟨⟨rfl,g.c⟩,⟨rfl,rfl⟩,trivial⟩,⟨⟨rfl,rfl⟩,⟨rfl,rfl⟩,trivial⟩,renR_ob (o:=o) hM (.rsl _ _ _ _ _ _ rfl) (rL _ rfl) (rC _ rfl),⟨rfl,rfl⟩,⟨rfl,rfl⟩,trivial⟩,⟨rfl,bl⟩,⟨rfl,bc⟩,trivial⟩,hq⟩⟩
theorem st_nam1t {y:Rw} {i:Nat} {Rs:List AV} {M L C:AV} {BL BC:Option Blk} (o:Ob) (g:Go1 i Rs y) (hM:closedA M=true) (rL:Rv 2 L) (rC:Rv 3 C) (bl:ClosedOB BL) (bc:ClosedOB BC) (hk:y.k%9=3) {l:List (List UInt8)} (hl:l.length≤1000) (hin:inL' l (ofL nmL [] y.a)=true):Step (stO (oW (.ofNat i) Rs (obF o M (.rsl true 1 0 l.length 1) L C) [(1,.cells (l.map .str),.whole)]) [(2,BL),(3,BC)]) (stO (oW (.ofNat (i+1)) Rs (obF o M (.rsl true 1 0 l.length 1) L C) [(1,.cells (l.map .str),.whole)]) [(2,BL),(3,BC)]):=by
 intro Q hq
 refine ALp.roundO (A:=oA 3 0 y [(14,4,.res (.str (ofL nmL [] y.a)))] [] (some (.part [1] (.bool true) [(1,some (.cells (l.map .str)))] 20)) []) (V1:=oW (.ofNat (i+1)) Rs (obF o M (.rsl true 1 0 l.length 1) L C) [(1,.cells (l.map .str),.whole)]) (F:=oW (.ofNat i) Rs [] []) (opt:=[(2,BL),(3,BC)]) (opt':=[]) (lk:=[(0,0),(1,1),(2,2),(3,3),(4,4)]) (lk':=[]) base0 aidJ_ok (LsOk.no rfl) .refl ?_
 rw[ob_nam1t,g.w]
 exact ⟨g.a,g.b,g.x,pk hk (by decide) (by decide),pick_sem _ (by decide) (by decide),idx_nm _,hin▸in_body l _ hl,⟨⟨⟨⟨⟨rfl,g.c⟩,⟨rfl,rfl⟩,trivial⟩,⟨⟨rfl,rfl⟩,⟨rfl,rfl⟩,trivial⟩,renR_ob (o:=o) hM (.rsl _ _ _ _ _ _ rfl) (rL _ rfl) (rC _ rfl),⟨rfl,rfl⟩,⟨rfl,closed_strs l⟩,trivial⟩,⟨rfl,bl⟩,⟨rfl,bc⟩,trivial⟩,hq⟩⟩
theorem st_nam1f {y:Rw} {i:Nat} {Rs:List AV} {M L C:AV} {BL BC:Option Blk} (o:Ob) (g:Go1 i Rs y) (hM:closedA M=true) (rL:Rv 2 L) (rC:Rv 3 C) (bl:ClosedOB BL) (bc:ClosedOB BC) (hk:y.k%9=3) {l:List (List UInt8)} (hl:l.length≤1000) (hin:inL' l (ofL nmL [] y.a)=false):Step (stO (oW (.ofNat i) Rs (obF o M (.rsl true 1 0 l.length 1) L C) [(1,.cells (l.map .str),.whole)]) [(2,BL),(3,BC)]) (stO (oW (.ofNat (i+1)) Rs (obF o M (.rsl true 1 0 (l.length+1) 1) L C) [(1,.cells (l.map .str++[.str (ofL nmL [] y.a)]),.whole)]) [(2,BL),(3,BC)]):=by
 intro Q hq
 refine ALp.roundO (A:=oA 3 0 y [(14,4,.res (.str (ofL nmL [] y.a)))] [] (some (.part [1] (.bool false) [(1,some (.cells (l.map .str)))] 20)) []) (V1:=oW (.ofNat (i+1)) Rs (obF o M (.rsl true 1 0 (l.length+1) 1) L C) [(1,.cells (l.map .str++[.str (ofL nmL [] y.a)]),.whole)]) (F:=oW (.ofNat i) Rs [] []) (opt:=[(2,BL),(3,BC)]) (opt':=[]) (lk:=[(0,0),(1,66),(2,2),(3,3),(4,4)]) (lk':=[]) base0 aidJ_ok (LsOk.no rfl) .refl ?_
 rw[ob_nam1f,g.w]
 exact ⟨g.a,g.b,g.x,pk hk (by decide) (by decide),pick_sem _ (by decide) (by decide),idx_nm _,hin▸in_body l _ hl,oblB_of (by simp[allSize,allOne,flat,AV.cells,lenN];omega) (oblB_of (by simp[lenN_eq]) ⟨⟨⟨⟨⟨rfl,g.c⟩,⟨rfl,rfl⟩,trivial⟩,⟨⟨rfl,rfl⟩,⟨rfl,rfl⟩,trivial⟩,renR_ob (o:=o) hM (.rsl _ _ _ _ _ _ rfl) (rL _ rfl) (rC _ rfl),⟨rfl,rfl⟩,⟨rfl,by simp[closedAll_append,closed_strs];rfl⟩,trivial⟩,⟨rfl,bl⟩,⟨rfl,bc⟩,trivial⟩,hq⟩)⟩
noncomputable section
def lsV0 (i:Int) (Ls Ps:List AV):View:=⟨[(0,.fsl false Ls),(1,.fsl false Ps),(5,.nilsl),(6,I i)],[],[],0,48⟩
def lsV1 (i:Int) (Ls Ps:List AV) (k:Nat) (es:List AV):View:=⟨[(0,.fsl false Ls),(1,.fsl false Ps),(6,I i)],[(5,.rsl true 0 0 k 37)],[(0,.cells es,.whole)],1,48⟩
def lsA (y:Rw) (p:Int) (Ws O:List AV) (s:List UInt8):Aid:=aidJ [(5,2,.res (.fptr (rwC y) 0)),(6,2,.res (.fptr (rwC y) 0)),(6,6,.res (.fsl false Ws)),(7,4,.res (.str s))] [] (manyS [(23,I p),(22,.agg O)]) [] []
@[simp] abbrev zd1 (Ls:List AV):=(AV.fsl false Ls=AV.fsl false Ls∧closedA (AV.fsl false Ls)=true)
@[simp] abbrev zd2 (Ps:List AV):=(AV.fsl false Ps=AV.fsl false Ps∧closedA (AV.fsl false Ps)=true)
@[simp] abbrev zd4:=(AV.nilsl=AV.nilsl∧true=true)
abbrev zd5 (y:Rw):=[I y.1,I y.2,I y.3,I y.4]
@[simp] abbrev zd6 (Ls Ps:List AV) (Q:AExit→St→Prop) (i:Int):=((((zd1 Ls)∧(zd2 Ps)∧zd4∧(I i=I i∧closedA (I i)=true)∧True)∧True∧True)∧Q (AExit.exit 0) (lsV0 i Ls Ps).st)
theorem ls_0 (y:Rw) (i j p:Int) (Ls Ps Ws es':List AV) (o:Ob) (M N L C:AV) (s:List UInt8) (Nx:Prop) (Q:AExit→St→Prop):wpK Tryz.prog opts0 40 (lsA y p Ws (obF o M N L C) s) (lpCode Tryz.prog 50 4) (lsV0 i Ls Ps).st (roundP 0 [(0,39)] (lsV1 j Ls Ps 1 es') Nx [] (lsV0 i Ls Ps) Q)=
  (mtB (ltInt i (Int.ofNat (lenN Ls))) (mtB (ltInt i 12) (indexAddrA Tryz.prog 22 (AV.fsl false Ls) (I i)=some (AV.fptr (zd5 y) 0)∧SC 23 [I y.2,I (wrapA IntKind.i64 (Int.ofNat (lenN Ps)+1))] (I p)∧indexAddrA Tryz.prog 22 (AV.fsl false Ls) (I i)=some (AV.fptr (zd5 y) 0)∧sliceA Tryz.prog 22 (AV.fsl false Ps) none (some (I p)) none=some (Eff.val (AV.fsl false Ws))∧SC 22 [AV.agg (zd5 y),AV.fsl false Ws] (AV.agg (obF o M N L C))∧oblB (fitsT Tryz.prog 33 (AV.agg (obF o M N L C)) 37) (convA Tryz.prog 23 9 (AV.fsl true [AV.int IntKind.u8 (wrapA IntKind.u8 (wrapA IntKind.i64 (97+i)))])=some (Eff.val (AV.str s))∧oblB ((1+lenN s).ble 9223372036854775807) ((((zd1 Ls)∧(zd2 Ps)∧(I (wrapA IntKind.i64 (i+1))=I j∧closedA (I j)=true)∧True)∧((true=true∧some 39=some 39∧0=0∧1=lenN [AV.agg (obF {o with id:=([107]++s)} M N L C)]∧37=37)∧True)∧(flat [AV.agg (obF {o with id:=([107]++s)} M N L C)]=es'∧closedAll es'=true)∧True)∧Nx))) (zd6 Ls Ps Q i)) (zd6 Ls Ps Q i)):=by kernel_rfl
@[simp] abbrev zd3 (Ls Ps es:List AV) (Q:AExit→St→Prop) (i:Int) (k:Nat):=((((zd1 Ls)∧(zd2 Ps)∧(I i=I i∧closedA (I i)=true)∧True)∧((true=true∧some 0=some 0∧0=0∧k=k∧37=37)∧True)∧(es=es∧closedAll es=true)∧True)∧Q (AExit.exit 0) (lsV1 i Ls Ps k es).st)
theorem ls_1 (y:Rw) (i j p:Int) (k:Nat) (Ls Ps Ws es es':List AV) (o:Ob) (M N L C:AV) (s:List UInt8) (Nx:Prop) (Q:AExit→St→Prop):wpK Tryz.prog opts0 40 (lsA y p Ws (obF o M N L C) s) (lpCode Tryz.prog 50 4) (lsV1 i Ls Ps k es).st (roundP 0 [(0,40)] (lsV1 j Ls Ps (k+1) es') Nx [(0,0)] (lsV1 i Ls Ps k es) Q)=
  (mtB (ltInt i (Int.ofNat (lenN Ls))) (mtB (ltInt i 12) (indexAddrA Tryz.prog 22 (AV.fsl false Ls) (I i)=some (AV.fptr (zd5 y) 0)∧SC 23 [I y.2,I (wrapA IntKind.i64 (Int.ofNat (lenN Ps)+1))] (I p)∧indexAddrA Tryz.prog 22 (AV.fsl false Ls) (I i)=some (AV.fptr (zd5 y) 0)∧sliceA Tryz.prog 22 (AV.fsl false Ps) none (some (I p)) none=some (Eff.val (AV.fsl false Ws))∧SC 22 [AV.agg (zd5 y),AV.fsl false Ws] (AV.agg (obF o M N L C))∧oblB (fitsT Tryz.prog 33 (AV.agg (obF o M N L C)) 37) (convA Tryz.prog 23 9 (AV.fsl true [AV.int IntKind.u8 (wrapA IntKind.u8 (wrapA IntKind.i64 (97+i)))])=some (Eff.val (AV.str s))∧oblB ((1+lenN s).ble 9223372036854775807) (oblB (allSize 37 [AV.agg (obF {o with id:=([107]++s)} M N L C)]&&(((k+lenN [AV.agg (obF {o with id:=([107]++s)} M N L C)])*376).ble 140737488355328&&(allOne (flat [AV.agg (obF {o with id:=([107]++s)} M N L C)])&&true))) (oblB ((lenN es).beq (k*37)) ((((zd1 Ls)∧(zd2 Ps)∧(I (wrapA IntKind.i64 (i+1))=I j∧closedA (I j)=true)∧True)∧((true=true∧some 40=some 40∧0=0∧k+1=k+lenN [AV.agg (obF {o with id:=([107]++s)} M N L C)]∧37=37)∧True)∧(es++flat [AV.agg (obF {o with id:=([107]++s)} M N L C)]=es'∧closedAll es'=true)∧True)∧Nx))))) (zd3 Ls Ps es Q i k)) (zd3 Ls Ps es Q i k)):=by kernel_rfl
def lsL (V W:View):LoopS:=fun st Q=>seesK 0 [] V st∧Q (.exit 0) W.st
@[simp] abbrev zd7 (Ls Ps:List AV):=(((zd1 Ls)∧(zd2 Ps)∧zd4∧(I 0=I 0∧true=true)∧True)∧True∧True)
theorem ls_fn0 (i:Int) (Ls Ps:List AV) (Q:AV→Heap→Prop):fnK Tryz.prog opts0 40 (aidJ [] [(4,lsL (lsV0 0 Ls Ps) (lsV0 i Ls Ps))] noSem [] []) 50 [.fsl false Ls,.fsl false Ps] [] 0 (fun v H _=>Q v H)=
  ((zd7 Ls Ps)∧Q AV.nilsl []):=by kernel_rfl
theorem ls_fn1 (i:Int) (Ls Ps:List AV) (k:Nat) (es:List AV) (Q:AV→Heap→Prop):fnK Tryz.prog opts0 40 (aidJ [] [(4,lsL (lsV0 0 Ls Ps) (lsV1 i Ls Ps k es))] noSem [] []) 50 [.fsl false Ls,.fsl false Ps] [] 0 (fun v H _=>Q v H)=
  ((zd7 Ls Ps)∧Q (AV.rsl true 0 0 k 37) [(0,some (Blk.cells es))]):=by kernel_rfl
end
end Go.Proofs.YtjhggnebkfpgcaaGreatDoor
namespace Go.Proofs.YtjhggnebkfpgcaaGreatDoor
set_option maxRecDepth 20000
open Go Go.RowKit
open Go.Proofs.Abs
noncomputable section
def ofV0 (i n:Int) (Ls W:List AV):View:=⟨[(11,.fsl false Ls),(12,I n),(13,I i),(5,.nilsl)],[(2,.ptr 0 0)],[(0,.cells W,.whole)],1,28⟩
def ofV1 (i n:Int) (k:Nat) (Ls W es:List AV):View:=⟨[(11,.fsl false Ls),(12,I n),(13,I i)],[(2,.ptr 0 0),(5,.rsl true 1 0 k 7)],[(0,.cells W,.whole),(1,.cells es,.whole)],2,28⟩
def ofA (x:List AV) (ls:List (Nat × LoopS)):Aid:=aidJ [(4,1,.res (.fptr x 0))] ls noSem [] []
@[simp] abbrev ze1 (a d g m p r re ro:AV) (h:RowH):=([AV.str h.1,I h.2,AV.bool h.3,AV.bool h.4,a,m,re,g,r,p,d,ro]=[AV.str h.1,I h.2,AV.bool h.3,AV.bool h.4,a,m,re,g,r,p,d,ro]∧closedAll [AV.str h.1,I h.2,AV.bool h.3,AV.bool h.4,a,m,re,g,r,p,d,ro]=true)
abbrev ze3 (D K:List AV) (h:RowH) (i q t y:Int):=[AV.agg [AV.str h.1,I i,I t,I y,I q,AV.fsl false D,AV.fsl false K]]
@[simp] abbrev ze4 (Ls:List AV):=(AV.fsl false Ls=AV.fsl false Ls∧closedA (AV.fsl false Ls)=true)
@[simp] abbrev ze6:=(some 0=some 0∧0=0)
@[simp] abbrev ze7 (n:Int):=(I n=I n∧closedA (I n)=true)
theorem of_r0 (h:RowH) (a m re g r p d ro:AV) (i n j:Int) (Ls D K:List AV) (t y q:Int) (es:List AV) (N:Prop) (Q:AExit→St→Prop):wpK Tryz.prog opts0 40 (ofA (itF t y q D K) []) (lpCode Tryz.prog 83 4) (ofV0 i n Ls (rowW h a m re g r p d ro)).st (roundP 0 [(0,0),(1,15)] (ofV1 j n 1 Ls (rowW h a m re g r p d ro) es) N [(0,0)] (ofV0 i n Ls (rowW h a m re g r p d ro)) Q)=
  (mtB (ltInt i n) (indexAddrA Tryz.prog 35 (AV.fsl false Ls) (I i)=some (AV.fptr [I t,I y,I q,AV.fsl false D,AV.fsl false K] 0)∧(((ze4 Ls)∧(ze7 n)∧(I (wrapA IntKind.i64 (i+1))=I j∧closedA (I j)=true)∧True)∧(ze6∧(true=true∧some 15=some 15∧0=0∧1=lenN (ze3 D K h i q t y)∧7=7)∧True)∧(ze1 a d g m p r re ro h)∧(flat (ze3 D K h i q t y)=es∧closedAll es=true)∧True)∧N) ((((ze4 Ls)∧(ze7 n)∧(I i=I i∧closedA (I i)=true)∧(AV.nilsl=AV.nilsl∧true=true)∧True)∧(ze6∧True)∧(ze1 a d g m p r re ro h)∧True)∧Q (AExit.exit 0) (ofV0 i n Ls (rowW h a m re g r p d ro)).st)):=by kernel_rfl
theorem of_r1 (h:RowH) (a m re g r p d ro:AV) (i n j:Int) (k k':Nat) (Ls D K:List AV) (t y q:Int) (es es':List AV) (N:Prop) (Q:AExit→St→Prop):wpK Tryz.prog opts0 40 (ofA (itF t y q D K) []) (lpCode Tryz.prog 83 4) (ofV1 i n k Ls (rowW h a m re g r p d ro) es).st (roundP 0 [(0,0),(1,16)] (ofV1 j n k' Ls (rowW h a m re g r p d ro) es') N [(0,0),(1,1)] (ofV1 i n k Ls (rowW h a m re g r p d ro) es) Q)=
  (mtB (ltInt i n) (indexAddrA Tryz.prog 35 (AV.fsl false Ls) (I i)=some (AV.fptr [I t,I y,I q,AV.fsl false D,AV.fsl false K] 0)∧oblB (allSize 7 (ze3 D K h i q t y)&&(((k+lenN (ze3 D K h i q t y))*96).ble 140737488355328&&(allOne (flat (ze3 D K h i q t y))&&true))) (oblB ((lenN es).beq (k*7)) ((((ze4 Ls)∧(ze7 n)∧(I (wrapA IntKind.i64 (i+1))=I j∧closedA (I j)=true)∧True)∧(ze6∧(true=true∧some 16=some 16∧0=0∧k'=k+lenN (ze3 D K h i q t y)∧7=7)∧True)∧(ze1 a d g m p r re ro h)∧(es++flat (ze3 D K h i q t y)=es'∧closedAll es'=true)∧True)∧N))) ((((ze4 Ls)∧(ze7 n)∧(I i=I i∧closedA (I i)=true)∧True)∧(ze6∧(true=true∧some 1=some 1∧0=0∧k=k∧7=7)∧True)∧(ze1 a d g m p r re ro h)∧(es=es∧closedAll es=true)∧True)∧Q (AExit.exit 0) (ofV1 i n k Ls (rowW h a m re g r p d ro) es).st)):=by kernel_rfl
def ofL0 (i n:Int) (Ls W:List AV):LoopS:=fun st Q=>seesK 0 [(0,0)] (ofV0 0 n Ls W) st∧Q (.exit 0) (ofV0 i n Ls W).st
def ofL1 (i n:Int) (k:Nat) (Ls W es:List AV):LoopS:=fun st Q=>seesK 0 [(0,0)] (ofV0 0 n Ls W) st∧Q (.exit 0) (ofV1 i n k Ls W es).st
def ofG (Ls:List AV) (ls:List (Nat × LoopS)):Aid:=aidJ [] ls (fun _ args _ _=>match args with| .agg _::_=>some (.val (.fsl false Ls))|_=>none) [] []
abbrev ze5 (a d m p r re ro:AV) (c:List AV) (g:Nat) (h:RowH):=[AV.str h.1,I h.2,AV.bool h.3,AV.bool h.4,a,m,re,AV.func (Fn.func g) [] c,r,p,d,ro]
@[simp] abbrev ze2 (Ls c:List AV) (a d m p r re ro:AV) (g:Nat) (h:RowH):=(((ze4 Ls)∧(I (Int.ofNat (lenN Ls))=I (Int.ofNat (lenN Ls))∧closedA (I (Int.ofNat (lenN Ls)))=true)∧(I 0=I 0∧true=true)∧(AV.nilsl=AV.nilsl∧true=true)∧True)∧(ze6∧True)∧((ze5 a d m p r re ro c g h)=(ze5 a d m p r re ro c g h)∧closedAll (ze5 a d m p r re ro c g h)=true)∧True)
theorem of_fn0 (h:RowH) (a m re r p d ro:AV) (g:Nat) (c:List AV) (i:Int) (Ls:List AV) (o:Ob) (M N L C:AV) (Q:AV→Heap→Prop):fnK Tryz.prog opts0 40 (ofG Ls [(4,ofL0 i (.ofNat (lenN Ls)) Ls (rowW h a m re (fnC g c) r p d ro))]) 83 [.agg (rowW h a m re (fnC g c) r p d ro),.agg (obF o M N L C)] [] 0 (fun v H _=>Q v H)=
  (SC g (AV.agg (obF o M N L C)::c) (AV.fsl false Ls)∧(ze2 Ls c a d m p r re ro g h)∧Q AV.nilsl [(0,some (Blk.cells (ze5 a d m p r re ro c g h)))]):=by kernel_rfl
theorem of_fn1 (h:RowH) (a m re r p d ro:AV) (g:Nat) (c:List AV) (i:Int) (k:Nat) (Ls es:List AV) (o:Ob) (M N L C:AV) (Q:AV→Heap→Prop):fnK Tryz.prog opts0 40 (ofG Ls [(4,ofL1 i (.ofNat (lenN Ls)) k Ls (rowW h a m re (fnC g c) r p d ro) es)]) 83 [.agg (rowW h a m re (fnC g c) r p d ro),.agg (obF o M N L C)] [] 0 (fun v H _=>Q v H)=
  (SC g (AV.agg (obF o M N L C)::c) (AV.fsl false Ls)∧(ze2 Ls c a d m p r re ro g h)∧Q (AV.rsl true 1 0 k 7) [(0,some (Blk.cells (ze5 a d m p r re ro c g h))),(1,some (Blk.cells es))]):=by kernel_rfl
def tellL (s:List UInt8):List It→Nat→List At
 |[],_=>[]
 |v::r,i=>⟨s,.ofNat i,v⟩::tellL s r (i+1)
theorem tell_length (s:List UInt8):∀ (l:List It) (i:Nat),(tellL s l i).length=l.length
 |[],_=>rfl
 |_::r,i=>congrArg (· +1) (tell_length s r (i+1))
theorem flat_at:∀l:List At,(flat (l.map atA)).length=l.length*7
 |[]=>rfl
 |⟨_,_,⟨_,_,_,_,_⟩⟩::r=>by
  have ih:=flat_at r
  rw[List.length_cons,Nat.succ_mul,←ih]
  rfl
theorem closed_ats:∀l:List At,closedAll (l.map atA)=true
 |[]=>rfl
 |a::r=>by rw[List.map_cons,closedAll,closed_atA,closed_ats r];rfl
theorem closed_fat:∀l:List At,closedAll (flat (l.map atA))=true
 |[]=>rfl
 |a::r=>by
  have h:=closed_atA a
  rw[List.map_cons,flat,closedAll_append,closed_fat r,Bool.and_true]
  exact h
theorem good_at (a:At):goodEl 7 (atA a):=by
 obtain ⟨s,i,⟨t,y,n,d,ks⟩⟩:=a
 exact ⟨rfl,rfl⟩
section
variable {h:RowH} {a m re g r p d ro:AV} {l:List It}
theorem of_loop1 (hW:closedAll (rowW h a m re g r p d ro)=true) (hb:l.length≤1000) {Q:AExit→St→Prop}:∀ (z:Nat) (pre:List At),pre.length+z=l.length→Q (.exit 0) (ofV1 (.ofNat l.length) (.ofNat l.length) l.length (itAs l) (rowW h a m re g r p d ro) (flat ((pre++tellL h.nm (l.drop pre.length) pre.length).map atA))).st→ALp Tryz.prog opts0.glob 0 (lpCode Tryz.prog 83 4) (ofV1 (.ofNat pre.length) (.ofNat l.length) pre.length (itAs l) (rowW h a m re g r p d ro) (flat (pre.map atA))).st Q:=by
 have hL:closedA (.fsl false (itAs l))=true:=closed_its l
 intro z
 induction z with
 | zero=>
  intro pre hz hq
  rw[Nat.add_zero] at hz
  rw[List.drop_of_length_le (by omega),show tellL h.nm [] pre.length=[] from rfl,List.append_nil] at hq
  have hz':Int.ofNat pre.length=Int.ofNat l.length:=by rw[hz]
  refine ALp.round (A:=ofA (itF 0 0 0 [] []) []) (V1:=ofV1 (.ofNat pre.length) (.ofNat l.length) pre.length (itAs l) (rowW h a m re g r p d ro) (flat (pre.map atA))) (V2:=ofV1 (.ofNat pre.length) (.ofNat l.length) pre.length (itAs l) (rowW h a m re g r p d ro) (flat (pre.map atA))) (F:=ofV1 (.ofNat pre.length) (.ofNat l.length) pre.length (itAs l) (rowW h a m re g r p d ro) (flat (pre.map atA))) (lk:=[(0,0),(1,16)]) (lk':=[(0,0),(1,1)]) base0 aidJ_ok (LsOk.no rfl) .refl ?_
  rw[of_r1]
  refine mtB_of (fun e=> ?_) (fun _=>⟨⟨⟨⟨rfl,hL⟩,⟨rfl,rfl⟩,⟨rfl,rfl⟩,trivial⟩,⟨⟨rfl,rfl⟩,⟨rfl,rfl,rfl,rfl,rfl⟩,trivial⟩,⟨rfl,hW⟩,⟨rfl,closed_fat pre⟩,trivial⟩, ?_⟩)
  ·have e:=ltInt_iff.1 e
   omega
  ·rw[←hz] at hq
   rw[←hz']
   exact hq
 | succ z ih=>
  intro pre hz hq
  have hi:pre.length<l.length:=by omega
  have g1:=List.getElem?_eq_getElem hi
  rw[List.drop_eq_getElem_cons hi] at hq
  revert g1 hq
  generalize l[pre.length]=x
  obtain ⟨t,y,q,dd,ks⟩:=x
  intro hq g1
  have hn:=ih (pre++[⟨h.nm,.ofNat pre.length,.mk t y q dd ks⟩]) (by simp;omega) (by
   rw[List.append_assoc,List.length_append]
   exact hq)
  have e1:(pre++[(⟨h.nm,.ofNat pre.length,.mk t y q dd ks⟩:At)]).length=pre.length+1:=by simp
  have e2:flat ((pre++[(⟨h.nm,.ofNat pre.length,.mk t y q dd ks⟩:At)]).map atA)=flat (pre.map atA)++flat [.agg [.str h.nm,I (.ofNat pre.length),I t,I y,I q,.fsl false (toBytes dd),.fsl false (itAs ks)]]:=by rw[List.map_append,flat_append];rfl
  rw[e1] at hn
  have hw:wrapA .i64 (Int.ofNat pre.length+1)=Int.ofNat (pre.length+1):=wrapA_i64 (by simp;omega) (by simp;omega)
  refine ALp.round (A:=ofA (itF t y q (toBytes dd) (itAs ks)) []) (V1:=ofV1 (.ofNat (pre.length+1)) (.ofNat l.length) (pre.length+1) (itAs l) (rowW h a m re g r p d ro) (flat ((pre++[(⟨h.nm,.ofNat pre.length,.mk t y q dd ks⟩:At)]).map atA))) (V2:=ofV1 (.ofNat (pre.length+1)) (.ofNat l.length) (pre.length+1) (itAs l) (rowW h a m re g r p d ro) (flat ((pre++[(⟨h.nm,.ofNat pre.length,.mk t y q dd ks⟩:At)]).map atA))) (F:=ofV1 (.ofNat pre.length) (.ofNat l.length) pre.length (itAs l) (rowW h a m re g r p d ro) (flat (pre.map atA))) (lk:=[(0,0),(1,16)]) (lk':=[(0,0),(1,1)]) base0 aidJ_ok (LsOk.no rfl) .refl ?_
  rw[of_r1,hw]
  refine mtB_of (fun _=>⟨idxI g1,oblB_of ?_ (oblB_of ?_ ⟨⟨⟨⟨rfl,hL⟩,⟨rfl,rfl⟩,⟨rfl,rfl⟩,trivial⟩,⟨⟨rfl,rfl⟩,⟨rfl,rfl,rfl,rfl,rfl⟩,trivial⟩,⟨rfl,hW⟩,⟨e2.symm,closed_fat _⟩,trivial⟩,hn⟩)⟩) (fun e=> ?_)
  ·simp[allSize,allOne,flat,AV.cells,lenN];omega
  ·simp[lenN_eq,flat_at]
  ·have e:=ltInt_false.1 e
   simp only[Int.ofNat_eq_natCast] at e
   omega
theorem of_loop0 (hW:closedAll (rowW h a m re g r p d ro)=true) (hl:l=[]) {Q:AExit→St→Prop} (hq:Q (.exit 0) (ofV0 0 (.ofNat l.length) (itAs l) (rowW h a m re g r p d ro)).st):ALp Tryz.prog opts0.glob 0 (lpCode Tryz.prog 83 4) (ofV0 0 (.ofNat l.length) (itAs l) (rowW h a m re g r p d ro)).st Q:=by
 have hL:closedA (.fsl false (itAs l))=true:=closed_its l
 refine ALp.round (A:=ofA (itF 0 0 0 [] []) []) (V1:=ofV1 0 (.ofNat l.length) 1 (itAs l) (rowW h a m re g r p d ro) []) (V2:=ofV1 0 (.ofNat l.length) 1 (itAs l) (rowW h a m re g r p d ro) []) (F:=ofV0 0 (.ofNat l.length) (itAs l) (rowW h a m re g r p d ro)) (lk:=[(0,0),(1,15)]) (lk':=[(0,0)]) base0 aidJ_ok (LsOk.no rfl) .refl ?_
 rw[of_r0]
 refine mtB_of (fun e=> ?_) (fun _=>⟨⟨⟨⟨rfl,hL⟩,⟨rfl,rfl⟩,⟨rfl,rfl⟩,⟨rfl,rfl⟩,trivial⟩,⟨⟨rfl,rfl⟩,trivial⟩,⟨rfl,hW⟩,trivial⟩,hq⟩)
 have e:=ltInt_iff.1 e
 subst hl
 simp at e
theorem of_loopN (hW:closedAll (rowW h a m re g r p d ro)=true) (hb:l.length≤1000) (hl:0<l.length) {Q:AExit→St→Prop} (hq:Q (.exit 0) (ofV1 (.ofNat l.length) (.ofNat l.length) l.length (itAs l) (rowW h a m re g r p d ro) (flat ((tellL h.nm l 0).map atA))).st):ALp Tryz.prog opts0.glob 0 (lpCode Tryz.prog 83 4) (ofV0 0 (.ofNat l.length) (itAs l) (rowW h a m re g r p d ro)).st Q:=by
 have hL:closedA (.fsl false (itAs l))=true:=closed_its l
 match l,hb,hl,hL,hq with
 |⟨t,y,q,dd,ks⟩::rs,hb,hl,hL,hq=>
  have hn:=of_loop1 (l:=⟨t,y,q,dd,ks⟩::rs) hW hb (Q:=Q) rs.length [⟨h.nm,.ofNat 0,.mk t y q dd ks⟩] (by simp;omega) hq
  refine ALp.round (A:=ofA (itF t y q (toBytes dd) (itAs ks)) []) (V1:=ofV1 (.ofNat 1) (.ofNat (rs.length+1)) 1 (itAs (⟨t,y,q,dd,ks⟩::rs)) (rowW h a m re g r p d ro) (flat ([(⟨h.nm,.ofNat 0,.mk t y q dd ks⟩:At)].map atA))) (V2:=ofV1 (.ofNat 1) (.ofNat (rs.length+1)) 1 (itAs (⟨t,y,q,dd,ks⟩::rs)) (rowW h a m re g r p d ro) (flat ([(⟨h.nm,.ofNat 0,.mk t y q dd ks⟩:At)].map atA))) (F:=ofV0 0 (.ofNat (rs.length+1)) (itAs (⟨t,y,q,dd,ks⟩::rs)) (rowW h a m re g r p d ro)) (lk:=[(0,0),(1,15)]) (lk':=[(0,0)]) base0 aidJ_ok (LsOk.no rfl) .refl ?_
  have hw:wrapA .i64 (0+1)=Int.ofNat 1:=rfl
  show wpK Tryz.prog opts0 40 _ _ (ofV0 0 (.ofNat (rs.length+1)) (itAs (⟨t,y,q,dd,ks⟩::rs)) (rowW h a m re g r p d ro)).st _
  rw[of_r0,hw]
  refine mtB_of (fun _=>⟨idxI (i:=0) rfl,⟨⟨⟨rfl,hL⟩,⟨rfl,rfl⟩,⟨rfl,rfl⟩,trivial⟩,⟨⟨rfl,rfl⟩,⟨rfl,rfl,rfl,rfl,rfl⟩,trivial⟩,⟨rfl,hW⟩,⟨rfl,closed_fat _⟩,trivial⟩,hn⟩) (fun e=> ?_)
  have e:=ltInt_false.1 e
  simp only[Int.ofNat_eq_natCast] at e
  omega
end
theorem of_at:loopsAt (fnCode Tryz.prog 83) 4=[lpCode Tryz.prog 83 4]:=by kernel_rfl
theorem of_sem {k:Kd} (hk:kdB k=true) {o:Ob} (ho:FitO o) (hg:OkG o k):SC 83 [.agg (rowC k),obA o] (.fsl false ((tellL (nameK k) (getK o k) 0).map atA)):=by
 have hget:=get_sem hk ho
 have hcl:=closed_roc k o (c:=[]) rfl
 have hW:=closed_rowC k
 have hb:=hg.n
 rw[rowC_get] at hcl hW⊢
 have hnm:nameK k=(hdK k).nm:=rfl
 rw[hnm]
 revert hget hb
 generalize getK o k=l
 intro hget hb
 simp only[obA,obC] at hget hcl⊢
 match l,hget,hb with
 | [],hget,hb=>
  refine fnK_semX (A:=ofG (itAs []) [(4,ofL0 0 (.ofNat (lenN (itAs []))) (itAs []) (rowW (hdK k) (addK k) (modK k) (remK k) (fnC (gfn k) (gcp k)) (rightF k) (putF k) (dropF k) (roomF k)))]) base0 aidJ_ok
   (fnLs_of (LsOk.at1 rfl of_at fun st Q hs=> .seen base0.glob hs.1 (of_loop0 (l:=[]) hW rfl hs.2))) hcl ?_
  rw[of_fn0]
  exact ⟨hget,⟨⟨⟨rfl,rfl⟩,⟨rfl,rfl⟩,⟨rfl,rfl⟩,⟨rfl,rfl⟩,trivial⟩,⟨⟨rfl,rfl⟩,trivial⟩,⟨rfl,hW⟩,trivial⟩,.nilsl,(Frz.closed _ rfl).out,rfl,.nil⟩
 | x::r,hget,hb=>
  have hlen:lenN (itAs (x::r))=(x::r).length:=by rw[lenN_eq,its_length]
  have ht:=tell_length (hdK k).nm (x::r) 0
  have hln:closedAll (itAs (x::r))=true:=closed_its _
  refine fnK_semX (A:=ofG (itAs (x::r)) [(4,ofL1 (.ofNat (x::r).length) (.ofNat (lenN (itAs (x::r)))) (x::r).length (itAs (x::r)) (rowW (hdK k) (addK k) (modK k) (remK k) (fnC (gfn k) (gcp k)) (rightF k) (putF k) (dropF k) (roomF k)) (flat ((tellL (hdK k).nm (x::r) 0).map atA)))]) base0 aidJ_ok
   (fnLs_of (LsOk.at1 rfl of_at fun st Q hs=> .seen base0.glob hs.1 (by
    have h2:=hs.2
    have h1:=of_loopN (l:=x::r) hW hb (by simp) (Q:=Q)
    rw[hlen] at h2⊢
    exact h1 h2))) hcl ?_
  rw[of_fn1]
  refine ⟨hget,⟨⟨⟨rfl,hln⟩,⟨rfl,rfl⟩,⟨rfl,rfl⟩,⟨rfl,rfl⟩,trivial⟩,⟨⟨rfl,rfl⟩,trivial⟩,⟨rfl,hW⟩,trivial⟩,.fsl false ((tellL (hdK k).nm (x::r) 0).map atA),(Frz.row rfl rfl rfl (by rw[List.length_map,ht]) (fun e he=>by obtain ⟨a,_,rfl⟩:=List.mem_map.1 he;exact good_at a) (closed_ats _)).out,closed_ats _,.refl _⟩
end
end Go.Proofs.YtjhggnebkfpgcaaGreatDoor
namespace Go.Proofs.YtjhggnebkfpgcaaGreatDoor
open Go Go.RowKit
open Go.Proofs.Abs
noncomputable section
def ofQ (row:AV) (f:Bool) (Ls:List AV):Aid:=aidJ [] [] (manyF [(61,fun _=>some (.tuple [row,.bool f])),(83,fun _=>some (.fsl false Ls))]) [] []
abbrev zf1 (a d g m p r re ro:AV) (h:RowH):=[AV.str h.1,I h.2,AV.bool h.3,AV.bool h.4,a,m,re,g,r,p,d,ro]
theorem ofn_some (h:RowH) (a m re g r p d ro:AV) (Ls:List AV) (s:List UInt8) (o:Ob) (M N L C:AV) (Q:AV→Prop):fnK Tryz.prog opts0 40 (ofQ (.agg (rowW h a m re g r p d ro)) true Ls) 32 [.agg (obF o M N L C),.str s] [] 0 (fun v _ _=>Q v)=
  (SC 61 [AV.str s] (AV.tuple [AV.agg (zf1 a d g m p r re ro h),AV.bool true])∧oblB (fitsT Tryz.prog 89 (AV.agg (zf1 a d g m p r re ro h)) 12) (SC 83 [AV.agg (zf1 a d g m p r re ro h),AV.agg (obF o M N L C)] (AV.fsl false Ls)∧Q (AV.fsl false Ls))):=by kernel_rfl
theorem ofn_none (h:RowH) (a m re g r p d ro:AV) (Ls:List AV) (s:List UInt8) (o:Ob) (M N L C:AV) (Q:AV→Prop):fnK Tryz.prog opts0 40 (ofQ (.agg (rowW h a m re g r p d ro)) false Ls) 32 [.agg (obF o M N L C),.str s] [] 0 (fun v _ _=>Q v)=
  (SC 61 [AV.str s] (AV.tuple [AV.agg (zf1 a d g m p r re ro h),AV.bool false])∧oblB (fitsT Tryz.prog 89 (AV.agg (zf1 a d g m p r re ro h)) 12) (Q AV.nilsl)):=by kernel_rfl
theorem findL_mem {s:List UInt8}:∀ {l:List Kd} {k:Kd},findL s l=some k→k∈l∧nameK k=s
 |[],_,h=>by cases h
 | a::r,k,h=>by
  simp only[findL] at h
  split at h
  ·rename_i e
   cases h
   exact ⟨by simp,beqBytes_iff.1 e⟩
  ·obtain ⟨h1,h2⟩:=findL_mem h
   exact ⟨by simp[h1],h2⟩
theorem find_kd {c:Bool} {s:List UInt8} {k:Kd} (h:findK c s=some k):kdB k=true∧nameK k=s:=by
 unfold findK at h
 split at h
 ·cases h;exact ⟨rfl,rfl⟩
 ·obtain ⟨h1,h2⟩:=findL_mem h
  exact ⟨(by decide:∀k∈kinds,kdB k=true) k h1,h2⟩
def ofS (c:Bool) (o:Ob) (s:List UInt8):List At:=match findK c s with
 |none=>[]
 |some k=>tellL s (getK o k) 0
theorem fits_rowZ:fitsT Tryz.prog 89 rowZ 12=true:=by kernel_rfl
set_option maxRecDepth 20000 in
theorem ofn_sem {c:Bool} {o:Ob} (ho:FitO o) {s:List UInt8} (hc:SC 111 [.str s] (.bool c)) (hg:∀k,OkG o k):SC 32 [obA o,.str s] (.fsl false ((ofS c o s).map atA)):=by
 have hf:=find_sem hc
 have hcl:=closed_oc o (c:=[.str s]) rfl
 unfold ofS
 cases hk:findK c s with
 |none=>
  dsimp only
  rw[hk] at hf
  refine fnK_semE (A:=ofQ rowZ false []) base0 aidJ_ok (fnLs_of (LsOk.no rfl)) hcl ?_
  have e:rowZ= .agg (rowW ⟨[],0,false,false⟩ .nilFunc .nilFunc .nilFunc .nilFunc .nilFunc .nilFunc .nilFunc .nilFunc):=rfl
  rw[rowO,e] at hf
  have hz:=fits_rowZ
  rw[e] at hz⊢
  simp only[obA,obC]
  rw[ofn_none]
  exact ⟨hf,oblB_of hz ⟨rfl,.nil⟩⟩
 |some k=>
  dsimp only
  rw[hk] at hf
  obtain ⟨h1,h2⟩:=find_kd hk
  have hof:=of_sem h1 ho (hg k)
  have hfit:=fits_row k
  rw[h2] at hof
  refine fnK_semE (A:=ofQ (.agg (rowC k)) true ((tellL s (getK o k) 0).map atA)) base0 aidJ_ok (fnLs_of (LsOk.no rfl)) hcl ?_
  rw[rowO_some,fiT] at hf
  rw[rowC_eq] at hf hof hfit⊢
  simp only[obA,obC] at hof⊢
  rw[ofn_some]
  exact ⟨hf,oblB_of hfit ⟨hof,end_self (closed_ats _)⟩⟩
end
end Go.Proofs.YtjhggnebkfpgcaaGreatDoor
