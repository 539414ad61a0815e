import Derived.Test.YtjhggnebkfpgcaaGreatDoorQ2
import Derived.Test.YtjhggnebkfpgcaaGreatDoorG5
import Derived.KernelRfl
import Derived.Test.YtjhggnebkfpgcaaGreatDoorQ1
namespace Go.Proofs.YtjhggnebkfpgcaaGreatDoor
open Go Go.RowKit
open Go.Proofs.Abs
theorem F6 (x y:Operand) (a b:Int):aG Tryz.prog .lss 3 x y (I a) (I b)=some (.bool (ar a b)):=by kernel_rfl
theorem pz {x y:Operand} {a b:Int} (h:a<b):aG Tryz.prog .lss 3 x y (I a) (I b)=some (.bool true):=by rw[F6,ltInt_iff.2 h]
theorem vk {x y:Operand} {a b:Int} (h:b≤a):aG Tryz.prog .lss 3 x y (I a) (I b)=some (.bool false):=by rw[F6,ltInt_false.2 h]
theorem pk {n m v:Int} (h:n%m=v) (h0:0<m) (h1:m≤4611686018427387904):SC 23 [I n,I m] (I v):=h▸bm n h0 h1
structure bT (i:Nat) (Rs:List AV) (y:Rw):Prop where
 c:ad Rs=true
 a:aG Tryz.prog .lss 3 (.tmp 55) (.tmp 57) (I (.ofNat i)) (I (.ofNat (ab Rs)))=some (.bool true)
 b:aG Tryz.prog .lss 3 (.tmp 60) (.const (.int .i64 10)) (I (.ofNat i)) (I 10)=some (.bool true)
 x:ax Tryz.prog 22 (.fsl false Rs) (I (.ofNat i))=some (.fptr (kq y) 0)
 w:af .i64 (Int.ofNat i+1)=Int.ofNat (i+1)
theorem fv:∀l:List Rw,ad (l.map aJ)=true
 |[]=>rfl
 |_::r=>fv r
theorem Ri {l:List Rw} {i:Nat} {y:Rw} (h:l[i]? =some y) (hi:i<10):bT i (l.map aJ) y:=by
 refine ⟨fv l,pz ?_,pz ?_, ?_,co (by simp;omega) (by simp;omega)⟩
 ·obtain ⟨h1,_⟩:=List.getElem?_eq_some_iff.1 h
  simp only[aI,List.length_map,Int.ofNat_eq_natCast]
  omega
 ·simp only[Int.ofNat_eq_natCast];omega
 ·exact fY (v:=aJ y) (e:=42) (sz:=4) (by kernel_rfl) (by kernel_rfl) (by rw[List.getElem?_map,h];rfl) rfl
abbrev bU (S S':St):Prop:=∀Q,ALp Tryz.prog opts0.glob 0 (ah Tryz.prog 22 5) S' Q→ALp Tryz.prog opts0.glob 0 (ah Tryz.prog 22 5) S Q
def Rv (k:Nat) (A:AV):Prop:=∀lk,aY lk k=some k→cw lk A A
theorem nF {α:Type} {T:Nat} {l:List α} {d:α} {f:α→AV} {n:Int} (hl:l≠[]) (h:∀ (k:Nat) x,l[k]? =some x→aZ Tryz.prog T (.agg (l.map f)) (I (k:Int))=some (f x)):aZ Tryz.prog T (.agg (l.map f)) (I (n%(l.length:Int)))=some (f (aD l d n)):=by
 have hp:0<l.length:=List.length_pos_iff.2 hl
 obtain ⟨k,h1,h2⟩:=pe (n:=n) (m:=(l.length:Int)) (by omega)
 have hk:k<l.length:=by omega
 have e:=List.getElem?_eq_getElem hk
 unfold aD
 rw[h1,Int.toNat_natCast,e]
 exact h k _ e
theorem Rj {y:Rw} {i:Nat} {Rs:List AV} {M N L C:AV} {BN BL BC:Option Blk} (o:Ob) (g:bT i Rs y) (hM:ac M=true) (rN:Rv 1 N) (rL:Rv 2 L) (rC:Rv 3 C) (bn:ai BN) (bl:ai BL) (bc:ai BC) (hk:y.k%9=0) (ha:y.a%10=0):bU (aE (oW (.ofNat i) Rs (aa o M N L C) []) [(1,BN),(2,BL),(3,BC)]) (aE (oW (.ofNat (i+1)) Rs (aa (aO o ⟨true,y.b%60⟩ 0) M N L C) []) [(1,BN),(2,BL),(3,BC)]):=by
 intro Q hq
 refine ALp.roundO (A:=oA 0 0 y [] [] none []) (V1:=oW (.ofNat (i+1)) Rs (aa (aO o ⟨true,y.b%60⟩ 0) M N L C) []) (F:=oW (.ofNat i) Rs [] []) (opt:=[(1,BN),(2,BL),(3,BC)]) (opt':=[]) (lk:=[(0,0),(1,1),(2,2),(3,3),(4,4)]) (lk':=[]) base0 am (LsOk.no rfl) .refl ?_
 rw[Qn,g.w]
 exact ⟨g.a,g.b,g.x,pk hk (by decide) (by decide),pk ha (by decide) (by decide),bm _ (by decide) (by decide),⟨⟨⟨⟨⟨rfl,g.c⟩,⟨rfl,rfl⟩,trivial⟩,⟨⟨rfl,rfl⟩,⟨rfl,rfl⟩,trivial⟩,bp (o:=(aO o ⟨true,y.b%60⟩ 0)) hM (rN _ rfl) (rL _ rfl) (rC _ rfl),⟨rfl,rfl⟩,trivial⟩,⟨rfl,bn⟩,⟨rfl,bl⟩,⟨rfl,bc⟩,trivial⟩,hq⟩⟩
theorem Rk {y:Rw} {i:Nat} {Rs:List AV} {M N L C:AV} {BN BL BC:Option Blk} (o:Ob) (g:bT i Rs y) (hM:ac M=true) (rN:Rv 1 N) (rL:Rv 2 L) (rC:Rv 3 C) (bn:ai BN) (bl:ai BL) (bc:ai BC) (hk:y.k%9=0) (ha:y.a%10=1):bU (aE (oW (.ofNat i) Rs (aa o M N L C) []) [(1,BN),(2,BL),(3,BC)]) (aE (oW (.ofNat (i+1)) Rs (aa (aO o ⟨true,y.b%60⟩ 1) M N L C) []) [(1,BN),(2,BL),(3,BC)]):=by
 intro Q hq
 refine ALp.roundO (A:=oA 0 1 y [] [] none []) (V1:=oW (.ofNat (i+1)) Rs (aa (aO o ⟨true,y.b%60⟩ 1) M N L C) []) (F:=oW (.ofNat i) Rs [] []) (opt:=[(1,BN),(2,BL),(3,BC)]) (opt':=[]) (lk:=[(0,0),(1,1),(2,2),(3,3),(4,4)]) (lk':=[]) base0 am (LsOk.no rfl) .refl ?_
 rw[Qo,g.w]
 exact ⟨g.a,g.b,g.x,pk hk (by decide) (by decide),pk ha (by decide) (by decide),bm _ (by decide) (by decide),⟨⟨⟨⟨⟨rfl,g.c⟩,⟨rfl,rfl⟩,trivial⟩,⟨⟨rfl,rfl⟩,⟨rfl,rfl⟩,trivial⟩,bp (o:=(aO o ⟨true,y.b%60⟩ 1)) hM (rN _ rfl) (rL _ rfl) (rC _ rfl),⟨rfl,rfl⟩,trivial⟩,⟨rfl,bn⟩,⟨rfl,bl⟩,⟨rfl,bc⟩,trivial⟩,hq⟩⟩
theorem Rl {y:Rw} {i:Nat} {Rs:List AV} {M N L C:AV} {BN BL BC:Option Blk} (o:Ob) (g:bT i Rs y) (hM:ac M=true) (rN:Rv 1 N) (rL:Rv 2 L) (rC:Rv 3 C) (bn:ai BN) (bl:ai BL) (bc:ai BC) (hk:y.k%9=0) (ha:y.a%10=2):bU (aE (oW (.ofNat i) Rs (aa o M N L C) []) [(1,BN),(2,BL),(3,BC)]) (aE (oW (.ofNat (i+1)) Rs (aa (aO o ⟨true,y.b%60⟩ 2) M N L C) []) [(1,BN),(2,BL),(3,BC)]):=by
 intro Q hq
 refine ALp.roundO (A:=oA 0 2 y [] [] none []) (V1:=oW (.ofNat (i+1)) Rs (aa (aO o ⟨true,y.b%60⟩ 2) M N L C) []) (F:=oW (.ofNat i) Rs [] []) (opt:=[(1,BN),(2,BL),(3,BC)]) (opt':=[]) (lk:=[(0,0),(1,1),(2,2),(3,3),(4,4)]) (lk':=[]) base0 am (LsOk.no rfl) .refl ?_
 rw[Qp,g.w]
 exact ⟨g.a,g.b,g.x,pk hk (by decide) (by decide),pk ha (by decide) (by decide),bm _ (by decide) (by decide),⟨⟨⟨⟨⟨rfl,g.c⟩,⟨rfl,rfl⟩,trivial⟩,⟨⟨rfl,rfl⟩,⟨rfl,rfl⟩,trivial⟩,bp (o:=(aO o ⟨true,y.b%60⟩ 2)) hM (rN _ rfl) (rL _ rfl) (rC _ rfl),⟨rfl,rfl⟩,trivial⟩,⟨rfl,bn⟩,⟨rfl,bl⟩,⟨rfl,bc⟩,trivial⟩,hq⟩⟩
theorem Rm {y:Rw} {i:Nat} {Rs:List AV} {M N L C:AV} {BN BL BC:Option Blk} (o:Ob) (g:bT i Rs y) (hM:ac M=true) (rN:Rv 1 N) (rL:Rv 2 L) (rC:Rv 3 C) (bn:ai BN) (bl:ai BL) (bc:ai BC) (hk:y.k%9=0) (ha:y.a%10=3):bU (aE (oW (.ofNat i) Rs (aa o M N L C) []) [(1,BN),(2,BL),(3,BC)]) (aE (oW (.ofNat (i+1)) Rs (aa (aO o ⟨true,y.b%60⟩ 3) M N L C) []) [(1,BN),(2,BL),(3,BC)]):=by
 intro Q hq
 refine ALp.roundO (A:=oA 0 3 y [] [] none []) (V1:=oW (.ofNat (i+1)) Rs (aa (aO o ⟨true,y.b%60⟩ 3) M N L C) []) (F:=oW (.ofNat i) Rs [] []) (opt:=[(1,BN),(2,BL),(3,BC)]) (opt':=[]) (lk:=[(0,0),(1,1),(2,2),(3,3),(4,4)]) (lk':=[]) base0 am (LsOk.no rfl) .refl ?_
 rw[Qq,g.w]
 exact ⟨g.a,g.b,g.x,pk hk (by decide) (by decide),pk ha (by decide) (by decide),bm _ (by decide) (by decide),⟨⟨⟨⟨⟨rfl,g.c⟩,⟨rfl,rfl⟩,trivial⟩,⟨⟨rfl,rfl⟩,⟨rfl,rfl⟩,trivial⟩,bp (o:=(aO o ⟨true,y.b%60⟩ 3)) hM (rN _ rfl) (rL _ rfl) (rC _ rfl),⟨rfl,rfl⟩,trivial⟩,⟨rfl,bn⟩,⟨rfl,bl⟩,⟨rfl,bc⟩,trivial⟩,hq⟩⟩
theorem Rn {y:Rw} {i:Nat} {Rs:List AV} {M N L C:AV} {BN BL BC:Option Blk} (o:Ob) (g:bT i Rs y) (hM:ac M=true) (rN:Rv 1 N) (rL:Rv 2 L) (rC:Rv 3 C) (bn:ai BN) (bl:ai BL) (bc:ai BC) (hk:y.k%9=0) (ha:y.a%10=4):bU (aE (oW (.ofNat i) Rs (aa o M N L C) []) [(1,BN),(2,BL),(3,BC)]) (aE (oW (.ofNat (i+1)) Rs (aa (aO o ⟨true,y.b%60⟩ 4) M N L C) []) [(1,BN),(2,BL),(3,BC)]):=by
 intro Q hq
 refine ALp.roundO (A:=oA 0 4 y [] [] none []) (V1:=oW (.ofNat (i+1)) Rs (aa (aO o ⟨true,y.b%60⟩ 4) M N L C) []) (F:=oW (.ofNat i) Rs [] []) (opt:=[(1,BN),(2,BL),(3,BC)]) (opt':=[]) (lk:=[(0,0),(1,1),(2,2),(3,3),(4,4)]) (lk':=[]) base0 am (LsOk.no rfl) .refl ?_
 rw[Qr,g.w]
 exact ⟨g.a,g.b,g.x,pk hk (by decide) (by decide),pk ha (by decide) (by decide),bm _ (by decide) (by decide),⟨⟨⟨⟨⟨rfl,g.c⟩,⟨rfl,rfl⟩,trivial⟩,⟨⟨rfl,rfl⟩,⟨rfl,rfl⟩,trivial⟩,bp (o:=(aO o ⟨true,y.b%60⟩ 4)) hM (rN _ rfl) (rL _ rfl) (rC _ rfl),⟨rfl,rfl⟩,trivial⟩,⟨rfl,bn⟩,⟨rfl,bl⟩,⟨rfl,bc⟩,trivial⟩,hq⟩⟩
theorem Ro {y:Rw} {i:Nat} {Rs:List AV} {M N L C:AV} {BN BL BC:Option Blk} (o:Ob) (g:bT i Rs y) (hM:ac M=true) (rN:Rv 1 N) (rL:Rv 2 L) (rC:Rv 3 C) (bn:ai BN) (bl:ai BL) (bc:ai BC) (hk:y.k%9=0) (ha:y.a%10=5):bU (aE (oW (.ofNat i) Rs (aa o M N L C) []) [(1,BN),(2,BL),(3,BC)]) (aE (oW (.ofNat (i+1)) Rs (aa (aO o ⟨true,y.b%60⟩ 5) M N L C) []) [(1,BN),(2,BL),(3,BC)]):=by
 intro Q hq
 refine ALp.roundO (A:=oA 0 5 y [] [] none []) (V1:=oW (.ofNat (i+1)) Rs (aa (aO o ⟨true,y.b%60⟩ 5) M N L C) []) (F:=oW (.ofNat i) Rs [] []) (opt:=[(1,BN),(2,BL),(3,BC)]) (opt':=[]) (lk:=[(0,0),(1,1),(2,2),(3,3),(4,4)]) (lk':=[]) base0 am (LsOk.no rfl) .refl ?_
 rw[Qs,g.w]
 exact ⟨g.a,g.b,g.x,pk hk (by decide) (by decide),pk ha (by decide) (by decide),bm _ (by decide) (by decide),⟨⟨⟨⟨⟨rfl,g.c⟩,⟨rfl,rfl⟩,trivial⟩,⟨⟨rfl,rfl⟩,⟨rfl,rfl⟩,trivial⟩,bp (o:=(aO o ⟨true,y.b%60⟩ 5)) hM (rN _ rfl) (rL _ rfl) (rC _ rfl),⟨rfl,rfl⟩,trivial⟩,⟨rfl,bn⟩,⟨rfl,bl⟩,⟨rfl,bc⟩,trivial⟩,hq⟩⟩
theorem Rp {y:Rw} {i:Nat} {Rs:List AV} {M N L C:AV} {BN BL BC:Option Blk} (o:Ob) (g:bT i Rs y) (hM:ac M=true) (rN:Rv 1 N) (rL:Rv 2 L) (rC:Rv 3 C) (bn:ai BN) (bl:ai BL) (bc:ai BC) (hk:y.k%9=0) (ha:y.a%10=6):bU (aE (oW (.ofNat i) Rs (aa o M N L C) []) [(1,BN),(2,BL),(3,BC)]) (aE (oW (.ofNat (i+1)) Rs (aa (aO o ⟨true,y.b%60⟩ 6) M N L C) []) [(1,BN),(2,BL),(3,BC)]):=by
 intro Q hq
 refine ALp.roundO (A:=oA 0 6 y [] [] none []) (V1:=oW (.ofNat (i+1)) Rs (aa (aO o ⟨true,y.b%60⟩ 6) M N L C) []) (F:=oW (.ofNat i) Rs [] []) (opt:=[(1,BN),(2,BL),(3,BC)]) (opt':=[]) (lk:=[(0,0),(1,1),(2,2),(3,3),(4,4)]) (lk':=[]) base0 am (LsOk.no rfl) .refl ?_
 rw[Qt,g.w]
 exact ⟨g.a,g.b,g.x,pk hk (by decide) (by decide),pk ha (by decide) (by decide),bm _ (by decide) (by decide),⟨⟨⟨⟨⟨rfl,g.c⟩,⟨rfl,rfl⟩,trivial⟩,⟨⟨rfl,rfl⟩,⟨rfl,rfl⟩,trivial⟩,bp (o:=(aO o ⟨true,y.b%60⟩ 6)) hM (rN _ rfl) (rL _ rfl) (rC _ rfl),⟨rfl,rfl⟩,trivial⟩,⟨rfl,bn⟩,⟨rfl,bl⟩,⟨rfl,bc⟩,trivial⟩,hq⟩⟩
theorem Rq {y:Rw} {i:Nat} {Rs:List AV} {M N L C:AV} {BN BL BC:Option Blk} (o:Ob) (g:bT i Rs y) (hM:ac M=true) (rN:Rv 1 N) (rL:Rv 2 L) (rC:Rv 3 C) (bn:ai BN) (bl:ai BL) (bc:ai BC) (hk:y.k%9=0) (ha:y.a%10=7):bU (aE (oW (.ofNat i) Rs (aa o M N L C) []) [(1,BN),(2,BL),(3,BC)]) (aE (oW (.ofNat (i+1)) Rs (aa (aO o ⟨true,y.b%60⟩ 7) M N L C) []) [(1,BN),(2,BL),(3,BC)]):=by
 intro Q hq
 refine ALp.roundO (A:=oA 0 7 y [] [] none []) (V1:=oW (.ofNat (i+1)) Rs (aa (aO o ⟨true,y.b%60⟩ 7) M N L C) []) (F:=oW (.ofNat i) Rs [] []) (opt:=[(1,BN),(2,BL),(3,BC)]) (opt':=[]) (lk:=[(0,0),(1,1),(2,2),(3,3),(4,4)]) (lk':=[]) base0 am (LsOk.no rfl) .refl ?_
 rw[Qu,g.w]
 exact ⟨g.a,g.b,g.x,pk hk (by decide) (by decide),pk ha (by decide) (by decide),bm _ (by decide) (by decide),⟨⟨⟨⟨⟨rfl,g.c⟩,⟨rfl,rfl⟩,trivial⟩,⟨⟨rfl,rfl⟩,⟨rfl,rfl⟩,trivial⟩,bp (o:=(aO o ⟨true,y.b%60⟩ 7)) hM (rN _ rfl) (rL _ rfl) (rC _ rfl),⟨rfl,rfl⟩,trivial⟩,⟨rfl,bn⟩,⟨rfl,bl⟩,⟨rfl,bc⟩,trivial⟩,hq⟩⟩
theorem Rr {y:Rw} {i:Nat} {Rs:List AV} {M N L C:AV} {BN BL BC:Option Blk} (o:Ob) (g:bT i Rs y) (hM:ac M=true) (rN:Rv 1 N) (rL:Rv 2 L) (rC:Rv 3 C) (bn:ai BN) (bl:ai BL) (bc:ai BC) (hk:y.k%9=0) (ha:y.a%10=8):bU (aE (oW (.ofNat i) Rs (aa o M N L C) []) [(1,BN),(2,BL),(3,BC)]) (aE (oW (.ofNat (i+1)) Rs (aa (aO o ⟨true,y.b%60⟩ 8) M N L C) []) [(1,BN),(2,BL),(3,BC)]):=by
 intro Q hq
 refine ALp.roundO (A:=oA 0 8 y [] [] none []) (V1:=oW (.ofNat (i+1)) Rs (aa (aO o ⟨true,y.b%60⟩ 8) M N L C) []) (F:=oW (.ofNat i) Rs [] []) (opt:=[(1,BN),(2,BL),(3,BC)]) (opt':=[]) (lk:=[(0,0),(1,1),(2,2),(3,3),(4,4)]) (lk':=[]) base0 am (LsOk.no rfl) .refl ?_
 rw[Qv,g.w]
 exact ⟨g.a,g.b,g.x,pk hk (by decide) (by decide),pk ha (by decide) (by decide),bm _ (by decide) (by decide),⟨⟨⟨⟨⟨rfl,g.c⟩,⟨rfl,rfl⟩,trivial⟩,⟨⟨rfl,rfl⟩,⟨rfl,rfl⟩,trivial⟩,bp (o:=(aO o ⟨true,y.b%60⟩ 8)) hM (rN _ rfl) (rL _ rfl) (rC _ rfl),⟨rfl,rfl⟩,trivial⟩,⟨rfl,bn⟩,⟨rfl,bl⟩,⟨rfl,bc⟩,trivial⟩,hq⟩⟩
theorem Rt {y:Rw} {i:Nat} {Rs:List AV} {M N L C:AV} {BN BL BC:Option Blk} (o:Ob) (g:bT i Rs y) (hM:ac M=true) (rN:Rv 1 N) (rL:Rv 2 L) (rC:Rv 3 C) (bn:ai BN) (bl:ai BL) (bc:ai BC) (hk:y.k%9=0) (ha:y.a%10=9):bU (aE (oW (.ofNat i) Rs (aa o M N L C) []) [(1,BN),(2,BL),(3,BC)]) (aE (oW (.ofNat (i+1)) Rs (aa (aO o ⟨true,y.b%60⟩ 9) M N L C) []) [(1,BN),(2,BL),(3,BC)]):=by
 intro Q hq
 refine ALp.roundO (A:=oA 0 9 y [] [] none []) (V1:=oW (.ofNat (i+1)) Rs (aa (aO o ⟨true,y.b%60⟩ 9) M N L C) []) (F:=oW (.ofNat i) Rs [] []) (opt:=[(1,BN),(2,BL),(3,BC)]) (opt':=[]) (lk:=[(0,0),(1,1),(2,2),(3,3),(4,4)]) (lk':=[]) base0 am (LsOk.no rfl) .refl ?_
 rw[Qw,g.w]
 exact ⟨g.a,g.b,g.x,pk hk (by decide) (by decide),pk ha (by decide) (by decide),bm _ (by decide) (by decide),⟨⟨⟨⟨⟨rfl,g.c⟩,⟨rfl,rfl⟩,trivial⟩,⟨⟨rfl,rfl⟩,⟨rfl,rfl⟩,trivial⟩,bp (o:=(aO o ⟨true,y.b%60⟩ 9)) hM (rN _ rfl) (rL _ rfl) (rC _ rfl),⟨rfl,rfl⟩,trivial⟩,⟨rfl,bn⟩,⟨rfl,bl⟩,⟨rfl,bc⟩,trivial⟩,hq⟩⟩
theorem Ru {y:Rw} {i:Nat} {Rs:List AV} {M N L C:AV} {BN BL BC:Option Blk} (o:Ob) (g:bT i Rs y) (hM:ac M=true) (rN:Rv 1 N) (rL:Rv 2 L) (rC:Rv 3 C) (bn:ai BN) (bl:ai BL) (bc:ai BC) (hk:y.k%9=1) (ha:y.a%10=0):bU (aE (oW (.ofNat i) Rs (aa o M N L C) []) [(1,BN),(2,BL),(3,BC)]) (aE (oW (.ofNat (i+1)) Rs (aa (aO o ⟨true,y.b%60⟩ 0) M N L C) []) [(1,BN),(2,BL),(3,BC)]):=by
 intro Q hq
 refine ALp.roundO (A:=oA 1 0 y [] [] none []) (V1:=oW (.ofNat (i+1)) Rs (aa (aO o ⟨true,y.b%60⟩ 0) M N L C) []) (F:=oW (.ofNat i) Rs [] []) (opt:=[(1,BN),(2,BL),(3,BC)]) (opt':=[]) (lk:=[(0,0),(1,1),(2,2),(3,3),(4,4)]) (lk':=[]) base0 am (LsOk.no rfl) .refl ?_
 rw[Qx,g.w]
 exact ⟨g.a,g.b,g.x,pk hk (by decide) (by decide),pk ha (by decide) (by decide),bm _ (by decide) (by decide),⟨⟨⟨⟨⟨rfl,g.c⟩,⟨rfl,rfl⟩,trivial⟩,⟨⟨rfl,rfl⟩,⟨rfl,rfl⟩,trivial⟩,bp (o:=(aO o ⟨true,y.b%60⟩ 0)) hM (rN _ rfl) (rL _ rfl) (rC _ rfl),⟨rfl,rfl⟩,trivial⟩,⟨rfl,bn⟩,⟨rfl,bl⟩,⟨rfl,bc⟩,trivial⟩,hq⟩⟩
theorem Rx {y:Rw} {i:Nat} {Rs:List AV} {M N L C:AV} {BN BL BC:Option Blk} (o:Ob) (g:bT i Rs y) (hM:ac M=true) (rN:Rv 1 N) (rL:Rv 2 L) (rC:Rv 3 C) (bn:ai BN) (bl:ai BL) (bc:ai BC) (hk:y.k%9=1) (ha:y.a%10=1):bU (aE (oW (.ofNat i) Rs (aa o M N L C) []) [(1,BN),(2,BL),(3,BC)]) (aE (oW (.ofNat (i+1)) Rs (aa (aO o ⟨true,y.b%60⟩ 1) M N L C) []) [(1,BN),(2,BL),(3,BC)]):=by
 intro Q hq
 refine ALp.roundO (A:=oA 1 1 y [] [] none []) (V1:=oW (.ofNat (i+1)) Rs (aa (aO o ⟨true,y.b%60⟩ 1) M N L C) []) (F:=oW (.ofNat i) Rs [] []) (opt:=[(1,BN),(2,BL),(3,BC)]) (opt':=[]) (lk:=[(0,0),(1,1),(2,2),(3,3),(4,4)]) (lk':=[]) base0 am (LsOk.no rfl) .refl ?_
 rw[Qy,g.w]
 exact ⟨g.a,g.b,g.x,pk hk (by decide) (by decide),pk ha (by decide) (by decide),bm _ (by decide) (by decide),⟨⟨⟨⟨⟨rfl,g.c⟩,⟨rfl,rfl⟩,trivial⟩,⟨⟨rfl,rfl⟩,⟨rfl,rfl⟩,trivial⟩,bp (o:=(aO o ⟨true,y.b%60⟩ 1)) hM (rN _ rfl) (rL _ rfl) (rC _ rfl),⟨rfl,rfl⟩,trivial⟩,⟨rfl,bn⟩,⟨rfl,bl⟩,⟨rfl,bc⟩,trivial⟩,hq⟩⟩
theorem Ry {y:Rw} {i:Nat} {Rs:List AV} {M N L C:AV} {BN BL BC:Option Blk} (o:Ob) (g:bT i Rs y) (hM:ac M=true) (rN:Rv 1 N) (rL:Rv 2 L) (rC:Rv 3 C) (bn:ai BN) (bl:ai BL) (bc:ai BC) (hk:y.k%9=1) (ha:y.a%10=2):bU (aE (oW (.ofNat i) Rs (aa o M N L C) []) [(1,BN),(2,BL),(3,BC)]) (aE (oW (.ofNat (i+1)) Rs (aa (aO o ⟨true,y.b%60⟩ 2) M N L C) []) [(1,BN),(2,BL),(3,BC)]):=by
 intro Q hq
 refine ALp.roundO (A:=oA 1 2 y [] [] none []) (V1:=oW (.ofNat (i+1)) Rs (aa (aO o ⟨true,y.b%60⟩ 2) M N L C) []) (F:=oW (.ofNat i) Rs [] []) (opt:=[(1,BN),(2,BL),(3,BC)]) (opt':=[]) (lk:=[(0,0),(1,1),(2,2),(3,3),(4,4)]) (lk':=[]) base0 am (LsOk.no rfl) .refl ?_
 rw[Qz,g.w]
 exact ⟨g.a,g.b,g.x,pk hk (by decide) (by decide),pk ha (by decide) (by decide),bm _ (by decide) (by decide),⟨⟨⟨⟨⟨rfl,g.c⟩,⟨rfl,rfl⟩,trivial⟩,⟨⟨rfl,rfl⟩,⟨rfl,rfl⟩,trivial⟩,bp (o:=(aO o ⟨true,y.b%60⟩ 2)) hM (rN _ rfl) (rL _ rfl) (rC _ rfl),⟨rfl,rfl⟩,trivial⟩,⟨rfl,bn⟩,⟨rfl,bl⟩,⟨rfl,bc⟩,trivial⟩,hq⟩⟩
theorem Rz {y:Rw} {i:Nat} {Rs:List AV} {M N L C:AV} {BN BL BC:Option Blk} (o:Ob) (g:bT i Rs y) (hM:ac M=true) (rN:Rv 1 N) (rL:Rv 2 L) (rC:Rv 3 C) (bn:ai BN) (bl:ai BL) (bc:ai BC) (hk:y.k%9=1) (ha:y.a%10=3):bU (aE (oW (.ofNat i) Rs (aa o M N L C) []) [(1,BN),(2,BL),(3,BC)]) (aE (oW (.ofNat (i+1)) Rs (aa (aO o ⟨true,y.b%60⟩ 3) M N L C) []) [(1,BN),(2,BL),(3,BC)]):=by
 intro Q hq
 refine ALp.roundO (A:=oA 1 3 y [] [] none []) (V1:=oW (.ofNat (i+1)) Rs (aa (aO o ⟨true,y.b%60⟩ 3) M N L C) []) (F:=oW (.ofNat i) Rs [] []) (opt:=[(1,BN),(2,BL),(3,BC)]) (opt':=[]) (lk:=[(0,0),(1,1),(2,2),(3,3),(4,4)]) (lk':=[]) base0 am (LsOk.no rfl) .refl ?_
 rw[QA,g.w]
 exact ⟨g.a,g.b,g.x,pk hk (by decide) (by decide),pk ha (by decide) (by decide),bm _ (by decide) (by decide),⟨⟨⟨⟨⟨rfl,g.c⟩,⟨rfl,rfl⟩,trivial⟩,⟨⟨rfl,rfl⟩,⟨rfl,rfl⟩,trivial⟩,bp (o:=(aO o ⟨true,y.b%60⟩ 3)) hM (rN _ rfl) (rL _ rfl) (rC _ rfl),⟨rfl,rfl⟩,trivial⟩,⟨rfl,bn⟩,⟨rfl,bl⟩,⟨rfl,bc⟩,trivial⟩,hq⟩⟩
theorem RA {y:Rw} {i:Nat} {Rs:List AV} {M N L C:AV} {BN BL BC:Option Blk} (o:Ob) (g:bT i Rs y) (hM:ac M=true) (rN:Rv 1 N) (rL:Rv 2 L) (rC:Rv 3 C) (bn:ai BN) (bl:ai BL) (bc:ai BC) (hk:y.k%9=1) (ha:y.a%10=4):bU (aE (oW (.ofNat i) Rs (aa o M N L C) []) [(1,BN),(2,BL),(3,BC)]) (aE (oW (.ofNat (i+1)) Rs (aa (aO o ⟨true,y.b%60⟩ 4) M N L C) []) [(1,BN),(2,BL),(3,BC)]):=by
 intro Q hq
 refine ALp.roundO (A:=oA 1 4 y [] [] none []) (V1:=oW (.ofNat (i+1)) Rs (aa (aO o ⟨true,y.b%60⟩ 4) M N L C) []) (F:=oW (.ofNat i) Rs [] []) (opt:=[(1,BN),(2,BL),(3,BC)]) (opt':=[]) (lk:=[(0,0),(1,1),(2,2),(3,3),(4,4)]) (lk':=[]) base0 am (LsOk.no rfl) .refl ?_
 rw[QB,g.w]
 exact ⟨g.a,g.b,g.x,pk hk (by decide) (by decide),pk ha (by decide) (by decide),bm _ (by decide) (by decide),⟨⟨⟨⟨⟨rfl,g.c⟩,⟨rfl,rfl⟩,trivial⟩,⟨⟨rfl,rfl⟩,⟨rfl,rfl⟩,trivial⟩,bp (o:=(aO o ⟨true,y.b%60⟩ 4)) hM (rN _ rfl) (rL _ rfl) (rC _ rfl),⟨rfl,rfl⟩,trivial⟩,⟨rfl,bn⟩,⟨rfl,bl⟩,⟨rfl,bc⟩,trivial⟩,hq⟩⟩
theorem RB {y:Rw} {i:Nat} {Rs:List AV} {M N L C:AV} {BN BL BC:Option Blk} (o:Ob) (g:bT i Rs y) (hM:ac M=true) (rN:Rv 1 N) (rL:Rv 2 L) (rC:Rv 3 C) (bn:ai BN) (bl:ai BL) (bc:ai BC) (hk:y.k%9=1) (ha:y.a%10=5):bU (aE (oW (.ofNat i) Rs (aa o M N L C) []) [(1,BN),(2,BL),(3,BC)]) (aE (oW (.ofNat (i+1)) Rs (aa (aO o ⟨true,y.b%60⟩ 5) M N L C) []) [(1,BN),(2,BL),(3,BC)]):=by
 intro Q hq
 refine ALp.roundO (A:=oA 1 5 y [] [] none []) (V1:=oW (.ofNat (i+1)) Rs (aa (aO o ⟨true,y.b%60⟩ 5) M N L C) []) (F:=oW (.ofNat i) Rs [] []) (opt:=[(1,BN),(2,BL),(3,BC)]) (opt':=[]) (lk:=[(0,0),(1,1),(2,2),(3,3),(4,4)]) (lk':=[]) base0 am (LsOk.no rfl) .refl ?_
 rw[QC,g.w]
 exact ⟨g.a,g.b,g.x,pk hk (by decide) (by decide),pk ha (by decide) (by decide),bm _ (by decide) (by decide),⟨⟨⟨⟨⟨rfl,g.c⟩,⟨rfl,rfl⟩,trivial⟩,⟨⟨rfl,rfl⟩,⟨rfl,rfl⟩,trivial⟩,bp (o:=(aO o ⟨true,y.b%60⟩ 5)) hM (rN _ rfl) (rL _ rfl) (rC _ rfl),⟨rfl,rfl⟩,trivial⟩,⟨rfl,bn⟩,⟨rfl,bl⟩,⟨rfl,bc⟩,trivial⟩,hq⟩⟩
theorem RC {y:Rw} {i:Nat} {Rs:List AV} {M N L C:AV} {BN BL BC:Option Blk} (o:Ob) (g:bT i Rs y) (hM:ac M=true) (rN:Rv 1 N) (rL:Rv 2 L) (rC:Rv 3 C) (bn:ai BN) (bl:ai BL) (bc:ai BC) (hk:y.k%9=1) (ha:y.a%10=6):bU (aE (oW (.ofNat i) Rs (aa o M N L C) []) [(1,BN),(2,BL),(3,BC)]) (aE (oW (.ofNat (i+1)) Rs (aa (aO o ⟨true,y.b%60⟩ 6) M N L C) []) [(1,BN),(2,BL),(3,BC)]):=by
 intro Q hq
 refine ALp.roundO (A:=oA 1 6 y [] [] none []) (V1:=oW (.ofNat (i+1)) Rs (aa (aO o ⟨true,y.b%60⟩ 6) M N L C) []) (F:=oW (.ofNat i) Rs [] []) (opt:=[(1,BN),(2,BL),(3,BC)]) (opt':=[]) (lk:=[(0,0),(1,1),(2,2),(3,3),(4,4)]) (lk':=[]) base0 am (LsOk.no rfl) .refl ?_
 rw[QD,g.w]
 exact ⟨g.a,g.b,g.x,pk hk (by decide) (by decide),pk ha (by decide) (by decide),bm _ (by decide) (by decide),⟨⟨⟨⟨⟨rfl,g.c⟩,⟨rfl,rfl⟩,trivial⟩,⟨⟨rfl,rfl⟩,⟨rfl,rfl⟩,trivial⟩,bp (o:=(aO o ⟨true,y.b%60⟩ 6)) hM (rN _ rfl) (rL _ rfl) (rC _ rfl),⟨rfl,rfl⟩,trivial⟩,⟨rfl,bn⟩,⟨rfl,bl⟩,⟨rfl,bc⟩,trivial⟩,hq⟩⟩
theorem RD {y:Rw} {i:Nat} {Rs:List AV} {M N L C:AV} {BN BL BC:Option Blk} (o:Ob) (g:bT i Rs y) (hM:ac M=true) (rN:Rv 1 N) (rL:Rv 2 L) (rC:Rv 3 C) (bn:ai BN) (bl:ai BL) (bc:ai BC) (hk:y.k%9=1) (ha:y.a%10=7):bU (aE (oW (.ofNat i) Rs (aa o M N L C) []) [(1,BN),(2,BL),(3,BC)]) (aE (oW (.ofNat (i+1)) Rs (aa (aO o ⟨true,y.b%60⟩ 7) M N L C) []) [(1,BN),(2,BL),(3,BC)]):=by
 intro Q hq
 refine ALp.roundO (A:=oA 1 7 y [] [] none []) (V1:=oW (.ofNat (i+1)) Rs (aa (aO o ⟨true,y.b%60⟩ 7) M N L C) []) (F:=oW (.ofNat i) Rs [] []) (opt:=[(1,BN),(2,BL),(3,BC)]) (opt':=[]) (lk:=[(0,0),(1,1),(2,2),(3,3),(4,4)]) (lk':=[]) base0 am (LsOk.no rfl) .refl ?_
 rw[QE,g.w]
 exact ⟨g.a,g.b,g.x,pk hk (by decide) (by decide),pk ha (by decide) (by decide),bm _ (by decide) (by decide),⟨⟨⟨⟨⟨rfl,g.c⟩,⟨rfl,rfl⟩,trivial⟩,⟨⟨rfl,rfl⟩,⟨rfl,rfl⟩,trivial⟩,bp (o:=(aO o ⟨true,y.b%60⟩ 7)) hM (rN _ rfl) (rL _ rfl) (rC _ rfl),⟨rfl,rfl⟩,trivial⟩,⟨rfl,bn⟩,⟨rfl,bl⟩,⟨rfl,bc⟩,trivial⟩,hq⟩⟩
theorem RE {y:Rw} {i:Nat} {Rs:List AV} {M N L C:AV} {BN BL BC:Option Blk} (o:Ob) (g:bT i Rs y) (hM:ac M=true) (rN:Rv 1 N) (rL:Rv 2 L) (rC:Rv 3 C) (bn:ai BN) (bl:ai BL) (bc:ai BC) (hk:y.k%9=1) (ha:y.a%10=8):bU (aE (oW (.ofNat i) Rs (aa o M N L C) []) [(1,BN),(2,BL),(3,BC)]) (aE (oW (.ofNat (i+1)) Rs (aa (aO o ⟨true,y.b%60⟩ 8) M N L C) []) [(1,BN),(2,BL),(3,BC)]):=by
 intro Q hq
 refine ALp.roundO (A:=oA 1 8 y [] [] none []) (V1:=oW (.ofNat (i+1)) Rs (aa (aO o ⟨true,y.b%60⟩ 8) M N L C) []) (F:=oW (.ofNat i) Rs [] []) (opt:=[(1,BN),(2,BL),(3,BC)]) (opt':=[]) (lk:=[(0,0),(1,1),(2,2),(3,3),(4,4)]) (lk':=[]) base0 am (LsOk.no rfl) .refl ?_
 rw[QF,g.w]
 exact ⟨g.a,g.b,g.x,pk hk (by decide) (by decide),pk ha (by decide) (by decide),bm _ (by decide) (by decide),⟨⟨⟨⟨⟨rfl,g.c⟩,⟨rfl,rfl⟩,trivial⟩,⟨⟨rfl,rfl⟩,⟨rfl,rfl⟩,trivial⟩,bp (o:=(aO o ⟨true,y.b%60⟩ 8)) hM (rN _ rfl) (rL _ rfl) (rC _ rfl),⟨rfl,rfl⟩,trivial⟩,⟨rfl,bn⟩,⟨rfl,bl⟩,⟨rfl,bc⟩,trivial⟩,hq⟩⟩
theorem RF {y:Rw} {i:Nat} {Rs:List AV} {M N L C:AV} {BN BL BC:Option Blk} (o:Ob) (g:bT i Rs y) (hM:ac M=true) (rN:Rv 1 N) (rL:Rv 2 L) (rC:Rv 3 C) (bn:ai BN) (bl:ai BL) (bc:ai BC) (hk:y.k%9=1) (ha:y.a%10=9):bU (aE (oW (.ofNat i) Rs (aa o M N L C) []) [(1,BN),(2,BL),(3,BC)]) (aE (oW (.ofNat (i+1)) Rs (aa (aO o ⟨true,y.b%60⟩ 9) M N L C) []) [(1,BN),(2,BL),(3,BC)]):=by
 intro Q hq
 refine ALp.roundO (A:=oA 1 9 y [] [] none []) (V1:=oW (.ofNat (i+1)) Rs (aa (aO o ⟨true,y.b%60⟩ 9) M N L C) []) (F:=oW (.ofNat i) Rs [] []) (opt:=[(1,BN),(2,BL),(3,BC)]) (opt':=[]) (lk:=[(0,0),(1,1),(2,2),(3,3),(4,4)]) (lk':=[]) base0 am (LsOk.no rfl) .refl ?_
 rw[QG,g.w]
 exact ⟨g.a,g.b,g.x,pk hk (by decide) (by decide),pk ha (by decide) (by decide),bm _ (by decide) (by decide),⟨⟨⟨⟨⟨rfl,g.c⟩,⟨rfl,rfl⟩,trivial⟩,⟨⟨rfl,rfl⟩,⟨rfl,rfl⟩,trivial⟩,bp (o:=(aO o ⟨true,y.b%60⟩ 9)) hM (rN _ rfl) (rL _ rfl) (rC _ rfl),⟨rfl,rfl⟩,trivial⟩,⟨rfl,bn⟩,⟨rfl,bl⟩,⟨rfl,bc⟩,trivial⟩,hq⟩⟩
theorem RG {y:Rw} {i:Nat} {Rs:List AV} {M N L C:AV} {BN BL BC:Option Blk} (o:Ob) (g:bT i Rs y) (hM:ac M=true) (rN:Rv 1 N) (rL:Rv 2 L) (rC:Rv 3 C) (bn:ai BN) (bl:ai BL) (bc:ai BC) (hk:y.k%9=2) (ha:y.a%10=0):bU (aE (oW (.ofNat i) Rs (aa o M N L C) []) [(1,BN),(2,BL),(3,BC)]) (aE (oW (.ofNat (i+1)) Rs (aa (aO o ⟨true,y.b%60⟩ 0) M N L C) []) [(1,BN),(2,BL),(3,BC)]):=by
 intro Q hq
 refine ALp.roundO (A:=oA 2 0 y [] [] none []) (V1:=oW (.ofNat (i+1)) Rs (aa (aO o ⟨true,y.b%60⟩ 0) M N L C) []) (F:=oW (.ofNat i) Rs [] []) (opt:=[(1,BN),(2,BL),(3,BC)]) (opt':=[]) (lk:=[(0,0),(1,1),(2,2),(3,3),(4,4)]) (lk':=[]) base0 am (LsOk.no rfl) .refl ?_
 rw[QH,g.w]
 exact ⟨g.a,g.b,g.x,pk hk (by decide) (by decide),pk ha (by decide) (by decide),bm _ (by decide) (by decide),⟨⟨⟨⟨⟨rfl,g.c⟩,⟨rfl,rfl⟩,trivial⟩,⟨⟨rfl,rfl⟩,⟨rfl,rfl⟩,trivial⟩,bp (o:=(aO o ⟨true,y.b%60⟩ 0)) hM (rN _ rfl) (rL _ rfl) (rC _ rfl),⟨rfl,rfl⟩,trivial⟩,⟨rfl,bn⟩,⟨rfl,bl⟩,⟨rfl,bc⟩,trivial⟩,hq⟩⟩
theorem RH {y:Rw} {i:Nat} {Rs:List AV} {M N L C:AV} {BN BL BC:Option Blk} (o:Ob) (g:bT i Rs y) (hM:ac M=true) (rN:Rv 1 N) (rL:Rv 2 L) (rC:Rv 3 C) (bn:ai BN) (bl:ai BL) (bc:ai BC) (hk:y.k%9=2) (ha:y.a%10=1):bU (aE (oW (.ofNat i) Rs (aa o M N L C) []) [(1,BN),(2,BL),(3,BC)]) (aE (oW (.ofNat (i+1)) Rs (aa (aO o ⟨true,y.b%60⟩ 1) M N L C) []) [(1,BN),(2,BL),(3,BC)]):=by
 intro Q hq
 refine ALp.roundO (A:=oA 2 1 y [] [] none []) (V1:=oW (.ofNat (i+1)) Rs (aa (aO o ⟨true,y.b%60⟩ 1) M N L C) []) (F:=oW (.ofNat i) Rs [] []) (opt:=[(1,BN),(2,BL),(3,BC)]) (opt':=[]) (lk:=[(0,0),(1,1),(2,2),(3,3),(4,4)]) (lk':=[]) base0 am (LsOk.no rfl) .refl ?_
 rw[QI,g.w]
 exact ⟨g.a,g.b,g.x,pk hk (by decide) (by decide),pk ha (by decide) (by decide),bm _ (by decide) (by decide),⟨⟨⟨⟨⟨rfl,g.c⟩,⟨rfl,rfl⟩,trivial⟩,⟨⟨rfl,rfl⟩,⟨rfl,rfl⟩,trivial⟩,bp (o:=(aO o ⟨true,y.b%60⟩ 1)) hM (rN _ rfl) (rL _ rfl) (rC _ rfl),⟨rfl,rfl⟩,trivial⟩,⟨rfl,bn⟩,⟨rfl,bl⟩,⟨rfl,bc⟩,trivial⟩,hq⟩⟩
theorem RI {y:Rw} {i:Nat} {Rs:List AV} {M N L C:AV} {BN BL BC:Option Blk} (o:Ob) (g:bT i Rs y) (hM:ac M=true) (rN:Rv 1 N) (rL:Rv 2 L) (rC:Rv 3 C) (bn:ai BN) (bl:ai BL) (bc:ai BC) (hk:y.k%9=2) (ha:y.a%10=2):bU (aE (oW (.ofNat i) Rs (aa o M N L C) []) [(1,BN),(2,BL),(3,BC)]) (aE (oW (.ofNat (i+1)) Rs (aa (aO o ⟨true,y.b%60⟩ 2) M N L C) []) [(1,BN),(2,BL),(3,BC)]):=by
 intro Q hq
 refine ALp.roundO (A:=oA 2 2 y [] [] none []) (V1:=oW (.ofNat (i+1)) Rs (aa (aO o ⟨true,y.b%60⟩ 2) M N L C) []) (F:=oW (.ofNat i) Rs [] []) (opt:=[(1,BN),(2,BL),(3,BC)]) (opt':=[]) (lk:=[(0,0),(1,1),(2,2),(3,3),(4,4)]) (lk':=[]) base0 am (LsOk.no rfl) .refl ?_
 rw[QJ,g.w]
 exact ⟨g.a,g.b,g.x,pk hk (by decide) (by decide),pk ha (by decide) (by decide),bm _ (by decide) (by decide),⟨⟨⟨⟨⟨rfl,g.c⟩,⟨rfl,rfl⟩,trivial⟩,⟨⟨rfl,rfl⟩,⟨rfl,rfl⟩,trivial⟩,bp (o:=(aO o ⟨true,y.b%60⟩ 2)) hM (rN _ rfl) (rL _ rfl) (rC _ rfl),⟨rfl,rfl⟩,trivial⟩,⟨rfl,bn⟩,⟨rfl,bl⟩,⟨rfl,bc⟩,trivial⟩,hq⟩⟩
theorem RJ {y:Rw} {i:Nat} {Rs:List AV} {M N L C:AV} {BN BL BC:Option Blk} (o:Ob) (g:bT i Rs y) (hM:ac M=true) (rN:Rv 1 N) (rL:Rv 2 L) (rC:Rv 3 C) (bn:ai BN) (bl:ai BL) (bc:ai BC) (hk:y.k%9=2) (ha:y.a%10=3):bU (aE (oW (.ofNat i) Rs (aa o M N L C) []) [(1,BN),(2,BL),(3,BC)]) (aE (oW (.ofNat (i+1)) Rs (aa (aO o ⟨true,y.b%60⟩ 3) M N L C) []) [(1,BN),(2,BL),(3,BC)]):=by
 intro Q hq
 refine ALp.roundO (A:=oA 2 3 y [] [] none []) (V1:=oW (.ofNat (i+1)) Rs (aa (aO o ⟨true,y.b%60⟩ 3) M N L C) []) (F:=oW (.ofNat i) Rs [] []) (opt:=[(1,BN),(2,BL),(3,BC)]) (opt':=[]) (lk:=[(0,0),(1,1),(2,2),(3,3),(4,4)]) (lk':=[]) base0 am (LsOk.no rfl) .refl ?_
 rw[QK,g.w]
 exact ⟨g.a,g.b,g.x,pk hk (by decide) (by decide),pk ha (by decide) (by decide),bm _ (by decide) (by decide),⟨⟨⟨⟨⟨rfl,g.c⟩,⟨rfl,rfl⟩,trivial⟩,⟨⟨rfl,rfl⟩,⟨rfl,rfl⟩,trivial⟩,bp (o:=(aO o ⟨true,y.b%60⟩ 3)) hM (rN _ rfl) (rL _ rfl) (rC _ rfl),⟨rfl,rfl⟩,trivial⟩,⟨rfl,bn⟩,⟨rfl,bl⟩,⟨rfl,bc⟩,trivial⟩,hq⟩⟩
theorem RK {y:Rw} {i:Nat} {Rs:List AV} {M N L C:AV} {BN BL BC:Option Blk} (o:Ob) (g:bT i Rs y) (hM:ac M=true) (rN:Rv 1 N) (rL:Rv 2 L) (rC:Rv 3 C) (bn:ai BN) (bl:ai BL) (bc:ai BC) (hk:y.k%9=2) (ha:y.a%10=4):bU (aE (oW (.ofNat i) Rs (aa o M N L C) []) [(1,BN),(2,BL),(3,BC)]) (aE (oW (.ofNat (i+1)) Rs (aa (aO o ⟨true,y.b%60⟩ 4) M N L C) []) [(1,BN),(2,BL),(3,BC)]):=by
 intro Q hq
 refine ALp.roundO (A:=oA 2 4 y [] [] none []) (V1:=oW (.ofNat (i+1)) Rs (aa (aO o ⟨true,y.b%60⟩ 4) M N L C) []) (F:=oW (.ofNat i) Rs [] []) (opt:=[(1,BN),(2,BL),(3,BC)]) (opt':=[]) (lk:=[(0,0),(1,1),(2,2),(3,3),(4,4)]) (lk':=[]) base0 am (LsOk.no rfl) .refl ?_
 rw[QL,g.w]
 exact ⟨g.a,g.b,g.x,pk hk (by decide) (by decide),pk ha (by decide) (by decide),bm _ (by decide) (by decide),⟨⟨⟨⟨⟨rfl,g.c⟩,⟨rfl,rfl⟩,trivial⟩,⟨⟨rfl,rfl⟩,⟨rfl,rfl⟩,trivial⟩,bp (o:=(aO o ⟨true,y.b%60⟩ 4)) hM (rN _ rfl) (rL _ rfl) (rC _ rfl),⟨rfl,rfl⟩,trivial⟩,⟨rfl,bn⟩,⟨rfl,bl⟩,⟨rfl,bc⟩,trivial⟩,hq⟩⟩
theorem RL {y:Rw} {i:Nat} {Rs:List AV} {M N L C:AV} {BN BL BC:Option Blk} (o:Ob) (g:bT i Rs y) (hM:ac M=true) (rN:Rv 1 N) (rL:Rv 2 L) (rC:Rv 3 C) (bn:ai BN) (bl:ai BL) (bc:ai BC) (hk:y.k%9=2) (ha:y.a%10=5):bU (aE (oW (.ofNat i) Rs (aa o M N L C) []) [(1,BN),(2,BL),(3,BC)]) (aE (oW (.ofNat (i+1)) Rs (aa (aO o ⟨true,y.b%60⟩ 5) M N L C) []) [(1,BN),(2,BL),(3,BC)]):=by
 intro Q hq
 refine ALp.roundO (A:=oA 2 5 y [] [] none []) (V1:=oW (.ofNat (i+1)) Rs (aa (aO o ⟨true,y.b%60⟩ 5) M N L C) []) (F:=oW (.ofNat i) Rs [] []) (opt:=[(1,BN),(2,BL),(3,BC)]) (opt':=[]) (lk:=[(0,0),(1,1),(2,2),(3,3),(4,4)]) (lk':=[]) base0 am (LsOk.no rfl) .refl ?_
 rw[QM,g.w]
 exact ⟨g.a,g.b,g.x,pk hk (by decide) (by decide),pk ha (by decide) (by decide),bm _ (by decide) (by decide),⟨⟨⟨⟨⟨rfl,g.c⟩,⟨rfl,rfl⟩,trivial⟩,⟨⟨rfl,rfl⟩,⟨rfl,rfl⟩,trivial⟩,bp (o:=(aO o ⟨true,y.b%60⟩ 5)) hM (rN _ rfl) (rL _ rfl) (rC _ rfl),⟨rfl,rfl⟩,trivial⟩,⟨rfl,bn⟩,⟨rfl,bl⟩,⟨rfl,bc⟩,trivial⟩,hq⟩⟩
theorem RN {y:Rw} {i:Nat} {Rs:List AV} {M N L C:AV} {BN BL BC:Option Blk} (o:Ob) (g:bT i Rs y) (hM:ac M=true) (rN:Rv 1 N) (rL:Rv 2 L) (rC:Rv 3 C) (bn:ai BN) (bl:ai BL) (bc:ai BC) (hk:y.k%9=2) (ha:y.a%10=6):bU (aE (oW (.ofNat i) Rs (aa o M N L C) []) [(1,BN),(2,BL),(3,BC)]) (aE (oW (.ofNat (i+1)) Rs (aa (aO o ⟨true,y.b%60⟩ 6) M N L C) []) [(1,BN),(2,BL),(3,BC)]):=by
 intro Q hq
 refine ALp.roundO (A:=oA 2 6 y [] [] none []) (V1:=oW (.ofNat (i+1)) Rs (aa (aO o ⟨true,y.b%60⟩ 6) M N L C) []) (F:=oW (.ofNat i) Rs [] []) (opt:=[(1,BN),(2,BL),(3,BC)]) (opt':=[]) (lk:=[(0,0),(1,1),(2,2),(3,3),(4,4)]) (lk':=[]) base0 am (LsOk.no rfl) .refl ?_
 rw[QN,g.w]
 exact ⟨g.a,g.b,g.x,pk hk (by decide) (by decide),pk ha (by decide) (by decide),bm _ (by decide) (by decide),⟨⟨⟨⟨⟨rfl,g.c⟩,⟨rfl,rfl⟩,trivial⟩,⟨⟨rfl,rfl⟩,⟨rfl,rfl⟩,trivial⟩,bp (o:=(aO o ⟨true,y.b%60⟩ 6)) hM (rN _ rfl) (rL _ rfl) (rC _ rfl),⟨rfl,rfl⟩,trivial⟩,⟨rfl,bn⟩,⟨rfl,bl⟩,⟨rfl,bc⟩,trivial⟩,hq⟩⟩
theorem RO {y:Rw} {i:Nat} {Rs:List AV} {M N L C:AV} {BN BL BC:Option Blk} (o:Ob) (g:bT i Rs y) (hM:ac M=true) (rN:Rv 1 N) (rL:Rv 2 L) (rC:Rv 3 C) (bn:ai BN) (bl:ai BL) (bc:ai BC) (hk:y.k%9=2) (ha:y.a%10=7):bU (aE (oW (.ofNat i) Rs (aa o M N L C) []) [(1,BN),(2,BL),(3,BC)]) (aE (oW (.ofNat (i+1)) Rs (aa (aO o ⟨true,y.b%60⟩ 7) M N L C) []) [(1,BN),(2,BL),(3,BC)]):=by
 intro Q hq
 refine ALp.roundO (A:=oA 2 7 y [] [] none []) (V1:=oW (.ofNat (i+1)) Rs (aa (aO o ⟨true,y.b%60⟩ 7) M N L C) []) (F:=oW (.ofNat i) Rs [] []) (opt:=[(1,BN),(2,BL),(3,BC)]) (opt':=[]) (lk:=[(0,0),(1,1),(2,2),(3,3),(4,4)]) (lk':=[]) base0 am (LsOk.no rfl) .refl ?_
 rw[QO,g.w]
 exact ⟨g.a,g.b,g.x,pk hk (by decide) (by decide),pk ha (by decide) (by decide),bm _ (by decide) (by decide),⟨⟨⟨⟨⟨rfl,g.c⟩,⟨rfl,rfl⟩,trivial⟩,⟨⟨rfl,rfl⟩,⟨rfl,rfl⟩,trivial⟩,bp (o:=(aO o ⟨true,y.b%60⟩ 7)) hM (rN _ rfl) (rL _ rfl) (rC _ rfl),⟨rfl,rfl⟩,trivial⟩,⟨rfl,bn⟩,⟨rfl,bl⟩,⟨rfl,bc⟩,trivial⟩,hq⟩⟩
theorem RP {y:Rw} {i:Nat} {Rs:List AV} {M N L C:AV} {BN BL BC:Option Blk} (o:Ob) (g:bT i Rs y) (hM:ac M=true) (rN:Rv 1 N) (rL:Rv 2 L) (rC:Rv 3 C) (bn:ai BN) (bl:ai BL) (bc:ai BC) (hk:y.k%9=2) (ha:y.a%10=8):bU (aE (oW (.ofNat i) Rs (aa o M N L C) []) [(1,BN),(2,BL),(3,BC)]) (aE (oW (.ofNat (i+1)) Rs (aa (aO o ⟨true,y.b%60⟩ 8) M N L C) []) [(1,BN),(2,BL),(3,BC)]):=by
 intro Q hq
 refine ALp.roundO (A:=oA 2 8 y [] [] none []) (V1:=oW (.ofNat (i+1)) Rs (aa (aO o ⟨true,y.b%60⟩ 8) M N L C) []) (F:=oW (.ofNat i) Rs [] []) (opt:=[(1,BN),(2,BL),(3,BC)]) (opt':=[]) (lk:=[(0,0),(1,1),(2,2),(3,3),(4,4)]) (lk':=[]) base0 am (LsOk.no rfl) .refl ?_
 rw[QP,g.w]
 exact ⟨g.a,g.b,g.x,pk hk (by decide) (by decide),pk ha (by decide) (by decide),bm _ (by decide) (by decide),⟨⟨⟨⟨⟨rfl,g.c⟩,⟨rfl,rfl⟩,trivial⟩,⟨⟨rfl,rfl⟩,⟨rfl,rfl⟩,trivial⟩,bp (o:=(aO o ⟨true,y.b%60⟩ 8)) hM (rN _ rfl) (rL _ rfl) (rC _ rfl),⟨rfl,rfl⟩,trivial⟩,⟨rfl,bn⟩,⟨rfl,bl⟩,⟨rfl,bc⟩,trivial⟩,hq⟩⟩
theorem RQ {y:Rw} {i:Nat} {Rs:List AV} {M N L C:AV} {BN BL BC:Option Blk} (o:Ob) (g:bT i Rs y) (hM:ac M=true) (rN:Rv 1 N) (rL:Rv 2 L) (rC:Rv 3 C) (bn:ai BN) (bl:ai BL) (bc:ai BC) (hk:y.k%9=2) (ha:y.a%10=9):bU (aE (oW (.ofNat i) Rs (aa o M N L C) []) [(1,BN),(2,BL),(3,BC)]) (aE (oW (.ofNat (i+1)) Rs (aa (aO o ⟨true,y.b%60⟩ 9) M N L C) []) [(1,BN),(2,BL),(3,BC)]):=by
 intro Q hq
 refine ALp.roundO (A:=oA 2 9 y [] [] none []) (V1:=oW (.ofNat (i+1)) Rs (aa (aO o ⟨true,y.b%60⟩ 9) M N L C) []) (F:=oW (.ofNat i) Rs [] []) (opt:=[(1,BN),(2,BL),(3,BC)]) (opt':=[]) (lk:=[(0,0),(1,1),(2,2),(3,3),(4,4)]) (lk':=[]) base0 am (LsOk.no rfl) .refl ?_
 rw[QQ,g.w]
 exact ⟨g.a,g.b,g.x,pk hk (by decide) (by decide),pk ha (by decide) (by decide),bm _ (by decide) (by decide),⟨⟨⟨⟨⟨rfl,g.c⟩,⟨rfl,rfl⟩,trivial⟩,⟨⟨rfl,rfl⟩,⟨rfl,rfl⟩,trivial⟩,bp (o:=(aO o ⟨true,y.b%60⟩ 9)) hM (rN _ rfl) (rL _ rfl) (rC _ rfl),⟨rfl,rfl⟩,trivial⟩,⟨rfl,bn⟩,⟨rfl,bl⟩,⟨rfl,bc⟩,trivial⟩,hq⟩⟩
def vl (o:Ob) (y:Rw):Ob:={o with lh:=true,lt:=1+y.a%50,lc:=1+y.a%50-y.b%(1+y.a%50+1),lu:=1+y.c%2}
theorem RS {y:Rw} {i:Nat} {Rs:List AV} {M N L C:AV} {BN BL BC:Option Blk} (o:Ob) (g:bT i Rs y) (hM:ac M=true) (rN:Rv 1 N) (rL:Rv 2 L) (rC:Rv 3 C) (bn:ai BN) (bl:ai BL) (bc:ai BC) (hk:y.k%9=5):bU (aE (oW (.ofNat i) Rs (aa o M N L C) []) [(1,BN),(2,BL),(3,BC)]) (aE (oW (.ofNat (i+1)) Rs (aa (vl o y) M N L C) []) [(1,BN),(2,BL),(3,BC)]):=by
 intro Q hq
 refine ALp.roundO (A:=oA 5 0 y [] [] none []) (V1:=oW (.ofNat (i+1)) Rs (aa (vl o y) M N L C) []) (F:=oW (.ofNat i) Rs [] []) (opt:=[(1,BN),(2,BL),(3,BC)]) (opt':=[]) (lk:=[(0,0),(1,1),(2,2),(3,3),(4,4)]) (lk':=[]) base0 am (LsOk.no rfl) .refl ?_
 have q1:=Int.emod_nonneg y.a (b:=50) (by decide)
 have q2:=Int.emod_lt_of_pos y.a (b:=50) (by decide)
 have q3:=Int.emod_nonneg y.b (b:=1+y.a%50+1) (by omega)
 have q4:=Int.emod_lt_of_pos y.b (b:=1+y.a%50+1) (by omega)
 have q5:=Int.emod_nonneg y.c (b:=2) (by decide)
 have q6:=Int.emod_lt_of_pos y.c (b:=2) (by decide)
 have w1:af .i64 (1+y.a%50)=1+y.a%50:=co (by omega) (by omega)
 have w2:af .i64 (1+y.a%50+1)=1+y.a%50+1:=co (by omega) (by omega)
 have w3:af .i64 (1+y.a%50-y.b%(1+y.a%50+1))=1+y.a%50-y.b%(1+y.a%50+1):=co (by omega) (by omega)
 have w4:af .i64 (1+y.c%2)=1+y.c%2:=co (by omega) (by omega)
 rw[QR,g.w,w1,w2,w3,w4]
 exact ⟨g.a,g.b,g.x,pk hk (by decide) (by decide),bm _ (by decide) (by decide),bm _ (by omega) (by omega),bm _ (by decide) (by decide),⟨⟨⟨⟨⟨rfl,g.c⟩,⟨rfl,rfl⟩,trivial⟩,⟨⟨rfl,rfl⟩,⟨rfl,rfl⟩,trivial⟩,bp (o:=(vl o y)) hM (rN _ rfl) (rL _ rfl) (rC _ rfl),⟨rfl,rfl⟩,trivial⟩,⟨rfl,bn⟩,⟨rfl,bl⟩,⟨rfl,bc⟩,trivial⟩,hq⟩⟩
def msL:List (List UInt8):=[[],[109],[108,111,115,116]]
def vm (o:Ob) (y:Rw):Ob:={o with why:=1+y.a%7,msg:=aD msL [] y.b}
theorem RT (n:Int):aZ Tryz.prog 110 (.agg (msL.map .str)) (I (n%3))=some (.str (aD msL [] n)):=
 nF (T:=110) (d:=[]) (l:=msL) (f:= .str) (by decide) fun k x h=>by
  match k,h with
  |0,h=>obtain rfl:_=x:=Option.some.inj h;show aZ _ _ _ _=_;kernel_rfl
  |1,h=>obtain rfl:_=x:=Option.some.inj h;show aZ _ _ _ _=_;kernel_rfl
  |2,h=>obtain rfl:_=x:=Option.some.inj h;show aZ _ _ _ _=_;kernel_rfl
theorem RU {y:Rw} {i:Nat} {Rs:List AV} {M N L C:AV} {BN BL BC:Option Blk} (o:Ob) (g:bT i Rs y) (hM:ac M=true) (rN:Rv 1 N) (rL:Rv 2 L) (rC:Rv 3 C) (bn:ai BN) (bl:ai BL) (bc:ai BC) (hk:y.k%9=7):bU (aE (oW (.ofNat i) Rs (aa o M N L C) []) [(1,BN),(2,BL),(3,BC)]) (aE (oW (.ofNat (i+1)) Rs (aa (vm o y) M N L C) []) [(1,BN),(2,BL),(3,BC)]):=by
 intro Q hq
 refine ALp.roundO (A:=oA 7 0 y [(40,4,.res (.str (aD msL [] y.b)))] [] none []) (V1:=oW (.ofNat (i+1)) Rs (aa (vm o y) M N L C) []) (F:=oW (.ofNat i) Rs [] []) (opt:=[(1,BN),(2,BL),(3,BC)]) (opt':=[]) (lk:=[(0,0),(1,1),(2,2),(3,3),(4,4)]) (lk':=[]) base0 am (LsOk.no rfl) .refl ?_
 have q1:=Int.emod_nonneg y.a (b:=7) (by decide)
 have q2:=Int.emod_lt_of_pos y.a (b:=7) (by decide)
 have w1:af .i64 (1+y.a%7)=1+y.a%7:=co (by omega) (by omega)
 rw[QS,g.w,w1]
 exact ⟨g.a,g.b,g.x,pk hk (by decide) (by decide),bm _ (by decide) (by decide),bm _ (by decide) (by decide),RT _,⟨⟨⟨⟨⟨rfl,g.c⟩,⟨rfl,rfl⟩,trivial⟩,⟨⟨rfl,rfl⟩,⟨rfl,rfl⟩,trivial⟩,bp (o:=(vm o y)) hM (rN _ rfl) (rL _ rfl) (rC _ rfl),⟨rfl,rfl⟩,trivial⟩,⟨rfl,bn⟩,⟨rfl,bl⟩,⟨rfl,bc⟩,trivial⟩,hq⟩⟩
def vn (o:Ob) (y:Rw):Ob:={o with arch:=aF (y.a.tmod 3) 0}
theorem RV {y:Rw} {i:Nat} {Rs:List AV} {M N L C:AV} {BN BL BC:Option Blk} (o:Ob) (g:bT i Rs y) (hM:ac M=true) (rN:Rv 1 N) (rL:Rv 2 L) (rC:Rv 3 C) (bn:ai BN) (bl:ai BL) (bc:ai BC) (hk:y.k%9=8):bU (aE (oW (.ofNat i) Rs (aa o M N L C) []) [(1,BN),(2,BL),(3,BC)]) (aE (oW (.ofNat (i+1)) Rs (aa (vn o y) M N L C) []) [(1,BN),(2,BL),(3,BC)]):=by
 intro Q hq
 refine ALp.roundO (A:=oA 8 0 y [] [] none []) (V1:=oW (.ofNat (i+1)) Rs (aa (vn o y) M N L C) []) (F:=oW (.ofNat i) Rs [] []) (opt:=[(1,BN),(2,BL),(3,BC)]) (opt':=[]) (lk:=[(0,0),(1,1),(2,2),(3,3),(4,4)]) (lk':=[]) base0 am (LsOk.no rfl) .refl ?_
 rw[QT,g.w]
 exact ⟨g.a,g.b,g.x,pk hk (by decide) (by decide),⟨⟨⟨⟨⟨rfl,g.c⟩,⟨rfl,rfl⟩,trivial⟩,⟨⟨rfl,rfl⟩,⟨rfl,rfl⟩,trivial⟩,bp (o:=(vn o y)) hM (rN _ rfl) (rL _ rfl) (rC _ rfl),⟨rfl,rfl⟩,trivial⟩,⟨rfl,bn⟩,⟨rfl,bl⟩,⟨rfl,bc⟩,trivial⟩,hq⟩⟩
def nmL:List (List UInt8):=[[111,110,101],[116,119,111],[116,104,114,101,101],[102,111,117,114],[102,105,118,101]]
theorem Ae (n:Int):aZ Tryz.prog 106 (.agg (nmL.map .str)) (I (n%5))=some (.str (aD nmL [] n)):=
 nF (T:=106) (d:=[]) (l:=nmL) (f:= .str) (by decide) fun k x h=>by
  match k,h with
  |0,h=>obtain rfl:_=x:=Option.some.inj h;show aZ _ _ _ _=_;kernel_rfl
  |1,h=>obtain rfl:_=x:=Option.some.inj h;show aZ _ _ _ _=_;kernel_rfl
  |2,h=>obtain rfl:_=x:=Option.some.inj h;show aZ _ _ _ _=_;kernel_rfl
  |3,h=>obtain rfl:_=x:=Option.some.inj h;show aZ _ _ _ _=_;kernel_rfl
  |4,h=>obtain rfl:_=x:=Option.some.inj h;show aZ _ _ _ _=_;kernel_rfl
theorem RW {y:Rw} {i:Nat} {Rs:List AV} {M L C:AV} {BL BC:Option Blk} (o:Ob) (g:bT i Rs y) (hM:ac M=true) (rL:Rv 2 L) (rC:Rv 3 C) (bl:ai BL) (bc:ai BC) (hk:y.k%9=3):bU (aE (oW (.ofNat i) Rs (aa o M .nilsl L C) []) [(2,BL),(3,BC)]) (aE (oW (.ofNat (i+1)) Rs (aa o M (.rsl true 1 0 1 1) L C) [(1,.cells [.str (aD nmL [] y.a)],.whole)]) [(2,BL),(3,BC)]):=by
 intro Q hq
 refine ALp.roundO (A:=oA 3 0 y [(14,4,.res (.str (aD nmL [] y.a)))] [] (some (.val (.bool false))) []) (V1:=oW (.ofNat (i+1)) Rs (aa o M (.rsl true 1 0 1 1) L C) [(1,.cells [.str (aD nmL [] y.a)],.whole)]) (F:=oW (.ofNat i) Rs [] []) (opt:=[(2,BL),(3,BC)]) (opt':=[]) (lk:=[(0,0),(1,46),(2,2),(3,3),(4,4)]) (lk':=[]) base0 am (LsOk.no rfl) .refl ?_
 rw[QU,g.w]
 exact ⟨g.a,g.b,g.x,pk hk (by decide) (by decide),bm _ (by decide) (by decide),Ae _,Rf _,⟨⟨⟨⟨⟨rfl,g.c⟩,⟨rfl,rfl⟩,trivial⟩,⟨⟨rfl,rfl⟩,⟨rfl,rfl⟩,trivial⟩,bp (o:=o) hM (.rsl _ _ _ _ _ _ rfl) (rL _ rfl) (rC _ rfl),⟨rfl,rfl⟩,⟨rfl,rfl⟩,trivial⟩,⟨rfl,bl⟩,⟨rfl,bc⟩,trivial⟩,hq⟩⟩
theorem RX {y:Rw} {i:Nat} {Rs:List AV} {M L C:AV} {BL BC:Option Blk} (o:Ob) (g:bT i Rs y) (hM:ac M=true) (rL:Rv 2 L) (rC:Rv 3 C) (bl:ai BL) (bc:ai BC) (hk:y.k%9=3) {l:List (List UInt8)} (hl:l.length≤1000) (hin:kw l (aD nmL [] y.a)=true):bU (aE (oW (.ofNat i) Rs (aa o M (.rsl true 1 0 l.length 1) L C) [(1,.cells (l.map .str),.whole)]) [(2,BL),(3,BC)]) (aE (oW (.ofNat (i+1)) Rs (aa o M (.rsl true 1 0 l.length 1) L C) [(1,.cells (l.map .str),.whole)]) [(2,BL),(3,BC)]):=by
 intro Q hq
 refine ALp.roundO (A:=oA 3 0 y [(14,4,.res (.str (aD nmL [] y.a)))] [] (some (.part [1] (.bool true) [(1,some (.cells (l.map .str)))] 20)) []) (V1:=oW (.ofNat (i+1)) Rs (aa o M (.rsl true 1 0 l.length 1) L C) [(1,.cells (l.map .str),.whole)]) (F:=oW (.ofNat i) Rs [] []) (opt:=[(2,BL),(3,BC)]) (opt':=[]) (lk:=[(0,0),(1,1),(2,2),(3,3),(4,4)]) (lk':=[]) base0 am (LsOk.no rfl) .refl ?_
 rw[QV,g.w]
 exact ⟨g.a,g.b,g.x,pk hk (by decide) (by decide),bm _ (by decide) (by decide),Ae _,hin▸F5 l _ hl,⟨⟨⟨⟨⟨rfl,g.c⟩,⟨rfl,rfl⟩,trivial⟩,⟨⟨rfl,rfl⟩,⟨rfl,rfl⟩,trivial⟩,bp (o:=o) hM (.rsl _ _ _ _ _ _ rfl) (rL _ rfl) (rC _ rfl),⟨rfl,rfl⟩,⟨rfl,ea l⟩,trivial⟩,⟨rfl,bl⟩,⟨rfl,bc⟩,trivial⟩,hq⟩⟩
theorem RY {y:Rw} {i:Nat} {Rs:List AV} {M L C:AV} {BL BC:Option Blk} (o:Ob) (g:bT i Rs y) (hM:ac M=true) (rL:Rv 2 L) (rC:Rv 3 C) (bl:ai BL) (bc:ai BC) (hk:y.k%9=3) {l:List (List UInt8)} (hl:l.length≤1000) (hin:kw l (aD nmL [] y.a)=false):bU (aE (oW (.ofNat i) Rs (aa o M (.rsl true 1 0 l.length 1) L C) [(1,.cells (l.map .str),.whole)]) [(2,BL),(3,BC)]) (aE (oW (.ofNat (i+1)) Rs (aa o M (.rsl true 1 0 (l.length+1) 1) L C) [(1,.cells (l.map .str++[.str (aD nmL [] y.a)]),.whole)]) [(2,BL),(3,BC)]):=by
 intro Q hq
 refine ALp.roundO (A:=oA 3 0 y [(14,4,.res (.str (aD nmL [] y.a)))] [] (some (.part [1] (.bool false) [(1,some (.cells (l.map .str)))] 20)) []) (V1:=oW (.ofNat (i+1)) Rs (aa o M (.rsl true 1 0 (l.length+1) 1) L C) [(1,.cells (l.map .str++[.str (aD nmL [] y.a)]),.whole)]) (F:=oW (.ofNat i) Rs [] []) (opt:=[(2,BL),(3,BC)]) (opt':=[]) (lk:=[(0,0),(1,66),(2,2),(3,3),(4,4)]) (lk':=[]) base0 am (LsOk.no rfl) .refl ?_
 rw[QW,g.w]
 exact ⟨g.a,g.b,g.x,pk hk (by decide) (by decide),bm _ (by decide) (by decide),Ae _,hin▸F5 l _ hl,aH (by simp[bo,aS,flat,AV.cells,ab];omega) (aH (by simp[aI]) ⟨⟨⟨⟨⟨rfl,g.c⟩,⟨rfl,rfl⟩,trivial⟩,⟨⟨rfl,rfl⟩,⟨rfl,rfl⟩,trivial⟩,bp (o:=o) hM (.rsl _ _ _ _ _ _ rfl) (rL _ rfl) (rC _ rfl),⟨rfl,rfl⟩,⟨rfl,by simp[dh,ea];rfl⟩,trivial⟩,⟨rfl,bl⟩,⟨rfl,bc⟩,trivial⟩,hq⟩)⟩
end Go.Proofs.YtjhggnebkfpgcaaGreatDoor
namespace Go.Proofs.YtjhggnebkfpgcaaGreatDoor
set_option maxRecDepth 20000
open Go Go.RowKit
open Go.Proofs.Abs
def vo (z x:Lk):Bool:=aF z.ty x.ty&&(aB z.id x.id&&true)
def vp (z x:Cu):Bool:=aB z.name x.name&&(aB z.text x.text&&true)
def lI (x:Lk) (l:List Lk):Bool:=l.any fun z=>vo z x
theorem RZ {i:Nat} {Rs:List AV} {o:Ob} {M N C:AV} {BN BC:Option Blk} {x:Lk} {b:Bool} (hR:ad Rs=true) (hM:ac M=true) (rN:Rv 1 N) (rX:Rv 3 C) (bn:ai BN) (bx:ai BC) {Q:AExit→St→Prop} (hq:Q (.exit 3) (aE (cO (.ofNat i) Rs (aa o M N .nilsl C) [I x.ty,.str x.id] b 0 []) [(1,BN),(3,BC)])):ALp Tryz.prog opts0.glob 0 (ah Tryz.prog 22 22) (aE (cO (.ofNat i) Rs (aa o M N .nilsl C) [I x.ty,.str x.id] b 0 []) [(1,BN),(3,BC)]) Q:=by
 refine ALp.roundO (A:=aq [] [] aA [] []) (V1:=cO (.ofNat i) Rs [] [] b 0 []) (F:=cO (.ofNat i) Rs (aa o M N .nilsl C) [I x.ty,.str x.id] b 0 []) (opt:=[]) (opt':=[(1,BN),(3,BC)]) (lk:=[]) (lk':=[(0,0),(1,1),(3,3),(4,4),(5,5)]) base0 am (LsOk.no rfl) .refl ?_
 rw[QX]
 exact ⟨⟨⟨⟨⟨rfl,hR⟩,⟨rfl,rfl⟩,⟨rfl,rfl⟩,⟨rfl,rfl⟩,trivial⟩,⟨⟨rfl,rfl⟩,⟨rfl,rfl⟩,⟨rfl,rfl⟩,trivial⟩,bp (o:=o) hM (rN _ rfl) (.same _ rfl) (rX _ rfl),⟨rfl,rfl⟩,⟨rfl,rfl⟩,trivial⟩,⟨rfl,bn⟩,⟨rfl,bx⟩,trivial⟩,hq⟩
theorem F7 {i:Nat} {Rs:List AV} {o:Ob} {M N C:AV} {BN BC:Option Blk} {x:Lk} (hR:ad Rs=true) (hM:ac M=true) (rN:Rv 1 N) (rX:Rv 3 C) (bn:ai BN) (bx:ai BC) {l:List Lk} (hl:l.length≤1000) {Q:AExit→St→Prop}:∀ (m t:Nat) (b:Bool),t+m=l.length→Q (.exit 3) (aE (cO (.ofNat i) Rs (aa o M N (.rsl true 2 0 l.length 2) C) [I x.ty,.str x.id] (b||lI x (l.drop t)) (.ofNat l.length) [(2,.cells (flat (l.map bE)),.whole)]) [(1,BN),(3,BC)])→ALp Tryz.prog opts0.glob 0 (ah Tryz.prog 22 22) (aE (cO (.ofNat i) Rs (aa o M N (.rsl true 2 0 l.length 2) C) [I x.ty,.str x.id] b (.ofNat t) [(2,.cells (flat (l.map bE)),.whole)]) [(1,BN),(3,BC)]) Q:=by
 have hc:=lH l
 intro m
 induction m with
 |zero=>
  intro t b ht hq
  rw[Nat.add_zero] at ht
  subst ht
  rw[List.drop_of_length_le (Nat.le_refl _),show lI x []=false from rfl,Bool.or_false] at hq
  refine ALp.roundO (A:=aq [(23,5,.res .nilp),(35,5,.res .nilp)] [] aA [] []) (V1:=cO (.ofNat i) Rs [] [] b 0 []) (F:=cO (.ofNat i) Rs (aa o M N (.rsl true 2 0 l.length 2) C) [I x.ty,.str x.id] b (.ofNat l.length) [(2,.cells (flat (l.map bE)),.whole)]) (opt:=[]) (opt':=[(1,BN),(3,BC)]) (lk:=[]) (lk':=[(0,0),(1,1),(2,2),(3,3),(4,4),(5,5)]) base0 am (LsOk.no rfl) .refl ?_
  rw[QY]
  refine az (fun e=> ?_) (fun _=>⟨⟨⟨⟨⟨rfl,hR⟩,⟨rfl,rfl⟩,⟨rfl,rfl⟩,⟨rfl,rfl⟩,trivial⟩,⟨⟨rfl,rfl⟩,⟨rfl,rfl⟩,⟨rfl,rfl⟩,trivial⟩,bp (o:=o) hM (rN _ rfl) (.rsl _ _ _ _ _ _ rfl) (rX _ rfl),⟨rfl,rfl⟩,⟨rfl,rfl⟩,⟨rfl,hc⟩,trivial⟩,⟨rfl,bn⟩,⟨rfl,bx⟩,trivial⟩,hq⟩)
  have e:=ltInt_iff.1 e
  omega
 | succ m ih=>
  intro t b ht hq
  have hi:t<l.length:=by omega
  have g1:=List.getElem?_eq_getElem hi
  rw[List.drop_eq_getElem_cons hi] at hq
  revert g1 hq
  generalize l[t]=z
  intro hq g1
  have hw:af .i64 (Int.ofNat t+1)=Int.ofNat (t+1):=co (by simp;omega) (by simp;omega)
  have hob:(cJ (Int.ofNat t)&&((Int.ofNat t).toNat.blt l.length&&true))=true:=by
   simp only[cJ,Bool.true_and,Bool.and_true]
   exact blt_iff.2 hi
  have hn:=ih (t+1) (b||vo z x) (by omega) (by
   simpa only[lI,List.any_cons,Bool.or_assoc] using hq)
  refine ALp.roundO (A:=aq [(21,4,.res (.bool true)),(23,6,.ld (.agg [I z.ty,.str z.id]))] [] aA [] []) (V1:=cO (.ofNat i) Rs (aa o M N (.rsl true 2 0 l.length 2) C) [I x.ty,.str x.id] (b||vo z x) (.ofNat (t+1)) [(2,.cells (flat (l.map bE)),.whole)]) (F:=cO (.ofNat i) Rs [] [] b 0 []) (opt:=[(1,BN),(3,BC)]) (opt':=[]) (lk:=[(0,0),(1,1),(2,2),(3,3),(4,4),(5,5)]) (lk':=[]) base0 am (LsOk.no rfl) .refl ?_
  rw[QZ,hw]
  refine ⟨pz (by simp;omega),az (fun e=>⟨⟨⟨⟨⟨rfl,hR⟩,⟨rfl,rfl⟩,⟨by rw[e];rfl,rfl⟩,⟨rfl,rfl⟩,trivial⟩,⟨⟨rfl,rfl⟩,⟨rfl,rfl⟩,⟨rfl,rfl⟩,trivial⟩,bp (o:=o) hM (rN _ rfl) (.rsl _ _ _ _ _ _ rfl) (rX _ rfl),⟨rfl,rfl⟩,⟨rfl,rfl⟩,⟨rfl,hc⟩,trivial⟩,⟨rfl,bn⟩,⟨rfl,bx⟩,trivial⟩,hn⟩)
   (fun e=>aH hob ⟨Rg g1,⟨⟨⟨⟨rfl,hR⟩,⟨rfl,rfl⟩,⟨by rw[e];rfl,rfl⟩,⟨rfl,rfl⟩,trivial⟩,⟨⟨rfl,rfl⟩,⟨rfl,rfl⟩,⟨rfl,rfl⟩,trivial⟩,bp (o:=o) hM (rN _ rfl) (.rsl _ _ _ _ _ _ rfl) (rX _ rfl),⟨rfl,rfl⟩,⟨rfl,rfl⟩,⟨rfl,hc⟩,trivial⟩,⟨rfl,bn⟩,⟨rfl,bx⟩,trivial⟩,hn⟩)⟩
theorem Af:br (ah Tryz.prog 22 5) 22=[ah Tryz.prog 22 22]:=by kernel_rfl
def jJ (y:Rw):Lk:=⟨af .i64 (101+y.a%5),aD idL [] y.b⟩
theorem R0 {y:Rw} {i:Nat} {Rs:List AV} {M N C:AV} {BN BC:Option Blk} (o:Ob) (g:bT i Rs y) (hM:ac M=true) (rN:Rv 1 N) (rX:Rv 3 C) (bn:ai BN) (bx:ai BC) (hk:y.k%9=4):bU (aE (oW (.ofNat i) Rs (aa o M N .nilsl C) []) [(1,BN),(3,BC)]) (aE (oW (.ofNat (i+1)) Rs (aa o M N (.rsl true 2 0 1 2) C) [(2,.cells [I (af .i64 (101+y.a%5)),.str (aD idL [] y.b)],.whole)]) [(1,BN),(3,BC)]):=by
 intro Q hq
 have hR:=g.c
 refine ALp.roundO (A:=oA 4 0 y [] [(22,fun s Q=>eC 0 [(0,0),(1,1),(3,3),(4,4),(5,41)] (cO (.ofNat i) Rs (aa o M N .nilsl C) [I (af .i64 (101+y.a%5)),.str (aD idL [] y.b)] false 0 []) [(1,BN),(3,BC)] s∧Q (.exit 3) (aE (cO (.ofNat i) Rs (aa o M N .nilsl C) [I (af .i64 (101+y.a%5)),.str (aD idL [] y.b)] false 0 []) [(1,BN),(3,BC)]))] none (aD idL [] y.b)) (V1:=oW (.ofNat (i+1)) Rs (aa o M N (.rsl true 2 0 1 2) C) [(2,.cells [I (af .i64 (101+y.a%5)),.str (aD idL [] y.b)],.whole)]) (F:=oW (.ofNat i) Rs [] []) (opt:=[(1,BN),(3,BC)]) (opt':=[]) (lk:=[(0,0),(1,1),(2,13),(3,3),(4,4)]) (lk':=[]) base0 am (LsOk.at1 rfl Af fun st Q hs=> .seenO base0.glob hs.1 (RZ (x:=jJ y) g.c hM rN rX bn bx hs.2)) .refl ?_
 rw[Q3,g.w]
 exact ⟨g.a,g.b,g.x,pk hk (by decide) (by decide),bm _ (by decide) (by decide),ph _,⟨⟨⟨⟨rfl,hR⟩,⟨rfl,rfl⟩,⟨rfl,rfl⟩,⟨rfl,rfl⟩,trivial⟩,⟨⟨rfl,rfl⟩,⟨rfl,rfl⟩,⟨rfl,rfl⟩,trivial⟩,bp (o:=o) hM (rN _ rfl) (.same _ rfl) (rX _ rfl),⟨rfl,rfl⟩,⟨rfl,rfl⟩,trivial⟩,⟨rfl,bn⟩,⟨rfl,bx⟩,trivial⟩,⟨⟨⟨⟨⟨rfl,g.c⟩,⟨rfl,rfl⟩,trivial⟩,⟨⟨rfl,rfl⟩,⟨rfl,rfl⟩,trivial⟩,bp (o:=o) hM (rN _ rfl) (.rsl _ _ _ _ _ _ rfl) (rX _ rfl),⟨rfl,rfl⟩,⟨rfl,rfl⟩,trivial⟩,⟨rfl,bn⟩,⟨rfl,bx⟩,trivial⟩,hq⟩⟩
theorem R4 {y:Rw} {i:Nat} {Rs:List AV} {M N C:AV} {BN BC:Option Blk} (o:Ob) (g:bT i Rs y) (hM:ac M=true) (rN:Rv 1 N) (rX:Rv 3 C) (bn:ai BN) (bx:ai BC) (hk:y.k%9=4) {l:List Lk} (hl:l.length≤1000) (hin:lI (jJ y) l=true):bU (aE (oW (.ofNat i) Rs (aa o M N (.rsl true 2 0 l.length 2) C) [(2,.cells (flat (l.map bE)),.whole)]) [(1,BN),(3,BC)]) (aE (oW (.ofNat (i+1)) Rs (aa o M N (.rsl true 2 0 l.length 2) C) [(2,.cells (flat (l.map bE)),.whole)]) [(1,BN),(3,BC)]):=by
 intro Q hq
 have hR:=g.c
 refine ALp.roundO (A:=oA 4 0 y [] [(22,fun s Q=>eC 0 [(0,0),(1,1),(2,2),(3,3),(4,4),(5,41)] (cO (.ofNat i) Rs (aa o M N (.rsl true 2 0 l.length 2) C) [I (af .i64 (101+y.a%5)),.str (aD idL [] y.b)] false 0 [(2,.cells (flat (l.map bE)),.whole)]) [(1,BN),(3,BC)] s∧Q (.exit 3) (aE (cO (.ofNat i) Rs (aa o M N (.rsl true 2 0 l.length 2) C) [I (af .i64 (101+y.a%5)),.str (aD idL [] y.b)] true (.ofNat l.length) [(2,.cells (flat (l.map bE)),.whole)]) [(1,BN),(3,BC)]))] none (aD idL [] y.b)) (V1:=oW (.ofNat (i+1)) Rs (aa o M N (.rsl true 2 0 l.length 2) C) [(2,.cells (flat (l.map bE)),.whole)]) (F:=oW (.ofNat i) Rs [] []) (opt:=[(1,BN),(3,BC)]) (opt':=[]) (lk:=[(0,0),(1,1),(2,2),(3,3),(4,4)]) (lk':=[]) base0 am (LsOk.at1 rfl Af fun st Q hs=> .seenO base0.glob hs.1 (F7 (x:=jJ y) g.c hM rN rX bn bx hl l.length 0 false (by omega) (by rw[List.drop_zero,hin];exact hs.2))) .refl ?_
 rw[Q4,g.w]
 exact ⟨g.a,g.b,g.x,pk hk (by decide) (by decide),bm _ (by decide) (by decide),ph _,⟨⟨⟨⟨rfl,hR⟩,⟨rfl,rfl⟩,⟨rfl,rfl⟩,⟨rfl,rfl⟩,trivial⟩,⟨⟨rfl,rfl⟩,⟨rfl,rfl⟩,⟨rfl,rfl⟩,trivial⟩,bp (o:=o) hM (rN _ rfl) (.rsl _ _ _ _ _ _ rfl) (rX _ rfl),⟨rfl,rfl⟩,⟨rfl,rfl⟩,⟨rfl,lH l⟩,trivial⟩,⟨rfl,bn⟩,⟨rfl,bx⟩,trivial⟩,⟨⟨⟨⟨⟨rfl,g.c⟩,⟨rfl,rfl⟩,trivial⟩,⟨⟨rfl,rfl⟩,⟨rfl,rfl⟩,trivial⟩,bp (o:=o) hM (rN _ rfl) (.rsl _ _ _ _ _ _ rfl) (rX _ rfl),⟨rfl,rfl⟩,⟨rfl,lH l⟩,trivial⟩,⟨rfl,bn⟩,⟨rfl,bx⟩,trivial⟩,hq⟩⟩
theorem F8:∀l:List Lk,(flat (l.map bE)).length=l.length*2
 |[]=>rfl
 |_::r=>by
  have ih:=F8 r
  rw[List.length_cons,Nat.succ_mul,←ih]
  rfl
theorem R5 {y:Rw} {i:Nat} {Rs:List AV} {M N C:AV} {BN BC:Option Blk} (o:Ob) (g:bT i Rs y) (hM:ac M=true) (rN:Rv 1 N) (rX:Rv 3 C) (bn:ai BN) (bx:ai BC) (hk:y.k%9=4) {l:List Lk} (hl:l.length≤1000) (hin:lI (jJ y) l=false):bU (aE (oW (.ofNat i) Rs (aa o M N (.rsl true 2 0 l.length 2) C) [(2,.cells (flat (l.map bE)),.whole)]) [(1,BN),(3,BC)]) (aE (oW (.ofNat (i+1)) Rs (aa o M N (.rsl true 2 0 (l.length+1) 2) C) [(2,.cells (flat (l.map bE)++[I (af .i64 (101+y.a%5)),.str (aD idL [] y.b)]),.whole)]) [(1,BN),(3,BC)]):=by
 intro Q hq
 have hR:=g.c
 refine ALp.roundO (A:=oA 4 0 y [] [(22,fun s Q=>eC 0 [(0,0),(1,1),(2,2),(3,3),(4,4),(5,41)] (cO (.ofNat i) Rs (aa o M N (.rsl true 2 0 l.length 2) C) [I (af .i64 (101+y.a%5)),.str (aD idL [] y.b)] false 0 [(2,.cells (flat (l.map bE)),.whole)]) [(1,BN),(3,BC)] s∧Q (.exit 3) (aE (cO (.ofNat i) Rs (aa o M N (.rsl true 2 0 l.length 2) C) [I (af .i64 (101+y.a%5)),.str (aD idL [] y.b)] false (.ofNat l.length) [(2,.cells (flat (l.map bE)),.whole)]) [(1,BN),(3,BC)]))] none (aD idL [] y.b)) (V1:=oW (.ofNat (i+1)) Rs (aa o M N (.rsl true 2 0 (l.length+1) 2) C) [(2,.cells (flat (l.map bE)++[I (af .i64 (101+y.a%5)),.str (aD idL [] y.b)]),.whole)]) (F:=oW (.ofNat i) Rs [] []) (opt:=[(1,BN),(3,BC)]) (opt':=[]) (lk:=[(0,0),(1,1),(2,13),(3,3),(4,4)]) (lk':=[]) base0 am (LsOk.at1 rfl Af fun st Q hs=> .seenO base0.glob hs.1 (F7 (x:=jJ y) g.c hM rN rX bn bx hl l.length 0 false (by omega) (by rw[List.drop_zero,hin];exact hs.2))) .refl ?_
 rw[Q5,g.w]
 exact ⟨g.a,g.b,g.x,pk hk (by decide) (by decide),bm _ (by decide) (by decide),ph _,⟨⟨⟨⟨rfl,hR⟩,⟨rfl,rfl⟩,⟨rfl,rfl⟩,⟨rfl,rfl⟩,trivial⟩,⟨⟨rfl,rfl⟩,⟨rfl,rfl⟩,⟨rfl,rfl⟩,trivial⟩,bp (o:=o) hM (rN _ rfl) (.rsl _ _ _ _ _ _ rfl) (rX _ rfl),⟨rfl,rfl⟩,⟨rfl,rfl⟩,⟨rfl,lH l⟩,trivial⟩,⟨rfl,bn⟩,⟨rfl,bx⟩,trivial⟩,aH (by simp[bo,aS,flat,AV.cells,ab];omega) (aH (by simp[aI,F8]) ⟨⟨⟨⟨⟨rfl,g.c⟩,⟨rfl,rfl⟩,trivial⟩,⟨⟨rfl,rfl⟩,⟨rfl,rfl⟩,trivial⟩,bp (o:=o) hM (rN _ rfl) (.rsl _ _ _ _ _ _ rfl) (rX _ rfl),⟨rfl,rfl⟩,⟨rfl,by simp[dh,lH];rfl⟩,trivial⟩,⟨rfl,bn⟩,⟨rfl,bx⟩,trivial⟩,hq⟩)⟩
def kx (x:Cu) (l:List Cu):Bool:=l.any fun z=>vp z x
theorem R6 {i:Nat} {Rs:List AV} {o:Ob} {M N L:AV} {BN BL:Option Blk} {x:Cu} {b:Bool} (hR:ad Rs=true) (hM:ac M=true) (rN:Rv 1 N) (rX:Rv 2 L) (bn:ai BN) (bx:ai BL) {Q:AExit→St→Prop} (hq:Q (.exit 5) (aE (cq (.ofNat i) Rs (aa o M N L .nilsl) [.str x.name,.str x.text] b 0 []) [(1,BN),(2,BL)])):ALp Tryz.prog opts0.glob 0 (ah Tryz.prog 22 34) (aE (cq (.ofNat i) Rs (aa o M N L .nilsl) [.str x.name,.str x.text] b 0 []) [(1,BN),(2,BL)]) Q:=by
 refine ALp.roundO (A:=aq [] [] aA [] []) (V1:=cq (.ofNat i) Rs [] [] b 0 []) (F:=cq (.ofNat i) Rs (aa o M N L .nilsl) [.str x.name,.str x.text] b 0 []) (opt:=[]) (opt':=[(1,BN),(2,BL)]) (lk:=[]) (lk':=[(0,0),(1,1),(2,2),(4,4),(5,5)]) base0 am (LsOk.no rfl) .refl ?_
 rw[Q0]
 exact ⟨⟨⟨⟨⟨rfl,hR⟩,⟨rfl,rfl⟩,⟨rfl,rfl⟩,⟨rfl,rfl⟩,trivial⟩,⟨⟨rfl,rfl⟩,⟨rfl,rfl⟩,⟨rfl,rfl⟩,trivial⟩,bp (o:=o) hM (rN _ rfl) (rX _ rfl) (.same _ rfl),⟨rfl,rfl⟩,⟨rfl,rfl⟩,trivial⟩,⟨rfl,bn⟩,⟨rfl,bx⟩,trivial⟩,hq⟩
theorem Ag {i:Nat} {Rs:List AV} {o:Ob} {M N L:AV} {BN BL:Option Blk} {x:Cu} (hR:ad Rs=true) (hM:ac M=true) (rN:Rv 1 N) (rX:Rv 2 L) (bn:ai BN) (bx:ai BL) {l:List Cu} (hl:l.length≤1000) {Q:AExit→St→Prop}:∀ (m t:Nat) (b:Bool),t+m=l.length→Q (.exit 5) (aE (cq (.ofNat i) Rs (aa o M N L (.rsl true 3 0 l.length 2)) [.str x.name,.str x.text] (b||kx x (l.drop t)) (.ofNat l.length) [(3,.cells (flat (l.map aT)),.whole)]) [(1,BN),(2,BL)])→ALp Tryz.prog opts0.glob 0 (ah Tryz.prog 22 34) (aE (cq (.ofNat i) Rs (aa o M N L (.rsl true 3 0 l.length 2)) [.str x.name,.str x.text] b (.ofNat t) [(3,.cells (flat (l.map aT)),.whole)]) [(1,BN),(2,BL)]) Q:=by
 have hc:=jI l
 intro m
 induction m with
 |zero=>
  intro t b ht hq
  rw[Nat.add_zero] at ht
  subst ht
  rw[List.drop_of_length_le (Nat.le_refl _),show kx x []=false from rfl,Bool.or_false] at hq
  refine ALp.roundO (A:=aq [(23,5,.res .nilp),(35,5,.res .nilp)] [] aA [] []) (V1:=cq (.ofNat i) Rs [] [] b 0 []) (F:=cq (.ofNat i) Rs (aa o M N L (.rsl true 3 0 l.length 2)) [.str x.name,.str x.text] b (.ofNat l.length) [(3,.cells (flat (l.map aT)),.whole)]) (opt:=[]) (opt':=[(1,BN),(2,BL)]) (lk:=[]) (lk':=[(0,0),(1,1),(2,2),(3,3),(4,4),(5,5)]) base0 am (LsOk.no rfl) .refl ?_
  rw[Q1]
  refine az (fun e=> ?_) (fun _=>⟨⟨⟨⟨⟨rfl,hR⟩,⟨rfl,rfl⟩,⟨rfl,rfl⟩,⟨rfl,rfl⟩,trivial⟩,⟨⟨rfl,rfl⟩,⟨rfl,rfl⟩,⟨rfl,rfl⟩,trivial⟩,bp (o:=o) hM (rN _ rfl) (rX _ rfl) (.rsl _ _ _ _ _ _ rfl),⟨rfl,rfl⟩,⟨rfl,rfl⟩,⟨rfl,hc⟩,trivial⟩,⟨rfl,bn⟩,⟨rfl,bx⟩,trivial⟩,hq⟩)
  have e:=ltInt_iff.1 e
  omega
 | succ m ih=>
  intro t b ht hq
  have hi:t<l.length:=by omega
  have g1:=List.getElem?_eq_getElem hi
  rw[List.drop_eq_getElem_cons hi] at hq
  revert g1 hq
  generalize l[t]=z
  intro hq g1
  have hw:af .i64 (Int.ofNat t+1)=Int.ofNat (t+1):=co (by simp;omega) (by simp;omega)
  have hob:(cJ (Int.ofNat t)&&((Int.ofNat t).toNat.blt l.length&&true))=true:=by
   simp only[cJ,Bool.true_and,Bool.and_true]
   exact blt_iff.2 hi
  have hn:=ih (t+1) (b||vp z x) (by omega) (by
   simpa only[kx,List.any_cons,Bool.or_assoc] using hq)
  refine ALp.roundO (A:=aq [(33,4,.res (.bool true)),(35,6,.ld (.agg [.str z.name,.str z.text]))] [] aA [] []) (V1:=cq (.ofNat i) Rs (aa o M N L (.rsl true 3 0 l.length 2)) [.str x.name,.str x.text] (b||vp z x) (.ofNat (t+1)) [(3,.cells (flat (l.map aT)),.whole)]) (F:=cq (.ofNat i) Rs [] [] b 0 []) (opt:=[(1,BN),(2,BL)]) (opt':=[]) (lk:=[(0,0),(1,1),(2,2),(3,3),(4,4),(5,5)]) (lk':=[]) base0 am (LsOk.no rfl) .refl ?_
  rw[Q2,hw]
  refine ⟨pz (by simp;omega),az (fun e=>⟨⟨⟨⟨⟨rfl,hR⟩,⟨rfl,rfl⟩,⟨by rw[e];rfl,rfl⟩,⟨rfl,rfl⟩,trivial⟩,⟨⟨rfl,rfl⟩,⟨rfl,rfl⟩,⟨rfl,rfl⟩,trivial⟩,bp (o:=o) hM (rN _ rfl) (rX _ rfl) (.rsl _ _ _ _ _ _ rfl),⟨rfl,rfl⟩,⟨rfl,rfl⟩,⟨rfl,hc⟩,trivial⟩,⟨rfl,bn⟩,⟨rfl,bx⟩,trivial⟩,hn⟩)
   (fun e=>aH hob ⟨Rh g1,⟨⟨⟨⟨rfl,hR⟩,⟨rfl,rfl⟩,⟨by rw[e];rfl,rfl⟩,⟨rfl,rfl⟩,trivial⟩,⟨⟨rfl,rfl⟩,⟨rfl,rfl⟩,⟨rfl,rfl⟩,trivial⟩,bp (o:=o) hM (rN _ rfl) (rX _ rfl) (.rsl _ _ _ _ _ _ rfl),⟨rfl,rfl⟩,⟨rfl,rfl⟩,⟨rfl,hc⟩,trivial⟩,⟨rfl,bn⟩,⟨rfl,bx⟩,trivial⟩,hn⟩)⟩
theorem vq:br (ah Tryz.prog 22 5) 34=[ah Tryz.prog 22 34]:=by kernel_rfl
def cnL:List (List UInt8):=[[120,45,97],[120,45,98]]
def ctL:List (List UInt8):=[[111,110,101],[116,119,111],[116,104,114,101,101],[102,111,117,114]]
def iq (y:Rw):Cu:=⟨aD cnL [] y.a,aD ctL [] y.b⟩
theorem vr (n:Int):aZ Tryz.prog 108 (.agg (cnL.map .str)) (I (n%2))=some (.str (aD cnL [] n)):=
 nF (T:=108) (d:=[]) (l:=cnL) (f:= .str) (by decide) fun k x h=>by
  match k,h with
  |0,h=>obtain rfl:_=x:=Option.some.inj h;show aZ _ _ _ _=_;kernel_rfl
  |1,h=>obtain rfl:_=x:=Option.some.inj h;show aZ _ _ _ _=_;kernel_rfl
theorem vt (n:Int):aZ Tryz.prog 109 (.agg (ctL.map .str)) (I (n%4))=some (.str (aD ctL [] n)):=
 nF (T:=109) (d:=[]) (l:=ctL) (f:= .str) (by decide) fun k x h=>by
  match k,h with
  |0,h=>obtain rfl:_=x:=Option.some.inj h;show aZ _ _ _ _=_;kernel_rfl
  |1,h=>obtain rfl:_=x:=Option.some.inj h;show aZ _ _ _ _=_;kernel_rfl
  |2,h=>obtain rfl:_=x:=Option.some.inj h;show aZ _ _ _ _=_;kernel_rfl
  |3,h=>obtain rfl:_=x:=Option.some.inj h;show aZ _ _ _ _=_;kernel_rfl
theorem R7 {y:Rw} {i:Nat} {Rs:List AV} {M N L:AV} {BN BL:Option Blk} (o:Ob) (g:bT i Rs y) (hM:ac M=true) (rN:Rv 1 N) (rX:Rv 2 L) (bn:ai BN) (bx:ai BL) (hk:y.k%9=6):bU (aE (oW (.ofNat i) Rs (aa o M N L .nilsl) []) [(1,BN),(2,BL)]) (aE (oW (.ofNat (i+1)) Rs (aa o M N L (.rsl true 3 0 1 2)) [(3,.cells [.str (aD cnL [] y.a),.str (aD ctL [] y.b)],.whole)]) [(1,BN),(2,BL)]):=by
 intro Q hq
 have hR:=g.c
 refine ALp.roundO (A:=oA 6 0 y [(30,4,.res (.str (aD cnL [] y.a))),(30,9,.res (.str (aD ctL [] y.b)))] [(34,fun s Q=>eC 0 [(0,0),(1,1),(2,2),(4,4),(5,48)] (cq (.ofNat i) Rs (aa o M N L .nilsl) [.str (aD cnL [] y.a),.str (aD ctL [] y.b)] false 0 []) [(1,BN),(2,BL)] s∧Q (.exit 5) (aE (cq (.ofNat i) Rs (aa o M N L .nilsl) [.str (aD cnL [] y.a),.str (aD ctL [] y.b)] false 0 []) [(1,BN),(2,BL)]))] none []) (V1:=oW (.ofNat (i+1)) Rs (aa o M N L (.rsl true 3 0 1 2)) [(3,.cells [.str (aD cnL [] y.a),.str (aD ctL [] y.b)],.whole)]) (F:=oW (.ofNat i) Rs [] []) (opt:=[(1,BN),(2,BL)]) (opt':=[]) (lk:=[(0,0),(1,1),(2,2),(3,19),(4,4)]) (lk':=[]) base0 am (LsOk.at1 rfl vq fun st Q hs=> .seenO base0.glob hs.1 (R6 (x:=iq y) g.c hM rN rX bn bx hs.2)) .refl ?_
 rw[Q6,g.w]
 exact ⟨g.a,g.b,g.x,pk hk (by decide) (by decide),bm _ (by decide) (by decide),vr _,bm _ (by decide) (by decide),vt _,⟨⟨⟨⟨rfl,hR⟩,⟨rfl,rfl⟩,⟨rfl,rfl⟩,⟨rfl,rfl⟩,trivial⟩,⟨⟨rfl,rfl⟩,⟨rfl,rfl⟩,⟨rfl,rfl⟩,trivial⟩,bp (o:=o) hM (rN _ rfl) (rX _ rfl) (.same _ rfl),⟨rfl,rfl⟩,⟨rfl,rfl⟩,trivial⟩,⟨rfl,bn⟩,⟨rfl,bx⟩,trivial⟩,⟨⟨⟨⟨⟨rfl,g.c⟩,⟨rfl,rfl⟩,trivial⟩,⟨⟨rfl,rfl⟩,⟨rfl,rfl⟩,trivial⟩,bp (o:=o) hM (rN _ rfl) (rX _ rfl) (.rsl _ _ _ _ _ _ rfl),⟨rfl,rfl⟩,⟨rfl,rfl⟩,trivial⟩,⟨rfl,bn⟩,⟨rfl,bx⟩,trivial⟩,hq⟩⟩
theorem R8 {y:Rw} {i:Nat} {Rs:List AV} {M N L:AV} {BN BL:Option Blk} (o:Ob) (g:bT i Rs y) (hM:ac M=true) (rN:Rv 1 N) (rX:Rv 2 L) (bn:ai BN) (bx:ai BL) (hk:y.k%9=6) {l:List Cu} (hl:l.length≤1000) (hin:kx (iq y) l=true):bU (aE (oW (.ofNat i) Rs (aa o M N L (.rsl true 3 0 l.length 2)) [(3,.cells (flat (l.map aT)),.whole)]) [(1,BN),(2,BL)]) (aE (oW (.ofNat (i+1)) Rs (aa o M N L (.rsl true 3 0 l.length 2)) [(3,.cells (flat (l.map aT)),.whole)]) [(1,BN),(2,BL)]):=by
 intro Q hq
 have hR:=g.c
 refine ALp.roundO (A:=oA 6 0 y [(30,4,.res (.str (aD cnL [] y.a))),(30,9,.res (.str (aD ctL [] y.b)))] [(34,fun s Q=>eC 0 [(0,0),(1,1),(2,2),(3,3),(4,4),(5,48)] (cq (.ofNat i) Rs (aa o M N L (.rsl true 3 0 l.length 2)) [.str (aD cnL [] y.a),.str (aD ctL [] y.b)] false 0 [(3,.cells (flat (l.map aT)),.whole)]) [(1,BN),(2,BL)] s∧Q (.exit 5) (aE (cq (.ofNat i) Rs (aa o M N L (.rsl true 3 0 l.length 2)) [.str (aD cnL [] y.a),.str (aD ctL [] y.b)] true (.ofNat l.length) [(3,.cells (flat (l.map aT)),.whole)]) [(1,BN),(2,BL)]))] none []) (V1:=oW (.ofNat (i+1)) Rs (aa o M N L (.rsl true 3 0 l.length 2)) [(3,.cells (flat (l.map aT)),.whole)]) (F:=oW (.ofNat i) Rs [] []) (opt:=[(1,BN),(2,BL)]) (opt':=[]) (lk:=[(0,0),(1,1),(2,2),(3,3),(4,4)]) (lk':=[]) base0 am (LsOk.at1 rfl vq fun st Q hs=> .seenO base0.glob hs.1 (Ag (x:=iq y) g.c hM rN rX bn bx hl l.length 0 false (by omega) (by rw[List.drop_zero,hin];exact hs.2))) .refl ?_
 rw[Q7,g.w]
 exact ⟨g.a,g.b,g.x,pk hk (by decide) (by decide),bm _ (by decide) (by decide),vr _,bm _ (by decide) (by decide),vt _,⟨⟨⟨⟨rfl,hR⟩,⟨rfl,rfl⟩,⟨rfl,rfl⟩,⟨rfl,rfl⟩,trivial⟩,⟨⟨rfl,rfl⟩,⟨rfl,rfl⟩,⟨rfl,rfl⟩,trivial⟩,bp (o:=o) hM (rN _ rfl) (rX _ rfl) (.rsl _ _ _ _ _ _ rfl),⟨rfl,rfl⟩,⟨rfl,rfl⟩,⟨rfl,jI l⟩,trivial⟩,⟨rfl,bn⟩,⟨rfl,bx⟩,trivial⟩,⟨⟨⟨⟨⟨rfl,g.c⟩,⟨rfl,rfl⟩,trivial⟩,⟨⟨rfl,rfl⟩,⟨rfl,rfl⟩,trivial⟩,bp (o:=o) hM (rN _ rfl) (rX _ rfl) (.rsl _ _ _ _ _ _ rfl),⟨rfl,rfl⟩,⟨rfl,jI l⟩,trivial⟩,⟨rfl,bn⟩,⟨rfl,bx⟩,trivial⟩,hq⟩⟩
theorem F9:∀l:List Cu,(flat (l.map aT)).length=l.length*2
 |[]=>rfl
 |_::r=>by
  have ih:=F9 r
  rw[List.length_cons,Nat.succ_mul,←ih]
  rfl
theorem R9 {y:Rw} {i:Nat} {Rs:List AV} {M N L:AV} {BN BL:Option Blk} (o:Ob) (g:bT i Rs y) (hM:ac M=true) (rN:Rv 1 N) (rX:Rv 2 L) (bn:ai BN) (bx:ai BL) (hk:y.k%9=6) {l:List Cu} (hl:l.length≤1000) (hin:kx (iq y) l=false) (h6:l.length<6):bU (aE (oW (.ofNat i) Rs (aa o M N L (.rsl true 3 0 l.length 2)) [(3,.cells (flat (l.map aT)),.whole)]) [(1,BN),(2,BL)]) (aE (oW (.ofNat (i+1)) Rs (aa o M N L (.rsl true 3 0 (l.length+1) 2)) [(3,.cells (flat (l.map aT)++[.str (aD cnL [] y.a),.str (aD ctL [] y.b)]),.whole)]) [(1,BN),(2,BL)]):=by
 intro Q hq
 have hR:=g.c
 refine ALp.roundO (A:=oA 6 0 y [(30,4,.res (.str (aD cnL [] y.a))),(30,9,.res (.str (aD ctL [] y.b))),(36,6,.res (.bool true))] [(34,fun s Q=>eC 0 [(0,0),(1,1),(2,2),(3,3),(4,4),(5,48)] (cq (.ofNat i) Rs (aa o M N L (.rsl true 3 0 l.length 2)) [.str (aD cnL [] y.a),.str (aD ctL [] y.b)] false 0 [(3,.cells (flat (l.map aT)),.whole)]) [(1,BN),(2,BL)] s∧Q (.exit 5) (aE (cq (.ofNat i) Rs (aa o M N L (.rsl true 3 0 l.length 2)) [.str (aD cnL [] y.a),.str (aD ctL [] y.b)] false (.ofNat l.length) [(3,.cells (flat (l.map aT)),.whole)]) [(1,BN),(2,BL)]))] none []) (V1:=oW (.ofNat (i+1)) Rs (aa o M N L (.rsl true 3 0 (l.length+1) 2)) [(3,.cells (flat (l.map aT)++[.str (aD cnL [] y.a),.str (aD ctL [] y.b)]),.whole)]) (F:=oW (.ofNat i) Rs [] []) (opt:=[(1,BN),(2,BL)]) (opt':=[]) (lk:=[(0,0),(1,1),(2,2),(3,19),(4,4)]) (lk':=[]) base0 am (LsOk.at1 rfl vq fun st Q hs=> .seenO base0.glob hs.1 (Ag (x:=iq y) g.c hM rN rX bn bx hl l.length 0 false (by omega) (by rw[List.drop_zero,hin];exact hs.2))) .refl ?_
 rw[Q8,g.w]
 exact ⟨g.a,g.b,g.x,pk hk (by decide) (by decide),bm _ (by decide) (by decide),vr _,bm _ (by decide) (by decide),vt _,⟨⟨⟨⟨rfl,hR⟩,⟨rfl,rfl⟩,⟨rfl,rfl⟩,⟨rfl,rfl⟩,trivial⟩,⟨⟨rfl,rfl⟩,⟨rfl,rfl⟩,⟨rfl,rfl⟩,trivial⟩,bp (o:=o) hM (rN _ rfl) (rX _ rfl) (.rsl _ _ _ _ _ _ rfl),⟨rfl,rfl⟩,⟨rfl,rfl⟩,⟨rfl,jI l⟩,trivial⟩,⟨rfl,bn⟩,⟨rfl,bx⟩,trivial⟩,pz (by simp;omega),aH (by simp[bo,aS,flat,AV.cells,ab];omega) (aH (by simp[aI,F9]) ⟨⟨⟨⟨⟨rfl,g.c⟩,⟨rfl,rfl⟩,trivial⟩,⟨⟨rfl,rfl⟩,⟨rfl,rfl⟩,trivial⟩,bp (o:=o) hM (rN _ rfl) (rX _ rfl) (.rsl _ _ _ _ _ _ rfl),⟨rfl,rfl⟩,⟨rfl,by simp[dh,jI];rfl⟩,trivial⟩,⟨rfl,bn⟩,⟨rfl,bx⟩,trivial⟩,hq⟩)⟩
theorem Sa {y:Rw} {i:Nat} {Rs:List AV} {M N L:AV} {BN BL:Option Blk} (o:Ob) (g:bT i Rs y) (hM:ac M=true) (rN:Rv 1 N) (rX:Rv 2 L) (bn:ai BN) (bx:ai BL) (hk:y.k%9=6) {l:List Cu} (hl:l.length≤1000) (hin:kx (iq y) l=false) (h6:6≤l.length):bU (aE (oW (.ofNat i) Rs (aa o M N L (.rsl true 3 0 l.length 2)) [(3,.cells (flat (l.map aT)),.whole)]) [(1,BN),(2,BL)]) (aE (oW (.ofNat (i+1)) Rs (aa o M N L (.rsl true 3 0 l.length 2)) [(3,.cells (flat (l.map aT)),.whole)]) [(1,BN),(2,BL)]):=by
 intro Q hq
 have hR:=g.c
 refine ALp.roundO (A:=oA 6 0 y [(30,4,.res (.str (aD cnL [] y.a))),(30,9,.res (.str (aD ctL [] y.b))),(36,6,.res (.bool false))] [(34,fun s Q=>eC 0 [(0,0),(1,1),(2,2),(3,3),(4,4),(5,48)] (cq (.ofNat i) Rs (aa o M N L (.rsl true 3 0 l.length 2)) [.str (aD cnL [] y.a),.str (aD ctL [] y.b)] false 0 [(3,.cells (flat (l.map aT)),.whole)]) [(1,BN),(2,BL)] s∧Q (.exit 5) (aE (cq (.ofNat i) Rs (aa o M N L (.rsl true 3 0 l.length 2)) [.str (aD cnL [] y.a),.str (aD ctL [] y.b)] false (.ofNat l.length) [(3,.cells (flat (l.map aT)),.whole)]) [(1,BN),(2,BL)]))] none []) (V1:=oW (.ofNat (i+1)) Rs (aa o M N L (.rsl true 3 0 l.length 2)) [(3,.cells (flat (l.map aT)),.whole)]) (F:=oW (.ofNat i) Rs [] []) (opt:=[(1,BN),(2,BL)]) (opt':=[]) (lk:=[(0,0),(1,1),(2,2),(3,3),(4,4)]) (lk':=[]) base0 am (LsOk.at1 rfl vq fun st Q hs=> .seenO base0.glob hs.1 (Ag (x:=iq y) g.c hM rN rX bn bx hl l.length 0 false (by omega) (by rw[List.drop_zero,hin];exact hs.2))) .refl ?_
 rw[Q9,g.w]
 exact ⟨g.a,g.b,g.x,pk hk (by decide) (by decide),bm _ (by decide) (by decide),vr _,bm _ (by decide) (by decide),vt _,⟨⟨⟨⟨rfl,hR⟩,⟨rfl,rfl⟩,⟨rfl,rfl⟩,⟨rfl,rfl⟩,trivial⟩,⟨⟨rfl,rfl⟩,⟨rfl,rfl⟩,⟨rfl,rfl⟩,trivial⟩,bp (o:=o) hM (rN _ rfl) (rX _ rfl) (.rsl _ _ _ _ _ _ rfl),⟨rfl,rfl⟩,⟨rfl,rfl⟩,⟨rfl,jI l⟩,trivial⟩,⟨rfl,bn⟩,⟨rfl,bx⟩,trivial⟩,vk (by simp;omega),⟨⟨⟨⟨⟨rfl,g.c⟩,⟨rfl,rfl⟩,trivial⟩,⟨⟨rfl,rfl⟩,⟨rfl,rfl⟩,trivial⟩,bp (o:=o) hM (rN _ rfl) (rX _ rfl) (.rsl _ _ _ _ _ _ rfl),⟨rfl,rfl⟩,⟨rfl,jI l⟩,trivial⟩,⟨rfl,bn⟩,⟨rfl,bx⟩,trivial⟩,hq⟩⟩
noncomputable section
def iu (n i:Nat) (x:Int) (es:List AV):View:=⟨[(0,I (.ofNat n)),(6,.int .u64 x),(7,I (.ofNat i))],[(5,.rsl true 0 0 n 1)],[(0,.cells es,.whole)],1,27⟩
@[simp] abbrev Ah (n:Nat):=(I (Int.ofNat n)=I (Int.ofNat n)∧ac (I (Int.ofNat n))=true)
theorem Ga (n i j:Nat) (x x':Int) (es es':List AV) (N:Prop) (Q:AExit→St→Prop):aw Tryz.prog opts0 40 (aq [] [] aA [] []) (ah Tryz.prog 68 5) (iu n i x es).st (bf 0 [(0,0)] (iu n j x' es') N [(0,0)] (iu n i x es) Q)=
  (ak (ar (Int.ofNat i) (Int.ofNat n)) (aC (cJ (Int.ofNat i)&&((Int.ofNat i).toNat.blt n&&true)) (aC ((0+(Int.ofNat i).toNat*1+1).ble (ab es)) ((((Ah n)∧(AV.int IntKind.u64 (af IntKind.u64 (af IntKind.u64 (x*6364136223846793005)+1442695040888963407))=AV.int IntKind.u64 x'∧ac (AV.int IntKind.u64 x')=true)∧(I (af IntKind.i64 (Int.ofNat i+1))=I (Int.ofNat j)∧ac (I (Int.ofNat j))=true)∧True)∧((true=true∧some 0=some 0∧0=0∧n=n∧1=1)∧True)∧(List.take (0+(Int.ofNat i).toNat*1) es++AV.int IntKind.u8 (af IntKind.u8 ((af IntKind.u64 (af IntKind.u64 (x*6364136223846793005)+1442695040888963407)).fdiv 1099511627776))::List.drop (0+(Int.ofNat i).toNat*1+ab [AV.int IntKind.u8 (af IntKind.u8 ((af IntKind.u64 (af IntKind.u64 (x*6364136223846793005)+1442695040888963407)).fdiv 1099511627776))]) es=es'∧ad es'=true)∧True)∧N))) ((((Ah n)∧(AV.int IntKind.u64 x=AV.int IntKind.u64 x∧ac (AV.int IntKind.u64 x)=true)∧(I (Int.ofNat i)=I (Int.ofNat i)∧ac (I (Int.ofNat i))=true)∧True)∧((true=true∧some 0=some 0∧0=0∧n=n∧1=1)∧True)∧(es=es∧ad es=true)∧True)∧Q (AExit.exit 0) (iu n i x es).st)):=by kernel_rfl
def Gb (n:Nat) (s x:Int) (es es':List AV):bg:=fun st Q=>bR 0 [(0,2)] (iu n 0 (af .u64 s) es) st∧Q (.exit 0) (iu n n x es').st
theorem Sb (n:Nat) (s x:Int) (es es':List AV) (Q:AV→ae→Nat→Prop):aL Tryz.prog opts0 40 (aq [] [(5,Gb n s x es es')] aA [] []) 68 [I (.ofNat n),I s] [] 0 Q=
  (aC (cJ (Int.ofNat n)&&(cJ (Int.ofNat n)&&((Int.ofNat n).toNat.ble (Int.ofNat n).toNat&&(1*(Int.ofNat n).toNat).ble 281474976710656&&(Int.ofNat n).toNat.ble 9223372036854775807&&true&&true))) ((((Ah n)∧(AV.int IntKind.u64 (af IntKind.u64 s)=AV.int IntKind.u64 (af IntKind.u64 s)∧ac (AV.int IntKind.u64 (af IntKind.u64 s))=true)∧(I 0=I 0∧true=true)∧True)∧((true=true∧some 2=some 2∧0=0∧n=(Int.ofNat n).toNat∧1=1)∧True)∧(flat (dk (AV.int IntKind.u8 0) (Int.ofNat n).toNat)=es∧ad es=true)∧True)∧Q (AV.rsl true 0 0 n 1) [(0,some (Blk.cells es'))] 3)):=by kernel_rfl
def ky (x:Int):Int:=af .u64 (af .u64 (x*6364136223846793005)+1442695040888963407)
def pC (x:Int):UInt8:=UInt8.ofNat (af .u8 (x.fdiv 1099511627776)).toNat
def lJ:Nat→Int→List UInt8
 |0,_=>[]
 |k+1,x=>pC (ky x)::lJ k (ky x)
def vu:Nat→Int→Int
 |0,x=>x
 |k+1,x=>vu k (ky x)
theorem Ai:∀k x,(lJ k x).length=k
 |0,_=>rfl
 |k+1,_x=>congrArg (· +1) (Ai k _)
theorem Sc (x:Int):AV.int .u8 (af .u8 (x.fdiv 1099511627776))= .int .u8 (.ofNat (pC x).toNat):=by
 unfold pC
 rw[ke]
 generalize x.fdiv 1099511627776=y
 have h0:0≤IntKind.wrap .u8 y∧IntKind.wrap .u8 y<256:=by simp[IntKind.wrap,IntKind.signed,IntKind.bits];omega
 obtain ⟨h0,h1⟩:=h0
 congr 1
 rw[UInt8.toNat_ofNat']
 simp only[Int.ofNat_eq_natCast]
 omega
theorem Sd {n:Nat} {Q:AExit→St→Prop} (hn:n≤1000):∀ (k:Nat) (x:Int) (p:List UInt8),p.length+k=n→Q (.exit 0) (iu n n (vu k x) (ap (p++lJ k x))).st→ALp Tryz.prog opts0.glob 0 (ah Tryz.prog 68 5) (iu n p.length x (ap (p++List.replicate k 0))).st Q:=by
 intro k
 induction k with
 |zero=>
  intro x p hp hq
  simp only[Nat.add_zero] at hp
  subst hp
  refine ALp.round (A:=aq [] [] aA [] []) (V2:=iu p.length 0 x []) (F:=iu p.length p.length x (ap (p++List.replicate 0 0))) (lk:=[(0,0)]) (lk':=[(0,0)]) base0 am (LsOk.no rfl) .refl ?_
  rw[Ga]
  refine az (fun h=> ?_) (fun _=>⟨⟨⟨⟨rfl,rfl⟩,⟨rfl,rfl⟩,⟨rfl,rfl⟩,trivial⟩,⟨⟨rfl,rfl,rfl,rfl,rfl⟩,trivial⟩,⟨rfl,gu _⟩,trivial⟩,hq⟩)
  have h:=ltInt_iff.1 h
  omega
 | succ k ih=>
  intro x p hp hq
  have h2:=ih (ky x) (p++[pC (ky x)]) (by simp;omega) (by simpa [lJ,vu] using hq)
  have hl:(p++[pC (ky x)]).length=p.length+1:=by simp
  rw[hl,List.append_assoc,List.singleton_append] at h2
  have hw:af .i64 (Int.ofNat p.length+1)=Int.ofNat (p.length+1):=co (by simp;omega) (by simp;omega)
  refine ALp.round (A:=aq [] [] aA [] []) (V2:=iu n (p.length+1) (ky x) (ap (p++pC (ky x)::List.replicate k 0))) (F:=iu n p.length x (ap (p++List.replicate (k+1) 0))) (lk:=[(0,0)]) (lk':=[(0,0)]) base0 am (LsOk.no rfl) .refl ?_
  rw[Ga,hw,show af .u64 (af .u64 (x*6364136223846793005)+1442695040888963407)=ky x from rfl,Sc]
  refine az (fun _=>aH ?_ (aH ?_ ⟨⟨⟨⟨rfl,rfl⟩,⟨rfl,rfl⟩,⟨rfl,rfl⟩,trivial⟩,⟨⟨rfl,rfl,rfl,rfl,rfl⟩,trivial⟩,⟨?_,gu _⟩,trivial⟩,h2⟩)) (fun h=> ?_)
  ·simp only[cJ,Bool.true_and,Bool.and_true]
   exact blt_iff.2 (by simp;omega)
  ·rw[uv]
   simp
  ·simp[o3,ab,List.replicate_succ]
   rw[List.drop_append,List.drop_of_length_le (by simp),List.nil_append,List.length_map,Nat.add_sub_cancel_left]
   rfl
  ·have h:=ltInt_false.1 h
   simp only[Int.ofNat_eq_natCast] at h
   omega
theorem Se:br (cy Tryz.prog 68) 5=[ah Tryz.prog 68 5]:=by kernel_rfl
theorem Sf {n:Nat} (hn:n≤1000) (s:Int):SC 68 [I (.ofNat n),I s] (.fsl false (ap (lJ n (af .u64 s)))):=by
 refine dH (A:=aq [] [(5,Gb n s (vu n (af .u64 s)) (ap ([]++List.replicate n 0)) (ap ([]++lJ n (af .u64 s))))] aA [] []) base0 am
  (aN (LsOk.at1 rfl Se fun st Q hs=> .seen base0.glob hs.1 (Sd hn n _ [] (by simp) hs.2))) rfl ?_
 rw[Sb]
 refine aH ?_ ⟨⟨⟨⟨rfl,rfl⟩,⟨rfl,rfl⟩,⟨rfl,rfl⟩,trivial⟩,⟨⟨rfl,rfl,rfl,rfl,rfl⟩,trivial⟩,⟨?_,gu _⟩,trivial⟩, ?_⟩
 ·simp[cJ];omega
 ·show flat (dk _ n)=_
  rw[DU,DT,List.nil_append]
 ·exact ⟨_,(Frz.bytes (s:=lJ n (af .u64 s)) rfl rfl rfl (Ai _ _).symm).out,gu _,.refl _⟩
end
end Go.Proofs.YtjhggnebkfpgcaaGreatDoor
namespace Go.Proofs.YtjhggnebkfpgcaaGreatDoor
open Go Go.RowKit
open Go.Proofs.Abs
noncomputable section
@[simp] abbrev Aj (Rs:List AV):=(AV.fsl false Rs=AV.fsl false Rs∧ac (AV.fsl false Rs)=true)
@[simp] abbrev Gc (BC BL BN:Option Blk) (C L M N:AV) (Rs:List AV) (i:Int) (o:Ob):=((((Aj Rs)∧(I i=I i∧ac (I i)=true)∧True)∧((some 4=some 4∧0=0)∧(some 0=some 0∧0=0)∧True)∧bt [(0,0),(1,1),(2,2),(3,3),(4,4)] (aa o M N L C) (aa o M N L C)∧(zL=zL∧true=true)∧True)∧(BN=BN∧ai BN)∧(BL=BL∧ai BL)∧(BC=BC∧ai BC)∧True)
theorem Gd (i:Int) (Rs:List AV) (o:Ob) (M N L C:AV) (BN BL BC:Option Blk) (Nx:Prop) (Q:AExit→St→Prop):aw Tryz.prog opts0 40 (aq [(4,3,.res (.bool false))] [] aA [] []) (ah Tryz.prog 22 5) (aE (oW i Rs (aa o M N L C) []) [(1,BN),(2,BL),(3,BC)]) (roundO 0 [] (oW i Rs [] []) [] Nx [(0,0),(1,1),(2,2),(3,3),(4,4)] (oW i Rs (aa o M N L C) []) [(1,BN),(2,BL),(3,BC)] Q)=
  (aG Tryz.prog BinOp.lss 3 (Operand.tmp 55) (Operand.tmp 57) (I i) (I (Int.ofNat (ab Rs)))=some (AV.bool false)∧(Gc BC BL BN C L M N Rs i o)∧Q (AExit.exit 0) (aE (oW i Rs (aa o M N L C) []) [(1,BN),(2,BL),(3,BC)])):=by kernel_rfl
theorem Sg (i:Int) (Rs:List AV) (o:Ob) (M N L C:AV) (BN BL BC:Option Blk) (Nx:Prop) (Q:AExit→St→Prop):aw Tryz.prog opts0 40 (aq [(4,3,.res (.bool true)),(4,6,.res (.bool false))] [] aA [] []) (ah Tryz.prog 22 5) (aE (oW i Rs (aa o M N L C) []) [(1,BN),(2,BL),(3,BC)]) (roundO 0 [] (oW i Rs [] []) [] Nx [(0,0),(1,1),(2,2),(3,3),(4,4)] (oW i Rs (aa o M N L C) []) [(1,BN),(2,BL),(3,BC)] Q)=
  (aG Tryz.prog BinOp.lss 3 (Operand.tmp 55) (Operand.tmp 57) (I i) (I (Int.ofNat (ab Rs)))=some (AV.bool true)∧aG Tryz.prog BinOp.lss 3 (Operand.tmp 60) (Operand.const (Value.int IntKind.i64 10)) (I i) (I 10)=some (AV.bool false)∧(Gc BC BL BN C L M N Rs i o)∧Q (AExit.exit 0) (aE (oW i Rs (aa o M N L C) []) [(1,BN),(2,BL),(3,BC)])):=by kernel_rfl
def vw (id:List UInt8) (ty alg mask n:Int) (m:List AV) (ls:bg):be:=aq [(1,7,.res (I ty)),(1,12,.res (I alg)),(1,18,.res (I mask)),(1,24,.res (I n))] [(5,ls)] (jy [(23,ly),(67,fun _=>some (.str id)),(68,fun _=>some (.fsl false m))]) [] []
def nG (x:Rw) (id:List UInt8) (ty alg mask:Int) (mat:List UInt8):Ob:=⟨id,ty,alg,128,mask,mat,af .i64 (1+x.k%6),⟨true,x.c%20⟩,⟨false,0⟩,⟨false,0⟩,⟨false,0⟩,⟨false,0⟩,⟨false,0⟩,⟨false,0⟩,⟨false,0⟩,⟨false,0⟩,⟨false,0⟩,0,[],[],[],[],false,0,0,0,false⟩
def vx (Rs:List AV) (o0 o:Ob) (m:List AV) (j:Int) (N L C:AV) (BN BL BC:Option Blk):bg:=fun st Q=>eC 0 [(0,35),(4,1)] (oW 0 Rs (aa o0 (.fsl false m) .nilsl .nilsl .nilsl) []) [] st∧Q (.exit 0) (aE (oW j Rs (aa o (.fsl false m) N L C) []) [(1,BN),(2,BL),(3,BC)])
@[simp] abbrev Ge:=((some 1=some 1∧0=0)∧(some 35=some 35∧0=0)∧True)
theorem Sh (x:Rw) (Rs:List AV) (id:List UInt8) (ty alg mask n:Int) (mat:List UInt8) (m:List AV) (o:Ob) (j:Int) (N C:AV) (BN BL BC:Option Blk) (Q:AV→ae→Prop):aL Tryz.prog opts0 40 (vw id ty alg mask n m (vx Rs (nG x id ty alg mask mat) o m j N .nilsl C BN BL BC)) 22 [aJ x,.fsl false Rs] [] 0 (fun v H _=>Q v H)=
  (SC 67 [I x.2] (AV.str id)∧SC 23 [I x.3,I 5] (I (x.3%5))∧aZ Tryz.prog 103 (AV.agg [I 2,I 2,I 3,I 4,I 7]) (I (x.3%5))=some (I ty)∧SC 23 [I x.4,I 4] (I (x.4%4))∧aZ Tryz.prog 104 (AV.agg [I 3,I 3,I 0,I 4]) (I (x.4%4))=some (I alg)∧SC 23 [I (af IntKind.i64 (x.2.tdiv 12)),I 5] (I (af IntKind.i64 (x.2.tdiv 12)%5))∧aZ Tryz.prog 103 (AV.agg [I 396,I 12,I 4,I 384,I 0]) (I (af IntKind.i64 (x.2.tdiv 12)%5))=some (I mask)∧SC 23 [I (af IntKind.i64 (x.3.tdiv 5)),I 5] (I (af IntKind.i64 (x.3.tdiv 5)%5))∧aZ Tryz.prog 103 (AV.agg [I 16,I 16,I 32,I 0,I 24]) (I (af IntKind.i64 (x.3.tdiv 5)%5))=some (I n)∧SC 68 [I n,I x.4] (AV.fsl false m)∧SC 23 [I x.1,I 6] (I (x.1%6))∧SC 23 [I x.4,I 20] (I (x.4%20))∧((((Aj Rs)∧(I 0=I 0∧true=true)∧True)∧Ge∧bt [(0,35),(4,1)] [AV.str id,I ty,I alg,I 128,I mask,AV.fsl false m,I (af IntKind.i64 (1+x.1%6)),AV.bool true,I (x.4%20),AV.bool false,I 0,AV.bool false,I 0,AV.bool false,I 0,AV.bool false,I 0,AV.bool false,I 0,AV.bool false,I 0,AV.bool false,I 0,AV.bool false,I 0,AV.bool false,I 0,I 0,AV.str [],AV.nilsl,AV.nilsl,AV.nilsl,AV.bool false,I 0,I 0,I 0,AV.bool false] [AV.str id,I ty,I alg,I 128,I mask,AV.fsl false m,I (af IntKind.i64 (1+x.1%6)),AV.bool true,I (x.4%20),AV.bool false,I 0,AV.bool false,I 0,AV.bool false,I 0,AV.bool false,I 0,AV.bool false,I 0,AV.bool false,I 0,AV.bool false,I 0,AV.bool false,I 0,AV.bool false,I 0,I 0,AV.str [],AV.nilsl,AV.nilsl,AV.nilsl,AV.bool false,I 0,I 0,I 0,AV.bool false]∧(zL=zL∧true=true)∧True)∧True)∧aC (cQ Tryz.prog 33 (AV.agg (aa o (AV.fsl false m) N AV.nilsl C)) 37) (Q (AV.agg (aa o (AV.fsl false m) N AV.nilsl C)) [(4,some (Blk.cells (aa o (AV.fsl false m) N AV.nilsl C))),(0,some (Blk.cells (aa o (AV.fsl false m) N AV.nilsl C))),(4,some (Blk.cells zL)),(1,BN),(2,BL),(3,BC)])):=by kernel_rfl
abbrev vy (C N:AV) (m:List AV) (o:Ob):=(aa o (AV.fsl false m) N (AV.rsl true 2 0 8 2) C)
theorem Si (x:Rw) (Rs:List AV) (id:List UInt8) (ty alg mask n:Int) (mat:List UInt8) (m:List AV) (o:Ob) (j:Int) (N C:AV) (k:Nat) (es:List AV) (BN BC:Option Blk) (Q:AV→ae→Prop):aL Tryz.prog opts0 40 (vw id ty alg mask n m (vx Rs (nG x id ty alg mask mat) o m j N (.rsl true 2 0 k 2) C BN (some (.cells es)) BC)) 22 [aJ x,.fsl false Rs] [] 0 (fun v H _=>Q v H)=
  (SC 67 [I x.2] (AV.str id)∧SC 23 [I x.3,I 5] (I (x.3%5))∧aZ Tryz.prog 103 (AV.agg [I 2,I 2,I 3,I 4,I 7]) (I (x.3%5))=some (I ty)∧SC 23 [I x.4,I 4] (I (x.4%4))∧aZ Tryz.prog 104 (AV.agg [I 3,I 3,I 0,I 4]) (I (x.4%4))=some (I alg)∧SC 23 [I (af IntKind.i64 (x.2.tdiv 12)),I 5] (I (af IntKind.i64 (x.2.tdiv 12)%5))∧aZ Tryz.prog 103 (AV.agg [I 396,I 12,I 4,I 384,I 0]) (I (af IntKind.i64 (x.2.tdiv 12)%5))=some (I mask)∧SC 23 [I (af IntKind.i64 (x.3.tdiv 5)),I 5] (I (af IntKind.i64 (x.3.tdiv 5)%5))∧aZ Tryz.prog 103 (AV.agg [I 16,I 16,I 32,I 0,I 24]) (I (af IntKind.i64 (x.3.tdiv 5)%5))=some (I n)∧SC 68 [I n,I x.4] (AV.fsl false m)∧SC 23 [I x.1,I 6] (I (x.1%6))∧SC 23 [I x.4,I 20] (I (x.4%20))∧((((Aj Rs)∧(I 0=I 0∧true=true)∧True)∧Ge∧bt [(0,35),(4,1)] [AV.str id,I ty,I alg,I 128,I mask,AV.fsl false m,I (af IntKind.i64 (1+x.1%6)),AV.bool true,I (x.4%20),AV.bool false,I 0,AV.bool false,I 0,AV.bool false,I 0,AV.bool false,I 0,AV.bool false,I 0,AV.bool false,I 0,AV.bool false,I 0,AV.bool false,I 0,AV.bool false,I 0,I 0,AV.str [],AV.nilsl,AV.nilsl,AV.nilsl,AV.bool false,I 0,I 0,I 0,AV.bool false] [AV.str id,I ty,I alg,I 128,I mask,AV.fsl false m,I (af IntKind.i64 (1+x.1%6)),AV.bool true,I (x.4%20),AV.bool false,I 0,AV.bool false,I 0,AV.bool false,I 0,AV.bool false,I 0,AV.bool false,I 0,AV.bool false,I 0,AV.bool false,I 0,AV.bool false,I 0,AV.bool false,I 0,I 0,AV.str [],AV.nilsl,AV.nilsl,AV.nilsl,AV.bool false,I 0,I 0,I 0,AV.bool false]∧(zL=zL∧true=true)∧True)∧True)∧ak (ar 8 (Int.ofNat k)) (aC (Nat.ble 8 k) (aC (cQ Tryz.prog 33 (AV.agg (vy C N m o)) 37) (Q (AV.agg (vy C N m o)) [(4,some (Blk.cells (vy C N m o))),(0,some (Blk.cells (vy C N m o))),(4,some (Blk.cells zL)),(1,BN),(2,some (Blk.cells es)),(3,BC)]))) (aC (cQ Tryz.prog 33 (AV.agg (aa o (AV.fsl false m) N (AV.rsl true 2 0 k 2) C)) 37) (Q (AV.agg (aa o (AV.fsl false m) N (AV.rsl true 2 0 k 2) C)) [(4,some (Blk.cells (aa o (AV.fsl false m) N (AV.rsl true 2 0 k 2) C))),(0,some (Blk.cells (aa o (AV.fsl false m) N (AV.rsl true 2 0 k 2) C))),(4,some (Blk.cells zL)),(1,BN),(2,some (Blk.cells es)),(3,BC)]))):=by kernel_rfl
end
end Go.Proofs.YtjhggnebkfpgcaaGreatDoor
