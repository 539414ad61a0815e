import Derived.Test.YtjmnheinkchlfaaGreatDoorProg
import Derived.Test.YtjmnheinkchlfaaGreatDoorG5
import Derived.KernelRfl
namespace Go.Proofs.YtjmnheinkchlfaaGreatDoor
open Go Go.RowKit
open Go.Proofs.Abs
abbrev I (n:Int):AV:= .int .i64 n
def gl:ag:=fun _=>none
theorem Tryz.mixed:Tryz.prog.follows .mixedOrders=true:=by kernel_rfl
noncomputable def opts0:al:={how:=fun _=> .pure,summ:=fun _ _=>none,glob:=gl,lf:=100000}
theorem vk:∀g l,gl g=some l→af l=true:=fun _ _ h=>by cases h
theorem base0:bt Tryz.prog opts0 40:=tE Tryz.mixed (fun _ _ _ h=>by cases h) vk
theorem iE:∀f args v,opts0.summ f args=some v→SemCall Tryz.prog opts0.glob f args v:=fun _ _ _ h=>by cases h
noncomputable def aN:bu:=dM (fun _ _=>none) (fun _=>none)
theorem bP:bK Tryz.prog opts0 aN:=jJ iE
noncomputable def mO (hint:List (Nat × Nat × bU)) (ls:List (Nat × bJ)) (sem:ef) (pure all:List Nat):bu:=ri Tryz.prog opts0 40 (qS hint) (gb ls) sem (uZ pure all)
theorem vl {hint:List (Nat × Nat × bU)} {ls:List (Nat × bJ)} {sem:ef} {pure all:List Nat}:bK Tryz.prog opts0 (mO hint ls sem pure all):=u0 base0 iE
set_option maxRecDepth 20000 in
theorem cO {A:bu} {f:FuncId} {args:List AV} {v r:AV} (hA:bK Tryz.prog opts0 A) (hl:fb Tryz.prog opts0.glob 0 A f) (hcl:af args=true) (h:aZ Tryz.prog opts0 40 A f args [] 0 (fun u H _=>(∃d,aj 0 H d u=some r)∧ad r=true)) (hw:Wk r v):SemCall Tryz.prog opts0.glob f args v:=(ma base0 hA hl hcl h).res hw
abbrev SC:=SemCall Tryz.prog opts0.glob
abbrev jR:Nat:=1099511627776
theorem vm (Q:AV→aa→Nat→Prop):aZ Tryz.prog opts0 40 aN 115 [.nilsl] [] 0 Q=
  (Q AV.nilsl [] 4):=by kernel_rfl
theorem vn (Q:AV→aa→Nat→Prop):aZ Tryz.prog opts0 40 aN 115 [.nesl] [] 0 Q=
  (Q (AV.fsl true []) [] 7):=by kernel_rfl
theorem vo (a:AV) (es:List AV) (Q:AV→aa→Nat→Prop):aZ Tryz.prog opts0 40 aN 115 [.fsl false (a::es)] [] 0 Q=
  (aS (bq 1 (a::es)&&(((0+ac (a::es))*1).ble 140737488355328&&true)) (Q (AV.rsl true 5 0 (0+ac (a::es)) 1) [(5,some (Blk.cells (flat (a::es))))] 7)):=by kernel_rfl
theorem vp {l:List AV} (hl:∀e∈l,fc 1 e) (hc:af l=true) (hn:l.length≤jR):SC 115 [.fsl false l] (.fsl false l):=by
 cases l with
 |nil=>
  refine SemCall.empty (cO (A:=aN) (r:= .nilsl) bP (cf (LsOk.no rfl)) rfl ?_ .nil) (cO (A:=aN) (r:= .fsl true []) bP (cf (LsOk.no rfl)) rfl ?_ .full)
  ·rw[vm];exact ej rfl
  ·rw[vn];exact ej rfl
 | cons a es=>
  have hcl:af [.fsl false (a::es)]=true:=by rw[af,ad,hc];rfl
  refine cO (A:=aN) (r:= .fsl false (a::es)) bP (cf (LsOk.no rfl)) hcl ?_ (.refl _)
  rw[vo]
  have h1:bq 1 (a::es)=true:=allSize_iff.2 fun e he=>(hl e he).1
  refine oblB_iff.2 ⟨?_, ?_⟩
  ·have hn:es.length+1≤1099511627776:=hn
   simp only[Bool.and_eq_true,Nat.ble_eq,am] at h1⊢
   first|exact ⟨h1,by omega⟩|exact ⟨h1,by simp only[List.length_cons];omega⟩|(simp_all;omega)
  ·exact jQ (Frz.row rfl rfl rfl (by first|rfl|simp[am]) hl hc) hc
theorem vq (Q:AV→aa→Nat→Prop):aZ Tryz.prog opts0 40 aN 116 [.nilsl] [] 0 Q=
  (Q AV.nilsl [] 4):=by kernel_rfl
theorem vr (Q:AV→aa→Nat→Prop):aZ Tryz.prog opts0 40 aN 116 [.nesl] [] 0 Q=
  (Q (AV.fsl true []) [] 7):=by kernel_rfl
theorem vt (a:AV) (es:List AV) (Q:AV→aa→Nat→Prop):aZ Tryz.prog opts0 40 aN 116 [.fsl false (a::es)] [] 0 Q=
  (aS (bq 1 (a::es)&&(((0+ac (a::es))*16).ble 140737488355328&&true)) (Q (AV.rsl true 5 0 (0+ac (a::es)) 1) [(5,some (Blk.cells (flat (a::es))))] 7)):=by kernel_rfl
theorem vu {l:List AV} (hl:∀e∈l,fc 1 e) (hc:af l=true) (hn:l.length≤jR):SC 116 [.fsl false l] (.fsl false l):=by
 cases l with
 |nil=>
  refine SemCall.empty (cO (A:=aN) (r:= .nilsl) bP (cf (LsOk.no rfl)) rfl ?_ .nil) (cO (A:=aN) (r:= .fsl true []) bP (cf (LsOk.no rfl)) rfl ?_ .full)
  ·rw[vq];exact ej rfl
  ·rw[vr];exact ej rfl
 | cons a es=>
  have hcl:af [.fsl false (a::es)]=true:=by rw[af,ad,hc];rfl
  refine cO (A:=aN) (r:= .fsl false (a::es)) bP (cf (LsOk.no rfl)) hcl ?_ (.refl _)
  rw[vt]
  have h1:bq 1 (a::es)=true:=allSize_iff.2 fun e he=>(hl e he).1
  refine oblB_iff.2 ⟨?_, ?_⟩
  ·have hn:es.length+1≤1099511627776:=hn
   simp only[Bool.and_eq_true,Nat.ble_eq,am] at h1⊢
   first|exact ⟨h1,by omega⟩|exact ⟨h1,by simp only[List.length_cons];omega⟩|(simp_all;omega)
  ·exact jQ (Frz.row rfl rfl rfl (by first|rfl|simp[am]) hl hc) hc
theorem vw (Q:AV→aa→Nat→Prop):aZ Tryz.prog opts0 40 aN 117 [.nilsl] [] 0 Q=
  (Q AV.nilsl [] 4):=by kernel_rfl
theorem vx (Q:AV→aa→Nat→Prop):aZ Tryz.prog opts0 40 aN 117 [.nesl] [] 0 Q=
  (Q (AV.fsl true []) [] 7):=by kernel_rfl
theorem vy (a:AV) (es:List AV) (Q:AV→aa→Nat→Prop):aZ Tryz.prog opts0 40 aN 117 [.fsl false (a::es)] [] 0 Q=
  (aS (bq 2 (a::es)&&(((0+ac (a::es))*24).ble 140737488355328&&true)) (Q (AV.rsl true 5 0 (0+ac (a::es)) 2) [(5,some (Blk.cells (flat (a::es))))] 7)):=by kernel_rfl
theorem vz {l:List AV} (hl:∀e∈l,fc 2 e) (hc:af l=true) (hn:l.length≤jR):SC 117 [.fsl false l] (.fsl false l):=by
 cases l with
 |nil=>
  refine SemCall.empty (cO (A:=aN) (r:= .nilsl) bP (cf (LsOk.no rfl)) rfl ?_ .nil) (cO (A:=aN) (r:= .fsl true []) bP (cf (LsOk.no rfl)) rfl ?_ .full)
  ·rw[vw];exact ej rfl
  ·rw[vx];exact ej rfl
 | cons a es=>
  have hcl:af [.fsl false (a::es)]=true:=by rw[af,ad,hc];rfl
  refine cO (A:=aN) (r:= .fsl false (a::es)) bP (cf (LsOk.no rfl)) hcl ?_ (.refl _)
  rw[vy]
  have h1:bq 2 (a::es)=true:=allSize_iff.2 fun e he=>(hl e he).1
  refine oblB_iff.2 ⟨?_, ?_⟩
  ·have hn:es.length+1≤1099511627776:=hn
   simp only[Bool.and_eq_true,Nat.ble_eq,am] at h1⊢
   first|exact ⟨h1,by omega⟩|exact ⟨h1,by simp only[List.length_cons];omega⟩|(simp_all;omega)
  ·exact jQ (Frz.row rfl rfl rfl (by first|rfl|simp[am]) hl hc) hc
theorem vA (Q:AV→aa→Nat→Prop):aZ Tryz.prog opts0 40 aN 118 [.nilsl] [] 0 Q=
  (Q AV.nilsl [] 4):=by kernel_rfl
theorem vB (Q:AV→aa→Nat→Prop):aZ Tryz.prog opts0 40 aN 118 [.nesl] [] 0 Q=
  (Q (AV.fsl true []) [] 7):=by kernel_rfl
theorem vC (a:AV) (es:List AV) (Q:AV→aa→Nat→Prop):aZ Tryz.prog opts0 40 aN 118 [.fsl false (a::es)] [] 0 Q=
  (aS (bq 2 (a::es)&&(((0+ac (a::es))*32).ble 140737488355328&&true)) (Q (AV.rsl true 5 0 (0+ac (a::es)) 2) [(5,some (Blk.cells (flat (a::es))))] 7)):=by kernel_rfl
theorem vD {l:List AV} (hl:∀e∈l,fc 2 e) (hc:af l=true) (hn:l.length≤jR):SC 118 [.fsl false l] (.fsl false l):=by
 cases l with
 |nil=>
  refine SemCall.empty (cO (A:=aN) (r:= .nilsl) bP (cf (LsOk.no rfl)) rfl ?_ .nil) (cO (A:=aN) (r:= .fsl true []) bP (cf (LsOk.no rfl)) rfl ?_ .full)
  ·rw[vA];exact ej rfl
  ·rw[vB];exact ej rfl
 | cons a es=>
  have hcl:af [.fsl false (a::es)]=true:=by rw[af,ad,hc];rfl
  refine cO (A:=aN) (r:= .fsl false (a::es)) bP (cf (LsOk.no rfl)) hcl ?_ (.refl _)
  rw[vC]
  have h1:bq 2 (a::es)=true:=allSize_iff.2 fun e he=>(hl e he).1
  refine oblB_iff.2 ⟨?_, ?_⟩
  ·have hn:es.length+1≤1099511627776:=hn
   simp only[Bool.and_eq_true,Nat.ble_eq,am] at h1⊢
   first|exact ⟨h1,by omega⟩|exact ⟨h1,by simp only[List.length_cons];omega⟩|(simp_all;omega)
  ·exact jQ (Frz.row rfl rfl rfl (by first|rfl|simp[am]) hl hc) hc
abbrev U (n:Nat):AV:= .int .u8 (.ofNat n)
noncomputable def fh (a b o:Nat):View:=⟨[(0,U a),(1,U b),(5,U o)],[],[],0,26⟩
noncomputable def fl (o:Nat):View:=⟨[(5,U o)],[],[],0,26⟩
theorem mP (a b o a' b' o':Nat) (Nx:Prop) (Q:AExit→St→Prop):bg Tryz.prog opts0 40 aN (bX Tryz.prog 392 3) (fh a b o).st (rj 0 [] (fh a' b' o') Nx [] (fl o) Q)=
  (cM (aW 0 (Int.ofNat b)) (cM (bo (ai IntKind.u8 ↑(BitVec.ofInt 8 (Int.ofNat b)&&&BitVec.ofInt 8 1).toNat) 1) (cM (!bo (ai IntKind.u8 ↑(BitVec.ofInt 8 (Int.ofNat a)&&&BitVec.ofInt 8 128).toNat) 0) ((((AV.int IntKind.u8 (ai IntKind.u8 ↑(BitVec.ofInt 8 (ai IntKind.u8 (Int.ofNat a*2))^^^BitVec.ofInt 8 27).toNat)=AV.int IntKind.u8 (Int.ofNat a')∧ad (AV.int IntKind.u8 (Int.ofNat a'))=true)∧(AV.int IntKind.u8 ((Int.ofNat b).fdiv 2)=AV.int IntKind.u8 (Int.ofNat b')∧ad (AV.int IntKind.u8 (Int.ofNat b'))=true)∧(AV.int IntKind.u8 (ai IntKind.u8 ↑(BitVec.ofInt 8 (Int.ofNat o)^^^BitVec.ofInt 8 (Int.ofNat a)).toNat)=AV.int IntKind.u8 (Int.ofNat o')∧ad (AV.int IntKind.u8 (Int.ofNat o'))=true)∧True)∧True∧True)∧Nx) ((((AV.int IntKind.u8 (ai IntKind.u8 (Int.ofNat a*2))=AV.int IntKind.u8 (Int.ofNat a')∧ad (AV.int IntKind.u8 (Int.ofNat a'))=true)∧(AV.int IntKind.u8 ((Int.ofNat b).fdiv 2)=AV.int IntKind.u8 (Int.ofNat b')∧ad (AV.int IntKind.u8 (Int.ofNat b'))=true)∧(AV.int IntKind.u8 (ai IntKind.u8 ↑(BitVec.ofInt 8 (Int.ofNat o)^^^BitVec.ofInt 8 (Int.ofNat a)).toNat)=AV.int IntKind.u8 (Int.ofNat o')∧ad (AV.int IntKind.u8 (Int.ofNat o'))=true)∧True)∧True∧True)∧Nx)) (cM (!bo (ai IntKind.u8 ↑(BitVec.ofInt 8 (Int.ofNat a)&&&BitVec.ofInt 8 128).toNat) 0) ((((AV.int IntKind.u8 (ai IntKind.u8 ↑(BitVec.ofInt 8 (ai IntKind.u8 (Int.ofNat a*2))^^^BitVec.ofInt 8 27).toNat)=AV.int IntKind.u8 (Int.ofNat a')∧ad (AV.int IntKind.u8 (Int.ofNat a'))=true)∧(AV.int IntKind.u8 ((Int.ofNat b).fdiv 2)=AV.int IntKind.u8 (Int.ofNat b')∧ad (AV.int IntKind.u8 (Int.ofNat b'))=true)∧(AV.int IntKind.u8 (Int.ofNat o)=AV.int IntKind.u8 (Int.ofNat o')∧ad (AV.int IntKind.u8 (Int.ofNat o'))=true)∧True)∧True∧True)∧Nx) ((((AV.int IntKind.u8 (ai IntKind.u8 (Int.ofNat a*2))=AV.int IntKind.u8 (Int.ofNat a')∧ad (AV.int IntKind.u8 (Int.ofNat a'))=true)∧(AV.int IntKind.u8 ((Int.ofNat b).fdiv 2)=AV.int IntKind.u8 (Int.ofNat b')∧ad (AV.int IntKind.u8 (Int.ofNat b'))=true)∧(AV.int IntKind.u8 (Int.ofNat o)=AV.int IntKind.u8 (Int.ofNat o')∧ad (AV.int IntKind.u8 (Int.ofNat o'))=true)∧True)∧True∧True)∧Nx))) ((((AV.int IntKind.u8 (Int.ofNat o)=AV.int IntKind.u8 (Int.ofNat o)∧ad (AV.int IntKind.u8 (Int.ofNat o))=true)∧True)∧True∧True)∧Q (AExit.exit 0) (fl o).st)):=by kernel_rfl
noncomputable def rn (a b o:Nat):bJ:=fun st Q=>dt 0 [] (fh a b 0) st∧Q (.exit 0) (fl o).st
theorem vE (a b o:Nat) (Q:AV→Prop):aZ Tryz.prog opts0 40 (mO [] [(3,rn a b o)] jy [] []) 392 [U a,U b] [] 0 (fun u _ _=>Q u)=
  ((((AV.int IntKind.u8 (Int.ofNat a)=AV.int IntKind.u8 (Int.ofNat a)∧ad (AV.int IntKind.u8 (Int.ofNat a))=true)∧(AV.int IntKind.u8 (Int.ofNat b)=AV.int IntKind.u8 (Int.ofNat b)∧ad (AV.int IntKind.u8 (Int.ofNat b))=true)∧(AV.int IntKind.u8 0=AV.int IntKind.u8 0∧true=true)∧True)∧True∧True)∧Q (AV.int IntKind.u8 (Int.ofNat o))):=by kernel_rfl
def dw (a:Nat):Nat:=match a/128 with
 |0=>a*2
 |_+1=>((a*2)%256)^^^27
def dN (o a b:Nat):Nat:=match b%2 with
 |0=>o
 |_+1=>o^^^a
def fm:Nat→Nat→Nat→Nat→Nat
 |0,_,_,o=>o
 |k+1,a,b,o=>fm k (dw a) (b/2) (dN o a b)
theorem jS {n:Nat} (h:n<256):(BitVec.ofInt 8 (Int.ofNat n)).toNat=n:=by
 simp only[BitVec.toNat_ofInt]
 show ((n:Int)%((2^8:Nat):Int)).toNat=n
 omega
theorem u8_in {n:Nat} (h:n<256):ai .u8 (Int.ofNat n)=Int.ofNat n:=by
 rw[cZ,IntKind.wrap_u8]
 show ((n:Int)%256)=n
 omega
theorem rp {a b:Nat} (ha:a<256) (hb:b<256):ai .u8 ((BitVec.ofInt 8 (Int.ofNat a)^^^BitVec.ofInt 8 (Int.ofNat b)).toNat:Int)=Int.ofNat (a^^^b):=by
 rw[BitVec.toNat_xor,jS ha,jS hb]
 exact u8_in (Nat.xor_lt_two_pow (n:=8) ha hb)
theorem rq {a b:Nat} (ha:a<256) (hb:b<256):ai .u8 ((BitVec.ofInt 8 (Int.ofNat a)&&&BitVec.ofInt 8 (Int.ofNat b)).toNat:Int)=Int.ofNat (a&&&b):=by
 rw[BitVec.toNat_and,jS ha,jS hb]
 exact u8_in (Nat.lt_of_le_of_lt Nat.and_le_left ha)
theorem vF {a:Nat} (h:a<256):dw a<256:=by
 unfold dw
 have:a/128=0∨a/128=1:=by omega
 rcases this with h'|h'<;>rw[h']
 ·show a*2<256;omega
 ·exact Nat.xor_lt_two_pow (n:=8) (Nat.mod_lt _ (by decide)) (by decide)
theorem w2 {a:Nat}:ai .u8 (Int.ofNat a*2)=Int.ofNat (a*2%256):=by
 rw[cZ,IntKind.wrap_u8]
 show ((a:Int)*2%256)=((a*2%256:Nat):Int)
 omega
theorem vG {a:Nat} (h:a<256):(!bo (ai .u8 ((BitVec.ofInt 8 (Int.ofNat a)&&&BitVec.ofInt 8 128).toNat:Int)) 0)=decide (128≤a):=by
 rw[show (128:Int)=Int.ofNat 128 from rfl,rq h (by decide)]
 have:∀a:Fin 256,(!bo (Int.ofNat (a.val&&&128)) 0)=decide (128≤a.val):=by decide+kernel
 exact this ⟨a,h⟩
theorem vH {b:Nat} (h:b<256):bo (ai .u8 ((BitVec.ofInt 8 (Int.ofNat b)&&&BitVec.ofInt 8 1).toNat:Int)) 1=decide (b%2=1):=by
 rw[show (1:Int)=Int.ofNat 1 from rfl,rq h (by decide),Nat.and_one_is_mod]
 have:b%2=0∨b%2=1:=by omega
 rcases this with h'|h'<;>rw[h']<;>rfl
theorem rt:∀ (k a o:Nat),fm k a 0 o=o
 |0,_,_=>rfl
 |k+1,a,o=>by
  show fm k (dw a) (0/2) (dN o a 0)=o
  rw[show (0:Nat)/2=0 from rfl,rt k]
  rfl
theorem vI {Q:AExit→St→Prop}:∀ (k a b o:Nat),a<256→b<2^k→k≤8→o<256→Q (.exit 0) (fl (fm k a b o)).st→ALp Tryz.prog opts0.glob 0 (bX Tryz.prog 392 3) (fh a b o).st Q:=by
 intro k
 induction k with
 |zero=>
  intro a b o ha hb hk ho hq
  have hb:b=0:=by simpa using hb
  subst hb
  refine ALp.round (A:=aN) (V2:=fh 0 0 0) (F:=fl o) (lk:=[]) (lk':=[]) base0 bP (LsOk.no rfl) .refl ?_
  rw[mP]
  exact ⟨⟨⟨⟨rfl,rfl⟩,trivial⟩,trivial,trivial⟩,hq⟩
 | succ k ih=>
  intro a b o ha hb hk ho hq
  by_cases hb0:b=0
  ·subst hb0
   rw[rt] at hq
   refine ALp.round (A:=aN) (V2:=fh 0 0 0) (F:=fl o) (lk:=[]) (lk':=[]) base0 bP (LsOk.no rfl) .refl ?_
   rw[mP]
   exact ⟨⟨⟨⟨rfl,rfl⟩,trivial⟩,trivial,trivial⟩,hq⟩
  ·have h2:2^k≤2^7:=Nat.pow_le_pow_right (by decide) (by omega)
   have hb8:b<256:=by rw[Nat.pow_succ] at hb;omega
   have hx:o^^^a<256:=Nat.xor_lt_two_pow (n:=8) ho ha
   have hstep:=ih (dw a) (b/2) (dN o a b) (vF ha) (by rw[Nat.pow_succ] at hb;omega) (by omega) (by
    unfold dN
    split
    ·exact ho
    ·exact hx) hq
   have hd:(Int.ofNat b).fdiv 2=Int.ofNat (b/2):=by
    show (b:Int).fdiv 2=_
    rw[Int.fdiv_eq_ediv_of_nonneg _ (by decide)];rfl
   have hh:decide (128≤a)=true→ai .u8 ((BitVec.ofInt 8 (ai .u8 (Int.ofNat a*2))^^^BitVec.ofInt 8 27).toNat:Int)=Int.ofNat (dw a):=fun h=>by
    have h:=of_decide_eq_true h
    rw[w2,show (27:Int)=Int.ofNat 27 from rfl,rp (Nat.mod_lt _ (by decide)) (by decide)]
    unfold dw
    rw[show a/128=1 by omega]
   have hl:decide (128≤a)=false→ai .u8 (Int.ofNat a*2)=Int.ofNat (dw a):=fun h=>by
    have h:=of_decide_eq_false h
    rw[w2]
    unfold dw
    rw[show a/128=0 by omega,Nat.mod_eq_of_lt (by omega)]
   refine ALp.round (A:=aN) (V2:=fh (dw a) (b/2) (dN o a b)) (F:=fl o) (lk:=[]) (lk':=[]) base0 bP (LsOk.no rfl) .refl ?_
   rw[mP,vG ha,vH hb8,hd,rp ho ha]
   refine dr (fun _=>dr (fun h1=> ?_) fun h1=> ?_) fun h=>absurd (ltInt_false.1 h) (by simp only[Int.ofNat_eq_natCast];omega)
   ·have h1:=of_decide_eq_true h1
    have ho':dN o a b=o^^^a:=by unfold dN;rw[h1]
    rw[ho'] at hstep⊢
    exact dr (fun h=>⟨⟨⟨⟨congrArg _ (hh h),rfl⟩,⟨rfl,rfl⟩,⟨rfl,rfl⟩,trivial⟩,trivial,trivial⟩,hstep⟩) fun h=>⟨⟨⟨⟨congrArg _ (hl h),rfl⟩,⟨rfl,rfl⟩,⟨rfl,rfl⟩,trivial⟩,trivial,trivial⟩,hstep⟩
   ·have h1:b%2=0:=by have:=of_decide_eq_false h1;omega
    have ho':dN o a b=o:=by unfold dN;rw[h1]
    rw[ho'] at hstep⊢
    exact dr (fun h=>⟨⟨⟨⟨congrArg _ (hh h),rfl⟩,⟨rfl,rfl⟩,⟨rfl,rfl⟩,trivial⟩,trivial,trivial⟩,hstep⟩) fun h=>⟨⟨⟨⟨congrArg _ (hl h),rfl⟩,⟨rfl,rfl⟩,⟨rfl,rfl⟩,trivial⟩,trivial,trivial⟩,hstep⟩
theorem vJ:bH (fe Tryz.prog 392) 3=[bX Tryz.prog 392 3]:=by kernel_rfl
theorem vK {a b:Nat} (ha:a<256) (hb:b<256):SC 392 [U a,U b] (U (fm 8 a b 0)):=by
 refine u6 (A:=mO [] [(3,rn a b (fm 8 a b 0))] jy [] []) base0 vl
  (cf (LsOk.at1 rfl vJ fun st Q hs=> .seen base0.glob hs.1 (vI 8 a b 0 ha hb (Nat.le_refl _) (by decide) hs.2))) rfl ?_
 rw[vE]
 exact ⟨⟨⟨⟨rfl,rfl⟩,⟨rfl,rfl⟩,⟨rfl,rfl⟩,trivial⟩,trivial,trivial⟩,u7 rfl⟩
end Go.Proofs.YtjmnheinkchlfaaGreatDoor
namespace Go.Proofs.Abs
open Go
def fo (s:Nat):Nat:=(s/2)^^^((s%2)*3988292384)
def dO:Nat→Nat→Nat
 |0,s=>s
 |j+1,s=>fo (dO j s)
def fp (s c:Nat):Nat:=dO 8 (s^^^c)
def db:Nat→List UInt8→Nat
 |s,[]=>s
 |s,c::t=>db (fp s c.toNat) t
def iF (s:Nat) (l:List UInt8):Nat:=db (s^^^4294967295) l^^^4294967295
theorem ru {s:Nat} (h:s<2^32):fo s<2^32:=by
 unfold fo
 refine Nat.xor_lt_two_pow (by omega) ?_
 have:s%2<2:=Nat.mod_lt _ (by decide)
 omega
theorem mQ:∀ {j s:Nat},s<2^32→dO j s<2^32
 |0,_,h=>h
 |_j+1,_,h=>ru (mQ h)
theorem rv {s c:Nat} (h:s<2^32) (hc:c<256):fp s c<2^32:=mQ (Nat.xor_lt_two_pow h (by omega))
theorem rx:∀ (l:List UInt8) (s:Nat),s<2^32→db s l<2^32
 |[],_,h=>h
 |c::t,_s,h=>rx t _ (rv h (UInt8.toNat_lt c))
theorem ry:∀ (l m:List UInt8) (s:Nat),db s (l++m)=db (db s l) m
 |[],_,_=>rfl
 |_c::t,m,_s=>ry t m _
theorem u32_in {n:Nat} (h:n<2^32):ai .u32 (Int.ofNat n)=Int.ofNat n:=by
 rw[cZ,IntKind.wrap_u32]
 show ((n:Int)%4294967296)=n
 omega
theorem jT {n:Nat} (h:n<2^32):(BitVec.ofInt 32 (Int.ofNat n)).toNat=n:=by
 simp only[BitVec.toNat_ofInt]
 show ((n:Int)%((2^32:Nat):Int)).toNat=n
 omega
theorem mR {a b:Nat} (ha:a<2^32) (hb:b<2^32):(BitVec.ofInt 32 (Int.ofNat a)^^^BitVec.ofInt 32 (Int.ofNat b)).toNat=a^^^b:=by
 rw[BitVec.toNat_xor,jT ha,jT hb]
theorem rz {a b:Nat} (ha:a<2^32) (hb:b<2^32):(BitVec.ofInt 32 (Int.ofNat a)&&&BitVec.ofInt 32 (Int.ofNat b)).toNat=a&&&b:=by
 rw[BitVec.toNat_and,jT ha,jT hb]
theorem vL {b:Nat} (hb:b<2):ai .u32 (0-Int.ofNat b)=Int.ofNat (b*4294967295):=by
 rw[cZ,IntKind.wrap_u32]
 have:b=0∨b=1:=by omega
 rcases this with rfl|rfl<;>rfl
theorem vM {s:Nat} (h:s<2^32):ai .u32 ((BitVec.ofInt 32 ((Int.ofNat s).fdiv 2)^^^BitVec.ofInt 32 (ai .u32 ((BitVec.ofInt 32 3988292384&&&BitVec.ofInt 32 (ai .u32 (0-ai .u32 ((BitVec.ofInt 32 (Int.ofNat s)&&&BitVec.ofInt 32 1).toNat:Int)))).toNat:Int))).toNat:Int)=Int.ofNat (fo s):=by
 have h1:(BitVec.ofInt 32 (Int.ofNat s)&&&BitVec.ofInt 32 1).toNat=s%2:=by
  rw[show (1:Int)=Int.ofNat 1 from rfl,rz h (by decide)]
  exact Nat.and_one_is_mod s
 have hm:s%2<2:=Nat.mod_lt _ (by decide)
 have h5:(Int.ofNat s).fdiv 2=Int.ofNat (s/2):=by
  show (s:Int).fdiv 2=_
  rw[Int.fdiv_eq_ediv_of_nonneg _ (by decide)];rfl
 rw[h1,h5]
 have h6:ai .u32 ((s%2:Nat):Int)=Int.ofNat (s%2):=u32_in (by omega)
 rw[h6,vL hm]
 have h2:(BitVec.ofInt 32 3988292384&&&BitVec.ofInt 32 (Int.ofNat (s%2*4294967295))).toNat=s%2*3988292384:=by
  rw[show (3988292384:Int)=Int.ofNat 3988292384 from rfl,rz (by decide) (by omega)]
  rcases (by omega:s%2=0∨s%2=1) with e|e<;>rw[e]<;>rfl
 have h3:s%2*3988292384<2^32:=by omega
 have h7:ai .u32 ((s%2*3988292384:Nat):Int)=Int.ofNat (s%2*3988292384):=u32_in h3
 rw[h2,h7,mR (by omega) h3]
 exact u32_in (ru h)
theorem vN {s:Nat} {c:UInt8} (h:s<2^32):ai .u32 ((BitVec.ofInt 32 (Int.ofNat s)^^^BitVec.ofInt 32 (ai .u32 (Int.ofNat c.toNat))).toNat:Int)=Int.ofNat (s^^^c.toNat):=by
 have hc:=UInt8.toNat_lt c
 have hc':c.toNat<2^32:=by omega
 rw[u32_in hc',mR h hc']
 exact u32_in (Nat.xor_lt_two_pow h hc')
theorem jU {s:Nat} (h:s<2^32):ai .u32 ((BitVec.ofInt 32 4294967295^^^BitVec.ofInt 32 (Int.ofNat s)).toNat:Int)=Int.ofNat (s^^^4294967295):=by
 rw[show (4294967295:Int)=Int.ofNat 4294967295 from rfl,mR (by decide) h,Nat.xor_comm]
 exact u32_in (Nat.xor_lt_two_pow h (by decide))
end Go.Proofs.Abs
namespace Go.Proofs.YtjmnheinkchlfaaGreatDoor
open Go Go.RowKit
open Go.Proofs.Abs
noncomputable def iG (a:AV) (n i x j:Nat):View:=⟨[(0,.int .u32 (.ofNat x)),(9,a),(10,I (.ofNat n)),(11,I (.ofNat i)),(19,I (.ofNat j))],[],[],0,32⟩
noncomputable def cg (a:AV) (n i x:Nat):View:=⟨[(0,.int .u32 (.ofNat x)),(9,a),(10,I (.ofNat n)),(11,I (.ofNat i))],[],[],0,32⟩
noncomputable def mS:bJ:=fun s Q=>match s.slots.get 0,s.slots.get 9,s.slots.get 10,s.slots.get 11 with
 |some (.int .u32 x),some a,some (.int .i64 (.ofNat n)),some (.int .i64 (.ofNat i))=>
  aS (hR x&&(Nat.blt x.toNat 4294967296&&ad a)) (dt 0 [] (iG a n i x.toNat 0) s∧Q (.exit 2) (cg a n i (dO 8 x.toNat)).st)
 |_,_,_,_=>False
noncomputable def mT (v:AV):bu:=dM (ug 4 0 (.el v)) (ga 8 mS)
theorem vO (x:Nat) (a:AV) (n i j:Nat) (go:Bool) (Q:AExit→St→Prop):bg Tryz.prog opts0 40 aN (bX Tryz.prog 355 8) (iG a n i x j).st (f9 0 [] (iG a n i (fo x) (j+1)) [] (cg a n i x) go Q)=
  (cM (aW (Int.ofNat j) 8) (aS go (((AV.int IntKind.u32 (ai IntKind.u32 ↑(BitVec.ofInt 32 ((Int.ofNat x).fdiv 2)^^^BitVec.ofInt 32 (ai IntKind.u32 ↑(BitVec.ofInt 32 3988292384&&&BitVec.ofInt 32 (ai IntKind.u32 (0-ai IntKind.u32 ↑(BitVec.ofInt 32 (Int.ofNat x)&&&BitVec.ofInt 32 1).toNat))).toNat)).toNat)=AV.int IntKind.u32 (Int.ofNat (fo x))∧ad (AV.int IntKind.u32 (Int.ofNat (fo x)))=true)∧(a=a∧ad a=true)∧(I (Int.ofNat n)=I (Int.ofNat n)∧ad (I (Int.ofNat n))=true)∧(I (Int.ofNat i)=I (Int.ofNat i)∧ad (I (Int.ofNat i))=true)∧(I (ai IntKind.i64 (Int.ofNat j+1))=I (Int.ofNat (j+1))∧ad (I (Int.ofNat (j+1)))=true)∧True)∧True∧True)) ((((AV.int IntKind.u32 (Int.ofNat x)=AV.int IntKind.u32 (Int.ofNat x)∧ad (AV.int IntKind.u32 (Int.ofNat x))=true)∧(a=a∧ad a=true)∧(I (Int.ofNat n)=I (Int.ofNat n)∧ad (I (Int.ofNat n))=true)∧(I (Int.ofNat i)=I (Int.ofNat i)∧ad (I (Int.ofNat i))=true)∧True)∧True∧True)∧Q (AExit.exit 2) (cg a n i x).st)):=by kernel_rfl
theorem vP {a:AV} {n i x:Nat} {Q:AExit→St→Prop} (ha:ad a=true) (hx:x<2^32) (hq:Q (.exit 2) (cg a n i (dO 8 x)).st):AWp Tryz.prog opts0.glob 0 (.loop (bX Tryz.prog 355 8)) (iG a n i x 0).st Q:=by
 refine AWp.loopV base0 (fun _=>aN) (fun j=>iG a n i (dO j x) j) (fun j=>cg a n i (dO j x)) (fun _=>[]) (fun _=>[]) 8 0 (fun _=>bP) (fun _ r L h=>by cases h) fun j _ hj=> ?_
 rw[dO,vO,vM (mQ hx)]
 refine dr (fun h=> ?_) (fun h=> ?_)
 ·have h:(j:Int)<8:=ltInt_iff.1 h
  rw[mg (by simp;omega) (by simp;omega)]
  refine oblB_iff.2 ⟨blt_iff.2 (by omega), ?_⟩
  simp[ad,ha]
 ·have h:(8:Int)≤j:=ltInt_false.1 h
  obtain rfl:j=8:=by omega
  refine ⟨by simp[ad,ha],hq⟩
theorem vQ:bH (fe Tryz.prog 355) 4=[bX Tryz.prog 355 4]:=by kernel_rfl
theorem vR:bH (bX Tryz.prog 355 4) 8=[bX Tryz.prog 355 8]:=by kernel_rfl
theorem vS (x:Nat) (b:UInt8) (f:Bool) (es:List AV) (n i:Nat) (go:Bool) (Q:AExit→St→Prop):bg Tryz.prog opts0 40 (mT (.int .u8 (.ofNat b.toNat))) (bX Tryz.prog 355 4) (cg (.fsl f es) n i x).st (f9 0 [] (cg (.fsl f es) n (i+1) (fp x b.toNat)) [] (cg (.fsl f es) n i x) go Q)=
  (cM (aW (Int.ofNat i) (Int.ofNat n)) (aU es (Int.ofNat i).toNat=some (AV.int IntKind.u8 (Int.ofNat b.toNat))∧aS (hR (ai IntKind.u32 ↑(BitVec.ofInt 32 (Int.ofNat x)^^^BitVec.ofInt 32 (ai IntKind.u32 (Int.ofNat b.toNat))).toNat)&&((ai IntKind.u32 ↑(BitVec.ofInt 32 (Int.ofNat x)^^^BitVec.ofInt 32 (ai IntKind.u32 (Int.ofNat b.toNat))).toNat).toNat.blt 4294967296&&ad (AV.fsl f es))) ((((AV.int IntKind.u32 (ai IntKind.u32 ↑(BitVec.ofInt 32 (Int.ofNat x)^^^BitVec.ofInt 32 (ai IntKind.u32 (Int.ofNat b.toNat))).toNat)=AV.int IntKind.u32 (Int.ofNat (ai IntKind.u32 ↑(BitVec.ofInt 32 (Int.ofNat x)^^^BitVec.ofInt 32 (ai IntKind.u32 (Int.ofNat b.toNat))).toNat).toNat)∧ad (AV.int IntKind.u32 (Int.ofNat (ai IntKind.u32 ↑(BitVec.ofInt 32 (Int.ofNat x)^^^BitVec.ofInt 32 (ai IntKind.u32 (Int.ofNat b.toNat))).toNat).toNat))=true)∧(AV.fsl f es=AV.fsl f es∧ad (AV.fsl f es)=true)∧(I (Int.ofNat n)=I (Int.ofNat n)∧ad (I (Int.ofNat n))=true)∧(I (Int.ofNat i)=I (Int.ofNat i)∧ad (I (Int.ofNat i))=true)∧(I 0=I 0∧true=true)∧True)∧True∧True)∧aS go (((AV.int IntKind.u32 (Int.ofNat (dO 8 (ai IntKind.u32 ↑(BitVec.ofInt 32 (Int.ofNat x)^^^BitVec.ofInt 32 (ai IntKind.u32 (Int.ofNat b.toNat))).toNat).toNat))=AV.int IntKind.u32 (Int.ofNat (fp x b.toNat))∧ad (AV.int IntKind.u32 (Int.ofNat (fp x b.toNat)))=true)∧(AV.fsl f es=AV.fsl f es∧ad (AV.fsl f es)=true)∧(I (Int.ofNat n)=I (Int.ofNat n)∧ad (I (Int.ofNat n))=true)∧(I (ai IntKind.i64 (Int.ofNat i+1))=I (Int.ofNat (i+1))∧ad (I (Int.ofNat (i+1)))=true)∧True)∧True∧True))) ((((AV.int IntKind.u32 (Int.ofNat x)=AV.int IntKind.u32 (Int.ofNat x)∧ad (AV.int IntKind.u32 (Int.ofNat x))=true)∧(AV.fsl f es=AV.fsl f es∧ad (AV.fsl f es)=true)∧(I (Int.ofNat n)=I (Int.ofNat n)∧ad (I (Int.ofNat n))=true)∧(I (Int.ofNat i)=I (Int.ofNat i)∧ad (I (Int.ofNat i))=true)∧True)∧True∧True)∧Q (AExit.exit 0) (cg (AV.fsl f es) n i x).st)):=by kernel_rfl
theorem vT {s:St} {Q:AExit→St→Prop} (h:mS s Q):AWp Tryz.prog opts0.glob 0 (.loop (bX Tryz.prog 355 8)) s Q:=by
 unfold mS at h
 split at h
 ·obtain ⟨hb,hs,hq⟩:=oblB_iff.1 h
  simp only[Bool.and_eq_true] at hb
  exact .says (ce base0.glob hs) (vP hb.2.2 (blt_iff.1 hb.2.1) hq)
 ·exact h.elim
theorem vU (v:AV):LsOk Tryz.prog opts0.glob 0 (mT v) (bX Tryz.prog 355 4):=LsOk.one vR fun _ _ h=>vT h
def dP (x:Nat) (l:List UInt8):Nat→Nat
 |0=>x
 |i+1=>fp (dP x l i) (c7 l i).toNat
theorem rA (x:Nat) (l:List UInt8):∀i,i≤l.length→dP x l i=db x (l.take i)
 |0,_=>rfl
 | i+1,h=>by
  have e:l.take (i+1)=l.take i++[c7 l i]:=by
   rw[List.take_add_one]
   simp[c7,show i<l.length by omega]
  rw[e,ry,dP,rA x l i (by omega)]
  rfl
theorem mU {x:Nat} (l:List UInt8) (hx:x<2^32):∀i,dP x l i<2^32
 |0=>hx
 |i+1=>rv (mU l hx i) (UInt8.toNat_lt _)
theorem vV {f:Bool} {l:List UInt8} {x:Nat} {Q:AExit→St→Prop} (hx:x<2^32) (hl:l.length≤9223372036854775807) (hq:Q (.exit 0) (cg (.fsl f (ax l)) l.length l.length (db x l)).st):
  AWp Tryz.prog opts0.glob 0 (.loop (bX Tryz.prog 355 4)) (cg (.fsl f (ax l)) l.length 0 x).st Q:=by
 refine AWp.loopV base0 (fun i=>mT (.int .u8 (.ofNat (c7 l i).toNat))) (fun i=>cg (.fsl f (ax l)) l.length i (dP x l i)) (fun i=>cg (.fsl f (ax l)) l.length i (dP x l i)) (fun _=>[]) (fun _=>[]) l.length 0 (fun _=>jJ iE) (fun _=>vU _) fun i _ hi=> ?_
 rw[dP,vS,vN (mU l hx i)]
 refine dr (fun h=> ?_) (fun h=> ?_)
 ·have h:(i:Int)<l.length:=ltInt_iff.1 h
  have hi:i<l.length:=by omega
  rw[mg (by simp;omega) (by simp;omega)]
  have hlt:dP x l i^^^(c7 l i).toNat<2^32:=Nat.xor_lt_two_pow (mU l hx i) (by have:=UInt8.toNat_lt (c7 l i);omega)
  refine ⟨?_, ?_⟩
  ·show aU (ax l) i=_
   rw[ua]
   simp[c7,hi]
  ·refine oblB_iff.2 ⟨?_, ?_⟩
   ·show (true&&(Nat.blt (dP x l i^^^(c7 l i).toNat) 4294967296&&ad (.fsl f (ax l))))=true
    simp only[Bool.true_and,Bool.and_eq_true]
    exact ⟨blt_iff.2 hlt,by simp[ad]⟩
   ·refine ⟨by simp[ad],oblB_iff.2 ⟨blt_iff.2 (by omega), ?_⟩⟩
    simp[ad,fp]
 ·have h:(l.length:Int)≤i:=ltInt_false.1 h
  obtain rfl:i=l.length:=by omega
  refine ⟨by simp[ad], ?_⟩
  rw[rA x l _ (Nat.le_refl _),List.take_length]
  exact hq
noncomputable def rB (f:Bool) (l:List UInt8):bJ:=fun s Q=>match s.slots.get 0 with
 |some (.int .u32 x)=>aS (hR x&&Nat.blt x.toNat 4294967296) (dt 0 [] (cg (.fsl f (ax l)) l.length 0 x.toNat) s∧Q (.exit 0) (cg (.fsl f (ax l)) l.length l.length (db x.toNat l)).st)
 |_=>False
noncomputable def rC (f:Bool) (l:List UInt8):bu:=dM (fun _ _=>none) (ga 4 (rB f l))
theorem vW (x:Nat) (f:Bool) (l:List UInt8) (Q:AV→aa→Nat→Prop):aZ Tryz.prog opts0 40 (rC f l) 355 [.int .u32 (.ofNat x),.fsl f (ax l)] [] 0 Q=
  (aS (hR (ai IntKind.u32 ↑(BitVec.ofInt 32 4294967295^^^BitVec.ofInt 32 (Int.ofNat x)).toNat)&&(ai IntKind.u32 ↑(BitVec.ofInt 32 4294967295^^^BitVec.ofInt 32 (Int.ofNat x)).toNat).toNat.blt 4294967296) ((((AV.int IntKind.u32 (ai IntKind.u32 ↑(BitVec.ofInt 32 4294967295^^^BitVec.ofInt 32 (Int.ofNat x)).toNat)=AV.int IntKind.u32 (Int.ofNat (ai IntKind.u32 ↑(BitVec.ofInt 32 4294967295^^^BitVec.ofInt 32 (Int.ofNat x)).toNat).toNat)∧ad (AV.int IntKind.u32 (Int.ofNat (ai IntKind.u32 ↑(BitVec.ofInt 32 4294967295^^^BitVec.ofInt 32 (Int.ofNat x)).toNat).toNat))=true)∧(AV.fsl f (ax l)=AV.fsl f (ax l)∧ad (AV.fsl f (ax l))=true)∧(I (Int.ofNat (ac (ax l)))=I (Int.ofNat l.length)∧ad (I (Int.ofNat l.length))=true)∧(I 0=I 0∧true=true)∧True)∧True∧True)∧Q (AV.int IntKind.u32 (ai IntKind.u32 ↑(BitVec.ofInt 32 4294967295^^^BitVec.ofInt 32 (Int.ofNat (db (ai IntKind.u32 ↑(BitVec.ofInt 32 4294967295^^^BitVec.ofInt 32 (Int.ofNat x)).toNat).toNat l))).toNat)) [] 3)):=by kernel_rfl
theorem vX (x:Nat) (Q:AV→aa→Nat→Prop):aZ Tryz.prog opts0 40 aN 355 [.int .u32 (.ofNat x),.nilsl] [] 0 Q=
  (Q (AV.int IntKind.u32 (ai IntKind.u32 ↑(BitVec.ofInt 32 4294967295^^^BitVec.ofInt 32 (ai IntKind.u32 ↑(BitVec.ofInt 32 4294967295^^^BitVec.ofInt 32 (Int.ofNat x)).toNat)).toNat)) [] 11):=by kernel_rfl
theorem vY {x:Nat} {f:Bool} {l:List UInt8} (hx:x<2^32) (hl:l.length≤9223372036854775807):SC 355 [.int .u32 (.ofNat x),.fsl f (ax l)] (.int .u32 (.ofNat (iF x l))):=by
 refine ma (A:=rC f l) base0 (jJ iE) (cf (LsOk.one vQ fun s Q hs=> ?_)) (by simp[ad,af]) ?_
 ·unfold rB at hs
  split at hs
  ·obtain ⟨hb,hs,hq⟩:=oblB_iff.1 hs
   simp only[Bool.and_eq_true] at hb
   exact .says (ce base0.glob hs) (vV (blt_iff.1 hb.2) hl hq)
  ·exact hs.elim
 ·have h1:x^^^4294967295<2^32:=Nat.xor_lt_two_pow hx (by decide)
  rw[vW,jU hx]
  refine oblB_iff.2 ⟨?_, ?_, ?_⟩
  ·exact blt_iff.2 h1
  ·simp[ad]
  ·show (∃d,aj 0 [] d (.int .u32 (ai .u32 ((BitVec.ofInt 32 4294967295^^^BitVec.ofInt 32 (Int.ofNat (db (x^^^4294967295) l))).toNat:Int)))=_)∧_
   rw[jU (rx l _ h1)]
   exact ⟨⟨1,rfl⟩,rfl⟩
theorem vZ {x:Nat} (hx:x<2^32):SC 355 [.int .u32 (.ofNat x),.nilsl] (.int .u32 (.ofNat (iF x []))):=by
 refine ma (A:=aN) base0 bP (qD fun _=>rfl) (by simp[ad,af]) ?_
 have h1:x^^^4294967295<2^32:=Nat.xor_lt_two_pow hx (by decide)
 rw[vX]
 have e:x^^^4294967295^^^4294967295=iF x []:=rfl
 rw[jU hx,jU h1,e]
 exact ⟨⟨1,rfl⟩,rfl⟩
def jV:AV:= .fsl false (bp (.int .u8 0) 64)
def aX:Nat→List AV
 |0=>[]
 |n+1=>jV:: .bool false::aX n
theorem rD:∀n,aX n++[jV,.bool false]=aX (n+1)
 |0=>rfl
 |n+1=>by simp only[aX,List.cons_append];rw[rD n];rfl
theorem iH:∀n,af (aX n)=true
 |0=>rfl
 |n+1=>by
  have h:ad jV=true:=by kernel_rfl
  simp only[aX,af,h,iH n,ad,Bool.and_self]
theorem rE:∀n,ac (aX n)=n*2
 |0=>rfl
 |n+1=>by simp only[aX,ac,rE n];omega
def iI (s:AV):List AV:=[s,.nilsl,I (-1),.bool false,I 0]
noncomputable def co (n:Nat):Nat→View
 |0=>⟨[(13,I (.ofNat n)),(14,I 0)],[(4,.ptr 0 0)],[(0,.cells (iI .nilsl),.whole)],3,29⟩
 |i+1=>⟨[(13,I (.ofNat n)),(14,I (.ofNat (i+1)))],[(4,.ptr 0 0)],[(0,.cells (iI (.rsl true 1 0 (i+1) 2)),.each),(1,.cells (aX (i+1)),.whole)],3,29⟩
noncomputable def dc (n i d:Nat):View:=⟨[(13,I (.ofNat n)),(14,I (.ofNat (i+1)))],[(4,.ptr 0 0)],[(0,.cells (iI (.rsl true 1 0 (i+1) 2)),.each),(1,.cells (aX i++[.rsl true 2 0 64 1,.bool false]),.split (aX i) [.rsl true 2 0 64 1,.bool false] [.rsl true d 0 64 1,.bool false]),(2,.cells (flat (bp (.int .u8 0) 64)),.whole)],3,29⟩
theorem v3 (n:Nat) (go:Bool) (Q:AExit→St→Prop):bg Tryz.prog opts0 40 aN (bX Tryz.prog 25 6) (co n 0).st (f9 0 [(0,0),(1,12),(2,9)] (dc n 0 9) [(0,0)] (co n 0) go Q)=
  (cM (aW 0 (Int.ofNat n)) (aS go (((I (Int.ofNat n)=I (Int.ofNat n)∧ad (I (Int.ofNat n))=true)∧(I 1=I 1∧true=true)∧True)∧((some 0=some 0∧0=0)∧True)∧((true=true∧some 12=some 12∧0=0∧1=1∧2=2)∧(AV.nilsl=AV.nilsl∧true=true)∧(I (Int.negSucc 0)=I (Int.negSucc 0)∧true=true)∧(AV.bool false=AV.bool false∧true=true)∧(I 0=I 0∧true=true)∧True)∧((aX 0++[AV.rsl true 2 0 64 1,AV.bool false]=aX 0++[AV.rsl true 2 0 64 1,AV.bool false]∧[AV.rsl true 9 0 64 1,AV.bool false]=aX 0++[AV.rsl true 9 0 64 1,AV.bool false])∧true=true∧(true=true∧some 9=some 9∧0=0∧64=64∧1=1)∧(AV.bool false=AV.bool false∧true=true)∧True)∧([AV.int IntKind.u8 0,AV.int IntKind.u8 0,AV.int IntKind.u8 0,AV.int IntKind.u8 0,AV.int IntKind.u8 0,AV.int IntKind.u8 0,AV.int IntKind.u8 0,AV.int IntKind.u8 0,AV.int IntKind.u8 0,AV.int IntKind.u8 0,AV.int IntKind.u8 0,AV.int IntKind.u8 0,AV.int IntKind.u8 0,AV.int IntKind.u8 0,AV.int IntKind.u8 0,AV.int IntKind.u8 0,AV.int IntKind.u8 0,AV.int IntKind.u8 0,AV.int IntKind.u8 0,AV.int IntKind.u8 0,AV.int IntKind.u8 0,AV.int IntKind.u8 0,AV.int IntKind.u8 0,AV.int IntKind.u8 0,AV.int IntKind.u8 0,AV.int IntKind.u8 0,AV.int IntKind.u8 0,AV.int IntKind.u8 0,AV.int IntKind.u8 0,AV.int IntKind.u8 0,AV.int IntKind.u8 0,AV.int IntKind.u8 0,AV.int IntKind.u8 0,AV.int IntKind.u8 0,AV.int IntKind.u8 0,AV.int IntKind.u8 0,AV.int IntKind.u8 0,AV.int IntKind.u8 0,AV.int IntKind.u8 0,AV.int IntKind.u8 0,AV.int IntKind.u8 0,AV.int IntKind.u8 0,AV.int IntKind.u8 0,AV.int IntKind.u8 0,AV.int IntKind.u8 0,AV.int IntKind.u8 0,AV.int IntKind.u8 0,AV.int IntKind.u8 0,AV.int IntKind.u8 0,AV.int IntKind.u8 0,AV.int IntKind.u8 0,AV.int IntKind.u8 0,AV.int IntKind.u8 0,AV.int IntKind.u8 0,AV.int IntKind.u8 0,AV.int IntKind.u8 0,AV.int IntKind.u8 0,AV.int IntKind.u8 0,AV.int IntKind.u8 0,AV.int IntKind.u8 0,AV.int IntKind.u8 0,AV.int IntKind.u8 0,AV.int IntKind.u8 0,AV.int IntKind.u8 0]=[AV.int IntKind.u8 0,AV.int IntKind.u8 0,AV.int IntKind.u8 0,AV.int IntKind.u8 0,AV.int IntKind.u8 0,AV.int IntKind.u8 0,AV.int IntKind.u8 0,AV.int IntKind.u8 0,AV.int IntKind.u8 0,AV.int IntKind.u8 0,AV.int IntKind.u8 0,AV.int IntKind.u8 0,AV.int IntKind.u8 0,AV.int IntKind.u8 0,AV.int IntKind.u8 0,AV.int IntKind.u8 0,AV.int IntKind.u8 0,AV.int IntKind.u8 0,AV.int IntKind.u8 0,AV.int IntKind.u8 0,AV.int IntKind.u8 0,AV.int IntKind.u8 0,AV.int IntKind.u8 0,AV.int IntKind.u8 0,AV.int IntKind.u8 0,AV.int IntKind.u8 0,AV.int IntKind.u8 0,AV.int IntKind.u8 0,AV.int IntKind.u8 0,AV.int IntKind.u8 0,AV.int IntKind.u8 0,AV.int IntKind.u8 0,AV.int IntKind.u8 0,AV.int IntKind.u8 0,AV.int IntKind.u8 0,AV.int IntKind.u8 0,AV.int IntKind.u8 0,AV.int IntKind.u8 0,AV.int IntKind.u8 0,AV.int IntKind.u8 0,AV.int IntKind.u8 0,AV.int IntKind.u8 0,AV.int IntKind.u8 0,AV.int IntKind.u8 0,AV.int IntKind.u8 0,AV.int IntKind.u8 0,AV.int IntKind.u8 0,AV.int IntKind.u8 0,AV.int IntKind.u8 0,AV.int IntKind.u8 0,AV.int IntKind.u8 0,AV.int IntKind.u8 0,AV.int IntKind.u8 0,AV.int IntKind.u8 0,AV.int IntKind.u8 0,AV.int IntKind.u8 0,AV.int IntKind.u8 0,AV.int IntKind.u8 0,AV.int IntKind.u8 0,AV.int IntKind.u8 0,AV.int IntKind.u8 0,AV.int IntKind.u8 0,AV.int IntKind.u8 0,AV.int IntKind.u8 0]∧true=true)∧True)) ((((I (Int.ofNat n)=I (Int.ofNat n)∧ad (I (Int.ofNat n))=true)∧(I 0=I 0∧true=true)∧True)∧((some 0=some 0∧0=0)∧True)∧([AV.nilsl,AV.nilsl,I (Int.negSucc 0),AV.bool false,I 0]=[AV.nilsl,AV.nilsl,I (Int.negSucc 0),AV.bool false,I 0]∧true=true)∧True)∧Q (AExit.exit 0) (co n 0).st)):=by kernel_rfl
theorem v4 (n i:Nat) (go:Bool) (Q:AExit→St→Prop):bg Tryz.prog opts0 40 aN (bX Tryz.prog 25 6) (co n (i+1)).st (f9 0 [(0,0),(1,12),(2,9)] (dc n (i+1) 9) [(0,0),(1,1)] (co n (i+1)) go Q)=
  (cM (aW (Int.ofNat (i+1)) (Int.ofNat n)) (aS (((i+1+1)*32).ble 140737488355328&&true) (aS ((ac (aX (i+1))).beq ((i+1)*2)) (aS go (((I (Int.ofNat n)=I (Int.ofNat n)∧ad (I (Int.ofNat n))=true)∧(I (ai IntKind.i64 (Int.ofNat (i+1)+1))=I (Int.ofNat (i+1+1))∧ad (I (Int.ofNat (i+1+1)))=true)∧True)∧((some 0=some 0∧0=0)∧True)∧((true=true∧some 12=some 12∧0=0∧i+1+1=i+1+1∧2=2)∧(AV.nilsl=AV.nilsl∧true=true)∧(I (Int.negSucc 0)=I (Int.negSucc 0)∧true=true)∧(AV.bool false=AV.bool false∧true=true)∧(I 0=I 0∧true=true)∧True)∧((aX (i+1)++[AV.rsl true 2 0 64 1,AV.bool false]=aX (i+1)++[AV.rsl true 2 0 64 1,AV.bool false]∧aX (i+1)++[AV.rsl true 9 0 64 1,AV.bool false]=aX (i+1)++[AV.rsl true 9 0 64 1,AV.bool false])∧af (aX (i+1))=true∧(true=true∧some 9=some 9∧0=0∧64=64∧1=1)∧(AV.bool false=AV.bool false∧true=true)∧True)∧([AV.int IntKind.u8 0,AV.int IntKind.u8 0,AV.int IntKind.u8 0,AV.int IntKind.u8 0,AV.int IntKind.u8 0,AV.int IntKind.u8 0,AV.int IntKind.u8 0,AV.int IntKind.u8 0,AV.int IntKind.u8 0,AV.int IntKind.u8 0,AV.int IntKind.u8 0,AV.int IntKind.u8 0,AV.int IntKind.u8 0,AV.int IntKind.u8 0,AV.int IntKind.u8 0,AV.int IntKind.u8 0,AV.int IntKind.u8 0,AV.int IntKind.u8 0,AV.int IntKind.u8 0,AV.int IntKind.u8 0,AV.int IntKind.u8 0,AV.int IntKind.u8 0,AV.int IntKind.u8 0,AV.int IntKind.u8 0,AV.int IntKind.u8 0,AV.int IntKind.u8 0,AV.int IntKind.u8 0,AV.int IntKind.u8 0,AV.int IntKind.u8 0,AV.int IntKind.u8 0,AV.int IntKind.u8 0,AV.int IntKind.u8 0,AV.int IntKind.u8 0,AV.int IntKind.u8 0,AV.int IntKind.u8 0,AV.int IntKind.u8 0,AV.int IntKind.u8 0,AV.int IntKind.u8 0,AV.int IntKind.u8 0,AV.int IntKind.u8 0,AV.int IntKind.u8 0,AV.int IntKind.u8 0,AV.int IntKind.u8 0,AV.int IntKind.u8 0,AV.int IntKind.u8 0,AV.int IntKind.u8 0,AV.int IntKind.u8 0,AV.int IntKind.u8 0,AV.int IntKind.u8 0,AV.int IntKind.u8 0,AV.int IntKind.u8 0,AV.int IntKind.u8 0,AV.int IntKind.u8 0,AV.int IntKind.u8 0,AV.int IntKind.u8 0,AV.int IntKind.u8 0,AV.int IntKind.u8 0,AV.int IntKind.u8 0,AV.int IntKind.u8 0,AV.int IntKind.u8 0,AV.int IntKind.u8 0,AV.int IntKind.u8 0,AV.int IntKind.u8 0,AV.int IntKind.u8 0]=[AV.int IntKind.u8 0,AV.int IntKind.u8 0,AV.int IntKind.u8 0,AV.int IntKind.u8 0,AV.int IntKind.u8 0,AV.int IntKind.u8 0,AV.int IntKind.u8 0,AV.int IntKind.u8 0,AV.int IntKind.u8 0,AV.int IntKind.u8 0,AV.int IntKind.u8 0,AV.int IntKind.u8 0,AV.int IntKind.u8 0,AV.int IntKind.u8 0,AV.int IntKind.u8 0,AV.int IntKind.u8 0,AV.int IntKind.u8 0,AV.int IntKind.u8 0,AV.int IntKind.u8 0,AV.int IntKind.u8 0,AV.int IntKind.u8 0,AV.int IntKind.u8 0,AV.int IntKind.u8 0,AV.int IntKind.u8 0,AV.int IntKind.u8 0,AV.int IntKind.u8 0,AV.int IntKind.u8 0,AV.int IntKind.u8 0,AV.int IntKind.u8 0,AV.int IntKind.u8 0,AV.int IntKind.u8 0,AV.int IntKind.u8 0,AV.int IntKind.u8 0,AV.int IntKind.u8 0,AV.int IntKind.u8 0,AV.int IntKind.u8 0,AV.int IntKind.u8 0,AV.int IntKind.u8 0,AV.int IntKind.u8 0,AV.int IntKind.u8 0,AV.int IntKind.u8 0,AV.int IntKind.u8 0,AV.int IntKind.u8 0,AV.int IntKind.u8 0,AV.int IntKind.u8 0,AV.int IntKind.u8 0,AV.int IntKind.u8 0,AV.int IntKind.u8 0,AV.int IntKind.u8 0,AV.int IntKind.u8 0,AV.int IntKind.u8 0,AV.int IntKind.u8 0,AV.int IntKind.u8 0,AV.int IntKind.u8 0,AV.int IntKind.u8 0,AV.int IntKind.u8 0,AV.int IntKind.u8 0,AV.int IntKind.u8 0,AV.int IntKind.u8 0,AV.int IntKind.u8 0,AV.int IntKind.u8 0,AV.int IntKind.u8 0,AV.int IntKind.u8 0,AV.int IntKind.u8 0]∧true=true)∧True)))) ((((I (Int.ofNat n)=I (Int.ofNat n)∧ad (I (Int.ofNat n))=true)∧(I (Int.ofNat (i+1))=I (Int.ofNat (i+1))∧ad (I (Int.ofNat (i+1)))=true)∧True)∧((some 0=some 0∧0=0)∧True)∧((true=true∧some 1=some 1∧0=0∧i+1=i+1∧2=2)∧(AV.nilsl=AV.nilsl∧true=true)∧(I (Int.negSucc 0)=I (Int.negSucc 0)∧true=true)∧(AV.bool false=AV.bool false∧true=true)∧(I 0=I 0∧true=true)∧True)∧(aX (i+1)=aX (i+1)∧af (aX (i+1))=true)∧True)∧Q (AExit.exit 0) (co n (i+1)).st)):=by kernel_rfl
theorem v5 (n i:Nat):qP 2 (co n (i+1)) (dc n i 9).st=
  ((Frz 2 (dc n i 9).st.heap (I (Int.ofNat n)) (I (Int.ofNat n))∧Frz 2 (dc n i 9).st.heap (I (Int.ofNat (i+1))) (I (Int.ofNat (i+1)))∧Frz 2 (dc n i 9).st.heap (AV.ptr 0 0) (AV.ptr 0 0)∧True)∧FrzL 2 (dc n i 9).st.heap [AV.rsl true 1 0 (i+1) 2,AV.nilsl,I (Int.negSucc 0),AV.bool false,I 0] [AV.rsl true 1 0 (i+1) 2,AV.nilsl,I (Int.negSucc 0),AV.bool false,I 0]∧FrzL 2 (dc n i 9).st.heap (aX i++[AV.rsl true 2 0 64 1,AV.bool false]) (aX (i+1))∧True):=by kernel_rfl
theorem v6 (n i:Nat):Says2 opts0.glob 0 (dc n i 9).st (co n (i+1)).st:=by
 refine uf (m:=2) ?_
 rw[v5]
 have hz:Frz 2 (dc n i 9).st.heap (.rsl true 2 0 64 1) jV:=⟨2,by kernel_rfl⟩
 refine ⟨⟨⟨1,rfl⟩,⟨1,rfl⟩,⟨1,rfl⟩,trivial⟩,FrzL.cons ⟨1,rfl⟩ (FrzL.cons ⟨1,rfl⟩ (FrzL.cons ⟨1,rfl⟩ (FrzL.cons ⟨1,rfl⟩ (FrzL.cons ⟨1,rfl⟩ FrzL.nil)))), ?_,trivial⟩
 rw[←rD i]
 exact FrzL.append (FrzL.closed _ (iH i)) (FrzL.cons hz (FrzL.cons ⟨1,rfl⟩ FrzL.nil))
theorem v7 (n:Nat) (hn:n≤4096) {Q:AExit→St→Prop} (hq:Q (.exit 0) (co n n).st):AWp Tryz.prog opts0.glob 0 (.loop (bX Tryz.prog 25 6)) (co n 0).st Q:=by
 refine AWp.loopM base0 (fun _=>aN) (co n) (fun i=>dc n i 9) (co n) (fun _=>[(0,0),(1,12),(2,9)]) (fun i=>match i with
  |0=>[(0,0)]
  |_+1=>[(0,0),(1,1)]) n 0 (fun _=>bP) (fun _=>LsOk.none) (fun i _ _=>v6 n i) fun i _ hi=> ?_
 cases i with
 | zero=>
  rw[v3]
  refine dr (fun h=> ?_) (fun h=> ?_)
  ·have h:(0:Int)<n:=ltInt_iff.1 h
   exact oblB_iff.2 ⟨blt_iff.2 (by omega),by simp[ad,aX]⟩
  ·have h:(n:Int)≤0:=ltInt_false.1 h
   obtain rfl:n=0:=by omega
   exact ⟨by simp[ad],hq⟩
 | succ i=>
  rw[v4]
  refine dr (fun h=> ?_) (fun h=> ?_)
  ·have h:((i+1:Nat):Int)<n:=ltInt_iff.1 h
   rw[mg (by simp;omega) (by simp;omega)]
   refine oblB_iff.2 ⟨by simp;omega,oblB_iff.2 ⟨by rw[rE];simp,oblB_iff.2 ⟨blt_iff.2 (by omega), ?_⟩⟩⟩
   simp[ad,iH]
  ·have h:(n:Int)≤(i+1:Nat):=ltInt_false.1 h
   obtain rfl:n=i+1:=by omega
   exact ⟨by simp[ad,iH],hq⟩
noncomputable def rF (n:Nat):bJ:=fun s Q=>dt 0 [(0,9)] (co n 0) s∧Q (.exit 0) (co n n).st
theorem v8:bH (fe Tryz.prog 25) 6=[bX Tryz.prog 25 6]:=by kernel_rfl
theorem v9 (n:Nat) (Q:AV→aa→Nat→Prop):aZ Tryz.prog opts0 40 (dM (fun _ _=>none) (ga 6 (rF (n+1)))) 25 [I (.ofNat (n+1))] [] 0 Q=
  (cM (aW (Int.ofNat (n+1)) 8) (Q (AV.tuple [AV.nilp,I 1]) [] 10) (cM (aW 4096 (Int.ofNat (n+1))) (Q (AV.tuple [AV.nilp,I 1]) [] 10) ((((I (Int.ofNat (n+1))=I (Int.ofNat (n+1))∧ad (I (Int.ofNat (n+1)))=true)∧(I 0=I 0∧true=true)∧True)∧((some 9=some 9∧0=0)∧True)∧([AV.nilsl,AV.nilsl,I (Int.negSucc 0),AV.bool false,I 0]=[AV.nilsl,AV.nilsl,I (Int.negSucc 0),AV.bool false,I 0]∧true=true)∧True)∧Q (AV.tuple [AV.ptr 0 0,I 0]) [(0,some (Blk.cells [AV.rsl true 1 0 (n+1) 2,AV.nilsl,I (Int.negSucc 0),AV.bool false,I 0])),(1,some (Blk.cells (aX (n+1))))] 6))):=by kernel_rfl
def wa (n:Nat):aa:=[(0,some (.cells (iI (.rsl true 1 0 n 2)))),(1,some (.cells (aX n)))]
theorem wb (n:Nat) (h1:8≤n+1) (h2:n+1≤4096):aH Tryz.prog opts0.glob 25 [I (.ofNat (n+1))] [] 0 (.tuple [.ptr 0 0,I 0]) (wa (n+1)) 6:=by
 refine qE (A:=dM (fun _ _=>none) (ga 6 (rF (n+1)))) base0 (jJ iE) (cf (LsOk.one v8 fun s Q hs=> .says (ce base0.glob hs.1) (v7 (n+1) h2 hs.2))) ?_
 rw[v9]
 refine dr (fun h=> ?_) (fun _=>dr (fun h=> ?_) (fun _=>⟨by simp[ad],rfl,rfl,rfl⟩))
 ·have h:((n+1:Nat):Int)<8:=ltInt_iff.1 h
  omega
 ·have h:(4096:Int)<(n+1:Nat):=ltInt_iff.1 h
  omega
def mV (nx n:Nat):aa:=[(nx,some (.cells (iI (.rsl true (nx+1) 0 n 2)))),(nx+1,some (.cells (aX n)))]
theorem wc (nx n:Nat) (h1:8≤n) (h2:n≤4096):aH Tryz.prog opts0.glob 25 [I (.ofNat n)] [] nx (.tuple [.ptr nx 0,I 0]) (mV nx n) (nx+6):=by
 obtain ⟨n,rfl⟩:∃k,n=k+1:=⟨n-1,by omega⟩
 refine uj base0.glob rfl (wb n h1 h2) (RenV.tuple2 (.ptr _ _ _ (by rw[ff,if_pos (by omega)];simp)) (.same _ rfl)) fun i b2 hi=> ?_
 simp only[mV,hget] at hi
 split at hi
 ·rename_i he
  have he:=beq_iff.1 he
  simp only[Option.some.injEq] at hi
  subst he;subst hi
  refine ⟨0,_,by rw[ff,if_pos (by omega)];simp,rfl, ?_⟩
  exact ⟨.rsl _ _ _ _ _ _ (by rw[ff,if_pos (by omega)];simp),.same _ rfl,.same _ rfl,.same _ rfl,.same _ rfl,trivial⟩
 ·split at hi
  ·rename_i he
   have he:=beq_iff.1 he
   simp only[Option.some.injEq] at hi
   subst he;subst hi
   exact ⟨1,_,by rw[ff,if_pos (by omega)];simp,rfl,RenL.same _ (iH _)⟩
  ·cases hi
def mW (s:Nat):AV→Option AV
 | .nilsl=>some (.int .u32 (.ofNat (iF s [])))
 | .fsl _ es=>match bV es with
  |some l=>match aE (ax l) es&&Nat.ble (ac l) 9223372036854775807 with
   |true=>some (.int .u32 (.ofNat (iF s l)))
   |false=>none
  |none=>none
 |_=>none
theorem wd {s:Nat} {a r:AV} (hs:s<2^32) (h:mW s a=some r):SC 355 [.int .u32 (.ofNat s),a] r:=by
 unfold mW at h
 split at h
 ·simp only[Option.some.injEq] at h;subst h
  exact vZ hs
 ·rename_i f es
  split at h
  ·rename_i l hl
   split at h
   ·rename_i hb
    simp only[Option.some.injEq] at h;subst h
    rw[Bool.and_eq_true] at hb
    have e:=aJ _ _ hb.1
    rw[←e]
    exact vY hs (by rw[←am];exact Nat.le_of_ble_eq_true hb.2)
   ·cases h
  ·cases h
 ·cases h
def mX (f:FuncId) (args:List AV):Option AV:=match Nat.beq f 355,args with
 |true,[.int .u32 (.ofNat s),a]=>match Nat.blt s 4294967296 with
  |true=>mW s a
  |false=>none
 |_,_=>none
theorem we:∀f args r,af args=true→mX f args=some r→SC f args r:=by
 intro f args r hcl h
 clear hcl
 unfold mX at h
 split at h
 ·rename_i s a hf
  split at h
  ·rename_i hb
   rw[beq_iff.1 hf]
   exact wd (blt_iff.1 hb) h
  ·cases h
 ·cases h
def mY (f:FuncId) (args:List AV) (nx:Nat):Option (AV × aa × Nat):=match Nat.beq f 25,args with
 |true,[.int .i64 (.ofNat n)]=>match Nat.ble 8 n&&Nat.ble n 4096 with
  |true=>some (.tuple [.ptr nx 0,I 0],mV nx n,6)
  |false=>none
 |_,_=>none
theorem wg:∀f args nx v H2 m,mY f args nx=some (v,H2,m)→aH Tryz.prog opts0.glob f args [] nx v H2 (nx+m):=by
 intro f args nx v H2 m h
 unfold mY at h
 split at h
 ·rename_i n hf
  split at h
  ·rename_i hb
   rw[Bool.and_eq_true] at hb
   simp only[Option.some.injEq,Prod.mk.injEq] at h
   obtain ⟨rfl,rfl,rfl⟩:=h
   rw[beq_iff.1 hf]
   exact wc nx n (Nat.le_of_ble_eq_true hb.1) (Nat.le_of_ble_eq_true hb.2)
  ·cases h
 ·cases h
def dQ:ah:=bL (fun f=>Nat.beq f 25) (eh mY) (gc mX)
theorem rG:an Tryz.prog opts0.glob dQ∧ao dQ:=ix (mt wg) (un base0.glob we)
end Go.Proofs.YtjmnheinkchlfaaGreatDoor
namespace Go.Proofs.YtjmnheinkchlfaaGreatDoor
open Go.RowKit
open Go.Proofs.Abs
inductive HT where
 |tip
 |node (k:Nat) (h:eI) (l r:HT)
noncomputable def HT.get (t:HT):Nat→eI:=
 HT.rec (fun _=> .pure) (fun k h _ _ gl gr f=>Bool.rec (Bool.rec (gr f) (gl f) (Nat.blt f k)) h (Nat.beq f k)) t
def hows:HT:=(.node 148 (.look 1) (.node 77 (.part 8) (.node 44 (.part 8) (.node 29 .keep (.node 23 (.part 8) (.node 20 (.part 8) (.node 17 (.part 8) (.node 5 .keep .tip .tip) .tip) (.node 22 (.part 8) (.node 21 (.part 8) .tip .tip) .tip)) (.node 26 .keep (.node 25 .known (.node 24 .keep .tip .tip) .tip) (.node 28 .keep .tip .tip))) (.node 35 (.part 8) (.node 33 (.part 8) (.node 31 (.part 8) (.node 30 .keep .tip .tip) .tip) (.node 34 (.part 8) .tip .tip)) (.node 42 (.part 8) (.node 41 (.part 8) (.node 40 (.part 8) .tip .tip) .tip) (.node 43 (.part 8) .tip .tip)))) (.node 58 .keep (.node 50 (.part 8) (.node 47 (.part 8) (.node 46 (.part 8) (.node 45 (.part 8) .tip .tip) .tip) (.node 48 (.part 8) .tip .tip)) (.node 54 .keep (.node 53 .keep (.node 51 .keep .tip .tip) .tip) (.node 55 .keep .tip .tip))) (.node 67 .keep (.node 63 .keep (.node 61 .keep (.node 59 .keep .tip .tip) .tip) (.node 65 (.look 1) .tip .tip)) (.node 74 (.each 2) (.node 70 (.part 8) (.node 68 (.part 8) .tip .tip) .tip) (.node 76 (.part 8) .tip .tip))))) (.node 125 (.look 1) (.node 115 (.look 0) (.node 106 (.part 8) (.node 98 (.part 8) (.node 80 (.part 8) (.node 79 (.part 8) .tip .tip) .tip) (.node 99 (.part 8) .tip .tip)) (.node 110 (.part 8) (.node 109 (.part 8) (.node 108 (.part 8) .tip .tip) .tip) (.node 114 .keep .tip .tip))) (.node 120 .keep (.node 118 (.look 0) (.node 117 (.look 0) (.node 116 (.look 0) .tip .tip) .tip) (.node 119 .keep .tip .tip)) (.node 123 (.look 1) (.node 122 .fresh (.node 121 .keep .tip .tip) .tip) (.node 124 (.look 1) .tip .tip)))) (.node 137 .keep (.node 131 .keep (.node 128 (.look 0) (.node 127 .keep (.node 126 (.look 1) .tip .tip) .tip) (.node 129 .keep .tip .tip)) (.node 135 .keep (.node 133 .keep (.node 132 .keep .tip .tip) .tip) (.node 136 .keep .tip .tip))) (.node 142 (.each 0) (.node 140 (.look 1) (.node 139 .keep (.node 138 .keep .tip .tip) .tip) (.node 141 (.look 1) .tip .tip)) (.node 146 (.look 1) (.node 145 (.look 1) (.node 144 (.look 1) .tip .tip) .tip) (.node 147 (.look 1) .tip .tip)))))) (.node 275 (.look 1) (.node 246 .keep (.node 160 (.look 8) (.node 154 (.look 1) (.node 151 (.look 1) (.node 150 (.look 1) (.node 149 (.look 1) .tip .tip) .tip) (.node 152 (.look 1) .tip .tip)) (.node 157 (.look 1) (.node 156 (.look 1) (.node 155 (.look 1) .tip .tip) .tip) (.node 158 .keep .tip .tip))) (.node 232 .keep (.node 172 .keep (.node 170 (.part 2) (.node 168 (.part 2) .tip .tip) .tip) (.node 231 .keep .tip .tip)) (.node 244 .keep (.node 243 .keep (.node 233 (.look 2) .tip .tip) .tip) (.node 245 .keep .tip .tip)))) (.node 260 .keep (.node 253 .keep (.node 250 (.look 1) (.node 249 (.look 0) (.node 247 (.look 1) .tip .tip) .tip) (.node 251 .keep .tip .tip)) (.node 258 .fresh (.node 256 .keep (.node 254 (.look 1) .tip .tip) .tip) (.node 259 .keep .tip .tip))) (.node 268 .keep (.node 263 .keep (.node 262 .keep (.node 261 .keep .tip .tip) .tip) (.node 267 .keep .tip .tip)) (.node 271 .keep (.node 270 (.look 1) (.node 269 .keep .tip .tip) .tip) (.node 272 (.look 1) .tip .tip))))) (.node 362 .keep (.node 350 .keep (.node 281 (.look 1) (.node 279 .keep (.node 277 .keep (.node 276 .keep .tip .tip) .tip) (.node 280 (.look 1) .tip .tip)) (.node 294 (.part 2) (.node 293 (.part 2) (.node 282 .keep .tip .tip) .tip) (.node 302 .keep .tip .tip))) (.node 355 .known (.node 353 .keep (.node 352 .keep (.node 351 (.look 0) .tip .tip) .tip) (.node 354 (.look 0) .tip .tip)) (.node 360 (.look 0) (.node 359 .clone (.node 357 .keep .tip .tip) .tip) (.node 361 .keep .tip .tip)))) (.node 430 (.look 0) (.node 420 (.look 0) (.node 406 .keep (.node 405 .keep (.node 404 .keep .tip .tip) .tip) (.node 409 .fresh .tip .tip)) (.node 428 (.look 0) (.node 426 (.look 0) (.node 423 (.look 0) .tip .tip) .tip) (.node 429 (.look 0) .tip .tip))) (.node 523 .keep (.node 487 .fresh (.node 449 .fresh (.node 443 .cmp .tip .tip) .tip) (.node 488 .fresh .tip .tip)) (.node 528 .keep (.node 525 .keep (.node 524 .keep .tip .tip) .tip) (.node 529 .keep .tip .tip)))))))
noncomputable def optsH:al:={how:=hows.get,summ:=fun _ _=>none,glob:=fun _=>none,lf:=100000,cx:=dQ}
end Go.Proofs.YtjmnheinkchlfaaGreatDoor
