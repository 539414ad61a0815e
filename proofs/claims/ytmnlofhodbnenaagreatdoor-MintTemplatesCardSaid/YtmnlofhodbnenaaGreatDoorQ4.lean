import Derived.Test.YtmnlofhodbnenaaGreatDoorQ3
import Derived.KernelRfl
import Derived.Test.YtmnlofhodbnenaaGreatDoorQ2
import Derived.Test.YtmnlofhodbnenaaGreatDoorG5
namespace Go.Proofs.YtmnlofhodbnenaaGreatDoor
set_option maxRecDepth 20000
open Go Go.RowKit
open Go.Proofs.Abs
def jo:Dt:=⟨false,0⟩
def zO:Ob:=⟨[],0,0,0,0,[],0,jo,jo,jo,jo,jo,jo,jo,jo,jo,jo,0,[],[],[],[],false,0,0,0,false⟩
def du (p:Ob × Int):AV:= .tuple [az p.1,I p.2]
theorem Rt (p:Ob × Int):ah (du p)=true:=by
 have:=bH p.1
 simp only[du,az,ah,ac,this,Bool.and_self]
theorem Ru (r:Int):Wk (.tuple [.agg (ae zO .nilsl .nilsl .nilsl .nilsl),I r]) (du (zO,r)):=by
 refine .tuple (.cons (.agg ?_) (.refl _))
 simp only[am,ae,bU,bV,bW,bo]
 (repeat (first|exact Wk.refl _|exact WkL.refl _|exact Wk.nil|exact Wk.row|exact WkE.refl _|exact WkL.nil|exact WkE.nil|apply Wk.agg|apply Wk.tuple|apply WkL.cons|apply Wk.rows|apply WkE.consA))
theorem co (r:Int):eH (du (zO,r)) (.tuple [.agg (ae zO .nilsl .nilsl .nilsl .nilsl),I r]):=⟨rfl,Ru r⟩
theorem jp (o:Ob) (r:Int):eH (du (o,r)) (.tuple [.agg (am o),I r]):=dM (Rt (o,r))
theorem cM (s:List UInt8) (i t y n:Int) (d:List UInt8) (ks:List It):aB ⟨s,i,.mk t y n d ks⟩= .agg (.str s::I i::ag t y n (ai d) (ad ks)):=rfl
def fU (o:Ob) (k:Kd) (j:Nat) (v:It):Ob × Int:=match im (cn o j v k) with
 |true=>(cn o j v k,0)
 |false=>(zO,7)
theorem zG {k:Kd} (h:dg k=true):o5 k=true:=by cases k<;>first|rfl|cases h
theorem FS {k:Kd} (h:dg k=true):lC k=true:=by
 cases k with
 |dat k=>
  simp only[dg,lq,Bool.and_eq_true,Nat.ble_eq] at h
  exact blt_iff.2 (by omega)
 |_=>rfl
theorem Rv {k:Kd} (h:o5 k=true):eS k=dZ (iT k) (j3 k) (j4 k) (j5 k) (lr k) (j6 k) (dh (zD k) (zE k)) (j8 k) (iR k):=by rw[u0,QX h]
theorem FT {k:Kd} (hk:dg k=true) {o:Ob} (ho:dO o) {s:List UInt8} {j:Nat} (hj:nh o j k) {v:It} (hv:gn o v k=true):SC 61 [.agg (eS k),az o,aB ⟨s,.ofNat j,v⟩] (du (fU o k j v)):=by
 have hp:=Ra hk ho hj hv
 have hs:=Rh (cn o j v k)
 have hc:=FP ho
 have hcl:=u1 k o (c:=[aB ⟨s,.ofNat j,v⟩]) (by simp[ac,eR])
 simp only[fU]
 revert hp hs
 generalize cn o j v k=o'
 intro hp hs
 obtain ⟨t,y,n,d,ks⟩:=v
 rw[Rv (zG hk),cM] at hcl⊢
 refine bh (A:=ap [] [] (Fr (am o) (am o') (im o')) [] []) base0 ao (aw (LsOk.no rfl)) hcl ?_
 simp only[gO,nI,aU] at hp
 simp only[az] at hc hs⊢
 have h:=lD o
 have h':=lD o'
 simp only[am] at hp hc hs h h'⊢
 rw[Pz]
 refine ⟨hc,aF h ⟨hp,hs,aj (fun e=> ?_) (fun e=>aF h' ?_)⟩⟩
 ·rw[Bool.not_eq_true'] at e
  rw[e];exact co 7
 ·rw[Bool.not_eq_false'] at e
  rw[e];exact jp o' 0
def jq (o:Ob):Kd→Bool
 | .nam=>Nat.blt o.names.length 6
 | .lnk=>Nat.blt o.links.length 8
 | .cus _=>Nat.blt o.cust.length 6
 |_=>true
def FU:Kd→Nat
 | .nam=>197
 | .lnk=>209
 |_=>101
theorem Rx {k:Kd} (h:ce k=true):iR k=bQ (FU k):=by cases k<;>first|rfl|cases h
theorem Ry {k:Kd} (h:ce k=false):iR k= .nilFunc:=by cases k<;>first|rfl|cases h
theorem Rz {k:Kd} (h:ce k=true) (o:Ob):SC (FU k) [az o] (.bool (jq o k)):=by
 cases k with
 |nam=>exact Rb o
 |lnk=>exact Rc o
 |cus s=>exact Rd o
 |_=>cases h
def eI (o:Ob) (k:Kd) (a:At):Ob × Int:=
 match ak a.idx (match ce k with|true=> .ofNat (cL o k)|false=>0) with
 |false=>(zO,14)
 | true=>match !ce k&&aq 0 (.ofNat (cL o k)) with
  |true=>(zO,11)
  | false=>match gn o a.v k with
   |false=>(zO,7)
   | true=>match jq o k with
    |false=>(zO,12)
    |true=>match nj o k a.v (-1) with
     |true=>(zO,11)
     |false=>fU o k (match ce k with|true=>cL o k|false=>0) a.v
theorem RA {k:Kd} (h:o5 k=true):eS k=dZ (iT k) (j3 k) (j4 k) (j5 k) (lr k) (dh (zx k) (zy k)) (j7 k) (j8 k) (iR k):=by rw[u0,Qd h]
theorem FV {k:Kd} {o:Ob} (hm:ce k=true) (hr:jq o k=true):nh o (cL o k) k:=by
 cases k with
 | nam=>
  have h:=blt_iff.1 hr
  have:cL o .nam=o.names.length:=by
   simp only[cL,aK,ce,gi]
   cases hn:o.names with
   |nil=>rfl
   |cons a r=>cases r<;>simp[ni]
  exact ⟨by omega,by omega⟩
 | lnk=>
  have h:=blt_iff.1 hr
  have:cL o .lnk=o.links.length:=by
   simp only[cL,aK,ce,gi]
   cases hn:o.links with
   |nil=>rfl
   |cons a r=>cases r<;>simp[ni]
  exact ⟨by omega,by omega⟩
 |cus s=>
  have h:=blt_iff.1 hr
  have hl:=FN o s
  refine .inr ⟨?_,h⟩
  rw[←hl]
  simp only[cL,ce,gi]
  match aK o (.cus s) with
  |[]=>rfl
  |[_]=>rfl
  |_::_::_=>rfl
 |_=>cases hm
theorem FW {k:Kd} {o:Ob} (hm:ce k=false) (j:Nat):nh o j k:=by cases k<;>first|trivial|cases hm
theorem RB {k:Kd} (hk:dg k=true) {o:Ob} (ho:dO o) (hg:lE o k) {a:At} (ha:cV a.v):SC 33 [.agg (eS k),az o,aB a] (du (eI o k a)):=by
 have h1:=Ro (FS hk) ho
 have h2:=Qk (zG hk) o a.v ha
 have h3:=Rr (FS hk) ho hg a.v (-1)
 have hcl:=u1 k o (c:=[aB a]) (by simp[ac,eR])
 have hlaid:gn o a.v k=true→jq o k=true→ak a.idx (match ce k with|true=> .ofNat (cL o k)|false=>0)=true→SC 61 [.agg (eS k),az o,aB a] (du (fU o k (match ce k with|true=>cL o k|false=>0) a.v)):=fun e1 e2 e3=>by
  rw[beqInt_iff] at e3
  obtain ⟨s,i,v⟩:=a
  simp only at e3
  cases hm:ce k with
  |true=>
   rw[hm] at e3
   subst e3
   exact FT hk ho (FV hm e2) e1
  |false=>
   rw[hm] at e3
   subst e3
   exact FT hk ho (FW hm 0) e1
 obtain ⟨s,i,v⟩:=a
 simp only[eI] at hlaid h2 h3⊢
 revert hlaid
 generalize fU o k (match ce k with|true=>cL o k|false=>0) v=la
 obtain ⟨o',e'⟩:=la
 intro hlaid
 obtain ⟨t,y,n,d,ks⟩:=v
 rw[RA (zG hk)] at hcl h1 h3 hlaid⊢
 rw[cM] at hcl hlaid⊢
 rw[aU] at h2 h3
 have hf':=lD o'
 have hro:= @Rz k
 have hro1:= @Rx k
 have hro0:= @Ry k
 have hmd:(iT k).many=ce k:=rfl
 revert h1 h2 h3 hlaid hro
 generalize gn o (.mk t y n d ks) k=right
 generalize cL o k=th
 generalize nj o k (.mk t y n d ks) (-1)=twice
 intro h1 h2 h3 hlaid hro
 cases hm:ce k with
 | true=>
  have hr:=hro hm o
  rw[hm] at hmd
  rw[hro1 hm] at hcl h1 h3 hlaid⊢
  simp only[hm] at hlaid⊢
  revert hr hlaid
  generalize jq o k=room
  intro hr hlaid
  refine bh (A:=ap [] [] (uN (.ofNat th) right room twice (.tuple [.agg (am o'),I e'])) [59] []) base0 ao (aw (LsOk.no rfl)) hcl ?_
  simp only[du,az] at h1 h2 h3 hlaid hr
  simp only[az]
  simp only[am] at h1 h2 h3 hlaid hr hf'⊢
  rw[PB]
  refine ⟨h1, ?_⟩
  refine aj (fun e=>by rw[hmd] at e;cases e) (fun _=> ?_)
  refine aj (fun e=>by rw[hmd] at e;cases e) (fun _=> ?_)
  refine ⟨h2,hr,h3,aj (fun e=> ?_) (fun e=>aj (fun e2=> ?_) (fun e2=>aj (fun e3=> ?_) (fun e3=>aj (fun e4=> ?_) (fun e4=> ?_))))⟩
  ·rw[Bool.not_eq_true'] at e;rw[e];exact co 14
  ·rw[Bool.not_eq_false'] at e;rw[Bool.not_eq_true'] at e2;rw[e,e2];exact co 7
  ·rw[Bool.not_eq_false'] at e e2;rw[Bool.not_eq_true'] at e3;rw[e,e2,e3];exact co 12
  ·rw[Bool.not_eq_false'] at e e2 e3;rw[e,e2,e3,e4];exact co 11
  ·rw[Bool.not_eq_false'] at e e2 e3
   rw[e,e2,e3,e4]
   exact ⟨hlaid e2 e3 e,aF hf' (jp o' e')⟩
 | false=>
  rw[hm] at hmd
  have hroo:jq o k=true:=by cases k<;>first|rfl|cases hm
  rw[hro0 hm] at hcl h1 h3 hlaid⊢
  simp only[hm,hroo] at hlaid⊢
  refine bh (A:=ap [] [] (uN (.ofNat th) right true twice (.tuple [.agg (am o'),I e'])) [59] []) base0 ao (aw (LsOk.no rfl)) hcl ?_
  simp only[du,az] at h1 h2 h3 hlaid
  simp only[az]
  simp only[am] at h1 h2 h3 hlaid hf'⊢
  rw[PC]
  refine ⟨h1, ?_⟩
  refine aj (fun _=> ?_) (fun e=>by rw[hmd] at e;cases e)
  refine aj (fun _=> ?_) (fun e=>by rw[hmd] at e;cases e)
  refine ⟨h2,h3,aj (fun e=> ?_) (fun e=>aj (fun e1=> ?_) (fun e1=>aj (fun e2=> ?_) (fun e2=>aj (fun e4=> ?_) (fun e4=> ?_))))⟩
  ·rw[Bool.not_eq_true'] at e;rw[e];exact co 14
  ·rw[Bool.not_eq_false'] at e;rw[e];simp only[e1,Bool.not_false,Bool.and_true];exact co 11
  ·rw[Bool.not_eq_false'] at e;rw[Bool.not_eq_true'] at e2;rw[e,e2];simp only[e1,Bool.and_false];exact co 7
  ·rw[Bool.not_eq_false'] at e e2;rw[e,e2,e4];simp only[e1,Bool.and_false];exact co 11
  ·rw[Bool.not_eq_false'] at e e2
   rw[e,e2,e4]
   simp only[e1,Bool.and_false]
   exact ⟨hlaid e2 trivial e,aF hf' (jp o' e')⟩
def dP (c:Bool) (o:Ob) (a:At):Ob × Int:=match fQ c a.name with
 |none=>(zO,7)
 |some k=>match dg k with
  |false=>(zO,7)
  |true=>eI o k a
theorem RC (k:Kd):oW (some k)=zo (eS k):=rfl
theorem RD (k:Kd):bM Tryz.prog 99 (.agg (eS k)) 12=true:=by
 have h:bc (eS k)=true:=by
  cases k with
  |dat k=>
   have h1:(oV k).one=true:=by unfold oV;split<;>rfl
   have h2:(rF k).one=true:=by unfold rF;split<;>rfl
   simp only[eS,bc,j3,j4,j5,h1,h2,lr,j6,j7,j8,iR,bQ,dh,DY,DX,DZ,Bool.true_and,Bool.and_true]
   rfl
  |_=>rfl
 exact yY Rj rfl h
theorem FX (o:Ob) (a:At) {c:List AV} (h:ac c=true):ac (az o::aB a::c)=true:=dj o (by rw[ac,eR,h];rfl)
theorem RE {c:Bool} {o:Ob} (ho:dO o) {a:At} (hc:SC 55 [.str a.name] (.bool c)) (hg:∀k,lE o k) (ha:cV a.v):SC 17 [az o,aB a] (du (dP c o a)):=by
 have hf:=NI hc
 have hcl:=FX o a (c:=[]) rfl
 simp only[dP]
 revert hf
 cases hk:fQ c a.name with
 |none=>
  intro hf
  obtain ⟨s,i,⟨t,y,n,d,ks⟩⟩:=a
  rw[cM] at hcl⊢
  refine bh (A:=ap [] [] (uP (oW none) .nilsl true) [] []) base0 ao (aw (LsOk.no rfl)) hcl ?_
  simp only[az,am]
  rw[PD]
  exact ⟨hf,co 7⟩
 | some k=>
  intro hf
  dsimp only
  have hm:=fun hk=>RB (k:=k) hk ho (hg k) ha
  have hfr:=RD k
  obtain ⟨s,i,⟨t,y,n,d,ks⟩⟩:=a
  revert hm
  generalize eI o k ⟨s,i,.mk t y n d ks⟩=la
  obtain ⟨o',e'⟩:=la
  intro hm
  have hf':=lD o'
  rw[RC] at hf
  simp only at hf
  rw[cM] at hcl hm⊢
  rw[u0] at hf hm hfr
  refine bh (A:=ap [] [] (uP (zo (dZ (iT k) (j3 k) (j4 k) (j5 k) (lr k) (j6 k) (j7 k) (j8 k) (iR k))) (.tuple [.agg (am o'),I e']) true) [] []) base0 ao (aw (LsOk.no rfl)) hcl ?_
  simp only[du,az] at hm
  simp only[az]
  simp only[am] at hm hf'⊢
  rw[PE]
  have hs:(iT k).set=dg k:=rfl
  refine ⟨hf,aF hfr (aj (fun e=> ?_) (fun e=> ?_))⟩
  ·rw[hs,Bool.not_eq_true'] at e
   rw[e];exact co 7
  ·rw[hs,Bool.not_eq_false'] at e
   rw[e]
   exact ⟨hm e,aF hf' (jp o' e')⟩
end Go.Proofs.YtmnlofhodbnenaaGreatDoor
namespace Go.Proofs.YtmnlofhodbnenaaGreatDoor
open Go Go.RowKit
open Go.Proofs.Abs
theorem FY (x y:Operand) (a b:Int):aM Tryz.prog .lss 3 x y (I a) (I b)=some (.bool (aq a b)):=by kernel_rfl
theorem rO {x y:Operand} {a b:Int} (h:a<b):aM Tryz.prog .lss 3 x y (I a) (I b)=some (.bool true):=by rw[FY,ltInt_iff.2 h]
theorem jr {x y:Operand} {a b:Int} (h:b≤a):aM Tryz.prog .lss 3 x y (I a) (I b)=some (.bool false):=by rw[FY,ltInt_false.2 h]
theorem ki:∀l:List Rw,ac (l.map a7)=true
 |[]=>rfl
 |_::r=>ki r
noncomputable section
def dk (L:List AV) (at' k:Int) (t:Int):View:=⟨[(0,.fsl false L),(1,I at'),(7,I k)],[(4,.ptr 0 0),(6,.ptr 1 0)],[(0,.cells uc,.whole),(1,.cells [I t,I 1,I 0,.nilsl,.nilsl],.whole)],3,81⟩
def cZ (L:List AV) (at' k:Int) (t:Int) (n:Nat) (es:List AV):View:=⟨[(0,.fsl false L),(1,I at'),(7,I k)],[(4,.ptr 0 0),(6,.ptr 1 0)],[(0,.cells uc,.whole),(1,.cells [I t,I 1,I 0,.nilsl,.rsl true 2 0 n 5],.each),(2,.cells es,.whole)],3,81⟩
def jt (r:Rw) (p:Int) (v:AV):aX:=ap [(11,2,.res (.fptr (rE r) 0))] [] (bg [(13,I p),(15,v)]) [] []
abbrev u3:=[I 0,I 0,I 0,AV.nilsl,AV.nilsl]
@[simp] abbrev eJ:=(u3=u3∧true=true)
@[simp] abbrev eK (L:List AV):=(AV.fsl false L=AV.fsl false L∧ah (AV.fsl false L)=true)
@[simp] abbrev fw:=((some 0=some 0∧0=0)∧(some 1=some 1∧0=0)∧True)
abbrev io (t:Int):=[I t,I 1,I 0,AV.nilsl,AV.nilsl]
abbrev gP (D K:List AV) (a b c:Int):=[I a,I b,I c,AV.fsl false D,AV.fsl false K]
@[simp] abbrev lF (k:Int):=(I k=I k∧ah (I k)=true)
abbrev pa (r:Rw):=(AV.fptr [I r.1,I r.2,I r.3,I r.4] 0)
@[simp] abbrev rP (t:Int):=((io t)=(io t)∧ac (io t)=true)
theorem FZ (L:List AV) (at' k t p a b c e:Int) (r:Rw) (D K:List AV) (N:Prop) (Q:AExit→St→Prop):aI Tryz.prog opts0 40 (jt r p (.agg (ag a b c D K))) (aD Tryz.prog 15 10) (dk L at' k t).st (bf 0 [(0,0),(1,1)] (dk L at' e t) N [(0,0),(1,1)] (dk L at' k t) Q)=
  (ab (aq k (Int.ofNat (aa L))) (ab (aq k 8) (aC Tryz.prog 22 (AV.fsl false L) (I k)=some (pa r)∧SC 13 [I r.1,I k] (I p)∧ab (ak p at') (SC 15 [AV.fsl false L,I k] (AV.agg (gP D K a b c))∧(((eK L)∧(I at'=I at'∧ah (I at')=true)∧(I (ar IntKind.i64 (k+1))=I e∧ah (I e)=true)∧True)∧fw∧eJ∧([I t,I 1,I 0,AV.nilsl,AV.rsl true 26 0 (aa [AV.agg (gP D K a b c)]) 5]=(io t)∧ac (io t)=true)∧True)∧N) ((((eK L)∧(I at'=I at'∧ah (I at')=true)∧(I (ar IntKind.i64 (k+1))=I e∧ah (I e)=true)∧True)∧fw∧eJ∧(rP t)∧True)∧N)) ((((eK L)∧(I at'=I at'∧ah (I at')=true)∧(lF k)∧True)∧fw∧eJ∧(rP t)∧True)∧Q (AExit.exit 1) (dk L at' k t).st)) ((((eK L)∧(I at'=I at'∧ah (I at')=true)∧(lF k)∧True)∧fw∧eJ∧(rP t)∧True)∧Q (AExit.exit 1) (dk L at' k t).st)):=by kernel_rfl
@[simp] abbrev pb:=(AV.nilsl=AV.nilsl∧true=true)
@[simp] abbrev pd (t:Int):=(I t=I t∧ah (I t)=true)
@[simp] abbrev pe:=(I 1=I 1∧true=true)
@[simp] abbrev pg:=(I 0=I 0∧true=true)
theorem RF (L:List AV) (at' k t p a b c e:Int) (r:Rw) (D K:List AV) (es:List AV) (N:Prop) (Q:AExit→St→Prop):aI Tryz.prog opts0 40 (jt r p (.agg (ag a b c D K))) (aD Tryz.prog 15 10) (dk L at' k t).st (bf 0 [(0,0),(1,1),(2,26)] (cZ L at' e t 1 es) N [(0,0),(1,1)] (dk L at' k t) Q)=
  (ab (aq k (Int.ofNat (aa L))) (ab (aq k 8) (aC Tryz.prog 22 (AV.fsl false L) (I k)=some (pa r)∧SC 13 [I r.1,I k] (I p)∧ab (ak p at') (SC 15 [AV.fsl false L,I k] (AV.agg (gP D K a b c))∧(((eK L)∧(I at'=I at'∧ah (I at')=true)∧(I (ar IntKind.i64 (k+1))=I e∧ah (I e)=true)∧True)∧fw∧eJ∧((pd t)∧pe∧pg∧pb∧(true=true∧some 26=some 26∧0=0∧1=aa [AV.agg (gP D K a b c)]∧5=5)∧True)∧(flat [AV.agg (gP D K a b c)]=es∧ac es=true)∧True)∧N) ((((eK L)∧(I at'=I at'∧ah (I at')=true)∧(I (ar IntKind.i64 (k+1))=I e∧ah (I e)=true)∧True)∧fw∧eJ∧((pd t)∧pe∧pg∧pb∧False∧True)∧False∧True)∧N)) ((((eK L)∧(I at'=I at'∧ah (I at')=true)∧(lF k)∧True)∧fw∧eJ∧(rP t)∧True)∧Q (AExit.exit 1) (dk L at' k t).st)) ((((eK L)∧(I at'=I at'∧ah (I at')=true)∧(lF k)∧True)∧fw∧eJ∧(rP t)∧True)∧Q (AExit.exit 1) (dk L at' k t).st)):=by kernel_rfl
@[simp] abbrev rQ (m:Nat) (t:Int):=((pd t)∧pe∧pg∧pb∧(true=true∧some 2=some 2∧0=0∧m=m∧5=5)∧True)
abbrev F2 (D K:List AV) (a b c:Int) (m:Nat):=(a8 5 [AV.agg (gP D K a b c)]&&(((m+aa [AV.agg (gP D K a b c)])*72).ble 140737488355328&&(bc (flat [AV.agg (gP D K a b c)])&&true)))
@[simp] abbrev rR (es:List AV):=(es=es∧ac es=true)
theorem F3 (L:List AV) (at' k t p a b c e:Int) (m:Nat) (r:Rw) (D K:List AV) (es:List AV) (N:Prop) (Q:AExit→St→Prop):aI Tryz.prog opts0 40 (jt r p (.agg (ag a b c D K))) (aD Tryz.prog 15 10) (cZ L at' k t m es).st (bf 0 [(0,0),(1,1),(2,2)] (cZ L at' e t m es) N [(0,0),(1,1),(2,2)] (cZ L at' k t m es) Q)=
  (ab (aq k (Int.ofNat (aa L))) (ab (aq k 8) (aC Tryz.prog 22 (AV.fsl false L) (I k)=some (pa r)∧SC 13 [I r.1,I k] (I p)∧ab (ak p at') (SC 15 [AV.fsl false L,I k] (AV.agg (gP D K a b c))∧au (F2 D K a b c m) (au ((aa es).beq (m*5)) ((((eK L)∧(I at'=I at'∧ah (I at')=true)∧(I (ar IntKind.i64 (k+1))=I e∧ah (I e)=true)∧True)∧fw∧eJ∧((pd t)∧pe∧pg∧pb∧(true=true∧some 2=some 26∧0=0∧m=m+aa [AV.agg (gP D K a b c)]∧5=5)∧True)∧False∧True)∧N))) ((((eK L)∧(I at'=I at'∧ah (I at')=true)∧(I (ar IntKind.i64 (k+1))=I e∧ah (I e)=true)∧True)∧fw∧eJ∧(rQ m t)∧(rR es)∧True)∧N)) ((((eK L)∧(I at'=I at'∧ah (I at')=true)∧(lF k)∧True)∧fw∧eJ∧(rQ m t)∧(rR es)∧True)∧Q (AExit.exit 1) (cZ L at' k t m es).st)) ((((eK L)∧(I at'=I at'∧ah (I at')=true)∧(lF k)∧True)∧fw∧eJ∧(rQ m t)∧(rR es)∧True)∧Q (AExit.exit 1) (cZ L at' k t m es).st)):=by kernel_rfl
theorem RG (L:List AV) (at' k t p a b c e:Int) (m m':Nat) (r:Rw) (D K:List AV) (es es':List AV) (N:Prop) (Q:AExit→St→Prop):aI Tryz.prog opts0 40 (jt r p (.agg (ag a b c D K))) (aD Tryz.prog 15 10) (cZ L at' k t m es).st (bf 0 [(0,0),(1,1),(2,26)] (cZ L at' e t m' es') N [(0,0),(1,1),(2,2)] (cZ L at' k t m es) Q)=
  (ab (aq k (Int.ofNat (aa L))) (ab (aq k 8) (aC Tryz.prog 22 (AV.fsl false L) (I k)=some (pa r)∧SC 13 [I r.1,I k] (I p)∧ab (ak p at') (SC 15 [AV.fsl false L,I k] (AV.agg (gP D K a b c))∧au (F2 D K a b c m) (au ((aa es).beq (m*5)) ((((eK L)∧(I at'=I at'∧ah (I at')=true)∧(I (ar IntKind.i64 (k+1))=I e∧ah (I e)=true)∧True)∧fw∧eJ∧((pd t)∧pe∧pg∧pb∧(true=true∧some 26=some 26∧0=0∧m'=m+aa [AV.agg (gP D K a b c)]∧5=5)∧True)∧(es++flat [AV.agg (gP D K a b c)]=es'∧ac es'=true)∧True)∧N))) ((((eK L)∧(I at'=I at'∧ah (I at')=true)∧(I (ar IntKind.i64 (k+1))=I e∧ah (I e)=true)∧True)∧fw∧eJ∧((pd t)∧pe∧pg∧pb∧(true=true∧some 26=some 2∧0=0∧m'=m∧5=5)∧True)∧False∧True)∧N)) ((((eK L)∧(I at'=I at'∧ah (I at')=true)∧(lF k)∧True)∧fw∧eJ∧(rQ m t)∧(rR es)∧True)∧Q (AExit.exit 1) (cZ L at' k t m es).st)) ((((eK L)∧(I at'=I at'∧ah (I at')=true)∧(lF k)∧True)∧fw∧eJ∧(rQ m t)∧(rR es)∧True)∧Q (AExit.exit 1) (cZ L at' k t m es).st)):=by kernel_rfl
def RH (p8 p10 p4 p300:Int):List AV→Option AV
 | [_,.int _ (.ofNat n)]=>match Nat.beq n 8 with
  |true=>some (I p8)
  | false=>match Nat.beq n 10 with
   |true=>some (I p10)
   |false=>match Nat.beq n 4 with
    |true=>some (I p4)
    |false=>some (I p300)
 |_=>none
def nk (p:Prop) (L:List AV) (at' k t:Int) (F:View):bq:=fun s Q=>p∧ck 0 [(0,0),(1,25)] (dk L at' k t) s∧Q (.exit 1) F.st
def nn (r:Rw) (p8 p10 p4 p300 t:Int) (s:List UInt8) (L:bq):aX:=ap [(3,2,.res (.fptr (rE r) 0)),(4,4,.res (I t)),(16,4,.res (.str s))] [(10,L)] (dW [(13,RH p8 p10 p4 p300)]) [] []
abbrev ph:=(AV.agg [AV.str [],AV.str [111,110,101],AV.str [116,119,111],AV.str [49,50,51,52,53,54,55,56]])
abbrev lG (r:Rw):=(13,some (Blk.cells [I r.1,I r.2,I r.3,I r.4]))
abbrev F4:=(AV.agg [I 4325387,I 4325386,I 4325384,I 4325524,I 4325570,I 4325385,I 4325451,I 4325377])
abbrev u4 (Q:AV→af→Prop):=(Q (AV.agg u3) [(0,some (Blk.cells u3))])
@[simp] abbrev F5:=((some 0=some 0∧0=0)∧(some 25=some 25∧0=0)∧True)
theorem u5 (p:Prop) (L:List AV) (at' k e t p8 p10 p4 p300:Int) (r:Rw) (s:List UInt8) (Q:AV→af→Prop):ax Tryz.prog opts0 40 (nn r p8 p10 p4 p300 t s (nk p L at' k t (dk L at' e t))) 15 [.fsl false L,I at'] [] 0 (fun v H _=>Q v H)=
  (ab (!aq at' (Int.ofNat (aa L))) (u4 Q) (ab (!aq at' 8) (u4 Q) (aC Tryz.prog 22 (AV.fsl false L) (I at')=some (pa r)∧SC 13 [I r.2,I 8] (I p8)∧cm Tryz.prog 90 F4 (I p8)=some (I t)∧SC 13 [I r.3,I 10] (I p10)∧ab (ak (ar IntKind.i64 (1+p10)) 1) (p∧(((eK L)∧(I at'=I at'∧ah (I at')=true)∧(I (ar IntKind.i64 (at'+1))=I k∧ah (I k)=true)∧True)∧F5∧eJ∧([I t,I (ar IntKind.i64 (1+p10)),I 0,AV.nilsl,AV.nilsl]=(io t)∧ac (io t)=true)∧True)∧Q (AV.agg (io t)) [(0,some (Blk.cells (io t))),(1,some (Blk.cells (io t)))]) (ab (ak (ar IntKind.i64 (1+p10)) 7) (SC 13 [I r.4,I 4] (I p4)∧cm Tryz.prog 91 ph (I p4)=some (AV.str s)∧Q (AV.agg [I t,I (ar IntKind.i64 (1+p10)),I 0,AV.fsl false (ai s),AV.nilsl]) [(25,some (Blk.cells [I t,I (ar IntKind.i64 (1+p10)),I 0,AV.fsl false (ai s),AV.nilsl])),(lG r),(0,some (Blk.cells [I t,I (ar IntKind.i64 (1+p10)),I 0,AV.fsl false (ai s),AV.nilsl]))]) (ab (ak (ar IntKind.i64 (1+p10)) 8) (SC 13 [I r.4,I 4] (I p4)∧cm Tryz.prog 91 ph (I p4)=some (AV.str s)∧Q (AV.agg [I t,I (ar IntKind.i64 (1+p10)),I 0,AV.fsl false (ai s),AV.nilsl]) [(25,some (Blk.cells [I t,I (ar IntKind.i64 (1+p10)),I 0,AV.fsl false (ai s),AV.nilsl])),(lG r),(0,some (Blk.cells [I t,I (ar IntKind.i64 (1+p10)),I 0,AV.fsl false (ai s),AV.nilsl]))]) (ab (ak (ar IntKind.i64 (1+p10)) 4) (SC 13 [I r.4,I 4] (I p4)∧cm Tryz.prog 91 ph (I p4)=some (AV.str s)∧Q (AV.agg [I t,I (ar IntKind.i64 (1+p10)),I 0,AV.fsl false (ai s),AV.nilsl]) [(25,some (Blk.cells [I t,I (ar IntKind.i64 (1+p10)),I 0,AV.fsl false (ai s),AV.nilsl])),(lG r),(0,some (Blk.cells [I t,I (ar IntKind.i64 (1+p10)),I 0,AV.fsl false (ai s),AV.nilsl]))]) (SC 13 [I r.4,I 300] (I p300)∧Q (AV.agg [I t,I (ar IntKind.i64 (1+p10)),I (ar IntKind.i64 (p300-5)),AV.nilsl,AV.nilsl]) [(25,some (Blk.cells [I t,I (ar IntKind.i64 (1+p10)),I (ar IntKind.i64 (p300-5)),AV.nilsl,AV.nilsl])),(lG r),(0,some (Blk.cells [I t,I (ar IntKind.i64 (1+p10)),I (ar IntKind.i64 (p300-5)),AV.nilsl,AV.nilsl]))]))))))):=by kernel_rfl
theorem RI (p:Prop) (L:List AV) (at' k e t p8 p10 p4 p300:Int) (m:Nat) (r:Rw) (s:List UInt8) (es:List AV) (Q:AV→af→Prop):ax Tryz.prog opts0 40 (nn r p8 p10 p4 p300 t s (nk p L at' k t (cZ L at' e t m es))) 15 [.fsl false L,I at'] [] 0 (fun v H _=>Q v H)=
  (ab (!aq at' (Int.ofNat (aa L))) (u4 Q) (ab (!aq at' 8) (u4 Q) (aC Tryz.prog 22 (AV.fsl false L) (I at')=some (pa r)∧SC 13 [I r.2,I 8] (I p8)∧cm Tryz.prog 90 F4 (I p8)=some (I t)∧SC 13 [I r.3,I 10] (I p10)∧ab (ak (ar IntKind.i64 (1+p10)) 1) (p∧(((eK L)∧(I at'=I at'∧ah (I at')=true)∧(I (ar IntKind.i64 (at'+1))=I k∧ah (I k)=true)∧True)∧F5∧eJ∧([I t,I (ar IntKind.i64 (1+p10)),I 0,AV.nilsl,AV.nilsl]=(io t)∧ac (io t)=true)∧True)∧Q (AV.agg [I t,I 1,I 0,AV.nilsl,AV.rsl true 2 0 m 5]) [(0,some (Blk.cells [I t,I 1,I 0,AV.nilsl,AV.rsl true 2 0 m 5])),(1,some (Blk.cells [I t,I 1,I 0,AV.nilsl,AV.rsl true 2 0 m 5])),(2,some (Blk.cells es))]) (ab (ak (ar IntKind.i64 (1+p10)) 7) (SC 13 [I r.4,I 4] (I p4)∧cm Tryz.prog 91 ph (I p4)=some (AV.str s)∧Q (AV.agg [I t,I (ar IntKind.i64 (1+p10)),I 0,AV.fsl false (ai s),AV.nilsl]) [(25,some (Blk.cells [I t,I (ar IntKind.i64 (1+p10)),I 0,AV.fsl false (ai s),AV.nilsl])),(lG r),(0,some (Blk.cells [I t,I (ar IntKind.i64 (1+p10)),I 0,AV.fsl false (ai s),AV.nilsl]))]) (ab (ak (ar IntKind.i64 (1+p10)) 8) (SC 13 [I r.4,I 4] (I p4)∧cm Tryz.prog 91 ph (I p4)=some (AV.str s)∧Q (AV.agg [I t,I (ar IntKind.i64 (1+p10)),I 0,AV.fsl false (ai s),AV.nilsl]) [(25,some (Blk.cells [I t,I (ar IntKind.i64 (1+p10)),I 0,AV.fsl false (ai s),AV.nilsl])),(lG r),(0,some (Blk.cells [I t,I (ar IntKind.i64 (1+p10)),I 0,AV.fsl false (ai s),AV.nilsl]))]) (ab (ak (ar IntKind.i64 (1+p10)) 4) (SC 13 [I r.4,I 4] (I p4)∧cm Tryz.prog 91 ph (I p4)=some (AV.str s)∧Q (AV.agg [I t,I (ar IntKind.i64 (1+p10)),I 0,AV.fsl false (ai s),AV.nilsl]) [(25,some (Blk.cells [I t,I (ar IntKind.i64 (1+p10)),I 0,AV.fsl false (ai s),AV.nilsl])),(lG r),(0,some (Blk.cells [I t,I (ar IntKind.i64 (1+p10)),I 0,AV.fsl false (ai s),AV.nilsl]))]) (SC 13 [I r.4,I 300] (I p300)∧Q (AV.agg [I t,I (ar IntKind.i64 (1+p10)),I (ar IntKind.i64 (p300-5)),AV.nilsl,AV.nilsl]) [(25,some (Blk.cells [I t,I (ar IntKind.i64 (1+p10)),I (ar IntKind.i64 (p300-5)),AV.nilsl,AV.nilsl])),(lG r),(0,some (Blk.cells [I t,I (ar IntKind.i64 (1+p10)),I (ar IntKind.i64 (p300-5)),AV.nilsl,AV.nilsl]))]))))))):=by kernel_rfl
theorem RJ (L:List AV) (t y n:Int) (D K:List AV) (Q:AV→Prop):ax Tryz.prog opts0 40 (ap [] [] (bg [(15,.agg (ag t y n D K))]) [] []) 5 [.fsl false L] [] 0 (fun v _ _=>Q v)=
  (SC 15 [AV.fsl false L,I 0] (AV.agg [I t,I y,I n,AV.fsl false D,AV.fsl false K])∧Q (AV.agg [I t,I y,I n,AV.fsl false D,AV.fsl false K])):=by kernel_rfl
end
theorem RK {H:af} {o:Ob} {M N L C N' L' C':AV} (hM:ah M=true) (hN:Frz 0 H N N') (hL:Frz 0 H L L') (hC:Frz 0 H C C'):Frz 0 H (.agg (ae o M N L C)) (.agg (ae o M N' L' C')):=by
 refine .agg ?_
 simp only[ae]
 repeat (first|exact FrzL.nil|refine FrzL.cons hN ?_|refine FrzL.cons hL ?_|refine FrzL.cons hC ?_|refine FrzL.cons (.closed _ hM) ?_|refine FrzL.cons (.closed _ rfl) ?_)
structure Okay (o:Ob):Prop where
 fit:dO o
 n:∀s∈o.names,s∈cF
 l:∀x∈o.links,x.id∈cF
 c:∀x∈o.cust,x.text∈cF
 i:o.id∈cF
 m:o.msg.length≤8
theorem F6:∀s∈cF,s.length≤8:=by decide
theorem zH {s:List UInt8} (h:s.length≤8):bO bd (fv s):=⟨Nat.le_trans h (by decide),by simp[bd],trivial⟩
theorem np (y n:Int):bO bd (a9 y n):=⟨by simp[bd],by simp[bd],trivial⟩
theorem rS {b:Bool} {x:It}:(cd b x).length≤1:=by cases b<;>simp[cd]
theorem rT {b:Bool} {x y:It} (h:y∈cd b x):y=x:=by
 cases b with
 |true=>simpa [cd] using h
 |false=>cases h
theorem RL {s:List UInt8} (h:s.length≤8) (a b c n:Int) (l:List It) (hl:l=[eT a b n,.mk c 7 0 s []]):bO bd (fS l):=by
 subst hl
 simp[fS,bE,bO,iO,eT,bd]
 omega
theorem Okay.g {o:Ob} (h:Okay o):∀k,lE o k:=by
 intro k
 have t:=F6
 cases k with
 | uid=>exact ⟨by simp[aK],fun x hx=>by
   simp only[aK,List.mem_singleton] at hx;subst hx;exact zH (t _ h.i)⟩
 | nam=>exact ⟨by have:=h.fit.n;simp only[aK,List.length_map];omega,fun x hx=>by
   obtain ⟨s,hs,rfl⟩:=List.mem_map.1 hx;exact zH (t _ (h.n s hs))⟩
 | typ=>exact ⟨by simp[aK],fun x hx=>by
   simp only[aK,List.mem_singleton] at hx;subst hx;exact np _ _⟩
 |alg=>exact ⟨Nat.le_trans rS (by decide),fun x hx=>by rw[rT hx];exact np _ _⟩
 |len=>exact ⟨Nat.le_trans rS (by decide),fun x hx=>by rw[rT hx];exact np _ _⟩
 | mask=>exact ⟨by simp[aK],fun x hx=>by
   simp only[aK,List.mem_singleton] at hx;subst hx;exact np _ _⟩
 | sta=>exact ⟨by simp[aK],fun x hx=>by
   simp only[aK,List.mem_singleton] at hx;subst hx;exact np _ _⟩
 |dat k=>exact ⟨Nat.le_trans rS (by decide),fun x hx=>by rw[rT hx];exact np _ _⟩
 | why=>exact ⟨Nat.le_trans rS (by decide),fun x hx=>by
   rw[rT hx]
   have hm:=h.m
   simp only[rH]
   match o.msg,hm with
   |[],_=>simp[fS,bE,bO,iO,eT,o2,bd]
   |a::r,hm=>
    simp only[List.length_cons] at hm
    simp[fS,bE,bO,iO,eT,o2,bd]
    omega⟩
 | lnk=>exact ⟨by have:=h.fit.l;simp only[aK,List.length_map];omega,fun x hx=>by
   obtain ⟨s,hs,rfl⟩:=List.mem_map.1 hx
   exact RL (t _ (h.l s hs)) _ _ _ _ _ rfl⟩
 | lim=>exact ⟨Nat.le_trans rS (by decide),fun x hx=>by
   rw[rT hx]
   simp[rI,fS,bE,bO,iO,eT,bd]⟩
 | cus s=>exact ⟨by
   have:=h.fit.c
   simp only[aK,List.length_map]
   exact Nat.le_trans (List.length_filter_le _ _) (by omega),fun x hx=>by
   obtain ⟨c,hc,rfl⟩:=List.mem_map.1 hx
   exact zH (t _ (h.c c (List.mem_filter.1 hc).1))⟩
theorem u6 {α:Type} {l:List α} {i:Nat} {x y:α} (h:y∈dA l i x):y∈l∨y=x:=by
 simp only[dA,List.mem_append,List.mem_cons] at h
 rcases h with h|h|h
 ·exact .inl (List.mem_of_mem_take h)
 ·exact .inr h
 ·exact .inl (List.mem_of_mem_drop h)
theorem zI {α:Type} {l:List α} {i n:Nat} {x:α} (h:i≤l.length) (h1:l.length≤n) (h2:i<n):(dA l i x).length≤n:=by
 simp only[dA,List.length_append,List.length_cons,List.length_take,List.length_drop]
 omega
theorem RN {v:It} (h:cV v) (i:Nat):dr (ng v i)∈cF:=by
 unfold ng
 cases hk:(aV v)[i]? with
 |none=>exact jn h
 | some k=>
  have:∀ (l:List It),o6 l→∀ (i:Nat) (k:It),l[i]? =some k→cV k:=by
   intro l
   induction l with
   |nil=>intro _ i k h;simp at h
   |cons a r ih=>
    intro hl i k h
    cases i with
    |zero=>simp at h;subst h;exact hl.1
    |succ i=>exact ih hl.2 i k (by simpa using h)
  refine jn (this (aV v) ?_ i k hk)
  cases v
  exact h.2
theorem Okay.date {o:Ob} (h:Okay o) (d:Dt) (k:Nat):Okay (uQ o d k):=by
 have e:∀p:Ob,p.names=o.names→p.links=o.links→p.cust=o.cust→p.mat=o.mat→p.id=o.id→p.msg=o.msg→Okay p:=fun p h1 h2 h3 h4 h5 h6=>
  ⟨⟨by rw[h1];exact h.fit.n,by rw[h2];exact h.fit.l,by rw[h3];exact h.fit.c,by rw[h4];exact h.fit.m⟩,by rw[h1];exact h.n,by rw[h2];exact h.l,by rw[h3];exact h.c,by rw[h5];exact h.i,by rw[h6];exact h.m⟩
 unfold uQ
 split<;>exact e _ rfl rfl rfl rfl rfl rfl
theorem Okay.put {o:Ob} (h:Okay o) {k:Kd} {j:Nat} (hj:nh o j k) {v:It} (hv:cV v):Okay (cn o j v k):=by
 cases k with
 | nam=>exact ⟨⟨zI hj.1 h.fit.n hj.2,h.fit.l,h.fit.c,h.fit.m⟩,fun s hs=>by
   rcases u6 hs with hs|rfl
   ·exact h.n s hs
   ·exact jn hv,h.l,h.c,h.i,h.m⟩
 |alg=>exact ⟨⟨h.fit.n,h.fit.l,h.fit.c,h.fit.m⟩,h.n,h.l,h.c,h.i,h.m⟩
 |len=>exact ⟨⟨h.fit.n,h.fit.l,h.fit.c,h.fit.m⟩,h.n,h.l,h.c,h.i,h.m⟩
 |mask=>exact ⟨⟨h.fit.n,h.fit.l,h.fit.c,h.fit.m⟩,h.n,h.l,h.c,h.i,h.m⟩
 |dat k=>exact h.date _ k
 | lnk=>exact ⟨⟨h.fit.n,zI hj.1 h.fit.l hj.2,h.fit.c,h.fit.m⟩,h.n,fun s hs=>by
   rcases u6 hs with hs|rfl
   ·exact h.l s hs
   ·exact RN hv 1,h.c,h.i,h.m⟩
 |lim=>exact ⟨⟨h.fit.n,h.fit.l,h.fit.c,h.fit.m⟩,h.n,h.l,h.c,h.i,h.m⟩
 | cus s=>
  have hp:=FM (o:=o) (s:=s) (j:=j) (by rcases hj with hj|hj<;>omega)
  have h6:ij o s j<6:=by
   have:=h.fit.c
   rcases hj with hj|hj
   ·have:=hp.2.2 hj;omega
   ·have:=hp.2.1;omega
  exact ⟨⟨h.fit.n,h.fit.l,zI hp.2.1 h.fit.c h6,h.fit.m⟩,h.n,h.l,fun c hc=>by
   rcases u6 hc with hc|rfl
   ·exact h.c c hc
   ·exact jn hv,h.i,h.m⟩
 |_=>exact h
def u7 (p:Ob × Int):Prop:=p.2=0→Okay p.1∧im p.1=true
theorem lH {o:Ob} {e:Int} (h:e≠0):u7 (o,e):=fun h0=>absurd h0 h
theorem F7 {o:Ob} (h:Okay o) {k:Kd} {j:Nat} (hj:nh o j k) {v:It} (hv:cV v):u7 (fU o k j v):=by
 unfold fU
 split
 ·rename_i hs
  exact fun _=>⟨h.put hj hv,hs⟩
 ·exact lH (by decide)
theorem RO {o:Ob} (h:Okay o) {k:Kd} {a:At} (ha:cV a.v):u7 (eI o k a):=by
 unfold eI
 split
 ·exact lH (by decide)
 split
 ·exact lH (by decide)
 split
 ·exact lH (by decide)
 split
 ·exact lH (by decide)
 ·rename_i hr
  split
  ·exact lH (by decide)
  ·cases hm:ce k with
   |true=>exact F7 h (FV hm hr) ha
   |false=>exact F7 h (FW hm 0) ha
theorem RP {c:Bool} {o:Ob} (h:Okay o) {a:At} (ha:cV a.v):u7 (dP c o a):=by
 unfold dP
 split
 ·exact lH (by decide)
 split
 ·exact lH (by decide)
 ·exact RO h ha
theorem RQ (s:List UInt8) (r:Rw):cV (jZ s r):=by
 have hid:cE idL [] r.b∈cF:=(by decide:∀s∈idL,s∈cF) _ (ul idL [] r.b (by simp[idL]))
 have htx:cE txL [] r.a∈cF:=(by decide:∀s∈txL,s∈cF) _ (ul txL [] r.a (by simp[txL]))
 have h0:([]:List UInt8)∈cF:=by decide
 unfold jZ
 repeat' split
 all_goals
  simp only[bE,jY,cV,o6]
  simp only[hid,htx,h0,and_self]
def bX (s:List UInt8):List It→Nat→List At
 |[],_=>[]
 |v::r,i=>⟨s,.ofNat i,v⟩::bX s r (i+1)
theorem rU (s:List UInt8):∀ (l:List It) (i:Nat),(bX s l i).length=l.length
 |[],_=>rfl
 |_::r,i=>congrArg (· +1) (rU s r (i+1))
theorem nZ:∀l:List At,(flat (l.map aB)).length=l.length*7
 |[]=>rfl
 |⟨_,_,⟨_,_,_,_,_⟩⟩::r=>by
  have ih:=nZ r
  rw[List.length_cons,Nat.succ_mul,←ih]
  rfl
theorem ip:∀l:List At,ac (l.map aB)=true
 |[]=>rfl
 |a::r=>by rw[List.map_cons,ac,eR,ip r];rfl
theorem rV:∀l:List At,ac (flat (l.map aB))=true
 |[]=>rfl
 |a::r=>by
  have h:=eR a
  rw[List.map_cons,flat,dV,rV r,Bool.and_true]
  exact h
theorem RS (a:At):ei 7 (aB a):=by
 obtain ⟨s,i,⟨t,y,n,d,ks⟩⟩:=a
 exact ⟨rfl,rfl⟩
section
variable {h:gk} {a m re g r p d ro:AV} {l:List It}
end
theorem u9 {s:List UInt8}:∀ {l:List Kd} {k:Kd},fP s l=some k→k∈l∧aJ k=s
 |[],_,h=>by cases h
 | a::r,k,h=>by
  simp only[fP] at h
  split at h
  ·rename_i e
   cases h
   exact ⟨by simp,beqBytes_iff.1 e⟩
  ·obtain ⟨h1,h2⟩:=u9 h
   exact ⟨by simp[h1],h2⟩
theorem RT {c:Bool} {s:List UInt8} {k:Kd} (h:fQ c s=some k):lC k=true∧aJ k=s:=by
 unfold fQ at h
 split at h
 ·cases h;exact ⟨rfl,rfl⟩
 ·obtain ⟨h1,h2⟩:=u9 h
  exact ⟨(by decide:∀k∈kinds,lC k=true) k h1,h2⟩
def zJ (c:Bool) (o:Ob) (s:List UInt8):List At:=match fQ c s with
 |none=>[]
 |some k=>bX s (aK o k) 0
end Go.Proofs.YtmnlofhodbnenaaGreatDoor
namespace Go.Proofs.YtmnlofhodbnenaaGreatDoor
set_option maxRecDepth 20000
open Go Go.RowKit
open Go.Proofs.Abs
noncomputable section
def bY (k:Nat) (i:Int) (O:List AV):View:=⟨[(k,I i)],[(2,.ptr 0 0),(3,.ptr 1 0)],[(0,.cells O,.whole),(1,.cells O,.whole)],2,173⟩
def kj (r:Nat) (x:List AV):aX:=ap [(r,3,.res (.fptr x 0)),(r,8,.res (.fptr x 0))] [] aH [] []
@[simp] abbrev ju:=((some 0=some 0∧0=0)∧(some 1=some 1∧0=0)∧True)
@[simp] abbrev pj (C L M:AV) (R:List AV) (o:Ob):=((ae o M (AV.fsl false R) L C)=(ae o M (AV.fsl false R) L C)∧ac (ae o M (AV.fsl false R) L C)=true)
@[simp] abbrev pk (i:Int):=((I i=I i∧ah (I i)=true)∧True)
theorem F8 (o:Ob) (M L C:AV) (R:List AV) (x:List UInt8) (i j:Int) (Nx:Prop) (Q:AExit→St→Prop):aI Tryz.prog opts0 40 (kj 6 [.str x]) (aD Tryz.prog 9 5) (bY 5 i (ae o M (.fsl false R) L C)).st (bf 0 [(0,0),(1,1)] (bY 5 j (ae o M (.fsl false R) L C)) Nx [(0,0),(1,1)] (bY 5 i (ae o M (.fsl false R) L C)) Q)=
  (ab (aq i (Int.ofNat (aa R))) (aC Tryz.prog 32 (AV.fsl false R) (I i)=some (AV.fptr [AV.str x] 0)∧aC Tryz.prog 32 (AV.fsl false R) (I i)=some (AV.fptr [AV.str x] 0)∧ab (!aA x x) (((pk i)∧ju∧(pj C L M R o)∧(pj C L M R o)∧True)∧Q AExit.ret (bY 5 i (ae o M (AV.fsl false R) L C)).st) ((((I (ar IntKind.i64 (i+1))=I j∧ah (I j)=true)∧True)∧ju∧(pj C L M R o)∧(pj C L M R o)∧True)∧Nx)) (((pk i)∧ju∧(pj C L M R o)∧(pj C L M R o)∧True)∧Q (AExit.exit 0) (bY 5 i (ae o M (AV.fsl false R) L C)).st)):=by kernel_rfl
@[simp] abbrev pm (C M N:AV) (R:List AV) (o:Ob):=((ae o M N (AV.fsl false R) C)=(ae o M N (AV.fsl false R) C)∧ac (ae o M N (AV.fsl false R) C)=true)
theorem F9 (o:Ob) (M N C:AV) (R:List AV) (x:Lk) (i j:Int) (Nx:Prop) (Q:AExit→St→Prop):aI Tryz.prog opts0 40 (kj 11 [I x.ty,.str x.id]) (aD Tryz.prog 9 10) (bY 6 i (ae o M N (.fsl false R) C)).st (bf 0 [(0,0),(1,1)] (bY 6 j (ae o M N (.fsl false R) C)) Nx [(0,0),(1,1)] (bY 6 i (ae o M N (.fsl false R) C)) Q)=
  (ab (aq i (Int.ofNat (aa R))) (aC Tryz.prog 33 (AV.fsl false R) (I i)=some (AV.fptr [I x.1,AV.str x.2] 0)∧aC Tryz.prog 33 (AV.fsl false R) (I i)=some (AV.fptr [I x.1,AV.str x.2] 0)∧ab (!(ak x.1 x.1&&(aA x.2 x.2&&true))) (((pk i)∧ju∧(pm C M N R o)∧(pm C M N R o)∧True)∧Q AExit.ret (bY 6 i (ae o M N (AV.fsl false R) C)).st) ((((I (ar IntKind.i64 (i+1))=I j∧ah (I j)=true)∧True)∧ju∧(pm C M N R o)∧(pm C M N R o)∧True)∧Nx)) (((pk i)∧ju∧(pm C M N R o)∧(pm C M N R o)∧True)∧Q (AExit.exit 2) (bY 6 i (ae o M N (AV.fsl false R) C)).st)):=by kernel_rfl
@[simp] abbrev pn (L M N:AV) (R:List AV) (o:Ob):=((ae o M N L (AV.fsl false R))=(ae o M N L (AV.fsl false R))∧ac (ae o M N L (AV.fsl false R))=true)
theorem Ga (o:Ob) (M N L:AV) (R:List AV) (x:Cu) (i j:Int) (Nx:Prop) (Q:AExit→St→Prop):aI Tryz.prog opts0 40 (kj 16 [.str x.name,.str x.text]) (aD Tryz.prog 9 15) (bY 7 i (ae o M N L (.fsl false R))).st (bf 0 [(0,0),(1,1)] (bY 7 j (ae o M N L (.fsl false R))) Nx [(0,0),(1,1)] (bY 7 i (ae o M N L (.fsl false R))) Q)=
  (ab (aq i (Int.ofNat (aa R))) (aC Tryz.prog 34 (AV.fsl false R) (I i)=some (AV.fptr [AV.str x.1,AV.str x.2] 0)∧aC Tryz.prog 34 (AV.fsl false R) (I i)=some (AV.fptr [AV.str x.1,AV.str x.2] 0)∧ab (!(aA x.1 x.1&&(aA x.2 x.2&&true))) (((pk i)∧ju∧(pn L M N R o)∧(pn L M N R o)∧True)∧Q AExit.ret (bY 7 i (ae o M N L (AV.fsl false R))).st) ((((I (ar IntKind.i64 (i+1))=I j∧ah (I j)=true)∧True)∧ju∧(pn L M N R o)∧(pn L M N R o)∧True)∧Nx)) (((pk i)∧ju∧(pn L M N R o)∧(pn L M N R o)∧True)∧Q (AExit.exit 4) (bY 7 i (ae o M N L (AV.fsl false R))).st)):=by kernel_rfl
def po (k:Nat) (e:Nat) (n:Int) (O:List AV):bq:=fun st Q=>ck 0 [(0,0),(1,1)] (bY k 0 O) st∧Q (.exit e) (bY k n O).st
abbrev pp (C L N:List AV) (m:List UInt8) (o:Ob):=(ae o (AV.fsl false (ai m)) (AV.fsl false N) (AV.fsl false L) (AV.fsl false C))
@[simp] abbrev zK (C L N:List AV) (m:List UInt8) (o:Ob):=(((I 0=I 0∧true=true)∧True)∧ju∧((pp C L N m o)=(pp C L N m o)∧ac (pp C L N m o)=true)∧((pp C L N m o)=(pp C L N m o)∧ac (pp C L N m o)=true)∧True)
abbrev rW (C L N:List AV) (m:List UInt8) (o:Ob):=(ae o (AV.fsl false (ai m)) (AV.fsl false N) (AV.fsl false L) (AV.fsl false C))
theorem RU (o:Ob) (m:List UInt8) (N L C:List AV) (n l c:Int) (Q:AV→Prop):ax Tryz.prog opts0 40 (ap [(1,36,.res (.str m)),(1,39,.res (.str m))] [(5,po 5 0 n (rW C L N m o)),(10,po 6 2 l (rW C L N m o)),(15,po 7 4 c (rW C L N m o))] aH [] []) 9 [.agg (rW C L N m o),.agg (rW C L N m o)] [] 0 (fun v _ _=>Q v)=
  (ab (!aA o.1 o.1) (Q (AV.bool false)) (ab (!ak o.2 o.2) (Q (AV.bool false)) (ab (!ak o.3 o.3) (Q (AV.bool false)) (ab (!ak o.4 o.4) (Q (AV.bool false)) (ab (!ak o.5 o.5) (Q (AV.bool false)) (cR Tryz.prog 23 9 (AV.fsl false (ai m))=some (Eff.val (AV.str m))∧cR Tryz.prog 23 9 (AV.fsl false (ai m))=some (Eff.val (AV.str m))∧ab (!aA m m) (Q (AV.bool false)) (ab (!ak o.7 o.7) (Q (AV.bool false)) (ab (!(decide (o.d0.has=o.d0.has)&&(ak o.d0.2 o.d0.2&&true)&&(decide (o.d1.has=o.d1.has)&&(ak o.d1.2 o.d1.2&&true)&&(decide (o.d2.has=o.d2.has)&&(ak o.d2.2 o.d2.2&&true)&&(decide (o.d3.has=o.d3.has)&&(ak o.d3.2 o.d3.2&&true)&&(decide (o.d4.has=o.d4.has)&&(ak o.d4.2 o.d4.2&&true)&&(decide (o.d5.has=o.d5.has)&&(ak o.d5.2 o.d5.2&&true)&&(decide (o.d6.has=o.d6.has)&&(ak o.d6.2 o.d6.2&&true)&&(decide (o.d7.has=o.d7.has)&&(ak o.d7.2 o.d7.2&&true)&&(decide (o.d8.has=o.d8.has)&&(ak o.d8.2 o.d8.2&&true)&&(decide (o.d9.has=o.d9.has)&&(ak o.d9.2 o.d9.2&&true)&&true))))))))))) (Q (AV.bool false)) (ab (!ak o.18 o.18) (Q (AV.bool false)) (ab (!aA o.19 o.19) (Q (AV.bool false)) (ab (!(decide (o.lh=o.lh)&&(ak o.24 o.24&&(ak o.25 o.25&&(ak o.26 o.26&&true))))) (Q (AV.bool false)) (ab (!decide (o.arch=o.arch)) (Q (AV.bool false)) (ab (!ak (Int.ofNat (aa N)) (Int.ofNat (aa N))) (Q (AV.bool false)) (ab (!ak (Int.ofNat (aa L)) (Int.ofNat (aa L))) (Q (AV.bool false)) (ab (!ak (Int.ofNat (aa C)) (Int.ofNat (aa C))) (Q (AV.bool false)) ((zK C L N m o)∧(zK C L N m o)∧(zK C L N m o)∧Q (AV.bool true))))))))))))))))):=by kernel_rfl
theorem RV {o:Ob} (hb:o.names.length≤1000) {Q:AExit→St→Prop} (hq:Q (.exit 0) (bY 5 (.ofNat o.names.length) (am o)).st):∀i,i≤o.names.length→ALp Tryz.prog opts0.glob 0 (aD Tryz.prog 9 5) (bY 5 (.ofNat i) (am o)).st Q:=by
 have hc:ac (ae o (bU o) (.fsl false (o.names.map .str)) (bW o) (bo o))=true:=bH o
 refine uu _ ?_ (fun i hi hn=> ?_)
 ·refine ALp.round (A:=kj 6 [.str []]) (V2:=bY 5 0 (ae o (bU o) (.fsl false (o.names.map .str)) (bW o) (bo o))) (F:=bY 5 (.ofNat o.names.length) (ae o (bU o) (.fsl false (o.names.map .str)) (bW o) (bo o))) (lk:=[(0,0),(1,1)]) (lk':=[(0,0),(1,1)]) base0 ao (LsOk.no rfl) .refl ?_
  show aI Tryz.prog opts0 40 _ _ (bY 5 (.ofNat o.names.length) (ae o (bU o) (.fsl false (o.names.map .str)) (bW o) (bo o))).st _
  rw[F8 (x:=[])]
  refine aj (fun e=> ?_) (fun _=>⟨⟨⟨⟨rfl,rfl⟩,trivial⟩,⟨⟨rfl,rfl⟩,⟨rfl,rfl⟩,trivial⟩,⟨rfl,hc⟩,⟨rfl,hc⟩,trivial⟩,hq⟩)
  have e:=ltInt_iff.1 e
  simp[aE] at e
 ·have g1:=List.getElem?_eq_getElem hi
  revert g1
  generalize o.names[i]=x
  intro g1
  have hx:aC Tryz.prog 32 (.fsl false (o.names.map .str)) (.int .i64 (.ofNat i))=some (.fptr [.str x] 0):=fN (v:= .str x) (e:=9) (sz:=1) (by kernel_rfl) (by kernel_rfl) (by rw[List.getElem?_map,g1];rfl) rfl
  have hw:ar .i64 (Int.ofNat i+1)=Int.ofNat (i+1):=eQ (by simp;omega) (by simp;omega)
  refine ALp.round (A:=kj 6 [.str x]) (V2:=bY 5 (.ofNat (i+1)) (ae o (bU o) (.fsl false (o.names.map .str)) (bW o) (bo o))) (F:=bY 5 (.ofNat i) (ae o (bU o) (.fsl false (o.names.map .str)) (bW o) (bo o))) (lk:=[(0,0),(1,1)]) (lk':=[(0,0),(1,1)]) base0 ao (LsOk.no rfl) .refl ?_
  show aI Tryz.prog opts0 40 _ _ (bY 5 (.ofNat i) (ae o (bU o) (.fsl false (o.names.map .str)) (bW o) (bo o))).st _
  rw[F8,hw]
  refine aj (fun _=>⟨hx,hx,aj (fun e=> ?_) (fun _=>⟨⟨⟨⟨rfl,rfl⟩,trivial⟩,⟨⟨rfl,rfl⟩,⟨rfl,rfl⟩,trivial⟩,⟨rfl,hc⟩,⟨rfl,hc⟩,trivial⟩,hn⟩)⟩) (fun e=> ?_)
  ·have h0:aA x x=true:=beqBytes_iff.2 rfl
   rw[h0] at e
   cases e
  ·have e:=ltInt_false.1 e
   simp only[aE,List.length_map,Int.ofNat_eq_natCast] at e
   omega
theorem RW {o:Ob} (hb:o.links.length≤1000) {Q:AExit→St→Prop} (hq:Q (.exit 2) (bY 6 (.ofNat o.links.length) (am o)).st):∀i,i≤o.links.length→ALp Tryz.prog opts0.glob 0 (aD Tryz.prog 9 10) (bY 6 (.ofNat i) (am o)).st Q:=by
 have hc:ac (ae o (bU o) (bV o) (.fsl false (o.links.map bi)) (bo o))=true:=bH o
 refine uu _ ?_ (fun i hi hn=> ?_)
 ·refine ALp.round (A:=kj 11 [I (⟨0,[]⟩:Lk).ty,.str (⟨0,[]⟩:Lk).id]) (V2:=bY 6 0 (ae o (bU o) (bV o) (.fsl false (o.links.map bi)) (bo o))) (F:=bY 6 (.ofNat o.links.length) (ae o (bU o) (bV o) (.fsl false (o.links.map bi)) (bo o))) (lk:=[(0,0),(1,1)]) (lk':=[(0,0),(1,1)]) base0 ao (LsOk.no rfl) .refl ?_
  show aI Tryz.prog opts0 40 _ _ (bY 6 (.ofNat o.links.length) (ae o (bU o) (bV o) (.fsl false (o.links.map bi)) (bo o))).st _
  rw[F9 (x:=⟨0,[]⟩)]
  refine aj (fun e=> ?_) (fun _=>⟨⟨⟨⟨rfl,rfl⟩,trivial⟩,⟨⟨rfl,rfl⟩,⟨rfl,rfl⟩,trivial⟩,⟨rfl,hc⟩,⟨rfl,hc⟩,trivial⟩,hq⟩)
  have e:=ltInt_iff.1 e
  simp[aE] at e
 ·have g1:=List.getElem?_eq_getElem hi
  revert g1
  generalize o.links[i]=x
  intro g1
  have hx:aC Tryz.prog 33 (.fsl false (o.links.map bi)) (.int .i64 (.ofNat i))=some (.fptr [I x.ty,.str x.id] 0):=fN (v:=bi x) (e:=81) (sz:=2) (by kernel_rfl) (by kernel_rfl) (by rw[List.getElem?_map,g1];rfl) rfl
  have hw:ar .i64 (Int.ofNat i+1)=Int.ofNat (i+1):=eQ (by simp;omega) (by simp;omega)
  refine ALp.round (A:=kj 11 [I x.ty,.str x.id]) (V2:=bY 6 (.ofNat (i+1)) (ae o (bU o) (bV o) (.fsl false (o.links.map bi)) (bo o))) (F:=bY 6 (.ofNat i) (ae o (bU o) (bV o) (.fsl false (o.links.map bi)) (bo o))) (lk:=[(0,0),(1,1)]) (lk':=[(0,0),(1,1)]) base0 ao (LsOk.no rfl) .refl ?_
  show aI Tryz.prog opts0 40 _ _ (bY 6 (.ofNat i) (ae o (bU o) (bV o) (.fsl false (o.links.map bi)) (bo o))).st _
  rw[F9,hw]
  refine aj (fun _=>⟨hx,hx,aj (fun e=> ?_) (fun _=>⟨⟨⟨⟨rfl,rfl⟩,trivial⟩,⟨⟨rfl,rfl⟩,⟨rfl,rfl⟩,trivial⟩,⟨rfl,hc⟩,⟨rfl,hc⟩,trivial⟩,hn⟩)⟩) (fun e=> ?_)
  ·have h0:(ak x.ty x.ty&&(aA x.id x.id&&true))=true:=by simp[beqInt_iff,beqBytes_iff]
   rw[h0] at e
   cases e
  ·have e:=ltInt_false.1 e
   simp only[aE,List.length_map,Int.ofNat_eq_natCast] at e
   omega
theorem RX {o:Ob} (hb:o.cust.length≤1000) {Q:AExit→St→Prop} (hq:Q (.exit 4) (bY 7 (.ofNat o.cust.length) (am o)).st):∀i,i≤o.cust.length→ALp Tryz.prog opts0.glob 0 (aD Tryz.prog 9 15) (bY 7 (.ofNat i) (am o)).st Q:=by
 have hc:ac (ae o (bU o) (bV o) (bW o) (.fsl false (o.cust.map aQ)))=true:=bH o
 refine uu _ ?_ (fun i hi hn=> ?_)
 ·refine ALp.round (A:=kj 16 [.str (⟨[],[]⟩:Cu).name,.str (⟨[],[]⟩:Cu).text]) (V2:=bY 7 0 (ae o (bU o) (bV o) (bW o) (.fsl false (o.cust.map aQ)))) (F:=bY 7 (.ofNat o.cust.length) (ae o (bU o) (bV o) (bW o) (.fsl false (o.cust.map aQ)))) (lk:=[(0,0),(1,1)]) (lk':=[(0,0),(1,1)]) base0 ao (LsOk.no rfl) .refl ?_
  show aI Tryz.prog opts0 40 _ _ (bY 7 (.ofNat o.cust.length) (ae o (bU o) (bV o) (bW o) (.fsl false (o.cust.map aQ)))).st _
  rw[Ga (x:=⟨[],[]⟩)]
  refine aj (fun e=> ?_) (fun _=>⟨⟨⟨⟨rfl,rfl⟩,trivial⟩,⟨⟨rfl,rfl⟩,⟨rfl,rfl⟩,trivial⟩,⟨rfl,hc⟩,⟨rfl,hc⟩,trivial⟩,hq⟩)
  have e:=ltInt_iff.1 e
  simp[aE] at e
 ·have g1:=List.getElem?_eq_getElem hi
  revert g1
  generalize o.cust[i]=x
  intro g1
  have hx:aC Tryz.prog 34 (.fsl false (o.cust.map aQ)) (.int .i64 (.ofNat i))=some (.fptr [.str x.name,.str x.text] 0):=fN (v:=aQ x) (e:=83) (sz:=2) (by kernel_rfl) (by kernel_rfl) (by rw[List.getElem?_map,g1];rfl) rfl
  have hw:ar .i64 (Int.ofNat i+1)=Int.ofNat (i+1):=eQ (by simp;omega) (by simp;omega)
  refine ALp.round (A:=kj 16 [.str x.name,.str x.text]) (V2:=bY 7 (.ofNat (i+1)) (ae o (bU o) (bV o) (bW o) (.fsl false (o.cust.map aQ)))) (F:=bY 7 (.ofNat i) (ae o (bU o) (bV o) (bW o) (.fsl false (o.cust.map aQ)))) (lk:=[(0,0),(1,1)]) (lk':=[(0,0),(1,1)]) base0 ao (LsOk.no rfl) .refl ?_
  show aI Tryz.prog opts0 40 _ _ (bY 7 (.ofNat i) (ae o (bU o) (bV o) (bW o) (.fsl false (o.cust.map aQ)))).st _
  rw[Ga,hw]
  refine aj (fun _=>⟨hx,hx,aj (fun e=> ?_) (fun _=>⟨⟨⟨⟨rfl,rfl⟩,trivial⟩,⟨⟨rfl,rfl⟩,⟨rfl,rfl⟩,trivial⟩,⟨rfl,hc⟩,⟨rfl,hc⟩,trivial⟩,hn⟩)⟩) (fun e=> ?_)
  ·have h0:(aA x.name x.name&&(aA x.text x.text&&true))=true:=by simp[beqBytes_iff]
   rw[h0] at e
   cases e
  ·have e:=ltInt_false.1 e
   simp only[aE,List.length_map,Int.ofNat_eq_natCast] at e
   omega
theorem RY:bu (cy Tryz.prog 9) 5=[aD Tryz.prog 9 5]:=by kernel_rfl
theorem RZ:bu (cy Tryz.prog 9) 10=[aD Tryz.prog 9 10]:=by kernel_rfl
theorem R0:bu (cy Tryz.prog 9) 15=[aD Tryz.prog 9 15]:=by kernel_rfl
theorem Gb {b:Bool} (h:b=true) {p:Prop} (e:(!b)=true):p:=by rw[h] at e;cases e
theorem va {o:Ob} (ho:dO o):SC 9 [az o,az o] (.bool true):=by
 have hc:ac (ae o (.fsl false (ai o.mat)) (.fsl false (o.names.map .str)) (.fsl false (o.links.map bi)) (.fsl false (o.cust.map aQ)))=true:=bH o
 have hcl:=dj o (c:=[az o]) (ig o)
 have hv:cR Tryz.prog 23 9 (.fsl false (ai o.mat))=some (Eff.val (.str o.mat)):=y4 (e:=5) (by kernel_rfl) (by kernel_rfl) (by kernel_rfl)
 have h1:=ho.n
 have h2:=ho.l
 have h3:=ho.c
 refine bN (A:=ap [(1,36,.res (.str o.mat)),(1,39,.res (.str o.mat))] [(5,po 5 0 (.ofNat o.names.length) (ae o (.fsl false (ai o.mat)) (.fsl false (o.names.map .str)) (.fsl false (o.links.map bi)) (.fsl false (o.cust.map aQ)))),(10,po 6 2 (.ofNat o.links.length) (ae o (.fsl false (ai o.mat)) (.fsl false (o.names.map .str)) (.fsl false (o.links.map bi)) (.fsl false (o.cust.map aQ)))),(15,po 7 4 (.ofNat o.cust.length) (ae o (.fsl false (ai o.mat)) (.fsl false (o.names.map .str)) (.fsl false (o.links.map bi)) (.fsl false (o.cust.map aQ))))] aH [] []) base0 ao
  (aw (LsOk.at3 rfl RY RZ R0 (fun st Q hs=> .seen base0.glob hs.1 (RV (by omega) hs.2 0 (Nat.zero_le _))) (fun st Q hs=> .seen base0.glob hs.1 (RW (by omega) hs.2 0 (Nat.zero_le _))) (fun st Q hs=> .seen base0.glob hs.1 (RX (by omega) hs.2 0 (Nat.zero_le _))))) hcl rfl ?_
 simp only[az,am,bU,bV,bW,bo]
 rw[RU]
 repeat (refine aj (fun e=>Gb (by simp[beqInt_iff,beqBytes_iff]) e) (fun _=> ?_))
 refine ⟨hv,hv, ?_⟩
 repeat (refine aj (fun e=>Gb (by simp[beqInt_iff,beqBytes_iff]) e) (fun _=> ?_))
 exact ⟨⟨⟨⟨rfl,rfl⟩,trivial⟩,⟨⟨rfl,rfl⟩,⟨rfl,rfl⟩,trivial⟩,⟨rfl,hc⟩,⟨rfl,hc⟩,trivial⟩,⟨⟨⟨rfl,rfl⟩,trivial⟩,⟨⟨rfl,rfl⟩,⟨rfl,rfl⟩,trivial⟩,⟨rfl,hc⟩,⟨rfl,hc⟩,trivial⟩,⟨⟨⟨rfl,rfl⟩,trivial⟩,⟨⟨rfl,rfl⟩,⟨rfl,rfl⟩,trivial⟩,⟨rfl,hc⟩,⟨rfl,hc⟩,trivial⟩,rfl⟩
end
end Go.Proofs.YtmnlofhodbnenaaGreatDoor
namespace Go.Proofs.YtmnlofhodbnenaaGreatDoor
open Go Go.RowKit
open Go.Proofs.Abs
noncomputable section
def vb:Nat→List UInt8
 |1=>[65,77]
 |2=>[65,77,68]
 |3=>[65,77,68]
 |4=>[65,77]
 |_=>[]
def R4:Kd→List UInt8
 | .nam| .lnk| .lim| .cus _=>[65,77,68]
 | .mask=>[77]
 | .dat k=>vb k
 |_=>[]
def vc:Nat→List UInt8
 |1=>[112]
 |2=>[112]
 |3=>[112,97]
 |4=>[112,97]
 |_=>[]
def R5:Kd→List UInt8
 | .mask=>[112]
 | .dat k=>vc k
 |_=>[]
def zM:Kd→Int
 | .dat k=> .ofNat k
 |_=> -1
def bx (k:Kd):List AV:=[.str (aJ k),I (gi k),.bool (ce k),.bool (dg k),.str (R4 k),.str (R5 k),I (zM k)]
def aN (k:Kd):AV:= .agg (bx k)
def zN:AV:= .agg [.str [],I 0,.bool false,.bool false,.str [],.str [],I 0]
abbrev Gc:=[AV.str [67,114,121,112,116,111,103,114,97,112,104,105,99,32,85,115,97,103,101,32,77,97,115,107],I 2,AV.bool false,AV.bool true,AV.str [77],AV.str [112],I (Int.negSucc 0)]
abbrev Gd:=[AV.str [67,114,121,112,116,111,103,114,97,112,104,105,99,32,65,108,103,111,114,105,116,104,109],I 5,AV.bool false,AV.bool true,AV.str [],AV.str [],I (Int.negSucc 0)]
abbrev Gf:=[AV.str [67,111,109,112,114,111,109,105,115,101,32,79,99,99,117,114,114,101,110,99,101,32,68,97,116,101],I 9,AV.bool false,AV.bool false,AV.str [],AV.str [],I 6]
abbrev Gg:=[AV.str [67,114,121,112,116,111,103,114,97,112,104,105,99,32,76,101,110,103,116,104],I 2,AV.bool false,AV.bool true,AV.str [],AV.str [],I (Int.negSucc 0)]
abbrev Gh:=[AV.str [85,110,105,113,117,101,32,73,100,101,110,116,105,102,105,101,114],I 7,AV.bool false,AV.bool false,AV.str [],AV.str [],I (Int.negSucc 0)]
abbrev Gi:=[AV.str [80,114,111,99,101,115,115,32,83,116,97,114,116,32,68,97,116,101],I 9,AV.bool false,AV.bool true,AV.str [65,77,68],AV.str [112],I 2]
abbrev Gj:=[AV.str [80,114,111,116,101,99,116,32,83,116,111,112,32,68,97,116,101],I 9,AV.bool false,AV.bool true,AV.str [65,77,68],AV.str [112,97],I 3]
abbrev Gk:=[AV.str [82,101,118,111,99,97,116,105,111,110,32,82,101,97,115,111,110],I 1,AV.bool false,AV.bool false,AV.str [],AV.str [],I (Int.negSucc 0)]
abbrev Gl:=[AV.str [68,101,97,99,116,105,118,97,116,105,111,110,32,68,97,116,101],I 9,AV.bool false,AV.bool true,AV.str [65,77],AV.str [112,97],I 4]
abbrev Gm:=[AV.str [85,115,97,103,101,32,76,105,109,105,116,115],I 1,AV.bool false,AV.bool true,AV.str [65,77,68],AV.str [],I (Int.negSucc 0)]
abbrev Gn:=[AV.str [65,99,116,105,118,97,116,105,111,110,32,68,97,116,101],I 9,AV.bool false,AV.bool true,AV.str [65,77],AV.str [112],I 1]
abbrev Gp:=[AV.str [76,97,115,116,32,67,104,97,110,103,101,32,68,97,116,101],I 9,AV.bool false,AV.bool false,AV.str [],AV.str [],I 9]
abbrev Gq:=[AV.str [67,111,109,112,114,111,109,105,115,101,32,68,97,116,101],I 9,AV.bool false,AV.bool false,AV.str [],AV.str [],I 7]
abbrev Gr:=[AV.str [79,98,106,101,99,116,32,84,121,112,101],I 5,AV.bool false,AV.bool false,AV.str [],AV.str [],I (Int.negSucc 0)]
abbrev Gs:=[AV.str [68,101,115,116,114,111,121,32,68,97,116,101],I 9,AV.bool false,AV.bool false,AV.str [],AV.str [],I 5]
abbrev Gt:=[AV.str [73,110,105,116,105,97,108,32,68,97,116,101],I 9,AV.bool false,AV.bool false,AV.str [],AV.str [],I 0]
abbrev Gu:=[AV.str [65,114,99,104,105,118,101,32,68,97,116,101],I 9,AV.bool false,AV.bool false,AV.str [],AV.str [],I 8]
abbrev Gv:=[AV.str [76,105,110,107],I 1,AV.bool true,AV.bool true,AV.str [65,77,68],AV.str [],I (Int.negSucc 0)]
abbrev Gw:=[AV.str [78,97,109,101],I 7,AV.bool true,AV.bool true,AV.str [65,77,68],AV.str [],I (Int.negSucc 0)]
abbrev Gx:=[AV.str [83,116,97,116,101],I 5,AV.bool false,AV.bool false,AV.str [],AV.str [],I (Int.negSucc 0)]
abbrev Gy:=(AV.fsl true [AV.agg Gh,AV.agg Gw,AV.agg Gr,AV.agg Gd,AV.agg Gg,AV.agg Gc,AV.agg Gx,AV.agg Gt,AV.agg Gn,AV.agg Gi,AV.agg Gj,AV.agg Gl,AV.agg Gs,AV.agg Gf,AV.agg Gq,AV.agg Gu,AV.agg Gp,AV.agg Gk,AV.agg Gv,AV.agg Gm])
theorem R6 (Q:AV→Prop):ax Tryz.prog opts0 40 bm 62 [] [] 0 (fun v _ _=>Q v)=
  (Q Gy):=by kernel_rfl
theorem rX:SC 62 [] (.fsl true (kinds.map aN)):=by
 refine bh (A:=bm) base0 cD (aw (LsOk.no rfl)) rfl ?_
 rw[R6]
 exact rz rfl (by kernel_rfl)
def Gz (c:Bool):aX:=ap [] [] (bg [(63,.bool c),(62,.fsl true (kinds.map aN))]) [] []
theorem R7 (c:Bool) (s:List UInt8) (Q:AV→Prop):ax Tryz.prog opts0 40 (Gz c) 39 [.str s] [] 0 (fun v _ _=>Q v)=
  (SC 62 [] Gy∧ab (aA [85,110,105,113,117,101,32,73,100,101,110,116,105,102,105,101,114] s) (Q (AV.tuple [AV.agg Gh,AV.bool true])) (ab (aA [78,97,109,101] s) (Q (AV.tuple [AV.agg Gw,AV.bool true])) (ab (aA [79,98,106,101,99,116,32,84,121,112,101] s) (Q (AV.tuple [AV.agg Gr,AV.bool true])) (ab (aA [67,114,121,112,116,111,103,114,97,112,104,105,99,32,65,108,103,111,114,105,116,104,109] s) (Q (AV.tuple [AV.agg Gd,AV.bool true])) (ab (aA [67,114,121,112,116,111,103,114,97,112,104,105,99,32,76,101,110,103,116,104] s) (Q (AV.tuple [AV.agg Gg,AV.bool true])) (ab (aA [67,114,121,112,116,111,103,114,97,112,104,105,99,32,85,115,97,103,101,32,77,97,115,107] s) (Q (AV.tuple [AV.agg Gc,AV.bool true])) (ab (aA [83,116,97,116,101] s) (Q (AV.tuple [AV.agg Gx,AV.bool true])) (ab (aA [73,110,105,116,105,97,108,32,68,97,116,101] s) (Q (AV.tuple [AV.agg Gt,AV.bool true])) (ab (aA [65,99,116,105,118,97,116,105,111,110,32,68,97,116,101] s) (Q (AV.tuple [AV.agg Gn,AV.bool true])) (ab (aA [80,114,111,99,101,115,115,32,83,116,97,114,116,32,68,97,116,101] s) (Q (AV.tuple [AV.agg Gi,AV.bool true])) (ab (aA [80,114,111,116,101,99,116,32,83,116,111,112,32,68,97,116,101] s) (Q (AV.tuple [AV.agg Gj,AV.bool true])) (ab (aA [68,101,97,99,116,105,118,97,116,105,111,110,32,68,97,116,101] s) (Q (AV.tuple [AV.agg Gl,AV.bool true])) (ab (aA [68,101,115,116,114,111,121,32,68,97,116,101] s) (Q (AV.tuple [AV.agg Gs,AV.bool true])) (ab (aA [67,111,109,112,114,111,109,105,115,101,32,79,99,99,117,114,114,101,110,99,101,32,68,97,116,101] s) (Q (AV.tuple [AV.agg Gf,AV.bool true])) (ab (aA [67,111,109,112,114,111,109,105,115,101,32,68,97,116,101] s) (Q (AV.tuple [AV.agg Gq,AV.bool true])) (ab (aA [65,114,99,104,105,118,101,32,68,97,116,101] s) (Q (AV.tuple [AV.agg Gu,AV.bool true])) (ab (aA [76,97,115,116,32,67,104,97,110,103,101,32,68,97,116,101] s) (Q (AV.tuple [AV.agg Gp,AV.bool true])) (ab (aA [82,101,118,111,99,97,116,105,111,110,32,82,101,97,115,111,110] s) (Q (AV.tuple [AV.agg Gk,AV.bool true])) (ab (aA [76,105,110,107] s) (Q (AV.tuple [AV.agg Gv,AV.bool true])) (ab (aA [85,115,97,103,101,32,76,105,109,105,116,115] s) (Q (AV.tuple [AV.agg Gm,AV.bool true])) (SC 63 [AV.str s] (AV.bool c)∧ab c (Q (AV.tuple [AV.agg [AV.str s,I 7,AV.bool true,AV.bool true,AV.str [65,77,68],AV.str [],I (Int.negSucc 0)],AV.bool true])) (Q (AV.tuple [AV.agg [AV.str [],I 0,AV.bool false,AV.bool false,AV.str [],AV.str [],I 0],AV.bool false]))))))))))))))))))))))):=by kernel_rfl
end
noncomputable section
def aZ (s:List (Nat × AV)) (k:Nat) (O es:List AV):View:=⟨s,[(1,.ptr 0 0),(3,.ptr 1 0)],[(0,.cells O,.whole),(1,.cells [.rsl true 2 0 k 7],.each),(2,.cells es,.whole)],3,221⟩
def lI:List Nat:=[225,226]
def lJ:List Nat:=[224]
def zP (x:List UInt8):aX:=ap [(6,5,.res (.fptr [.str x] 0))] [] aH lI lJ
@[simp] abbrev dC:=((some 0=some 0∧0=0)∧(some 1=some 1∧0=0)∧True)
@[simp] abbrev lK (k:Nat):=((true=true∧some 2=some 2∧0=0∧k=k∧7=7)∧True)
abbrev rY (i:Int) (x:List UInt8):=[AV.agg [AV.str [78,97,109,101],I i,I 4325387,I 7,I 0,AV.fsl false (ai x),AV.nilsl]]
@[simp] abbrev lL (i:Int):=(I i=I i∧ah (I i)=true)
@[simp] abbrev lM (es:List AV):=(es=es∧ac es=true)
theorem GA (x:List UInt8) (k k':Nat) (i j:Int) (Ns O es es':List AV) (o:Ob) (M L C:AV) (Nx:Prop) (Q:AExit→St→Prop):aI Tryz.prog opts0 40 (zP x) (aD Tryz.prog 133 5) (aZ [(4,I i)] k (ae o M (.fsl false Ns) L C) es).st (bf 0 [(0,0),(1,1),(2,34)] (aZ [(4,I j)] k' O es') Nx [(0,0),(1,1),(2,2)] (aZ [(4,I i)] k (ae o M (.fsl false Ns) L C) es) Q)=
  (ab (aq i (Int.ofNat (aa Ns))) (aC Tryz.prog 32 (AV.fsl false Ns) (I i)=some (AV.fptr [AV.str x] 0)∧au (a8 7 (rY i x)&&(((k+aa (rY i x))*96).ble 140737488355328&&(bc (flat (rY i x))&&true))) (au ((aa es).beq (k*7)) ((((I (ar IntKind.i64 (i+1))=I j∧ah (I j)=true)∧True)∧dC∧((ae o M (AV.fsl false Ns) L C)=O∧ac O=true)∧((true=true∧some 34=some 34∧0=0∧k'=k+aa (rY i x)∧7=7)∧True)∧(es++flat (rY i x)=es'∧ac es'=true)∧True)∧Nx))) ((((lL i)∧True)∧dC∧((ae o M (AV.fsl false Ns) L C)=(ae o M (AV.fsl false Ns) L C)∧ac (ae o M (AV.fsl false Ns) L C)=true)∧(lK k)∧(lM es)∧True)∧Q (AExit.exit 0) (aZ [(4,I i)] k (ae o M (AV.fsl false Ns) L C) es).st)):=by kernel_rfl
def rZ (nm ch st:List UInt8) (se:Bool) (d:Int):List AV:=[.str nm,I 9,.bool false,.bool se,.str ch,.str st,I d]
def zQ (c:List AV) (b:Bool):aX:=ap [(18,2,.res (.fptr c 0)),(18,9,.res (.fptr c 0)),(18,15,.ld (.bool b)),(19,3,.res (.fptr c 0)),(19,8,.res (.fptr c 0))] [] aH lI lJ
def ve (c:List AV) (off:Nat) (b:Bool) (t:Int):aX:=ap [(18,2,.res (.fptr c 0)),(18,9,.res (.fptr c 0)),(18,13,.res (.ptr 0 off)),(18,15,.ld (.bool b)),(19,3,.res (.fptr c 0)),(19,8,.res (.fptr c 0)),(19,12,.res (.ptr 0 off)),(19,14,.ld (.int .i64 t))] [] aH lI lJ
@[simp] abbrev lN (T:List AV):=(AV.fsl true T=AV.fsl true T∧ah (AV.fsl true T)=true)
@[simp] abbrev zR (C L M N:AV) (Q:AExit→St→Prop) (T es:List AV) (i:Int) (k:Nat) (o:Ob):=((((lN T)∧(lL i)∧True)∧dC∧((ae o M N L C)=(ae o M N L C)∧ac (ae o M N L C)=true)∧(lK k)∧(lM es)∧True)∧Q (AExit.exit 2) (aZ [(5,AV.fsl true T),(6,I i)] k (ae o M N L C) es).st)
abbrev pq (ch nm st:List UInt8) (d:Nat) (se:Bool):=(AV.fptr [AV.str nm,I 9,AV.bool false,AV.bool se,AV.str ch,AV.str st,I (Int.ofNat d)] 0)
abbrev r5 (nm:List UInt8) (t:Int):=[AV.agg [AV.str nm,I 0,I 4325387,I 9,I t,AV.nilsl,AV.nilsl]]
abbrev pt (C L M N:AV) (T es:List AV) (i:Int) (k:Nat) (o:Ob):=(aZ [(5,AV.fsl true T),(6,I i)] k (ae o M N L C) es)
theorem R8 (nm ch st:List UInt8) (se:Bool) (d off:Nat) (t:Int) (k k':Nat) (i j:Int) (T O es es':List AV) (o:Ob) (M N L C:AV) (Nx:Prop) (Q:AExit→St→Prop):aI Tryz.prog opts0 40 (ve (rZ nm ch st se (.ofNat d)) off true t) (aD Tryz.prog 133 17) (pt C L M N T es i k o).st (bf 0 [(0,0),(1,1),(2,58)] (aZ [(5,.fsl true T),(6,I j)] k' O es') Nx [(0,0),(1,1),(2,2)] (pt C L M N T es i k o) Q)=
  (ab (aq i (Int.ofNat (aa T))) (aC Tryz.prog 150 (AV.fsl true T) (I i)=some (pq ch nm st d se)∧aC Tryz.prog 150 (AV.fsl true T) (I i)=some (pq ch nm st d se)∧aC Tryz.prog 31 (AV.ptr 0 7) (I (Int.ofNat d))=some (AV.ptr 0 off)∧b8 Tryz.prog 4 (ae o M N L C) (off+0)=some (AV.bool true)∧aC Tryz.prog 150 (AV.fsl true T) (I i)=some (pq ch nm st d se)∧aC Tryz.prog 150 (AV.fsl true T) (I i)=some (pq ch nm st d se)∧aC Tryz.prog 31 (AV.ptr 0 7) (I (Int.ofNat d))=some (AV.ptr 0 off)∧b8 Tryz.prog 2 (ae o M N L C) (off+1)=some (I t)∧au (a8 7 (r5 nm t)&&(((k+aa (r5 nm t))*96).ble 140737488355328&&(bc (flat (r5 nm t))&&true))) (au ((aa es).beq (k*7)) ((((lN T)∧(I (ar IntKind.i64 (i+1))=I j∧ah (I j)=true)∧True)∧dC∧((ae o M N L C)=O∧ac O=true)∧((true=true∧some 58=some 58∧0=0∧k'=k+aa (r5 nm t)∧7=7)∧True)∧(es++flat (r5 nm t)=es'∧ac es'=true)∧True)∧Nx))) (zR C L M N Q T es i k o)):=by kernel_rfl
theorem R9 (nm ch st:List UInt8) (se:Bool) (d off:Nat) (t:Int) (k k':Nat) (i j:Int) (T O es es':List AV) (o:Ob) (M N L C:AV) (Nx:Prop) (Q:AExit→St→Prop):aI Tryz.prog opts0 40 (ve (rZ nm ch st se (.ofNat d)) off false t) (aD Tryz.prog 133 17) (pt C L M N T es i k o).st (bf 0 [(0,0),(1,1),(2,2)] (aZ [(5,.fsl true T),(6,I j)] k' O es') Nx [(0,0),(1,1),(2,2)] (pt C L M N T es i k o) Q)=
  (ab (aq i (Int.ofNat (aa T))) (aC Tryz.prog 150 (AV.fsl true T) (I i)=some (pq ch nm st d se)∧aC Tryz.prog 150 (AV.fsl true T) (I i)=some (pq ch nm st d se)∧aC Tryz.prog 31 (AV.ptr 0 7) (I (Int.ofNat d))=some (AV.ptr 0 off)∧b8 Tryz.prog 4 (ae o M N L C) (off+0)=some (AV.bool false)∧(((lN T)∧(I (ar IntKind.i64 (i+1))=I j∧ah (I j)=true)∧True)∧dC∧((ae o M N L C)=O∧ac O=true)∧((true=true∧some 2=some 2∧0=0∧k'=k∧7=7)∧True)∧(es=es'∧ac es'=true)∧True)∧Nx) (zR C L M N Q T es i k o)):=by kernel_rfl
theorem GB (nm ch st:List UInt8) (ty:Int) (ma se:Bool) (k k':Nat) (i j:Int) (T O es es':List AV) (o:Ob) (M N L C:AV) (Nx:Prop) (Q:AExit→St→Prop):aI Tryz.prog opts0 40 (zQ [.str nm,I ty,.bool ma,.bool se,.str ch,.str st,I (-1)] false) (aD Tryz.prog 133 17) (pt C L M N T es i k o).st (bf 0 [(0,0),(1,1),(2,2)] (aZ [(5,.fsl true T),(6,I j)] k' O es') Nx [(0,0),(1,1),(2,2)] (pt C L M N T es i k o) Q)=
  (ab (aq i (Int.ofNat (aa T))) (aC Tryz.prog 150 (AV.fsl true T) (I i)=some (AV.fptr [AV.str nm,I ty,AV.bool ma,AV.bool se,AV.str ch,AV.str st,I (Int.negSucc 0)] 0)∧(((lN T)∧(I (ar IntKind.i64 (i+1))=I j∧ah (I j)=true)∧True)∧dC∧((ae o M N L C)=O∧ac O=true)∧((true=true∧some 2=some 2∧0=0∧k'=k∧7=7)∧True)∧(es=es'∧ac es'=true)∧True)∧Nx) (zR C L M N Q T es i k o)):=by kernel_rfl
def zS (ty:Int) (id:List UInt8):aX:=ap [(28,5,.res (.fptr [I ty,.str id] 0)),(28,12,.res (.fptr [I ty,.str id] 0))] [] aH lI lJ
abbrev r6 (i ty:Int) (id:List UInt8):=[AV.agg [AV.str [76,105,110,107],I i,I 4325387,I 1,I 0,AV.nilsl,AV.fsl true [AV.agg [I 4325451,I 5,I ty,AV.nilsl,AV.nilsl],AV.agg [I 4325452,I 7,I 0,AV.fsl false (ai id),AV.nilsl]]]]
theorem GC (ty:Int) (id:List UInt8) (k k':Nat) (i j:Int) (Ls O es es':List AV) (o:Ob) (M N C:AV) (Nx:Prop) (Q:AExit→St→Prop):aI Tryz.prog opts0 40 (zS ty id) (aD Tryz.prog 133 27) (aZ [(8,I i)] k (ae o M N (.fsl false Ls) C) es).st (bf 0 [(0,0),(1,1),(2,50)] (aZ [(8,I j)] k' O es') Nx [(0,0),(1,1),(2,2)] (aZ [(8,I i)] k (ae o M N (.fsl false Ls) C) es) Q)=
  (ab (aq i (Int.ofNat (aa Ls))) (aC Tryz.prog 33 (AV.fsl false Ls) (I i)=some (AV.fptr [I ty,AV.str id] 0)∧aC Tryz.prog 33 (AV.fsl false Ls) (I i)=some (AV.fptr [I ty,AV.str id] 0)∧au (a8 7 (r6 i ty id)&&(((k+aa (r6 i ty id))*96).ble 140737488355328&&(bc (flat (r6 i ty id))&&true))) (au ((aa es).beq (k*7)) ((((I (ar IntKind.i64 (i+1))=I j∧ah (I j)=true)∧True)∧dC∧((ae o M N (AV.fsl false Ls) C)=O∧ac O=true)∧((true=true∧some 50=some 50∧0=0∧k'=k+aa (r6 i ty id)∧7=7)∧True)∧(es++flat (r6 i ty id)=es'∧ac es'=true)∧True)∧Nx))) ((((lL i)∧True)∧dC∧((ae o M N (AV.fsl false Ls) C)=(ae o M N (AV.fsl false Ls) C)∧ac (ae o M N (AV.fsl false Ls) C)=true)∧(lK k)∧(lM es)∧True)∧Q (AExit.exit 4) (aZ [(8,I i)] k (ae o M N (AV.fsl false Ls) C) es).st)):=by kernel_rfl
def vf (n t n' t':List UInt8):aX:=ap [(38,3,.res (.fptr [.str n,.str t] 0)),(38,9,.res (.fptr [.str n',.str t'] 0))] [] aH lI lJ
@[simp] abbrev zT (Cs:List AV) (L M N:AV) (o:Ob):=((ae o M N L (AV.fsl false Cs))=(ae o M N L (AV.fsl false Cs))∧ac (ae o M N L (AV.fsl false Cs))=true)
theorem zU (n t n' t':List UInt8) (c c':Int) (k:Nat) (i j j':Int) (Cs O es:List AV) (o:Ob) (M N L:AV) (Nx:Prop) (Q:AExit→St→Prop):aI Tryz.prog opts0 40 (vf n t n' t') (aD Tryz.prog 133 37) (aZ [(9,I i),(10,I c),(11,I j)] k (ae o M N L (.fsl false Cs)) es).st (bf 0 [(0,0),(1,1),(2,2)] (aZ [(9,I i),(10,I c'),(11,I j')] k O es) Nx [(0,0),(1,1),(2,2)] (aZ [(9,I i),(10,I c),(11,I j)] k (ae o M N L (.fsl false Cs)) es) Q)=
  (ab (aq j i) (aC Tryz.prog 34 (AV.fsl false Cs) (I j)=some (AV.fptr [AV.str n,AV.str t] 0)∧aC Tryz.prog 34 (AV.fsl false Cs) (I i)=some (AV.fptr [AV.str n',AV.str t'] 0)∧ab (aA n n') ((((lL i)∧(I (ar IntKind.i64 (c+1))=I c'∧ah (I c')=true)∧(I (ar IntKind.i64 (j+1))=I j'∧ah (I j')=true)∧True)∧dC∧((ae o M N L (AV.fsl false Cs))=O∧ac O=true)∧(lK k)∧(lM es)∧True)∧Nx) ((((lL i)∧(I c=I c'∧ah (I c')=true)∧(I (ar IntKind.i64 (j+1))=I j'∧ah (I j')=true)∧True)∧dC∧((ae o M N L (AV.fsl false Cs))=O∧ac O=true)∧(lK k)∧(lM es)∧True)∧Nx)) ((((lL i)∧(I c=I c∧ah (I c)=true)∧(I j=I j∧ah (I j)=true)∧True)∧dC∧(zT Cs L M N o)∧(lK k)∧(lM es)∧True)∧Q (AExit.exit 8) (aZ [(9,I i),(10,I c),(11,I j)] k (ae o M N L (AV.fsl false Cs)) es).st)):=by kernel_rfl
def Sa (p:Prop) (i c:Int) (k:Nat) (O es:List AV):bq:=fun st Q=>p∧ck 0 [(0,0),(1,1),(2,2)] (aZ [(9,I i),(10,I 0),(11,I 0)] k O es) st∧Q (.exit 8) (aZ [(9,I i),(10,I c),(11,I i)] k O es).st
def zV (p:Prop) (n t:List UInt8) (i c:Int) (k:Nat) (O es:List AV):aX:=ap [(40,4,.res (.fptr [.str n,.str t] 0)),(40,11,.res (.fptr [.str n,.str t] 0))] [(37,Sa p i c k O es)] aH lI lJ
@[simp] abbrev iU:=(I 0=I 0∧true=true)
abbrev r7 (c:Int) (n t:List UInt8):=[AV.agg [AV.str n,I c,I 4325387,I 7,I 0,AV.fsl false (ai t),AV.nilsl]]
theorem GD (p:Prop) (n t:List UInt8) (c:Int) (k k':Nat) (i j:Int) (Cs O es es':List AV) (o:Ob) (M N L:AV) (Nx:Prop) (Q:AExit→St→Prop):aI Tryz.prog opts0 40 (zV p n t i c k (ae o M N L (.fsl false Cs)) es) (aD Tryz.prog 133 33) (aZ [(9,I i)] k (ae o M N L (.fsl false Cs)) es).st (bf 0 [(0,0),(1,1),(2,36)] (aZ [(9,I j)] k' O es') Nx [(0,0),(1,1),(2,2)] (aZ [(9,I i)] k (ae o M N L (.fsl false Cs)) es) Q)=
  (ab (aq i (Int.ofNat (aa Cs))) (p∧(((lL i)∧iU∧iU∧True)∧dC∧(zT Cs L M N o)∧(lK k)∧(lM es)∧True)∧aC Tryz.prog 34 (AV.fsl false Cs) (I i)=some (AV.fptr [AV.str n,AV.str t] 0)∧aC Tryz.prog 34 (AV.fsl false Cs) (I i)=some (AV.fptr [AV.str n,AV.str t] 0)∧au (a8 7 (r7 c n t)&&(((k+aa (r7 c n t))*96).ble 140737488355328&&(bc (flat (r7 c n t))&&true))) (au ((aa es).beq (k*7)) ((((I (ar IntKind.i64 (i+1))=I j∧ah (I j)=true)∧True)∧dC∧((ae o M N L (AV.fsl false Cs))=O∧ac O=true)∧((true=true∧some 36=some 36∧0=0∧k'=k+aa (r7 c n t)∧7=7)∧True)∧(es++flat (r7 c n t)=es'∧ac es'=true)∧True)∧Nx))) ((((lL i)∧True)∧dC∧(zT Cs L M N o)∧(lK k)∧(lM es)∧True)∧Q (AExit.exit 6) (aZ [(9,I i)] k (ae o M N L (AV.fsl false Cs)) es).st)):=by kernel_rfl
def vg (h:af) (b:Nat):Nat:=match hget h b with
 |some (.cells (.rsl _ id _ _ _::_))=>id
 |_=>0
def GE (e:Int) (k k':Nat) (O es es':List AV):bq:=fun st Q=>ck 0 [(0,0),(1,3),(2,vg st.heap 3)] (aZ [(4,I 0)] k O es) st∧Q (.exit 0) (aZ [(4,I e)] k' O es').st
def GF (T:List AV) (k k':Nat) (O es es':List AV):bq:=fun st Q=>ck 0 [(0,0),(1,1),(2,vg st.heap 1)] (aZ [(5,.fsl true T),(6,I 0)] k O es) st∧Q (.exit 2) (aZ [(5,.fsl true T),(6,I 20)] k' O es').st
def GG (e:Int) (k k':Nat) (O es es':List AV):bq:=fun st Q=>ck 0 [(0,0),(1,1),(2,vg st.heap 1)] (aZ [(8,I 0)] k O es) st∧Q (.exit 4) (aZ [(8,I e)] k' O es').st
def GH (e:Int) (k k':Nat) (O es es':List AV):bq:=fun st Q=>ck 0 [(0,0),(1,1),(2,vg st.heap 1)] (aZ [(9,I 0)] k O es) st∧Q (.exit 6) (aZ [(9,I e)] k' O es').st
def GI (k:Nat) (O es:List AV) (kk:AV):View:=⟨[],[(1,.ptr 0 0),(3,.ptr 1 0),(7,.ptr 11 0)],[(0,.cells O,.whole),(1,.cells [.rsl true 2 0 k 7],.each),(2,.cells es,.whole),(11,.cells [I 4325387,I 1,I 0,.nilsl,kk],.whole)],60,221⟩
abbrev cv (o:Ob):=[AV.agg [AV.str [67,114,121,112,116,111,103,114,97,112,104,105,99,32,85,115,97,103,101,32,77,97,115,107],I 0,I 4325387,I 2,I o.5,AV.nilsl,AV.nilsl]]
abbrev bP (o:Ob):=[AV.agg [AV.str [79,98,106,101,99,116,32,84,121,112,101],I 0,I 4325387,I 5,I o.2,AV.nilsl,AV.nilsl]]
abbrev iV (Cs Ls Ns:List AV) (M:AV) (o:Ob):=(ae o M (AV.fsl false Ns) (AV.fsl false Ls) (AV.fsl false Cs))
abbrev pu (o:Ob):=[I 4325506,I 5,I o.18,AV.nilsl,AV.nilsl]
abbrev zW (o:Ob):=[I 4325504,I 7,I 0,AV.fsl false (ai o.19),AV.nilsl]
abbrev GJ (o:Ob):=[I 4325387,I 1,I 0,AV.nilsl,AV.rsl true 28 0 (aa [AV.agg (pu o)]+aa [AV.agg (zW o)]) 5]
abbrev nq (Cs E3 Ls Ns:List AV) (K3:Nat) (M:AV) (o:Ob):=[(31,some (Blk.cells (zW o))),(28,some (Blk.cells (flat [AV.agg (pu o)]++flat [AV.agg (zW o)]))),(13,some (Blk.cells (pu o))),(11,some (Blk.cells (GJ o))),(0,some (Blk.cells (iV Cs Ls Ns M o))),(1,some (Blk.cells [AV.rsl true 2 0 K3 7])),(2,some (Blk.cells E3))]
abbrev dD (o:Ob):=[AV.agg [AV.str [67,114,121,112,116,111,103,114,97,112,104,105,99,32,65,108,103,111,114,105,116,104,109],I 0,I 4325387,I 5,I o.3,AV.nilsl,AV.nilsl]]
abbrev dE (o:Ob):=[AV.agg [AV.str [67,114,121,112,116,111,103,114,97,112,104,105,99,32,76,101,110,103,116,104],I 0,I 4325387,I 2,I o.4,AV.nilsl,AV.nilsl]]
abbrev nr (Cs E3 Ls Ns:List AV) (K3:Nat) (M:AV) (o:Ob):=[(13,some (Blk.cells (pu o))),(11,some (Blk.cells [I 4325387,I 1,I 0,AV.nilsl,AV.fsl true [AV.agg (pu o)]])),(0,some (Blk.cells (iV Cs Ls Ns M o))),(1,some (Blk.cells [AV.rsl true 2 0 K3 7])),(2,some (Blk.cells E3))]
@[simp] abbrev kl (Cs Ls Ns:List AV) (M:AV) (o:Ob):=((iV Cs Ls Ns M o)=(iV Cs Ls Ns M o)∧ac (iV Cs Ls Ns M o)=true)
abbrev eb (o:Ob):=[AV.agg [AV.str [83,116,97,116,101],I 0,I 4325387,I 5,I o.7,AV.nilsl,AV.nilsl]]
abbrev lO (kk:AV):=[AV.agg [AV.str [82,101,118,111,99,97,116,105,111,110,32,82,101,97,115,111,110],I 0,I 4325387,I 1,I 0,AV.nilsl,kk]]
abbrev r8 (o:Ob):=[AV.agg [AV.str [85,115,97,103,101,32,76,105,109,105,116,115],I 0,I 4325387,I 1,I 0,AV.nilsl,AV.fsl true [AV.agg [I 4325527,I 3,I o.24,AV.nilsl,AV.nilsl],AV.agg [I 4325526,I 3,I o.25,AV.nilsl,AV.nilsl],AV.agg [I 4325528,I 5,I o.26,AV.nilsl,AV.nilsl]]]]
abbrev GK (o:Ob):=[AV.agg [AV.str [85,110,105,113,117,101,32,73,100,101,110,116,105,102,105,101,114],I 0,I 4325387,I 7,I 0,AV.fsl false (ai o.1),AV.nilsl]]
abbrev pv (Cs Ls Ns:List AV) (M:AV) (o:Ob):=(ae o M (AV.fsl false Ns) (AV.fsl false Ls) (AV.fsl false Cs))
@[simp] abbrev GL (Cs E3 E4 Ls Ns:List AV) (K3 K4:Nat) (M kk:AV) (o:Ob):=((iU∧True)∧dC∧(kl Cs Ls Ns M o)∧((true=true∧some 74=some 74∧0=0∧K4=K3+aa (lO kk)∧7=7)∧True)∧(E3++flat (lO kk)=E4∧ac E4=true)∧True)
abbrev vh (kk:AV):=[I 4325387,I 1,I 0,AV.nilsl,kk]
theorem Sb (kk:AV) (T Ns Ls Cs E0 E1 E2 E3 E4 E5 E6 E7:List AV) (K0 K1 K2 K3 K4 K5 K6 K7:Nat) (a b c:Int) (o:Ob) (M:AV) (Q:AV→af→Prop):ax Tryz.prog opts0 40 (mZ (ap [] [(5,GE a K0 K1 (pv Cs Ls Ns M o) E0 E1),(17,GF T K2 K3 (pv Cs Ls Ns M o) E2 E3),(27,GG b K4 K5 (pv Cs Ls Ns M o) E4 E5),(33,GH c K6 K7 (pv Cs Ls Ns M o) E6 E7)] (bg [(62,.fsl true T)]) lI lJ) 24 20 (GI K3 (pv Cs Ls Ns M o) E3 kk)) 133 [.agg (pv Cs Ls Ns M o)] [] 0 (fun v H _=>Q v H)=
  (let R1:Prop:=ab o.23 (au (a8 7 (r8 o)&&(((K5+aa (r8 o))*96).ble 140737488355328&&(bc (flat (r8 o))&&true))) (au ((aa E5).beq (K5*7)) (((iU∧True)∧dC∧(kl Cs Ls Ns M o)∧((true=true∧some 51=some 51∧0=0∧K6=K5+aa (r8 o)∧7=7)∧True)∧(E5++flat (r8 o)=E6∧ac E6=true)∧True)∧Q (AV.rsl true 2 0 K7 7) [(0,some (Blk.cells (iV Cs Ls Ns M o))),(1,some (Blk.cells [AV.rsl true 2 0 K7 7])),(2,some (Blk.cells E7))]))) (((iU∧True)∧dC∧(kl Cs Ls Ns M o)∧((true=true∧some 2=some 2∧0=0∧K6=K5∧7=7)∧True)∧(E5=E6∧ac E6=true)∧True)∧Q (AV.rsl true 2 0 K7 7) [(0,some (Blk.cells (iV Cs Ls Ns M o))),(1,some (Blk.cells [AV.rsl true 2 0 K7 7])),(2,some (Blk.cells E7))]);let R2:Prop:=ab (!aA o.19 []) (((Frz 20 (nq Cs E3 Ls Ns K3 M o) (AV.ptr 0 0) (AV.ptr 0 0)∧Frz 20 (nq Cs E3 Ls Ns K3 M o) (AV.ptr 1 0) (AV.ptr 1 0)∧Frz 20 (nq Cs E3 Ls Ns K3 M o) (AV.ptr 11 0) (AV.ptr 11 0)∧True)∧FrzL 20 (nq Cs E3 Ls Ns K3 M o) (iV Cs Ls Ns M o) (iV Cs Ls Ns M o)∧FrzL 20 (nq Cs E3 Ls Ns K3 M o) [AV.rsl true 2 0 K3 7] [AV.rsl true 2 0 K3 7]∧FrzL 20 (nq Cs E3 Ls Ns K3 M o) E3 E3∧FrzL 20 (nq Cs E3 Ls Ns K3 M o) (GJ o) (vh kk)∧True)∧au (bM Tryz.prog 26 (AV.agg (vh kk)) 5&&true) (au (a8 7 (lO kk)&&(((K3+aa (lO kk))*96).ble 140737488355328&&(bc (flat (lO kk))&&true))) (au ((aa E3).beq (K3*7)) ((GL Cs E3 E4 Ls Ns K3 K4 M kk o)∧R1)))) (((Frz 20 (nr Cs E3 Ls Ns K3 M o) (AV.ptr 0 0) (AV.ptr 0 0)∧Frz 20 (nr Cs E3 Ls Ns K3 M o) (AV.ptr 1 0) (AV.ptr 1 0)∧Frz 20 (nr Cs E3 Ls Ns K3 M o) (AV.ptr 11 0) (AV.ptr 11 0)∧True)∧FrzL 20 (nr Cs E3 Ls Ns K3 M o) (iV Cs Ls Ns M o) (iV Cs Ls Ns M o)∧FrzL 20 (nr Cs E3 Ls Ns K3 M o) [AV.rsl true 2 0 K3 7] [AV.rsl true 2 0 K3 7]∧FrzL 20 (nr Cs E3 Ls Ns K3 M o) E3 E3∧FrzL 20 (nr Cs E3 Ls Ns K3 M o) [I 4325387,I 1,I 0,AV.nilsl,AV.fsl true [AV.agg (pu o)]] (vh kk)∧True)∧au (bM Tryz.prog 26 (AV.agg (vh kk)) 5&&true) (au (a8 7 (lO kk)&&(((K3+aa (lO kk))*96).ble 140737488355328&&(bc (flat (lO kk))&&true))) (au ((aa E3).beq (K3*7)) ((GL Cs E3 E4 Ls Ns K3 K4 M kk o)∧R1))));let R3:Prop:=ab (!ak o.18 0) (R2) (((iU∧True)∧dC∧(kl Cs Ls Ns M o)∧((true=true∧some 2=some 2∧0=0∧K4=K3∧7=7)∧True)∧(E3=E4∧ac E4=true)∧True)∧R1);(((iU∧True)∧((some 0=some 0∧0=0)∧(some 3=some 3∧0=0)∧True)∧(kl Cs Ls Ns M o)∧((true=true∧some 27=some 27∧0=0∧K0=aa (GK o)∧7=7)∧True)∧(flat (GK o)=E0∧ac E0=true)∧True)∧au (a8 7 (bP o)&&(((K1+aa (bP o))*96).ble 140737488355328&&(bc (flat (bP o))&&true))) (au ((aa E1).beq (K1*7)) (ab (!ak o.3 0) (au (a8 7 (dD o)&&(((K1+aa (bP o)+aa (dD o))*96).ble 140737488355328&&(bc (flat (dD o))&&true))) (au ((aa (E1++flat (bP o))).beq ((K1+aa (bP o))*7)) (ab (!ak o.4 0) (au (a8 7 (dE o)&&(((K1+aa (bP o)+aa (dD o)+aa (dE o))*96).ble 140737488355328&&(bc (flat (dE o))&&true))) (au ((aa (E1++flat (bP o)++flat (dD o))).beq ((K1+aa (bP o)+aa (dD o))*7)) (au (a8 7 (cv o)&&(((K1+aa (bP o)+aa (dD o)+aa (dE o)+aa (cv o))*96).ble 140737488355328&&(bc (flat (cv o))&&true))) (au ((aa (E1++flat (bP o)++flat (dD o)++flat (dE o))).beq ((K1+aa (bP o)+aa (dD o)+aa (dE o))*7)) (au (a8 7 (eb o)&&(((K1+aa (bP o)+aa (dD o)+aa (dE o)+aa (cv o)+aa (eb o))*96).ble 140737488355328&&(bc (flat (eb o))&&true))) (au ((aa (E1++flat (bP o)++flat (dD o)++flat (dE o)++flat (cv o))).beq ((K1+aa (bP o)+aa (dD o)+aa (dE o)+aa (cv o))*7)) (SC 62 [] (AV.fsl true T)∧(((lN T)∧iU∧True)∧dC∧(kl Cs Ls Ns M o)∧((true=true∧some 135=some 135∧0=0∧K2=K1+aa (bP o)+aa (dD o)+aa (dE o)+aa (cv o)+aa (eb o)∧7=7)∧True)∧(E1++flat (bP o)++flat (dD o)++flat (dE o)++flat (cv o)++flat (eb o)=E2∧ac E2=true)∧True)∧R3))))))) (au (a8 7 (cv o)&&(((K1+aa (bP o)+aa (dD o)+aa (cv o))*96).ble 140737488355328&&(bc (flat (cv o))&&true))) (au ((aa (E1++flat (bP o)++flat (dD o))).beq ((K1+aa (bP o)+aa (dD o))*7)) (au (a8 7 (eb o)&&(((K1+aa (bP o)+aa (dD o)+aa (cv o)+aa (eb o))*96).ble 140737488355328&&(bc (flat (eb o))&&true))) (au ((aa (E1++flat (bP o)++flat (dD o)++flat (cv o))).beq ((K1+aa (bP o)+aa (dD o)+aa (cv o))*7)) (SC 62 [] (AV.fsl true T)∧(((lN T)∧iU∧True)∧dC∧(kl Cs Ls Ns M o)∧((true=true∧some 109=some 109∧0=0∧K2=K1+aa (bP o)+aa (dD o)+aa (cv o)+aa (eb o)∧7=7)∧True)∧(E1++flat (bP o)++flat (dD o)++flat (cv o)++flat (eb o)=E2∧ac E2=true)∧True)∧R3)))))))) (ab (!ak o.4 0) (au (a8 7 (dE o)&&(((K1+aa (bP o)+aa (dE o))*96).ble 140737488355328&&(bc (flat (dE o))&&true))) (au ((aa (E1++flat (bP o))).beq ((K1+aa (bP o))*7)) (au (a8 7 (cv o)&&(((K1+aa (bP o)+aa (dE o)+aa (cv o))*96).ble 140737488355328&&(bc (flat (cv o))&&true))) (au ((aa (E1++flat (bP o)++flat (dE o))).beq ((K1+aa (bP o)+aa (dE o))*7)) (au (a8 7 (eb o)&&(((K1+aa (bP o)+aa (dE o)+aa (cv o)+aa (eb o))*96).ble 140737488355328&&(bc (flat (eb o))&&true))) (au ((aa (E1++flat (bP o)++flat (dE o)++flat (cv o))).beq ((K1+aa (bP o)+aa (dE o)+aa (cv o))*7)) (SC 62 [] (AV.fsl true T)∧(((lN T)∧iU∧True)∧dC∧(kl Cs Ls Ns M o)∧((true=true∧some 109=some 109∧0=0∧K2=K1+aa (bP o)+aa (dE o)+aa (cv o)+aa (eb o)∧7=7)∧True)∧(E1++flat (bP o)++flat (dE o)++flat (cv o)++flat (eb o)=E2∧ac E2=true)∧True)∧R3))))))) (au (a8 7 (cv o)&&(((K1+aa (bP o)+aa (cv o))*96).ble 140737488355328&&(bc (flat (cv o))&&true))) (au ((aa (E1++flat (bP o))).beq ((K1+aa (bP o))*7)) (au (a8 7 (eb o)&&(((K1+aa (bP o)+aa (cv o)+aa (eb o))*96).ble 140737488355328&&(bc (flat (eb o))&&true))) (au ((aa (E1++flat (bP o)++flat (cv o))).beq ((K1+aa (bP o)+aa (cv o))*7)) (SC 62 [] (AV.fsl true T)∧(((lN T)∧iU∧True)∧dC∧(kl Cs Ls Ns M o)∧((true=true∧some 83=some 83∧0=0∧K2=K1+aa (bP o)+aa (cv o)+aa (eb o)∧7=7)∧True)∧(E1++flat (bP o)++flat (cv o)++flat (eb o)=E2∧ac E2=true)∧True)∧R3)))))))))):=by kernel_rfl
end
def b7 (s:List UInt8) (l:List Cu):Nat:=(l.filter fun c=>aA c.name s).length
def pw:List Cu→List Cu→List At
 |_,[]=>[]
 |pre,c::r=>⟨c.name,.ofNat (b7 c.name pre),fv c.text⟩::pw (pre++[c]) r
def km (o:Ob):List Kd→List At
 |[]=>[]
 |k::r=>bX (aJ k) (aK o k) 0++km o r
def gq (o:Ob):List At:=km o kinds++pw [] o.cust
def dF (s:List UInt8) (l:List At):List At:=l.filter fun a=>aA a.name s
theorem zX (s:List UInt8) (l r:List At):dF s (l++r)=dF s l++dF s r:=List.filter_append ..
theorem vi {a b:List UInt8} (h:a≠b):aA a b=false:=by
 cases hb:aA a b with
 |false=>rfl
 |true=>exact absurd (beqBytes_iff.1 hb) h
theorem GM (s:List UInt8):∀ (l:List It) (i:Nat),dF s (bX s l i)=bX s l i
 |[],_=>rfl
 |v::r,i=>by
  have ih:=GM s r (i+1)
  unfold dF at ih⊢
  rw[bX,List.filter_cons,ih,if_pos (beqBytes_iff.2 rfl)]
theorem zY {s n:List UInt8} (h:n≠s):∀ (l:List It) (i:Nat),dF s (bX n l i)=[]
 |[],_=>rfl
 |v::r,i=>by
  have ih:=zY h r (i+1)
  unfold dF at ih⊢
  rw[bX,List.filter_cons,ih,vi h]
  rfl
theorem zZ {s:List UInt8}:∀ {l:List Kd},(∀k∈l,aJ k≠s)→fP s l=none
 |[],_=>rfl
 |a::r,h=>by rw[fP,vi (h a (by simp)),zZ fun k hk=>h k (by simp[hk])]
theorem GN (o:Ob) {s:List UInt8}:∀ {l:List Kd},(∀k∈l,aJ k≠s)→dF s (km o l)=[]
 |[],_=>rfl
 |a::r,h=>by rw[km,zX,zY (h a (by simp)),GN o fun k hk=>h k (by simp[hk])];rfl
theorem GO (o:Ob) (s:List UInt8):∀ {l:List Kd},(l.map aJ).Nodup→dF s (km o l)=match fP s l with
  |none=>[]
  |some k=>bX s (aK o k) 0
 |[],_=>rfl
 | a::r,h=>by
  rw[List.map_cons,List.nodup_cons] at h
  rw[km,zX,fP]
  cases hb:aA (aJ a) s with
  |true=>
   have e:=beqBytes_iff.1 hb
   subst e
   rw[GM,GN o fun k hk e=>h.1 (List.mem_map.2 ⟨k,hk,e⟩),List.append_nil]
  |false=>
   have e:aJ a≠s:=fun e=>by rw[beqBytes_iff.2 e] at hb;cases hb
   rw[zY e,GO o s h.2,List.nil_append]
theorem z2 (s:List UInt8) (pre:List Cu) (c:Cu):b7 s (pre++[c])=b7 s pre+(match aA c.name s with|true=>1|false=>0):=by
 unfold b7
 rw[List.filter_append,List.length_append,List.filter_cons]
 cases aA c.name s<;>rfl
theorem GP (s:List UInt8):∀ (l pre:List Cu),dF s (pw pre l)=bX s ((l.filter fun c=>aA c.name s).map fun c=>fv c.text) (b7 s pre)
 |[],_=>rfl
 | c::r,pre=>by
  have ih:=GP s r (pre++[c])
  rw[z2] at ih
  unfold dF at ih⊢
  rw[pw,List.filter_cons,ih,List.filter_cons]
  cases hb:aA c.name s with
  |true=>
   have e:=beqBytes_iff.1 hb
   subst e
   rfl
  |false=>rfl
structure vj (c:Bool) (s:List UInt8) (o:Ob):Prop where
 t:c=true→∀k∈kinds,aJ k≠s
 f:c=false→∀x∈o.cust,x.name≠s
theorem Sc:(kinds.map aJ).Nodup:=by decide
theorem Sd {c:Bool} {s:List UInt8} {o:Ob} (h:vj c s o):dF s (gq o)=zJ c o s:=by
 rw[gq,zX,GO o s Sc,GP,zJ]
 cases c with
 |true=>
  rw[zZ (h.t rfl)]
  rfl
 |false=>
  have hf:(o.cust.filter fun c=>aA c.name s)=[]:=List.filter_eq_nil_iff.2 fun x hx=>by rw[vi (h.f rfl x hx)];simp
  rw[hf]
  rw[show ([]:List Cu).map (fun c=>fv c.text)=[] from rfl,show ∀n,bX s [] n=[] from fun _=>rfl,List.append_nil]
  rfl
theorem GQ {s:List UInt8} {v:It}:∀ {l:List It} {i k:Nat},l[k]? =some v→(bX s l i)[k]? =some ⟨s,.ofNat (i+k),v⟩
 |[],_,_,h=>by simp at h
 |a::r,i,0,h=>by
  simp at h;subst h;rfl
 |a::r,i,k+1,h=>by
  have ih:=GQ (s:=s) (i:=i+1) (k:=k) (l:=r) (by simpa using h)
  rw[show i+1+k=i+(k+1) by omega] at ih
  simpa [bX] using ih
theorem GR {o:Ob} (hg:∀k,lE o k):∀l:List Kd,(km o l).length≤1000*l.length
 |[]=>Nat.le_refl _
 |a::t=>by
  have:=GR hg t
  have h:=(hg a).n
  rw[km,List.length_append,rU,List.length_cons]
  omega
def gQ (c:Cu) (n:Nat):AV:= .agg [.str c.name,I (.ofNat n),I 4325387,I 7,I 0,.fsl false (ai c.text),.nilsl]
def c7:List Cu→List Cu→List AV
 |_,[]=>[]
 |pre,c::r=>gQ c (b7 c.name pre)::c7 (pre++[c]) r
theorem GS (c:Cu):∀ (l q:List Cu),c7 q (l++[c])=c7 q l++[gQ c (b7 c.name (q++l))]
 |[],q=>by rw[List.append_nil];rfl
 |a::r,q=>by
  have ih:=GS c r (q++[a])
  rw[List.append_assoc,List.singleton_append] at ih
  rw[List.cons_append,c7,c7,ih,List.cons_append]
theorem z3:∀ (l q:List Cu),(c7 q l).length=l.length
 |[],_=>rfl
 |a::r,q=>by rw[c7,List.length_cons,List.length_cons,z3 r]
theorem z4:∀ (l q:List Cu),ac (flat (c7 q l))=true
 |[],_=>rfl
 |a::r,q=>by
  rw[c7,flat,dV,z4 r]
  simp[gQ,AV.cells,ah,ac]
theorem GT:∀ (l q:List Cu),(flat (c7 q l)).length=l.length*7
 |[],_=>rfl
 |a::r,q=>by
  rw[c7,flat,List.length_append,GT r,List.length_cons]
  simp[gQ,AV.cells]
  omega
theorem z6:∀ (l q:List Cu),WkE (c7 q l) ((pw q l).map aB)
 |[],_=> .nil
 |a::r,q=>by
  rw[c7,pw,List.map_cons]
  refine WkE.consA ?_ (z6 r _)
  simp only[fv,bE]
  (repeat (first|exact Wk.refl _|exact WkL.refl _|exact Wk.nil|exact Wk.row|exact WkE.refl _|exact WkL.nil|exact WkE.nil|apply Wk.agg|apply Wk.tuple|apply WkL.cons|apply Wk.rows|apply WkE.consA))
theorem z7 {C:List Cu} {i:Nat} {c:Cu} (h:C[i]? =some c):aC Tryz.prog 34 (.fsl false (C.map aQ)) (.int .i64 (.ofNat i))=some (.fptr [.str c.name,.str c.text] 0):=
 fN (v:=aQ c) (e:=83) (sz:=2) (by kernel_rfl) (by kernel_rfl) (by rw[List.getElem?_map,h];rfl) rfl
theorem Se {es:List AV} {c:Cu} {n:Nat} (h:ac es=true):ac (es++flat [gQ c n])=true:=by
 rw[dV,h]
 simp[gQ,flat,AV.cells,ah,ac]
theorem gR {i n:Nat} (h:i<n):¬aq (Int.ofNat i) (Int.ofNat n)=false:=fun e=>by
 have e:=ltInt_false.1 e
 simp only[Int.ofNat_eq_natCast] at e
 omega
section
variable {o:Ob} {C:List Cu} {i k:Nat} {t:List UInt8} {es:List AV} {Q:AExit→St→Prop}
end
theorem GU (s:List UInt8) (l:List Cu):b7 s l≤l.length:=List.length_filter_le _ _
def ko (nm:List UInt8) (i:Int) (s:List UInt8):AV:= .agg [.str nm,I i,I 4325387,I 7,I 0,.fsl false (ai s),.nilsl]
def cr (nm:List UInt8) (ty n:Int):AV:= .agg [.str nm,I 0,I 4325387,I ty,I n,.nilsl,.nilsl]
def eu (nm:List UInt8) (i:Int) (kk:AV):AV:= .agg [.str nm,I i,I 4325387,I 1,I 0,.nilsl,kk]
def nt (l:Lk):AV:= .fsl true [.agg [I 4325451,I 5,I l.ty,.nilsl,.nilsl],.agg [I 4325452,I 7,I 0,.fsl false (ai l.id),.nilsl]]
def fx (o:Ob):AV:=match aA o.msg [] with
 |true=> .fsl true [.agg [I 4325506,I 5,I o.why,.nilsl,.nilsl]]
 |false=> .fsl false [.agg [I 4325506,I 5,I o.why,.nilsl,.nilsl],.agg [I 4325504,I 7,I 0,.fsl false (ai o.msg),.nilsl]]
def px (o:Ob):AV:= .fsl true [.agg [I 4325527,I 3,I o.lt,.nilsl,.nilsl],.agg [I 4325526,I 3,I o.lc,.nilsl,.nilsl],.agg [I 4325528,I 5,I o.lu,.nilsl,.nilsl]]
def eV (nm:List UInt8):List (List UInt8)→Nat→List AV
 |[],_=>[]
 |s::r,i=>ko nm (.ofNat i) s::eV nm r (i+1)
def eW:List Lk→Nat→List AV
 |[],_=>[]
 |l::r,i=>eu (aJ .lnk) (.ofNat i) (nt l)::eW r (i+1)
def ey (b:Bool) (x:AV):List AV:=match b with
 |true=>[x]
 |false=>[]
def aL (o:Ob):Kd→List AV
 | .uid=>[ko (aJ .uid) 0 o.id]
 | .nam=>eV (aJ .nam) o.names 0
 | .typ=>[cr (aJ .typ) 5 o.ty]
 | .alg=>ey (!ak o.alg 0) (cr (aJ .alg) 5 o.alg)
 | .len=>ey (!ak o.len 0) (cr (aJ .len) 2 o.len)
 | .mask=>[cr (aJ .mask) 2 o.mask]
 | .sta=>[cr (aJ .sta) 5 o.st]
 | .dat k=>ey (ea o k).has (cr (aJ (.dat k)) 9 (ea o k).t)
 | .why=>ey (!ak o.why 0) (eu (aJ .why) 0 (fx o))
 | .lnk=>eW o.links 0
 | .lim=>ey o.lh (eu (aJ .lim) 0 (px o))
 | .cus _=>[]
theorem GV (nm x:List UInt8):∀ (l:List (List UInt8)) (i:Nat),eV nm (l++[x]) i=eV nm l i++[ko nm (.ofNat (i+l.length)) x]
 |[],_=>rfl
 |a::r,i=>by rw[List.cons_append,eV,eV,GV nm x r (i+1),List.cons_append,List.length_cons,show i+1+r.length=i+(r.length+1) by omega]
theorem GW (x:Lk):∀ (l:List Lk) (i:Nat),eW (l++[x]) i=eW l i++[eu (aJ .lnk) (.ofNat (i+l.length)) (nt x)]
 |[],_=>rfl
 |a::r,i=>by rw[List.cons_append,eW,eW,GW x r (i+1),List.cons_append,List.length_cons,show i+1+r.length=i+(r.length+1) by omega]
theorem z8 (nm:List UInt8):∀ (l:List (List UInt8)) (i:Nat),(eV nm l i).length=l.length
 |[],_=>rfl
 |a::r,i=>by rw[eV,List.length_cons,List.length_cons,z8 nm r]
theorem z9:∀ (l:List Lk) (i:Nat),(eW l i).length=l.length
 |[],_=>rfl
 |a::r,i=>by rw[eW,List.length_cons,List.length_cons,z9 r]
structure eA (e:AV):Prop where
 c:ah e=true
 f:ac e.cells=true
 l:e.cells.length=7
 g:ei 7 e
theorem Aa (nm:List UInt8) (i:Int) (s:List UInt8):eA (ko nm i s):=⟨by simp[ko,ah,ac],by simp[ko,AV.cells,ah,ac],rfl,⟨rfl,rfl⟩⟩
theorem iq (nm:List UInt8) (ty n:Int):eA (cr nm ty n):=⟨rfl,rfl,rfl,⟨rfl,rfl⟩⟩
theorem Ab (nm:List UInt8) (i:Int) {f:Bool} {l:List AV} (h:ac l=true):eA (eu nm i (.fsl f l)):=⟨by simp[eu,ah,ac,h],by simp[eu,AV.cells,ah,ac,h],rfl,⟨rfl,rfl⟩⟩
theorem GX (i:Int) (l:Lk):eA (eu (aJ .lnk) i (nt l)):=Ab _ _ (by simp[ah,ac])
theorem GY (o:Ob):eA (eu (aJ .why) 0 (fx o)):=by
 unfold fx
 split<;>exact Ab _ _ (by simp[ah,ac])
theorem GZ (o:Ob):eA (eu (aJ .lim) 0 (px o)):=Ab _ _ rfl
theorem r9 (nm:List UInt8):∀ (l:List (List UInt8)) (i:Nat),∀e∈eV nm l i,eA e
 |[],_,_,h=>by cases h
 |a::r,i,e,h=>by
  rcases List.mem_cons.1 h with h|h
  ·subst h;exact Aa _ _ _
  ·exact r9 nm r _ e h
theorem sc:∀ (l:List Lk) (i:Nat),∀e∈eW l i,eA e
 |[],_,_,h=>by cases h
 |a::r,i,e,h=>by
  rcases List.mem_cons.1 h with h|h
  ·subst h;exact GX _ _
  ·exact sc r _ e h
theorem sd {b:Bool} {x:AV} (h:eA x):∀e∈ey b x,eA e:=fun e he=>by
 cases b with
 |true=>rw[List.mem_singleton.1 he];exact h
 |false=>cases he
theorem eX (o:Ob) (k:Kd):∀e∈aL o k,eA e:=by
 cases k with
 |uid=>exact fun e he=>by rw[List.mem_singleton.1 he];exact Aa _ _ _
 |nam=>exact r9 _ _ _
 |typ=>exact fun e he=>by rw[List.mem_singleton.1 he];exact iq _ _ _
 |alg=>exact sd (iq _ _ _)
 |len=>exact sd (iq _ _ _)
 |mask=>exact fun e he=>by rw[List.mem_singleton.1 he];exact iq _ _ _
 |sta=>exact fun e he=>by rw[List.mem_singleton.1 he];exact iq _ _ _
 |dat k=>exact sd (iq _ _ _)
 |why=>exact sd (GY o)
 |lnk=>exact sc _ _
 |lim=>exact sd (GZ o)
 |cus s=>exact fun e he=>by cases he
theorem G0:∀ (l q:List Cu),∀e∈c7 q l,eA e
 |[],_,_,h=>by cases h
 |a::r,q,e,h=>by
  rcases List.mem_cons.1 h with h|h
  ·subst h;exact ⟨by simp[gQ,ah,ac],by simp[gQ,AV.cells,ah,ac],rfl,⟨rfl,rfl⟩⟩
  ·exact G0 r _ e h
theorem Ac:∀ {l:List AV},(∀e∈l,eA e)→ac l=true
 |[],_=>rfl
 |a::r,h=>by rw[ac,(h a (by simp)).c,Ac fun e he=>h e (by simp[he])];rfl
theorem fV:∀ {l:List AV},(∀e∈l,eA e)→ac (flat l)=true
 |[],_=>rfl
 |a::r,h=>by rw[flat,dV,(h a (by simp)).f,fV fun e he=>h e (by simp[he])];rfl
theorem iW:∀ {l:List AV},(∀e∈l,eA e)→(flat l).length=l.length*7
 |[],_=>rfl
 |a::r,h=>by
  rw[flat,List.length_append,(h a (by simp)).l,iW fun e he=>h e (by simp[he]),List.length_cons]
  omega
theorem G1 (nm:List UInt8):∀ (l:List (List UInt8)) (i:Nat),WkE (eV nm l i) ((bX nm (l.map fv) i).map aB)
 |[],_=> .nil
 |a::r,i=>by
  rw[eV,List.map_cons,bX,List.map_cons]
  refine WkE.consA ?_ (G1 nm r _)
  simp only[fv,bE,lp,j2,ad]
  (repeat (first|exact Wk.refl _|exact WkL.refl _|exact Wk.nil|exact Wk.row|exact WkE.refl _|exact WkL.nil|exact WkE.nil|apply Wk.agg|apply Wk.tuple|apply WkL.cons|apply Wk.rows|apply WkE.consA))
theorem G2:∀ (l:List Lk) (i:Nat),WkE (eW l i) ((bX (aJ .lnk) (l.map o1) i).map aB)
 |[],_=> .nil
 |a::r,i=>by
  rw[eW,List.map_cons,bX,List.map_cons]
  refine WkE.consA ?_ (G2 r _)
  simp only[o1,fS,bE,eT,nt,lp,j2,ad,aG,ai]
  (repeat (first|exact Wk.refl _|exact WkL.refl _|exact Wk.nil|exact Wk.row|exact WkE.refl _|exact WkL.nil|exact WkE.nil|apply Wk.agg|apply Wk.tuple|apply WkL.cons|apply Wk.rows|apply WkE.consA))
theorem sf {b:Bool} {x:AV} {nm:List UInt8} {v:It} (h:WkE [x] [aB ⟨nm,0,v⟩]):WkE (ey b x) ((bX nm (cd b v) 0).map aB):=by
 cases b with
 |true=>exact h
 |false=>exact .nil
theorem py (nm:List UInt8) (ty n:Int):WkE [cr nm ty n] [aB ⟨nm,0,a9 ty n⟩]:=by
 refine WkE.consA ?_ .nil
 simp only[a9,bE,lp,j2,ad,ai]
 (repeat (first|exact Wk.refl _|exact WkL.refl _|exact Wk.nil|exact Wk.row|exact WkE.refl _|exact WkL.nil|exact WkE.nil|apply Wk.agg|apply Wk.tuple|apply WkL.cons|apply Wk.rows|apply WkE.consA))
theorem Sf (o:Ob) (k:Kd) (hk:lC k=true) (hc:∀s,k≠ .cus s):WkE (aL o k) ((bX (aJ k) (aK o k) 0).map aB):=by
 cases k with
 |uid=>
  refine WkE.consA ?_ .nil
  simp only[fv,bE,lp,j2,ad]
  (repeat (first|exact Wk.refl _|exact WkL.refl _|exact Wk.nil|exact Wk.row|exact WkE.refl _|exact WkL.nil|exact WkE.nil|apply Wk.agg|apply Wk.tuple|apply WkL.cons|apply Wk.rows|apply WkE.consA))
 |nam=>exact G1 _ _ _
 |typ=>exact py _ _ _
 |alg=>exact sf (py _ _ _)
 |len=>exact sf (py _ _ _)
 |mask=>exact py _ _ _
 |sta=>exact py _ _ _
 |dat k=>exact sf (py _ _ _)
 | why=>
  refine sf (WkE.consA ?_ .nil)
  have e:o2 o.msg=match aA o.msg [] with|true=>[]|false=>[.mk 4325504 7 0 o.msg []]:=by
   cases o.msg<;>rfl
  simp only[rH,fS,bE,eT,fx,lp,j2,e]
  split<;>(simp only[ad,aG,ai];(repeat (first|exact Wk.refl _|exact WkL.refl _|exact Wk.nil|exact Wk.row|exact WkE.refl _|exact WkL.nil|exact WkE.nil|apply Wk.agg|apply Wk.tuple|apply WkL.cons|apply Wk.rows|apply WkE.consA)))
 |lnk=>exact G2 _ _
 |lim=>
  refine sf (WkE.consA ?_ .nil)
  simp only[rI,fS,bE,eT,px,lp,j2,ad,aG,ai]
  (repeat (first|exact Wk.refl _|exact WkL.refl _|exact Wk.nil|exact Wk.row|exact WkE.refl _|exact WkL.nil|exact WkE.nil|apply Wk.agg|apply Wk.tuple|apply WkL.cons|apply Wk.rows|apply WkE.consA))
 |cus s=>exact absurd rfl (hc s)
end Go.Proofs.YtmnlofhodbnenaaGreatDoor
namespace Go.Proofs.YtmnlofhodbnenaaGreatDoor
set_option maxRecDepth 20000
open Go Go.RowKit
open Go.Proofs.Abs
theorem dG {p:Nat} (h:p≤1000000):ar .i64 (Int.ofNat p+1)=Int.ofNat (p+1):=eQ (by simp;omega) (by simp;omega)
theorem nu {i:Nat}:aq (Int.ofNat i) (Int.ofNat i)=true→False:=fun e=>by
 have e:=ltInt_iff.1 e
 omega
theorem eL {e:AV} {k:Nat} (h:eA e) (h1:bc e.cells=true) (hk:k≤100000):(a8 7 [e]&&(Nat.ble ((k+aa [e])*96) 140737488355328&&(bc (flat [e])&&true)))=true:=by
 have h2:aa [e]=1:=rfl
 have h3:a8 7 [e]=true:=by
  have h4:aa e.cells=7:=by rw[aE,h.l]
  simp[a8,h4]
 have h5:flat [e]=e.cells:=by simp[flat]
 rw[h2,h3,h5,h1]
 simp
 omega
theorem eB {B:List AV} {k:Nat} (h:B.length=k*7):Nat.beq (aa B) (k*7)=true:=by rw[beq_iff,aE,h]
theorem Sg {l:List (List UInt8)} {i:Nat} {s:List UInt8} (h:l[i]? =some s):aC Tryz.prog 32 (.fsl false (l.map .str)) (.int .i64 (.ofNat i))=some (.fptr [.str s] 0):=
 fN (v:= .str s) (e:=9) (sz:=1) (by kernel_rfl) (by kernel_rfl) (by rw[List.getElem?_map,h];rfl) rfl
theorem Sh {l:List Lk} {i:Nat} {s:Lk} (h:l[i]? =some s):aC Tryz.prog 33 (.fsl false (l.map bi)) (.int .i64 (.ofNat i))=some (.fptr [I s.ty,.str s.id] 0):=
 fN (v:=bi s) (e:=81) (sz:=2) (by kernel_rfl) (by kernel_rfl) (by rw[List.getElem?_map,h];rfl) rfl
theorem G3 {i:Nat} {k:Kd} (h:kinds[i]? =some k):aC Tryz.prog 150 (.fsl true (kinds.map aN)) (.int .i64 (.ofNat i))=some (.fptr (bx k) 0):=
 fN (v:=aN k) (e:=108) (sz:=7) (by kernel_rfl) (by kernel_rfl) (by rw[List.getElem?_map,h];rfl) rfl
theorem vl:ac (kinds.map aN)=true:=by kernel_rfl
section
variable {o:Ob} {Q:AExit→St→Prop}
theorem Si {B:List AV} {k0:Nat} (hB:B.length=k0*7) (hBc:ac B=true) (hk:k0≤1000) (hn:o.names.length≤1000)
  (hq:Q (.exit 0) (aZ [(4,I (.ofNat o.names.length))] (k0+o.names.length) (am o) (B++flat (eV (aJ .nam) o.names 0))).st):
  ∀m i:Nat,i+m=o.names.length→ALp Tryz.prog opts0.glob 0 (aD Tryz.prog 133 5) (aZ [(4,I (.ofNat i))] (k0+i) (am o) (B++flat (eV (aJ .nam) (o.names.take i) 0))).st Q:=by
 have hO:=bH o
 have hlen:aa (o.names.map AV.str)=o.names.length:=by rw[aE,List.length_map]
 intro m
 induction m with
 |zero=>
  intro i hi
  rw[Nat.add_zero] at hi
  subst hi
  rw[List.take_of_length_le (Nat.le_refl _)]
  have hc:ac (B++flat (eV (aJ .nam) o.names 0))=true:=by rw[dV,hBc,fV (r9 _ _ _)];rfl
  refine ALp.round (A:=zP []) (V2:=aZ [(4,I 0)] 0 (am o) []) (F:=aZ [(4,I (.ofNat o.names.length))] (k0+o.names.length) (am o) (B++flat (eV (aJ .nam) o.names 0))) (lk:=[(0,0),(1,1),(2,34)]) (lk':=[(0,0),(1,1),(2,2)]) base0 ao (LsOk.no rfl) .refl ?_
  unfold am bV at hO hq⊢
  rw[GA,hlen]
  exact aj (fun e=>(nu e).elim) fun _=>⟨⟨⟨⟨rfl,rfl⟩,trivial⟩,⟨⟨rfl,rfl⟩,⟨rfl,rfl⟩,trivial⟩,⟨rfl,hO⟩,⟨⟨rfl,rfl,rfl,rfl,rfl⟩,trivial⟩,⟨rfl,hc⟩,trivial⟩,hq⟩
 |succ m ih=>
  intro i hi
  have hlt:i<o.names.length:=by omega
  have g:=List.getElem?_eq_getElem hlt
  have ih:=ih (i+1) (by omega)
  have hti:(o.names.take i).length=i:=by rw[List.length_take];omega
  rw[lw g,GV,ej,←List.append_assoc,hti,Nat.zero_add,←Nat.add_assoc] at ih
  have hpc:=fV (r9 (aJ .nam) (o.names.take i) 0)
  have hpl:=iW (r9 (aJ .nam) (o.names.take i) 0)
  rw[z8,hti] at hpl
  revert g ih hpc hpl
  generalize o.names[i]=x
  generalize flat (eV (aJ .nam) (o.names.take i) 0)=P
  intro g ih hpc hpl
  have hr:=Aa (aJ .nam) (.ofNat i) x
  have hc:ac (B++P)=true:=by rw[dV,hBc,hpc];rfl
  have hc2:ac (B++P++flat [ko (aJ .nam) (.ofNat i) x])=true:=by rw[dV,hc,fV (l:=[ko (aJ .nam) (.ofNat i) x]) (fun e he=>by rw[List.mem_singleton.1 he];exact hr)];rfl
  have hl:(B++P).length=(k0+i)*7:=by rw[List.length_append,hB,hpl];omega
  refine ALp.round (A:=zP x) (V2:=aZ [(4,I (.ofNat (i+1)))] (k0+i+1) (am o) (B++P++flat [ko (aJ .nam) (.ofNat i) x])) (F:=aZ [(4,I (.ofNat i))] (k0+i) (am o) (B++P)) (lk:=[(0,0),(1,1),(2,34)]) (lk':=[(0,0),(1,1),(2,2)]) base0 ao (LsOk.no rfl) .refl ?_
  have g:=Sg g
  unfold am bV at hO ih⊢
  rw[GA,dG (by omega)]
  exact aj (fun _=>⟨g,aF (eL hr rfl (by omega)) (aF (eB hl) ⟨⟨⟨⟨rfl,rfl⟩,trivial⟩,⟨⟨rfl,rfl⟩,⟨rfl,rfl⟩,trivial⟩,⟨rfl,hO⟩,⟨⟨rfl,rfl,rfl,rfl,rfl⟩,trivial⟩,⟨rfl,hc2⟩,trivial⟩,ih⟩)⟩) fun e=>absurd (hlen▸e) (gR hlt)
theorem Sj {B:List AV} {k0:Nat} (hB:B.length=k0*7) (hBc:ac B=true) (hk:k0≤1000) (hn:o.links.length≤1000)
  (hq:Q (.exit 4) (aZ [(8,I (.ofNat o.links.length))] (k0+o.links.length) (am o) (B++flat (eW o.links 0))).st):
  ∀m i:Nat,i+m=o.links.length→ALp Tryz.prog opts0.glob 0 (aD Tryz.prog 133 27) (aZ [(8,I (.ofNat i))] (k0+i) (am o) (B++flat (eW (o.links.take i) 0))).st Q:=by
 have hO:=bH o
 have hlen:aa (o.links.map bi)=o.links.length:=by rw[aE,List.length_map]
 intro m
 induction m with
 |zero=>
  intro i hi
  rw[Nat.add_zero] at hi
  subst hi
  rw[List.take_of_length_le (Nat.le_refl _)]
  have hc:ac (B++flat (eW o.links 0))=true:=by rw[dV,hBc,fV (sc _ _)];rfl
  refine ALp.round (A:=zS 0 []) (V2:=aZ [(8,I 0)] 0 (am o) []) (F:=aZ [(8,I (.ofNat o.links.length))] (k0+o.links.length) (am o) (B++flat (eW o.links 0))) (lk:=[(0,0),(1,1),(2,50)]) (lk':=[(0,0),(1,1),(2,2)]) base0 ao (LsOk.no rfl) .refl ?_
  unfold am bW at hO hq⊢
  rw[GC,hlen]
  exact aj (fun e=>(nu e).elim) fun _=>⟨⟨⟨⟨rfl,rfl⟩,trivial⟩,⟨⟨rfl,rfl⟩,⟨rfl,rfl⟩,trivial⟩,⟨rfl,hO⟩,⟨⟨rfl,rfl,rfl,rfl,rfl⟩,trivial⟩,⟨rfl,hc⟩,trivial⟩,hq⟩
 |succ m ih=>
  intro i hi
  have hlt:i<o.links.length:=by omega
  have g:=List.getElem?_eq_getElem hlt
  have ih:=ih (i+1) (by omega)
  have hti:(o.links.take i).length=i:=by rw[List.length_take];omega
  rw[lw g,GW,ej,←List.append_assoc,hti,Nat.zero_add,←Nat.add_assoc] at ih
  have hpc:=fV (sc (o.links.take i) 0)
  have hpl:=iW (sc (o.links.take i) 0)
  rw[z9,hti] at hpl
  revert g ih hpc hpl
  generalize o.links[i]=x
  generalize flat (eW (o.links.take i) 0)=P
  intro g ih hpc hpl
  have hr:=GX (.ofNat i) x
  have hc:ac (B++P)=true:=by rw[dV,hBc,hpc];rfl
  have hc2:ac (B++P++flat [eu (aJ .lnk) (.ofNat i) (nt x)])=true:=by rw[dV,hc,fV (l:=[eu (aJ .lnk) (.ofNat i) (nt x)]) (fun e he=>by rw[List.mem_singleton.1 he];exact hr)];rfl
  have hl:(B++P).length=(k0+i)*7:=by rw[List.length_append,hB,hpl];omega
  refine ALp.round (A:=zS x.ty x.id) (V2:=aZ [(8,I (.ofNat (i+1)))] (k0+i+1) (am o) (B++P++flat [eu (aJ .lnk) (.ofNat i) (nt x)])) (F:=aZ [(8,I (.ofNat i))] (k0+i) (am o) (B++P)) (lk:=[(0,0),(1,1),(2,50)]) (lk':=[(0,0),(1,1),(2,2)]) base0 ao (LsOk.no rfl) .refl ?_
  have g:=Sh g
  unfold am bW at hO ih⊢
  rw[GC,dG (by omega)]
  exact aj (fun _=>⟨g,g,aF (eL hr rfl (by omega)) (aF (eB hl) ⟨⟨⟨⟨rfl,rfl⟩,trivial⟩,⟨⟨rfl,rfl⟩,⟨rfl,rfl⟩,trivial⟩,⟨rfl,hO⟩,⟨⟨rfl,rfl,rfl,rfl,rfl⟩,trivial⟩,⟨rfl,hc2⟩,trivial⟩,ih⟩)⟩) fun e=>absurd (hlen▸e) (gR hlt)
theorem vm:aa (kinds.map aN)=20:=rfl
theorem jv {i k:Nat} {kd:Kd} {es:List AV} (g:kinds[i]? =some kd) (hd:zM kd= -1) (hc:ac es=true)
  (hn:ALp Tryz.prog opts0.glob 0 (aD Tryz.prog 133 17) (aZ [(5,.fsl true (kinds.map aN)),(6,I (.ofNat (i+1)))] k (am o) es).st Q):
  ALp Tryz.prog opts0.glob 0 (aD Tryz.prog 133 17) (aZ [(5,.fsl true (kinds.map aN)),(6,I (.ofNat i))] k (am o) es).st Q:=by
 have hO:=bH o
 have hT:=vl
 have hlt:i<20:=(List.getElem?_eq_some_iff.1 g).1
 have g:=G3 g
 refine ALp.round (A:=zQ (bx kd) false) (V2:=aZ [(5,.fsl true (kinds.map aN)),(6,I (.ofNat (i+1)))] k (am o) es) (F:=aZ [(5,.fsl true (kinds.map aN)),(6,I (.ofNat i))] k (am o) es) (lk:=[(0,0),(1,1),(2,2)]) (lk':=[(0,0),(1,1),(2,2)]) base0 ao (LsOk.no rfl) .refl ?_
 unfold bx at g⊢
 rw[hd] at g⊢
 unfold am at hO hn⊢
 rw[GB,dG (by omega),vm]
 exact aj (fun _=>⟨g,⟨⟨⟨rfl,hT⟩,⟨rfl,rfl⟩,trivial⟩,⟨⟨rfl,rfl⟩,⟨rfl,rfl⟩,trivial⟩,⟨rfl,hO⟩,⟨⟨rfl,rfl,rfl,rfl,rfl⟩,trivial⟩,⟨rfl,hc⟩,trivial⟩,hn⟩) fun e=>absurd e (gR hlt)
theorem Sk {d:Nat} (h:d<10):aC Tryz.prog 31 (.ptr 0 7) (I (.ofNat d))=some (.ptr 0 (7+d*2)):=
 match d,h with
 |0,_|1,_|2,_|3,_|4,_|5,_|6,_|7,_|8,_|9,_=>by kernel_rfl
 |n+10,h=>absurd h (by omega)
theorem Sl (o:Ob) {d:Nat} (h:d<10):b8 Tryz.prog 4 (am o) (7+d*2+0)=some (.bool (ea o d).has):=
 match d,h with
 |0,_|1,_|2,_|3,_|4,_|5,_|6,_|7,_|8,_|9,_=>by kernel_rfl
 |n+10,h=>absurd h (by omega)
theorem Sm (o:Ob) {d:Nat} (h:d<10):b8 Tryz.prog 2 (am o) (7+d*2+1)=some (I (ea o d).t):=
 match d,h with
 |0,_|1,_|2,_|3,_|4,_|5,_|6,_|7,_|8,_|9,_=>by kernel_rfl
 |n+10,h=>absurd h (by omega)
theorem G4 (o:Ob) {d:Nat} (h:d<10):aL o (.dat d)=ey (ea o d).has (cr (aJ (.dat d)) 9 (ea o d).t):=
 match d,h with
 |0,_|1,_|2,_|3,_|4,_|5,_|6,_|7,_|8,_|9,_=>rfl
 |n+10,h=>absurd h (by omega)
theorem Sn {d i:Nat} (hd:d<10) (g0:kinds[i]? =some (.dat d)) {k:Nat} {es:List AV} (hc:ac es=true) (hl:es.length=k*7) (hk:k≤1000)
  (hn:ALp Tryz.prog opts0.glob 0 (aD Tryz.prog 133 17) (aZ [(5,.fsl true (kinds.map aN)),(6,I (.ofNat (i+1)))] (k+(aL o (.dat d)).length) (am o) (es++flat (aL o (.dat d)))).st Q):
  ALp Tryz.prog opts0.glob 0 (aD Tryz.prog 133 17) (aZ [(5,.fsl true (kinds.map aN)),(6,I (.ofNat i))] k (am o) es).st Q:=by
 have hO:=bH o
 have hT:=vl
 have hlt:i<20:=(List.getElem?_eq_some_iff.1 g0).1
 have g:aC Tryz.prog 150 (.fsl true (kinds.map aN)) (I (.ofNat i))=some (.fptr (rZ (aJ (.dat d)) (vb d) (vc d) (dg (.dat d)) (.ofNat d)) 0):=G3 g0
 have hr:=iq (aJ (.dat d)) 9 (ea o d).t
 have hp:=Sk hd
 have h1:=Sl o hd
 have h2:=Sm o hd
 rw[G4 o hd] at hn
 generalize ea o d=dd at hn hr h1 h2
 cases hh:dd.has with
 |true=>
  rw[hh] at hn h1
  have hn:ALp Tryz.prog opts0.glob 0 (aD Tryz.prog 133 17) (aZ [(5,.fsl true (kinds.map aN)),(6,I (.ofNat (i+1)))] (k+1) (am o) (es++flat [cr (aJ (.dat d)) 9 dd.t])).st Q:=hn
  have hc2:ac (es++flat [cr (aJ (.dat d)) 9 dd.t])=true:=by rw[dV,hc];rfl
  refine ALp.round (A:=ve (rZ (aJ (.dat d)) (vb d) (vc d) (dg (.dat d)) (.ofNat d)) (7+d*2) true dd.t) (V2:=aZ [(5,.fsl true (kinds.map aN)),(6,I (.ofNat (i+1)))] (k+1) (am o) (es++flat [cr (aJ (.dat d)) 9 dd.t])) (F:=aZ [(5,.fsl true (kinds.map aN)),(6,I (.ofNat i))] k (am o) es) (lk:=[(0,0),(1,1),(2,58)]) (lk':=[(0,0),(1,1),(2,2)]) base0 ao (LsOk.no rfl) .refl ?_
  unfold am at hO hn h1 h2⊢
  rw[R8,dG (by omega),vm]
  exact aj (fun _=>⟨g,g,hp,h1,g,g,hp,h2,aF (eL hr rfl (by omega)) (aF (eB hl) ⟨⟨⟨⟨rfl,hT⟩,⟨rfl,rfl⟩,trivial⟩,⟨⟨rfl,rfl⟩,⟨rfl,rfl⟩,trivial⟩,⟨rfl,hO⟩,⟨⟨rfl,rfl,rfl,rfl,rfl⟩,trivial⟩,⟨rfl,hc2⟩,trivial⟩,hn⟩)⟩) fun e=>absurd e (gR hlt)
 |false=>
  rw[hh,show ey false (cr (aJ (.dat d)) 9 dd.t)=[] from rfl,show flat ([]:List AV)=[] from rfl,List.append_nil,List.length_nil,Nat.add_zero] at hn
  rw[hh] at h1
  refine ALp.round (A:=ve (rZ (aJ (.dat d)) (vb d) (vc d) (dg (.dat d)) (.ofNat d)) (7+d*2) false dd.t) (V2:=aZ [(5,.fsl true (kinds.map aN)),(6,I (.ofNat (i+1)))] k (am o) es) (F:=aZ [(5,.fsl true (kinds.map aN)),(6,I (.ofNat i))] k (am o) es) (lk:=[(0,0),(1,1),(2,2)]) (lk':=[(0,0),(1,1),(2,2)]) base0 ao (LsOk.no rfl) .refl ?_
  unfold am at hO hn h1⊢
  rw[R9,dG (by omega),vm]
  exact aj (fun _=>⟨g,g,hp,h1,⟨⟨⟨rfl,hT⟩,⟨rfl,rfl⟩,trivial⟩,⟨⟨rfl,rfl⟩,⟨rfl,rfl⟩,trivial⟩,⟨rfl,hO⟩,⟨⟨rfl,rfl,rfl,rfl,rfl⟩,trivial⟩,⟨rfl,hc⟩,trivial⟩,hn⟩) fun e=>absurd e (gR hlt)
theorem pz {b:Bool} {x:AV}:(ey b x).length≤1:=by cases b<;>simp[ey]
def jw (o:Ob) (k:Nat):Nat→Nat
 |0=>k
 |d+1=>jw o k d+(aL o (.dat d)).length
def jx (o:Ob) (es:List AV):Nat→List AV
 |0=>es
 |d+1=>jx o es d++flat (aL o (.dat d))
theorem G5 {k:Nat} {es:List AV} (hc:ac es=true) (hl:es.length=k*7) (hk:k≤1000):∀d,d≤10→ac (jx o es d)=true∧(jx o es d).length=jw o k d*7∧jw o k d≤k+d
 |0,_=>⟨hc,hl,Nat.le_refl _⟩
 |d+1,h=>by
  obtain ⟨h1,h2,h3⟩:=G5 hc hl hk d (by omega)
  have h4:(aL o (.dat d)).length≤1:=by rw[G4 o (by omega)];exact pz
  refine ⟨?_, ?_, ?_⟩
  ·rw[jx,dV,h1,fV (eX _ _)];rfl
  ·rw[jx,List.length_append,h2,iW (eX _ _),jw,Nat.add_mul]
  ·rw[jw];omega
theorem So {k:Nat} {es:List AV} (hc:ac es=true) (hl:es.length=k*7) (hk:k≤900)
  (hq:Q (.exit 2) (aZ [(5,.fsl true (kinds.map aN)),(6,I 20)] (k+(aL o (.dat 0)).length+(aL o (.dat 1)).length+(aL o (.dat 2)).length+(aL o (.dat 3)).length+(aL o (.dat 4)).length+(aL o (.dat 5)).length+(aL o (.dat 6)).length+(aL o (.dat 7)).length+(aL o (.dat 8)).length+(aL o (.dat 9)).length) (am o) (es++flat (aL o (.dat 0))++flat (aL o (.dat 1))++flat (aL o (.dat 2))++flat (aL o (.dat 3))++flat (aL o (.dat 4))++flat (aL o (.dat 5))++flat (aL o (.dat 6))++flat (aL o (.dat 7))++flat (aL o (.dat 8))++flat (aL o (.dat 9)))).st):
  ALp Tryz.prog opts0.glob 0 (aD Tryz.prog 133 17) (aZ [(5,.fsl true (kinds.map aN)),(6,I 0)] k (am o) es).st Q:=by
 have hO:=bH o
 have hT:=vl
 have st:=G5 (o:=o) hc hl (by omega)
 have h20:ALp Tryz.prog opts0.glob 0 (aD Tryz.prog 133 17) (aZ [(5,.fsl true (kinds.map aN)),(6,I (.ofNat 20))] (jw o k 10) (am o) (jx o es 10)).st Q:=by
  have c10:=(st 10 (Nat.le_refl _)).1
  have hq:Q (.exit 2) (aZ [(5,.fsl true (kinds.map aN)),(6,I 20)] (jw o k 10) (am o) (jx o es 10)).st:=hq
  generalize jx o es 10=es' at hq c10⊢
  generalize jw o k 10=k' at hq⊢
  refine ALp.round (A:=zQ (bx .uid) false) (V2:=aZ [(5,.fsl true (kinds.map aN)),(6,I 0)] 0 (am o) []) (F:=aZ [(5,.fsl true (kinds.map aN)),(6,I (.ofNat 20))] k' (am o) es') (lk:=[(0,0),(1,1),(2,2)]) (lk':=[(0,0),(1,1),(2,2)]) base0 ao (LsOk.no rfl) .refl ?_
  unfold bx
  rw[show zM .uid= -1 from rfl]
  unfold am at hO hq⊢
  rw[GB,vm]
  exact aj (fun e=>by cases e) fun _=>⟨⟨⟨⟨rfl,hT⟩,⟨rfl,rfl⟩,trivial⟩,⟨⟨rfl,rfl⟩,⟨rfl,rfl⟩,trivial⟩,⟨rfl,hO⟩,⟨⟨rfl,rfl,rfl,rfl,rfl⟩,trivial⟩,⟨rfl,c10⟩,trivial⟩,hq⟩
 have c10:=(st 10 (Nat.le_refl _)).1
 have h19:=jv (i:=19) (o:=o) rfl rfl c10 h20
 have h18:=jv (i:=18) (o:=o) rfl rfl c10 h19
 have h17:=jv (i:=17) (o:=o) rfl rfl c10 h18
 have dn:∀d,d<10→kinds[d+7]? =some (.dat d)→ALp Tryz.prog opts0.glob 0 (aD Tryz.prog 133 17) (aZ [(5,.fsl true (kinds.map aN)),(6,I (.ofNat (d+7+1)))] (jw o k (d+1)) (am o) (jx o es (d+1))).st Q→ALp Tryz.prog opts0.glob 0 (aD Tryz.prog 133 17) (aZ [(5,.fsl true (kinds.map aN)),(6,I (.ofNat (d+7)))] (jw o k d) (am o) (jx o es d)).st Q:=fun d hd g h=>Sn hd g (st d (by omega)).1 (st d (by omega)).2.1 (by have:=(st d (by omega)).2.2;omega) h
 have h7:=dn 0 (by decide) rfl (dn 1 (by decide) rfl (dn 2 (by decide) rfl (dn 3 (by decide) rfl (dn 4 (by decide) rfl (dn 5 (by decide) rfl (dn 6 (by decide) rfl (dn 7 (by decide) rfl (dn 8 (by decide) rfl (dn 9 (by decide) rfl h17)))))))))
 have h6:=jv (i:=6) (o:=o) rfl rfl hc h7
 have h5:=jv (i:=5) (o:=o) rfl rfl hc h6
 have h4:=jv (i:=4) (o:=o) rfl rfl hc h5
 have h3:=jv (i:=3) (o:=o) rfl rfl hc h4
 have h2:=jv (i:=2) (o:=o) rfl rfl hc h3
 have h1:=jv (i:=1) (o:=o) rfl rfl hc h2
 have h0:=jv (i:=0) (o:=o) rfl rfl hc h1
 exact h0
end
end Go.Proofs.YtmnlofhodbnenaaGreatDoor
