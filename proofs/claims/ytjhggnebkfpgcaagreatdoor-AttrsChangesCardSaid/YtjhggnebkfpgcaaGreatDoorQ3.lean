import Derived.Test.YtjhggnebkfpgcaaGreatDoorQ2
import Derived.KernelRfl
import Derived.Test.YtjhggnebkfpgcaaGreatDoorG5
import Derived.Test.YtjhggnebkfpgcaaGreatDoorQ1
namespace Go.Proofs.YtjhggnebkfpgcaaGreatDoor
set_option maxRecDepth 20000
open Go Go.RowKit _root_.Go.Proofs.Tryz
open Go.Proofs.Abs
def kp:Dt:=⟨false,0⟩
def zO:Ob:=⟨[],0,0,0,0,[],0,kp,kp,kp,kp,kp,kp,kp,kp,kp,kp,0,[],[],[],[],false,0,0,0,false⟩
def cJ (p:Ob × Int):AV:= .tuple [au p.1,I p.2]
theorem Ss (p:Ob × Int):ag (cJ p)=true:=by
 have:=bX p.1;simp only[cJ,au,ag,ae,this,Bool.and_self]
theorem Hb (r:Int):Wk (.tuple [.agg (aa zO .nilsl .nilsl .nilsl .nilsl),I r]) (cJ (zO,r)):=by
 refine .tuple (.cons (.agg ?_) (.refl _));simp only[ax,aa,b7,bR,bS,bD]
 (repeat (first|exact Wk.refl _|exact WkL.refl _|exact Wk.nil|exact Wk.row|exact WkE.refl _|exact WkL.nil|exact WkE.nil|apply Wk.agg|apply Wk.tuple|apply WkL.cons|apply Wk.rows|apply WkE.consA))
theorem bd (r:Int):gB (cJ (zO,r)) (.tuple [.agg (aa zO .nilsl .nilsl .nilsl .nilsl),I r]):=⟨rfl,Hb r⟩
theorem gm (o:Ob) (r:Int):gB (cJ (o,r)) (.tuple [.agg (ax o),I r]):=kj (Ss (o,r))
theorem cT (s:List UInt8) (i t y n:Int) (d:List UInt8) (ks:List It):aK ⟨s,i,.mk t y n d ks⟩= .agg (.str s::I i::am t y n (ak d) (ap ks)):=rfl
def eg (o:Ob) (k:Kd) (j:Nat) (v:It):Ob × Int:=match gk (b9 o j v k) with
 |true=>(b9 o j v k,0)
 |false=>(zO,7)
theorem tG {k:Kd} (h:dR k=true):qz k=true:=by cases k<;>first|rfl|cases h
theorem wn {k:Kd} (h:dR k=true):lJ k=true:=by
 cases k with
 |dat k=>
  simp only[dR,lz,Bool.and_eq_true,Nat.ble_eq] at h;exact blt_iff.2 (by omega)
 |_=>rfl
theorem Su {k:Kd} (h:qz k=true):eb k=cR (e9 k) (f6 k) (f9 k) (gd k) (g7 k) (fP k) (cM (AW k) (AX k)) (fD k) (eL k):=by rw[lK,RE h]
theorem A0 {k:Kd} (hk:dR k=true) {o:Ob} (ho:cI o) {s:List UInt8} {j:Nat} (hj:m4 o j k) {v:It} (hv:eA o v k=true):SC 73 [.agg (eb k),au o,aK ⟨s,.ofNat j,v⟩] (cJ (eg o k j v)):=by
 have hp:=RU hk ho hj hv;have hs:=Si (b9 o j v k);have hc:=G7 ho;have hcl:=wm k o (c:=[aK ⟨s,.ofNat j,v⟩]) (by simp[ae,fZ]);simp only[eg];revert hp hs;generalize b9 o j v k=o';intro hp hs;obtain ⟨t,y,n,d,ks⟩:=v;rw[Su (tG hk),cT] at hcl⊢;refine bG (A:=aB [] [] (GH (ax o) (ax o') (gk o')) [] []) base0 ar (aG (LsOk.no rfl)) hcl ?_;simp only[iT,nI,bJ] at hp;simp only[au] at hc hs⊢;have h:=fq o;have h':=fq o';simp only[ax] at hp hc hs h h'⊢;rw[P0];refine ⟨hc,aD h ⟨hp,hs,ai (fun e=> ?_) (fun e=>aD h' ?_)⟩⟩
 ·rw[Bool.not_eq_true'] at e;rw[e];exact bd 7
 ·rw[Bool.not_eq_false'] at e;rw[e];exact gm o' 0
def jm (o:Ob):Kd→Bool
 | .nam=>Nat.blt o.names.length 6
 | .lnk=>Nat.blt o.links.length 8
 | .cus _=>Nat.blt o.cust.length 6
 |_=>true
def Hc:Kd→Nat
 | .nam=>165
 | .lnk=>177
 |_=>149
theorem Sv {k:Kd} (h:ci k=true):eL k=bK (Hc k):=by cases k<;>first|rfl|cases h
theorem Sw {k:Kd} (h:ci k=false):eL k= .nilFunc:=by cases k<;>first|rfl|cases h
theorem Sx {k:Kd} (h:ci k=true) (o:Ob):SC (Hc k) [au o] (.bool (jm o k)):=by
 cases k with
 |nam=>exact Sc o
 |lnk=>exact Sd o
 |cus s=>exact Se o
 |_=>cases h
def fR (o:Ob) (k:Kd) (a:At):Ob × Int:=
 match ao a.idx (match ci k with|true=> .ofNat (dk o k)|false=>0) with
 |false=>(zO,14)
 | true=>match !ci k&&ay 0 (.ofNat (dk o k)) with
  |true=>(zO,11)
  | false=>match eA o a.v k with
   |false=>(zO,7)
   | true=>match jm o k with
    |false=>(zO,12)
    |true=>match jP o k a.v (-1) with
     |true=>(zO,11)
     |false=>eg o k (match ci k with|true=>dk o k|false=>0) a.v
theorem Sy {k:Kd} (h:qz k=true):eb k=cR (e9 k) (f6 k) (f9 k) (gd k) (g7 k) (cM (tB k) (tC k)) (fm k) (fD k) (eL k):=by rw[lK,GT h]
theorem He {k:Kd} {o:Ob} (hm:ci k=true) (hr:jm o k=true):m4 o (dk o k) k:=by
 cases k with
 | nam=>
  have h:=blt_iff.1 hr;have:dk o .nam=o.names.length:=by
   simp only[dk,aA,ci,ir];cases hn:o.names with
   |nil=>rfl
   |cons a r=>cases r<;>simp[oY]
  exact ⟨by omega,by omega⟩
 | lnk=>
  have h:=blt_iff.1 hr;have:dk o .lnk=o.links.length:=by
   simp only[dk,aA,ci,ir];cases hn:o.links with
   |nil=>rfl
   |cons a r=>cases r<;>simp[oY]
  exact ⟨by omega,by omega⟩
 |cus s=>
  have h:=blt_iff.1 hr;have hl:=qD o s;refine .inr ⟨?_,h⟩;rw[←hl];simp only[dk,ci,ir]
  match aA o (.cus s) with
  |[]=>rfl
  |[_]=>rfl
  |_::_::_=>rfl
 |_=>cases hm
theorem Hf {k:Kd} {o:Ob} (hm:ci k=false) (j:Nat):m4 o j k:=by cases k<;>first|trivial|cases hm
theorem Sz {k:Kd} (hk:dR k=true) {o:Ob} (ho:cI o) (hg:jQ o k) {a:At} (ha:cY a.v):SC 62 [.agg (eb k),au o,aK a] (cJ (fR o k a)):=by
 have h1:=Sp (wn hk) ho;have h2:=GU (tG hk) o a.v ha;have h3:=Ha (wn hk) ho hg a.v (-1);have hcl:=wm k o (c:=[aK a]) (by simp[ae,fZ]);have hlaid:eA o a.v k=true→jm o k=true→ao a.idx (match ci k with|true=> .ofNat (dk o k)|false=>0)=true→SC 73 [.agg (eb k),au o,aK a] (cJ (eg o k (match ci k with|true=>dk o k|false=>0) a.v)):=fun e1 e2 e3=>by
  rw[beqInt_iff] at e3;obtain ⟨s,i,v⟩:=a;simp only at e3;cases hm:ci k with
  |true=>
   rw[hm] at e3;subst e3;exact A0 hk ho (He hm e2) e1
  |false=>
   rw[hm] at e3;subst e3;exact A0 hk ho (Hf hm 0) e1
 obtain ⟨s,i,v⟩:=a;simp only[fR] at hlaid h2 h3⊢;revert hlaid;generalize eg o k (match ci k with|true=>dk o k|false=>0) v=la
 obtain ⟨o',e'⟩:=la;intro hlaid;obtain ⟨t,y,n,d,ks⟩:=v;rw[Sy (tG hk)] at hcl h1 h3 hlaid⊢;rw[cT] at hcl hlaid⊢;rw[bJ] at h2 h3;have hf':=fq o';have hro:= @Sx k;have hro1:= @Sv k;have hro0:= @Sw k;have hmd:(e9 k).many=ci k:=rfl;revert h1 h2 h3 hlaid hro;generalize eA o (.mk t y n d ks) k=right;generalize dk o k=th;generalize jP o k (.mk t y n d ks) (-1)=twice;intro h1 h2 h3 hlaid hro;cases hm:ci k with
 | true=>
  have hr:=hro hm o;rw[hm] at hmd;rw[hro1 hm] at hcl h1 h3 hlaid⊢;simp only[hm] at hlaid⊢;revert hr hlaid;generalize jm o k=room;intro hr hlaid;refine bG (A:=aB [] [] (vX (.ofNat th) right room twice (.tuple [.agg (ax o'),I e'])) [70] []) base0 ar (aG (LsOk.no rfl)) hcl ?_;simp only[cJ,au] at h1 h2 h3 hlaid hr;simp only[au];simp only[ax] at h1 h2 h3 hlaid hr hf'⊢;rw[P2];refine ⟨h1, ?_⟩;refine ai (fun e=>by rw[hmd] at e;cases e) (fun _=> ?_);refine ai (fun e=>by rw[hmd] at e;cases e) (fun _=> ?_);refine ⟨h2,hr,h3,ai (fun e=> ?_) (fun e=>ai (fun e2=> ?_) (fun e2=>ai (fun e3=> ?_) (fun e3=>ai (fun e4=> ?_) (fun e4=> ?_))))⟩
  ·rw[Bool.not_eq_true'] at e;rw[e];exact bd 14
  ·rw[Bool.not_eq_false'] at e;rw[Bool.not_eq_true'] at e2;rw[e,e2];exact bd 7
  ·rw[Bool.not_eq_false'] at e e2;rw[Bool.not_eq_true'] at e3;rw[e,e2,e3];exact bd 12
  ·rw[Bool.not_eq_false'] at e e2 e3;rw[e,e2,e3,e4];exact bd 11
  ·rw[Bool.not_eq_false'] at e e2 e3;rw[e,e2,e3,e4];exact ⟨hlaid e2 e3 e,aD hf' (gm o' e')⟩
 | false=>
  rw[hm] at hmd;have hroo:jm o k=true:=by cases k<;>first|rfl|cases hm
  rw[hro0 hm] at hcl h1 h3 hlaid⊢;simp only[hm,hroo] at hlaid⊢;refine bG (A:=aB [] [] (vX (.ofNat th) right true twice (.tuple [.agg (ax o'),I e'])) [70] []) base0 ar (aG (LsOk.no rfl)) hcl ?_;simp only[cJ,au] at h1 h2 h3 hlaid;simp only[au];simp only[ax] at h1 h2 h3 hlaid hf'⊢;rw[P3];refine ⟨h1, ?_⟩;refine ai (fun _=> ?_) (fun e=>by rw[hmd] at e;cases e);refine ai (fun _=> ?_) (fun e=>by rw[hmd] at e;cases e);refine ⟨h2,h3,ai (fun e=> ?_) (fun e=>ai (fun e1=> ?_) (fun e1=>ai (fun e2=> ?_) (fun e2=>ai (fun e4=> ?_) (fun e4=> ?_))))⟩
  ·rw[Bool.not_eq_true'] at e;rw[e];exact bd 14
  ·rw[Bool.not_eq_false'] at e;rw[e];simp only[e1,Bool.not_false,Bool.and_true];exact bd 11
  ·rw[Bool.not_eq_false'] at e;rw[Bool.not_eq_true'] at e2;rw[e,e2];simp only[e1,Bool.and_false];exact bd 7
  ·rw[Bool.not_eq_false'] at e e2;rw[e,e2,e4];simp only[e1,Bool.and_false];exact bd 11
  ·rw[Bool.not_eq_false'] at e e2;rw[e,e2,e4];simp only[e1,Bool.and_false];exact ⟨hlaid e2 trivial e,aD hf' (gm o' e')⟩
theorem A4 (k:Kd):km (some k)=iS (eb k):=rfl
theorem A5 (k:Kd):aY prog 89 (.agg (eb k)) 12=true:=by
 have h:bq (eb k)=true:=by
  cases k with
  |dat k=>
   have h1:(mQ k).one=true:=by unfold mQ;split<;>rfl
   have h2:(oR k).one=true:=by unfold oR;split<;>rfl
   simp only[eb,bq,f6,f9,gd,h1,h2,g7,fP,fm,fD,eL,bK,cM,Fx,Fw,Fy,Bool.true_and,Bool.and_true];rfl
  |_=>rfl
 exact Af Sk rfl h
theorem wo (o:Ob) (a:At) {c:List AV} (h:ae c=true):ae (au o::aK a::c)=true:=cS o (by rw[ae,fZ,h];rfl)
inductive Wh where
 |nil|alw|young|used|full
def m6:Wh→AV
 | .nil=> .nilFunc
 | .alw=>alw
 | .young=>vJ
 | .used=>Aq
 | .full=>bK 189
def m7:Wh→Nat
 | .young=>125
 | .used=>137
 | .full=>189
 |_=>158
def dl:Wh→Bool
 | .nil=>false
 |_=>true
def dz (o:Ob):Wh→Bool
 | .young=>ao o.st 1
 | .used=>ao o.st 1||ao o.st 2
 | .full=>ao o.lc o.lt
 |_=>true
theorem A6 {w:Wh} (h:dl w=true):m6 w=bK (m7 w):=by cases w<;>first|rfl|cases h
theorem A7 {w:Wh} (h:dl w=true) (o:Ob):SC (m7 w) [au o] (.bool (dz o w)):=by
 cases w with
 |nil=>cases h
 |alw=>exact R8 o
 |young=>exact R9 o
 |used=>exact Sa o
 |full=>exact Sb o
def qF:Nat→Wh
 |1|2=> .young
 |3|4=> .used
 |_=> .nil
def gJ:Kd→Wh
 | .nam| .lnk| .cus _| .lim=> .alw
 | .dat k=>qF k
 |_=> .nil
def eh:Kd→Wh
 | .nam| .lnk| .cus _=> .alw
 | .mask=> .young
 | .lim=> .full
 | .dat k=>qF k
 |_=> .nil
def wq:Nat→Wh
 |2=> .young
 |3=> .used
 |_=> .nil
def dm:Kd→Wh
 | .nam| .lnk| .cus _=> .alw
 | .lim=> .full
 | .dat k=>wq k
 |_=> .nil
theorem Hg (k:Nat):mQ k=m6 (qF k):=by unfold mQ qF;split<;>simp_all [m6]
theorem SA (k:Nat):oR k=m6 (wq k):=by unfold oR wq;split<;>simp_all [m6]
theorem Hh (k:Kd):f6 k=m6 (gJ k):=by cases k<;>first|rfl|exact Hg _
theorem Hi (k:Kd):f9 k=m6 (eh k):=by cases k<;>first|rfl|exact Hg _
theorem Hj (k:Kd):gd k=m6 (dm k):=by cases k<;>first|rfl|exact SA _
theorem Hk {k:Nat} (h:dl (qF k)=true):lz k=true:=by
 unfold qF at h;split at h<;>first|rfl|cases h
theorem Hl {k:Kd} (h:dl (gJ k)=true):dR k=true:=by cases k<;>first|rfl|cases h|exact Hk h
theorem A8 {k:Kd} (h:dl (eh k)=true):dR k=true:=by cases k<;>first|rfl|cases h|exact Hk h
theorem Hm {k:Kd} (h:dl (dm k)=true):qC k=true:=by
 cases k with
 |dat k=>
  simp only[dm] at h;unfold wq at h;split at h<;>first|rfl|cases h
 |_=>first|rfl|cases h
theorem SB {k:Kd} (h:qC k=true):lJ k=true:=by
 cases k with
 |dat k=>
  simp only[qC,Bool.or_eq_true] at h;rcases h with h|h<;>(obtain rfl:=beq_iff.1 h;rfl)
 |_=>first|rfl|cases h
def gn (p:Ob × Int) (now:Int):Ob × Int:=match ao p.2 0 with
 |false=>(zO,p.2)
 |true=>({p.1 with d9:=⟨true,now⟩},0)
def hZ (c:Bool) (o:Ob) (a:At) (now:Int):Ob × Int:=match ec c a.name with
 |none=>(zO,7)
 | some k=>match dl (gJ k) with
  |false=>(zO,7)
  | true=>match o.arch with
   |true=>(zO,13)
   |false=>match dz o (gJ k) with
    |false=>(zO,11)
    |true=>gn (fR o k a) now
theorem SD {k:Kd} (h:dl (gJ k)=true):eb k=cR (e9 k) (bK (m7 (gJ k))) (f9 k) (gd k) (g7 k) (fP k) (fm k) (fD k) (eL k):=by rw[lK,Hh,A6 h]
theorem SE {k:Kd} (h:dl (gJ k)=false):eb k=cR (e9 k) .nilFunc (f9 k) (gd k) (g7 k) (fP k) (fm k) (fD k) (eL k):=by
 have:gJ k= .nil:=by cases hw:gJ k<;>rw[hw] at h<;>first|rfl|cases h
 rw[lK,Hh,this];rfl
theorem SF {c:Bool} {o:Ob} (ho:cI o) {a:At} {now:Int} (hc:SC 111 [.str a.name] (.bool c)) (hg:∀k,jQ o k) (ha:cY a.v):SC 24 [au o,aK a,I now] (cJ (hZ c o a now)):=by
 have hf:=As hc;have hcl:=wo o a (c:=[I now]) rfl;simp only[hZ];revert hf;cases hk:ec c a.name with
 |none=>
  intro hf;obtain ⟨s,i,⟨t,y,n,d,ks⟩⟩:=a;rw[cT] at hcl⊢;refine bG (A:=aB [] [] (iu (km none) .nilsl true) [] []) base0 ar (aG (LsOk.no rfl)) hcl ?_;simp only[au,ax];rw[P4];exact ⟨hf,bd 7⟩
 | some k=>
  intro hf
  dsimp only
  rw[A4] at hf;have hfr:=A5 k;cases hw:dl (gJ k) with
  |false=>
   obtain ⟨s,i,⟨t,y,n,d,ks⟩⟩:=a;rw[cT] at hcl⊢;rw[SE hw] at hf hfr;refine bG (A:=aB [] [] (iu (iS (cR (e9 k) .nilFunc (f9 k) (gd k) (g7 k) (fP k) (fm k) (fD k) (eL k))) .nilsl true) [] []) base0 ar (aG (LsOk.no rfl)) hcl ?_;simp only[au,ax];rw[P5];exact ⟨hf,aD hfr (bd 7)⟩
  | true=>
   have hm:=Sz (Hl hw) ho (hg k) ha;have hwh:=A7 hw o;obtain ⟨s,i,⟨t,y,n,d,ks⟩⟩:=a;revert hm;generalize fR o k ⟨s,i,.mk t y n d ks⟩=la;obtain ⟨o',e'⟩:=la;intro hm;have hf':=fq o';have hf2:=fq {o' with d9:=⟨true,now⟩};rw[cT] at hcl hm⊢;rw[SD hw] at hf hm hfr;simp only at hf;simp only[gn];revert hwh;generalize dz o (gJ k)=may;intro hwh;refine bG (A:=aB [] [] (iu (iS (cR (e9 k) (bK (m7 (gJ k))) (f9 k) (gd k) (g7 k) (fP k) (fm k) (fD k) (eL k))) (.tuple [.agg (ax o'),I e']) may) [70,71] []) base0 ar (aG (LsOk.no rfl)) hcl ?_;simp only[cJ,au] at hm hwh;simp only[au];simp only[ax] at hm hf' hf2 hwh⊢;rw[P6];refine ⟨hf,aD hfr ⟨hwh,ai (fun e=> ?_) (fun e=>ai (fun e2=> ?_) (fun e2=>⟨hm,aD hf' (ai (fun e3=> ?_) (fun e3=>aD hf2 (aD hf2 ?_)))⟩))⟩⟩
   ·rw[e];(try dsimp only);exact bd 13
   ·rw[Bool.not_eq_true'] at e2;rw[e,e2];(try dsimp only);exact bd 11
   ·rw[Bool.not_eq_false'] at e2;rw[Bool.not_eq_true'] at e3;rw[e,e2,e3];(try dsimp only);exact bd e'
   ·rw[Bool.not_eq_false'] at e2 e3;rw[e,e2,e3]
    try dsimp only
    exact gm {o' with d9:=⟨true,now⟩} 0
def ia (c:Bool) (o:Ob) (a:At) (now:Int):Ob × Int:=match ec c a.name with
 |none=>(zO,7)
 | some k=>match dl (eh k) with
  |false=>(zO,7)
  | true=>match o.arch with
   |true=>(zO,13)
   | false=>match ay a.idx 0|| !ay a.idx (.ofNat (aA o k).length) with
    |true=>(zO,1)
    | false=>match dz o (eh k) with
     |false=>(zO,11)
     | true=>match eA o a.v k with
      |false=>(zO,7)
      |true=>match jP o k a.v a.idx with
       |true=>(zO,11)
       |false=>gn (eg o k a.idx.toNat a.v) now
theorem SG {k:Kd} (h:dl (eh k)=true):eb k=cR (e9 k) (f6 k) (bK (m7 (eh k))) (gd k) (cM (mX k) (mY k)) (cM (tB k) (tC k)) (fm k) (fD k) (eL k):=by rw[lK,Hi,A6 h,AM,GT (tG (A8 h))]
theorem SH {k:Kd} (h:dl (eh k)=false):eb k=cR (e9 k) (f6 k) .nilFunc (gd k) (g7 k) (fP k) (fm k) (fD k) (eL k):=by
 have:eh k= .nil:=by cases hw:eh k<;>rw[hw] at h<;>first|rfl|cases h
 rw[lK,Hi,this];rfl
theorem Hn {k:Kd} {o:Ob} (ho:cI o) {j:Nat} (h:j<(aA o k).length):m4 o j k:=by
 cases k with
 |nam=>
  have h:j<o.names.length:=by simpa [aA] using h
  have:=ho.n;exact ⟨by omega,by omega⟩
 |lnk=>
  have h:j<o.links.length:=by simpa [aA] using h
  have:=ho.l;exact ⟨by omega,by omega⟩
 |cus s=>rw[qD] at h;exact .inl h
 |_=>trivial
theorem SI {c:Bool} {o:Ob} (ho:cI o) {a:At} {now:Int} (hc:SC 111 [.str a.name] (.bool c)) (hg:∀k,jQ o k) (ha:cY a.v):SC 25 [au o,aK a,I now] (cJ (ia c o a now)):=by
 have hf:=As hc;have hcl:=wo o a (c:=[I now]) rfl;simp only[ia];revert hf;cases hk:ec c a.name with
 |none=>
  intro hf;obtain ⟨s,i,⟨t,y,n,d,ks⟩⟩:=a;rw[cT] at hcl⊢;refine bG (A:=aB [] [] (iu (km none) .nilsl true) [] []) base0 ar (aG (LsOk.no rfl)) hcl ?_;simp only[au,ax];rw[P7];exact ⟨hf,bd 7⟩
 | some k=>
  intro hf
  dsimp only
  rw[A4] at hf;have hfr:=A5 k;cases hw:dl (eh k) with
  |false=>
   obtain ⟨s,i,⟨t,y,n,d,ks⟩⟩:=a;rw[cT] at hcl⊢;rw[SH hw] at hf hfr;refine bG (A:=aB [] [] (iu (iS (cR (e9 k) (f6 k) .nilFunc (gd k) (g7 k) (fP k) (fm k) (fD k) (eL k))) .nilsl true) [] []) base0 ar (aG (LsOk.no rfl)) hcl ?_;simp only[au,ax];rw[P8];exact ⟨hf,aD hfr (bd 7)⟩
  | true=>
   dsimp only
   have hsk:=A8 hw;have hge:=wl (wn hsk) ho;have hri:=GU (tG hsk) o a.v ha;have htw:=Ha (wn hsk) ho (hg k) a.v a.idx;have hm:ay a.idx 0=false→ay a.idx (.ofNat (aA o k).length)=true→eA o a.v k=true→SC 73 [.agg (eb k),au o,aK a] (cJ (eg o k a.idx.toNat a.v)):=fun h1 h2 h3=>by
    have h1:=ltInt_false.1 h1;have h2:=ltInt_iff.1 h2;obtain ⟨s,i,v⟩:=a;simp only[bh] at h1 h2;have:=A0 (s:=s) hsk ho (Hn ho (k:=k) (j:=i.toNat) (by omega)) h3;rw[show (Int.ofNat i.toNat:Int)=i from by simp only[bh];omega] at this
    exact this
   have hwh:=A7 hw o;have hlen:ab (ap (aA o k))=(aA o k).length:=by rw[aM,fO]
   obtain ⟨s,i,⟨t,y,n,d,ks⟩⟩:=a;simp only at hm hri htw⊢;revert hm;generalize eg o k i.toNat (.mk t y n d ks)=la;obtain ⟨o',e'⟩:=la;intro hm;have hf':=fq o';have hf2:=fq {o' with d9:=⟨true,now⟩};rw[cT] at hcl hm⊢;rw[SG hw] at hf hm hfr htw;rw[bJ] at hri htw;simp only at hf;simp only[gn];revert hwh hri htw hm;generalize dz o (eh k)=may;generalize eA o (.mk t y n d ks) k=right;generalize jP o k (.mk t y n d ks) i=twice;intro hwh hri htw hm;refine bG (A:=aB [] [] (GJ (iS (cR (e9 k) (f6 k) (bK (m7 (eh k))) (gd k) (cM (mX k) (mY k)) (cM (tB k) (tC k)) (fm k) (fD k) (eL k))) (.tuple [.agg (ax o'),I e']) (ap (aA o k)) right may twice) [70,71] []) base0 ar (aG (LsOk.no rfl)) hcl ?_;simp only[cJ,au] at hm hwh hge hri htw;simp only[au];simp only[ax] at hm hf' hf2 hwh hge hri htw⊢;rw[P9,hlen];refine ⟨hf,aD hfr ⟨hge,ai (fun e0=>⟨hwh,hri,htw,ai (fun e=> ?_) (fun e=> ?_)⟩) (fun e0=>⟨hwh,hri,htw,ai (fun e=> ?_) (fun e=>ai (fun e1=> ?_) (fun e1=>ai (fun e2=> ?_) (fun e2=>ai (fun e3=> ?_) (fun e3=>ai (fun e4=> ?_) (fun e4=>⟨hm e0 ?_ ?_,aD hf' (ai (fun e5=> ?_) (fun e5=>aD hf2 (aD hf2 ?_)))⟩)))))⟩)⟩⟩
   ·rw[e];(try dsimp only);exact bd 13
   ·rw[e,e0];(try simp only[Bool.true_or]);exact bd 1
   ·rw[e];(try dsimp only);exact bd 13
   ·rw[e,e0,e1];(try simp only[Bool.or_true]);exact bd 1
   ·rw[Bool.not_eq_true'] at e2;rw[Bool.not_eq_false'] at e1;rw[e,e0,e1,e2];(try dsimp only);exact bd 11
   ·rw[Bool.not_eq_false'] at e2;rw[Bool.not_eq_true'] at e3;rw[Bool.not_eq_false'] at e1;rw[e,e0,e1,e2,e3];(try dsimp only);exact bd 7
   ·rw[Bool.not_eq_false'] at e2 e3;rw[Bool.not_eq_false'] at e1;rw[e,e0,e1,e2,e3,e4];(try dsimp only);exact bd 11
   ·rw[Bool.not_eq_false'] at e1;exact e1
   ·rw[Bool.not_eq_false'] at e3;exact e3
   ·rw[Bool.not_eq_false'] at e2 e3;rw[Bool.not_eq_true'] at e5;rw[Bool.not_eq_false'] at e1;rw[e,e0,e1,e2,e3,e4,e5];(try dsimp only);exact bd e'
   ·rw[Bool.not_eq_false'] at e2 e3 e5;rw[Bool.not_eq_false'] at e1;rw[e,e0,e1,e2,e3,e4,e5]
    try dsimp only
    exact gm {o' with d9:=⟨true,now⟩} 0
def jR (c:Bool) (o:Ob) (s:List UInt8) (i:Int) (now:Int):Ob × Int:=match ec c s with
 |none=>(zO,7)
 | some k=>match dl (dm k) with
  |false=>(zO,7)
  | true=>match o.arch with
   |true=>(zO,13)
   | false=>match ay i 0|| !ay i (.ofNat (aA o k).length) with
    |true=>(zO,1)
    |false=>match dz o (dm k) with
     |false=>(zO,11)
     |true=>({dj o i.toNat k with d9:=⟨true,now⟩},0)
theorem SJ {k:Kd} (h:dl (dm k)=true):eb k=cR (e9 k) (f6 k) (f9 k) (bK (m7 (dm k))) (cM (mX k) (mY k)) (fP k) (fm k) (cM (tE k) (tF k)) (eL k):=by rw[lK,Hj,A6 h,AM,RF (Hm h)]
theorem SK {k:Kd} (h:dl (dm k)=false):eb k=cR (e9 k) (f6 k) (f9 k) .nilFunc (g7 k) (fP k) (fm k) (fD k) (eL k):=by
 have:dm k= .nil:=by cases hw:dm k<;>rw[hw] at h<;>first|rfl|cases h
 rw[lK,Hj,this];rfl
theorem SL {c:Bool} {o:Ob} (ho:cI o) {s:List UInt8} {i now:Int} (hc:SC 111 [.str s] (.bool c)):SC 30 [au o,.str s,I i,I now] (cJ (jR c o s i now)):=by
 have hf:=As hc;have hcl:=cS o (c:=[.str s,I i,I now]) rfl;simp only[jR];revert hf;cases hk:ec c s with
 |none=>
  intro hf;refine bG (A:=aB [] [] (iu (km none) .nilsl true) [] []) base0 ar (aG (LsOk.no rfl)) hcl ?_;simp only[au,ax];rw[Qa];exact ⟨hf,bd 7⟩
 | some k=>
  intro hf
  dsimp only
  rw[A4] at hf;have hfr:=A5 k;cases hw:dl (dm k) with
  |false=>
   rw[SK hw] at hf hfr;refine bG (A:=aB [] [] (iu (iS (cR (e9 k) (f6 k) (f9 k) .nilFunc (g7 k) (fP k) (fm k) (fD k) (eL k))) .nilsl true) [] []) base0 ar (aG (LsOk.no rfl)) hcl ?_;simp only[au,ax];rw[Qb];exact ⟨hf,aD hfr (bd 7)⟩
  | true=>
   dsimp only
   have hdk:=Hm hw;have hge:=wl (SB hdk) ho;have hwh:=A7 hw o;have hcp:=G7 ho;have hlen:ab (ap (aA o k))=(aA o k).length:=by rw[aM,fO]
   have hdr:ay i 0=false→ay i (.ofNat (aA o k).length)=true→dw prog opts0.glob (tE k) (.ptr 0 0::I i::tF k) [(0,some (.cells (ax o)))] 86 (.tuple []) [(0,some (.cells (ax (dj o i.toNat k))))] 186:=fun h1 h2=>by
    have h1:=ltInt_false.1 h1;have h2:=ltInt_iff.1 h2;simp only[bh] at h1 h2;have:=R7 hdk ho (j:=i.toNat) (by omega);simp only[m5,nI] at this;rw[show (Int.ofNat i.toNat:Int)=i from by simp only[bh];omega] at this
    exact this
   have hfo:=fq o;revert hdr;generalize dj o i.toNat k=o';intro hdr;have hf':=fq o';have hf2:=fq {o' with d9:=⟨true,now⟩};rw[SJ hw] at hf hfr;revert hwh;generalize dz o (dm k)=may;intro hwh;refine bG (A:=aB [] [] (GK (iS (cR (e9 k) (f6 k) (f9 k) (bK (m7 (dm k))) (cM (mX k) (mY k)) (fP k) (fm k) (cM (tE k) (tF k)) (eL k))) (ap (aA o k)) may (ax o) (ax o')) [70,71] []) base0 ar (aG (LsOk.no rfl)) hcl ?_;simp only[au] at hwh hge hcp;simp only[au];simp only[ax] at hdr hf' hf2 hwh hge hcp hfo⊢;rw[Qc,hlen];refine ⟨hf,aD hfr ⟨hge,ai (fun e0=>⟨hwh,ai (fun e=> ?_) (fun e=> ?_)⟩) (fun e0=>⟨hwh,ai (fun e=> ?_) (fun e=>ai (fun e1=> ?_) (fun e1=>ai (fun e2=> ?_) (fun e2=>⟨hcp,aD hfo ⟨hdr e0 ?_,aD hf' (aD hf2 (aD hf2 ?_))⟩⟩)))⟩)⟩⟩
   ·rw[e];(try dsimp only);exact bd 13
   ·rw[e,e0];(try simp only[Bool.true_or]);exact bd 1
   ·rw[e];(try dsimp only);exact bd 13
   ·rw[e,e0,e1];(try simp only[Bool.or_true]);exact bd 1
   ·rw[Bool.not_eq_true'] at e2;rw[Bool.not_eq_false'] at e1;rw[e,e0,e1,e2];(try dsimp only);exact bd 11
   ·rw[Bool.not_eq_false'] at e1;exact e1
   ·rw[Bool.not_eq_false'] at e2;rw[Bool.not_eq_false'] at e1;rw[e,e0,e1,e2]
    try dsimp only
    exact gm {o' with d9:=⟨true,now⟩} 0
def bo (s:List UInt8):List It→Nat→List At
 |[],_=>[]
 |v::r,i=>⟨s,.ofNat i,v⟩::bo s r (i+1)
theorem gK (s:List UInt8):∀ (l:List It) (i:Nat),(bo s l i).length=l.length
 |[],_=>rfl
 |_::r,i=>congrArg (· +1) (gK s r (i+1))
theorem pP:∀l:List At,(flat (l.map aK)).length=l.length*7
 |[]=>rfl
 |⟨_,_,⟨_,_,_,_,_⟩⟩::r=>by
  have ih:=pP r;rw[lConQ,Nat.succ_mul,←ih];rfl
theorem oZ:∀l:List At,ae (l.map aK)=true
 |[]=>rfl
 |a::r=>by rw[List.map_cons,ae,fZ,oZ r];rfl
theorem tH:∀l:List At,ae (flat (l.map aK))=true
 |[]=>rfl
 |a::r=>by
  have h:=fZ a;rw[List.map_cons,flat,ez,tH r,Bool.and_true];exact h
theorem SM (a:At):eH 7 (aK a):=by
 obtain ⟨s,i,⟨t,y,n,d,ks⟩⟩:=a;exact rflTwoQ
section
variable {h:eZ} {a m re g r p d ro:AV} {l:List It}
end
theorem wr {s:List UInt8}:∀ {l:List Kd} {k:Kd},g8 s l=some k→k∈l∧aC k=s
 |[],_,h=>by cases h
 | a::r,k,h=>by
  simp only[g8] at h;split at h
  ·rename_i e;cases h;exact ⟨by simp,beqBytes_iff.1 e⟩
  ·obtain ⟨h1,h2⟩:=wr h;exact ⟨by simp[h1],h2⟩
theorem A9 {c:Bool} {s:List UInt8} {k:Kd} (h:ec c s=some k):lJ k=true∧aC k=s:=by
 unfold ec at h;split at h
 ·cases h;exact rflTwoQ
 ·obtain ⟨h1,h2⟩:=wr h;exact ⟨(by decide:∀k∈kinds,lJ k=true) k h1,h2⟩
def jS (c:Bool) (o:Ob) (s:List UInt8):List At:=match ec c s with
 |none=>[]
 |some k=>bo s (aA o k) 0
noncomputable section
def oS (v:Int) (d:Nat) (is:Option p6) (id:List UInt8):fy:=fun f args _ nx=>match Nat.beq f 23 with
 | true=>match Nat.ble nx 23 with
  |true=>some (.val (I v))
  | false=>match args with
   |[.int _ n,.int _ m]=>match Int.rec (motive:=fun _=>Bool) (fun k=>Nat.ble v.toNat 2&&Nat.beq k 10) (fun _=>false) (match Nat.ble v.toNat 2 with|true=>m|false=>0) with
    |true=>some (.val (I (.ofNat d)))
    |false=>some (.val (I (n%m)))
   |_=>none
 |false=>match Nat.beq f 69 with
  |true=>is
  |false=>some (.val (.str id))
def zC:List AV:=aa ⟨[],0,0,0,0,[],0,⟨false,0⟩,⟨false,0⟩,⟨false,0⟩,⟨false,0⟩,⟨false,0⟩,⟨false,0⟩,⟨false,0⟩,⟨false,0⟩,⟨false,0⟩,⟨false,0⟩,0,[],[],[],[],false,0,0,0,false⟩ .nilsl .nilsl .nilsl .nilsl
def oW (i:Int) (Rs:List AV) (O:List AV) (hs:Heap2):View:=⟨[(1,.fsl false Rs),(6,I i)],[(4,.ptr 4 0),(5,.ptr 0 0)],[(0,.cells O,.rel),(4,.cells zC,.whole)]++hs,6,229⟩
def SN (y:Rw):List (Nat × Nat × eW):=[(4,3,.res (.bool true)),(4,6,.res (.bool true)),(6,2,.res (.fptr (lx y) 0))]
def oA (v:Int) (d:Nat) (y:Rw) (hint:List (Nat × Nat × eW)) (ls:List (Nat × bV)) (is:Option p6) (id:List UInt8):bz:=aB (SN y++hint) ls (oS v d is id) [] []
@[simp] abbrev bM (Rs:List AV):=(AV.fsl false Rs=AV.fsl false Rs∧ag (AV.fsl false Rs)=true)
@[simp] abbrev ws:=(some 4=some 4∧0=0)
@[simp] abbrev wt:=(some 0=some 0∧0=0)
@[simp] abbrev cj:=(ws∧wt∧True)
abbrev ck (y:Rw):=(AV.fptr [I y.1,I y.2,I y.3,I y.4] 0)
abbrev cZ (BC BL BN:Option Blk) (C L M N:AV) (Rs:List AV) (i:Int) (o:Ob):=(aQ (oW i Rs (aa o M N L C) []) [(1,BN),(2,BL),(3,BC)])
abbrev c7 (C L M N:AV) (Rs:List AV) (j:Int) (o':Ob):=(oW j Rs (aa o' M N L C) [])
theorem SO (y:Rw) (i j:Int) (Rs:List AV) (o o':Ob) (M N L C:AV) (BN BL BC:Option Blk) (Nx:Prop) (Q:AExit→St→Prop):aP prog opts0 40 (oA 0 0 y [] [] none []) (aJ prog 22 5) (cZ BC BL BN C L M N Rs i o) (roundO 0 [(0,0),(1,1),(2,2),(3,3),(4,4)] (c7 C L M N Rs j o') [(1,BN),(2,BL),(3,BC)] Nx [] (oW i Rs [] []) [] Q)=
 (aE prog BinOp.lss 3 (Operand.tmp 55) (Operand.tmp 57) (I i) (I (Int.ofNat (ab Rs)))=some (.bool true)∧aE prog BinOp.lss 3 (Operand.tmp 60) (Operand.const (Value.int IntKind.i64 10)) (I i) (I 10)=some (.bool true)∧aF prog 22 (.fsl false Rs) (I i)=some (ck y)∧SC 23 [I y.1,I 9] (I 0)∧SC 23 [I y.2,I 10] (I 0)∧SC 23 [I y.3,I 60] (I (y.3%60))∧((((bM Rs)∧(I (aj IntKind.i64 (i+1))=I j∧ag (I j)=true)∧True)∧cj∧br [(0,0),(1,1),(2,2),(3,3),(4,4)] (aa o' M N L C) (aa {o with d0:=⟨true,(y.3%60)⟩} M N L C)∧(zL=zL∧true=true)∧True)∧(BN=BN∧aq BN)∧(BL=BL∧aq BL)∧(BC=BC∧aq BC)∧True)∧Nx):=by kernel_rfl
theorem SP (y:Rw) (i j:Int) (Rs:List AV) (o o':Ob) (M N L C:AV) (BN BL BC:Option Blk) (Nx:Prop) (Q:AExit→St→Prop):aP prog opts0 40 (oA 0 1 y [] [] none []) (aJ prog 22 5) (cZ BC BL BN C L M N Rs i o) (roundO 0 [(0,0),(1,1),(2,2),(3,3),(4,4)] (c7 C L M N Rs j o') [(1,BN),(2,BL),(3,BC)] Nx [] (oW i Rs [] []) [] Q)=
 (aE prog BinOp.lss 3 (Operand.tmp 55) (Operand.tmp 57) (I i) (I (Int.ofNat (ab Rs)))=some (.bool true)∧aE prog BinOp.lss 3 (Operand.tmp 60) (Operand.const (Value.int IntKind.i64 10)) (I i) (I 10)=some (.bool true)∧aF prog 22 (.fsl false Rs) (I i)=some (ck y)∧SC 23 [I y.1,I 9] (I 0)∧SC 23 [I y.2,I 10] (I 1)∧SC 23 [I y.3,I 60] (I (y.3%60))∧((((bM Rs)∧(I (aj IntKind.i64 (i+1))=I j∧ag (I j)=true)∧True)∧cj∧br [(0,0),(1,1),(2,2),(3,3),(4,4)] (aa o' M N L C) (aa {o with d1:=⟨true,(y.3%60)⟩} M N L C)∧(zL=zL∧true=true)∧True)∧(BN=BN∧aq BN)∧(BL=BL∧aq BL)∧(BC=BC∧aq BC)∧True)∧Nx):=by kernel_rfl
theorem SQ (y:Rw) (i j:Int) (Rs:List AV) (o o':Ob) (M N L C:AV) (BN BL BC:Option Blk) (Nx:Prop) (Q:AExit→St→Prop):aP prog opts0 40 (oA 0 2 y [] [] none []) (aJ prog 22 5) (cZ BC BL BN C L M N Rs i o) (roundO 0 [(0,0),(1,1),(2,2),(3,3),(4,4)] (c7 C L M N Rs j o') [(1,BN),(2,BL),(3,BC)] Nx [] (oW i Rs [] []) [] Q)=
 (aE prog BinOp.lss 3 (Operand.tmp 55) (Operand.tmp 57) (I i) (I (Int.ofNat (ab Rs)))=some (.bool true)∧aE prog BinOp.lss 3 (Operand.tmp 60) (Operand.const (Value.int IntKind.i64 10)) (I i) (I 10)=some (.bool true)∧aF prog 22 (.fsl false Rs) (I i)=some (ck y)∧SC 23 [I y.1,I 9] (I 0)∧SC 23 [I y.2,I 10] (I 2)∧SC 23 [I y.3,I 60] (I (y.3%60))∧((((bM Rs)∧(I (aj IntKind.i64 (i+1))=I j∧ag (I j)=true)∧True)∧cj∧br [(0,0),(1,1),(2,2),(3,3),(4,4)] (aa o' M N L C) (aa {o with d2:=⟨true,(y.3%60)⟩} M N L C)∧(zL=zL∧true=true)∧True)∧(BN=BN∧aq BN)∧(BL=BL∧aq BL)∧(BC=BC∧aq BC)∧True)∧Nx):=by kernel_rfl
theorem SR (y:Rw) (i j:Int) (Rs:List AV) (o o':Ob) (M N L C:AV) (BN BL BC:Option Blk) (Nx:Prop) (Q:AExit→St→Prop):aP prog opts0 40 (oA 0 3 y [] [] none []) (aJ prog 22 5) (cZ BC BL BN C L M N Rs i o) (roundO 0 [(0,0),(1,1),(2,2),(3,3),(4,4)] (c7 C L M N Rs j o') [(1,BN),(2,BL),(3,BC)] Nx [] (oW i Rs [] []) [] Q)=
 (aE prog BinOp.lss 3 (Operand.tmp 55) (Operand.tmp 57) (I i) (I (Int.ofNat (ab Rs)))=some (.bool true)∧aE prog BinOp.lss 3 (Operand.tmp 60) (Operand.const (Value.int IntKind.i64 10)) (I i) (I 10)=some (.bool true)∧aF prog 22 (.fsl false Rs) (I i)=some (ck y)∧SC 23 [I y.1,I 9] (I 0)∧SC 23 [I y.2,I 10] (I 3)∧SC 23 [I y.3,I 60] (I (y.3%60))∧((((bM Rs)∧(I (aj IntKind.i64 (i+1))=I j∧ag (I j)=true)∧True)∧cj∧br [(0,0),(1,1),(2,2),(3,3),(4,4)] (aa o' M N L C) (aa {o with d3:=⟨true,(y.3%60)⟩} M N L C)∧(zL=zL∧true=true)∧True)∧(BN=BN∧aq BN)∧(BL=BL∧aq BL)∧(BC=BC∧aq BC)∧True)∧Nx):=by kernel_rfl
theorem SS (y:Rw) (i j:Int) (Rs:List AV) (o o':Ob) (M N L C:AV) (BN BL BC:Option Blk) (Nx:Prop) (Q:AExit→St→Prop):aP prog opts0 40 (oA 0 4 y [] [] none []) (aJ prog 22 5) (cZ BC BL BN C L M N Rs i o) (roundO 0 [(0,0),(1,1),(2,2),(3,3),(4,4)] (c7 C L M N Rs j o') [(1,BN),(2,BL),(3,BC)] Nx [] (oW i Rs [] []) [] Q)=
 (aE prog BinOp.lss 3 (Operand.tmp 55) (Operand.tmp 57) (I i) (I (Int.ofNat (ab Rs)))=some (.bool true)∧aE prog BinOp.lss 3 (Operand.tmp 60) (Operand.const (Value.int IntKind.i64 10)) (I i) (I 10)=some (.bool true)∧aF prog 22 (.fsl false Rs) (I i)=some (ck y)∧SC 23 [I y.1,I 9] (I 0)∧SC 23 [I y.2,I 10] (I 4)∧SC 23 [I y.3,I 60] (I (y.3%60))∧((((bM Rs)∧(I (aj IntKind.i64 (i+1))=I j∧ag (I j)=true)∧True)∧cj∧br [(0,0),(1,1),(2,2),(3,3),(4,4)] (aa o' M N L C) (aa {o with d4:=⟨true,(y.3%60)⟩} M N L C)∧(zL=zL∧true=true)∧True)∧(BN=BN∧aq BN)∧(BL=BL∧aq BL)∧(BC=BC∧aq BC)∧True)∧Nx):=by kernel_rfl
theorem ST (y:Rw) (i j:Int) (Rs:List AV) (o o':Ob) (M N L C:AV) (BN BL BC:Option Blk) (Nx:Prop) (Q:AExit→St→Prop):aP prog opts0 40 (oA 0 5 y [] [] none []) (aJ prog 22 5) (cZ BC BL BN C L M N Rs i o) (roundO 0 [(0,0),(1,1),(2,2),(3,3),(4,4)] (c7 C L M N Rs j o') [(1,BN),(2,BL),(3,BC)] Nx [] (oW i Rs [] []) [] Q)=
 (aE prog BinOp.lss 3 (Operand.tmp 55) (Operand.tmp 57) (I i) (I (Int.ofNat (ab Rs)))=some (.bool true)∧aE prog BinOp.lss 3 (Operand.tmp 60) (Operand.const (Value.int IntKind.i64 10)) (I i) (I 10)=some (.bool true)∧aF prog 22 (.fsl false Rs) (I i)=some (ck y)∧SC 23 [I y.1,I 9] (I 0)∧SC 23 [I y.2,I 10] (I 5)∧SC 23 [I y.3,I 60] (I (y.3%60))∧((((bM Rs)∧(I (aj IntKind.i64 (i+1))=I j∧ag (I j)=true)∧True)∧cj∧br [(0,0),(1,1),(2,2),(3,3),(4,4)] (aa o' M N L C) (aa {o with d5:=⟨true,(y.3%60)⟩} M N L C)∧(zL=zL∧true=true)∧True)∧(BN=BN∧aq BN)∧(BL=BL∧aq BL)∧(BC=BC∧aq BC)∧True)∧Nx):=by kernel_rfl
theorem SU (y:Rw) (i j:Int) (Rs:List AV) (o o':Ob) (M N L C:AV) (BN BL BC:Option Blk) (Nx:Prop) (Q:AExit→St→Prop):aP prog opts0 40 (oA 0 6 y [] [] none []) (aJ prog 22 5) (cZ BC BL BN C L M N Rs i o) (roundO 0 [(0,0),(1,1),(2,2),(3,3),(4,4)] (c7 C L M N Rs j o') [(1,BN),(2,BL),(3,BC)] Nx [] (oW i Rs [] []) [] Q)=
 (aE prog BinOp.lss 3 (Operand.tmp 55) (Operand.tmp 57) (I i) (I (Int.ofNat (ab Rs)))=some (.bool true)∧aE prog BinOp.lss 3 (Operand.tmp 60) (Operand.const (Value.int IntKind.i64 10)) (I i) (I 10)=some (.bool true)∧aF prog 22 (.fsl false Rs) (I i)=some (ck y)∧SC 23 [I y.1,I 9] (I 0)∧SC 23 [I y.2,I 10] (I 6)∧SC 23 [I y.3,I 60] (I (y.3%60))∧((((bM Rs)∧(I (aj IntKind.i64 (i+1))=I j∧ag (I j)=true)∧True)∧cj∧br [(0,0),(1,1),(2,2),(3,3),(4,4)] (aa o' M N L C) (aa {o with d6:=⟨true,(y.3%60)⟩} M N L C)∧(zL=zL∧true=true)∧True)∧(BN=BN∧aq BN)∧(BL=BL∧aq BL)∧(BC=BC∧aq BC)∧True)∧Nx):=by kernel_rfl
theorem SV (y:Rw) (i j:Int) (Rs:List AV) (o o':Ob) (M N L C:AV) (BN BL BC:Option Blk) (Nx:Prop) (Q:AExit→St→Prop):aP prog opts0 40 (oA 0 7 y [] [] none []) (aJ prog 22 5) (cZ BC BL BN C L M N Rs i o) (roundO 0 [(0,0),(1,1),(2,2),(3,3),(4,4)] (c7 C L M N Rs j o') [(1,BN),(2,BL),(3,BC)] Nx [] (oW i Rs [] []) [] Q)=
 (aE prog BinOp.lss 3 (Operand.tmp 55) (Operand.tmp 57) (I i) (I (Int.ofNat (ab Rs)))=some (.bool true)∧aE prog BinOp.lss 3 (Operand.tmp 60) (Operand.const (Value.int IntKind.i64 10)) (I i) (I 10)=some (.bool true)∧aF prog 22 (.fsl false Rs) (I i)=some (ck y)∧SC 23 [I y.1,I 9] (I 0)∧SC 23 [I y.2,I 10] (I 7)∧SC 23 [I y.3,I 60] (I (y.3%60))∧((((bM Rs)∧(I (aj IntKind.i64 (i+1))=I j∧ag (I j)=true)∧True)∧cj∧br [(0,0),(1,1),(2,2),(3,3),(4,4)] (aa o' M N L C) (aa {o with d7:=⟨true,(y.3%60)⟩} M N L C)∧(zL=zL∧true=true)∧True)∧(BN=BN∧aq BN)∧(BL=BL∧aq BL)∧(BC=BC∧aq BC)∧True)∧Nx):=by kernel_rfl
theorem SW (y:Rw) (i j:Int) (Rs:List AV) (o o':Ob) (M N L C:AV) (BN BL BC:Option Blk) (Nx:Prop) (Q:AExit→St→Prop):aP prog opts0 40 (oA 0 8 y [] [] none []) (aJ prog 22 5) (cZ BC BL BN C L M N Rs i o) (roundO 0 [(0,0),(1,1),(2,2),(3,3),(4,4)] (c7 C L M N Rs j o') [(1,BN),(2,BL),(3,BC)] Nx [] (oW i Rs [] []) [] Q)=
 (aE prog BinOp.lss 3 (Operand.tmp 55) (Operand.tmp 57) (I i) (I (Int.ofNat (ab Rs)))=some (.bool true)∧aE prog BinOp.lss 3 (Operand.tmp 60) (Operand.const (Value.int IntKind.i64 10)) (I i) (I 10)=some (.bool true)∧aF prog 22 (.fsl false Rs) (I i)=some (ck y)∧SC 23 [I y.1,I 9] (I 0)∧SC 23 [I y.2,I 10] (I 8)∧SC 23 [I y.3,I 60] (I (y.3%60))∧((((bM Rs)∧(I (aj IntKind.i64 (i+1))=I j∧ag (I j)=true)∧True)∧cj∧br [(0,0),(1,1),(2,2),(3,3),(4,4)] (aa o' M N L C) (aa {o with d8:=⟨true,(y.3%60)⟩} M N L C)∧(zL=zL∧true=true)∧True)∧(BN=BN∧aq BN)∧(BL=BL∧aq BL)∧(BC=BC∧aq BC)∧True)∧Nx):=by kernel_rfl
theorem SX (y:Rw) (i j:Int) (Rs:List AV) (o o':Ob) (M N L C:AV) (BN BL BC:Option Blk) (Nx:Prop) (Q:AExit→St→Prop):aP prog opts0 40 (oA 0 9 y [] [] none []) (aJ prog 22 5) (cZ BC BL BN C L M N Rs i o) (roundO 0 [(0,0),(1,1),(2,2),(3,3),(4,4)] (c7 C L M N Rs j o') [(1,BN),(2,BL),(3,BC)] Nx [] (oW i Rs [] []) [] Q)=
 (aE prog BinOp.lss 3 (Operand.tmp 55) (Operand.tmp 57) (I i) (I (Int.ofNat (ab Rs)))=some (.bool true)∧aE prog BinOp.lss 3 (Operand.tmp 60) (Operand.const (Value.int IntKind.i64 10)) (I i) (I 10)=some (.bool true)∧aF prog 22 (.fsl false Rs) (I i)=some (ck y)∧SC 23 [I y.1,I 9] (I 0)∧SC 23 [I y.2,I 10] (I 9)∧SC 23 [I y.3,I 60] (I (y.3%60))∧((((bM Rs)∧(I (aj IntKind.i64 (i+1))=I j∧ag (I j)=true)∧True)∧cj∧br [(0,0),(1,1),(2,2),(3,3),(4,4)] (aa o' M N L C) (aa {o with d9:=⟨true,(y.3%60)⟩} M N L C)∧(zL=zL∧true=true)∧True)∧(BN=BN∧aq BN)∧(BL=BL∧aq BL)∧(BC=BC∧aq BC)∧True)∧Nx):=by kernel_rfl
theorem SY (y:Rw) (i j:Int) (Rs:List AV) (o o':Ob) (M N L C:AV) (BN BL BC:Option Blk) (Nx:Prop) (Q:AExit→St→Prop):aP prog opts0 40 (oA 1 0 y [] [] none []) (aJ prog 22 5) (cZ BC BL BN C L M N Rs i o) (roundO 0 [(0,0),(1,1),(2,2),(3,3),(4,4)] (c7 C L M N Rs j o') [(1,BN),(2,BL),(3,BC)] Nx [] (oW i Rs [] []) [] Q)=
 (aE prog BinOp.lss 3 (Operand.tmp 55) (Operand.tmp 57) (I i) (I (Int.ofNat (ab Rs)))=some (.bool true)∧aE prog BinOp.lss 3 (Operand.tmp 60) (Operand.const (Value.int IntKind.i64 10)) (I i) (I 10)=some (.bool true)∧aF prog 22 (.fsl false Rs) (I i)=some (ck y)∧SC 23 [I y.1,I 9] (I 1)∧SC 23 [I y.2,I 10] (I 0)∧SC 23 [I y.3,I 60] (I (y.3%60))∧((((bM Rs)∧(I (aj IntKind.i64 (i+1))=I j∧ag (I j)=true)∧True)∧cj∧br [(0,0),(1,1),(2,2),(3,3),(4,4)] (aa o' M N L C) (aa {o with d0:=⟨true,(y.3%60)⟩} M N L C)∧(zL=zL∧true=true)∧True)∧(BN=BN∧aq BN)∧(BL=BL∧aq BL)∧(BC=BC∧aq BC)∧True)∧Nx):=by kernel_rfl
theorem SZ (y:Rw) (i j:Int) (Rs:List AV) (o o':Ob) (M N L C:AV) (BN BL BC:Option Blk) (Nx:Prop) (Q:AExit→St→Prop):aP prog opts0 40 (oA 1 1 y [] [] none []) (aJ prog 22 5) (cZ BC BL BN C L M N Rs i o) (roundO 0 [(0,0),(1,1),(2,2),(3,3),(4,4)] (c7 C L M N Rs j o') [(1,BN),(2,BL),(3,BC)] Nx [] (oW i Rs [] []) [] Q)=
 (aE prog BinOp.lss 3 (Operand.tmp 55) (Operand.tmp 57) (I i) (I (Int.ofNat (ab Rs)))=some (.bool true)∧aE prog BinOp.lss 3 (Operand.tmp 60) (Operand.const (Value.int IntKind.i64 10)) (I i) (I 10)=some (.bool true)∧aF prog 22 (.fsl false Rs) (I i)=some (ck y)∧SC 23 [I y.1,I 9] (I 1)∧SC 23 [I y.2,I 10] (I 1)∧SC 23 [I y.3,I 60] (I (y.3%60))∧((((bM Rs)∧(I (aj IntKind.i64 (i+1))=I j∧ag (I j)=true)∧True)∧cj∧br [(0,0),(1,1),(2,2),(3,3),(4,4)] (aa o' M N L C) (aa {o with d1:=⟨true,(y.3%60)⟩} M N L C)∧(zL=zL∧true=true)∧True)∧(BN=BN∧aq BN)∧(BL=BL∧aq BL)∧(BC=BC∧aq BC)∧True)∧Nx):=by kernel_rfl
theorem S0 (y:Rw) (i j:Int) (Rs:List AV) (o o':Ob) (M N L C:AV) (BN BL BC:Option Blk) (Nx:Prop) (Q:AExit→St→Prop):aP prog opts0 40 (oA 1 2 y [] [] none []) (aJ prog 22 5) (cZ BC BL BN C L M N Rs i o) (roundO 0 [(0,0),(1,1),(2,2),(3,3),(4,4)] (c7 C L M N Rs j o') [(1,BN),(2,BL),(3,BC)] Nx [] (oW i Rs [] []) [] Q)=
 (aE prog BinOp.lss 3 (Operand.tmp 55) (Operand.tmp 57) (I i) (I (Int.ofNat (ab Rs)))=some (.bool true)∧aE prog BinOp.lss 3 (Operand.tmp 60) (Operand.const (Value.int IntKind.i64 10)) (I i) (I 10)=some (.bool true)∧aF prog 22 (.fsl false Rs) (I i)=some (ck y)∧SC 23 [I y.1,I 9] (I 1)∧SC 23 [I y.2,I 10] (I 2)∧SC 23 [I y.3,I 60] (I (y.3%60))∧((((bM Rs)∧(I (aj IntKind.i64 (i+1))=I j∧ag (I j)=true)∧True)∧cj∧br [(0,0),(1,1),(2,2),(3,3),(4,4)] (aa o' M N L C) (aa {o with d2:=⟨true,(y.3%60)⟩} M N L C)∧(zL=zL∧true=true)∧True)∧(BN=BN∧aq BN)∧(BL=BL∧aq BL)∧(BC=BC∧aq BC)∧True)∧Nx):=by kernel_rfl
theorem S1 (y:Rw) (i j:Int) (Rs:List AV) (o o':Ob) (M N L C:AV) (BN BL BC:Option Blk) (Nx:Prop) (Q:AExit→St→Prop):aP prog opts0 40 (oA 1 3 y [] [] none []) (aJ prog 22 5) (cZ BC BL BN C L M N Rs i o) (roundO 0 [(0,0),(1,1),(2,2),(3,3),(4,4)] (c7 C L M N Rs j o') [(1,BN),(2,BL),(3,BC)] Nx [] (oW i Rs [] []) [] Q)=
 (aE prog BinOp.lss 3 (Operand.tmp 55) (Operand.tmp 57) (I i) (I (Int.ofNat (ab Rs)))=some (.bool true)∧aE prog BinOp.lss 3 (Operand.tmp 60) (Operand.const (Value.int IntKind.i64 10)) (I i) (I 10)=some (.bool true)∧aF prog 22 (.fsl false Rs) (I i)=some (ck y)∧SC 23 [I y.1,I 9] (I 1)∧SC 23 [I y.2,I 10] (I 3)∧SC 23 [I y.3,I 60] (I (y.3%60))∧((((bM Rs)∧(I (aj IntKind.i64 (i+1))=I j∧ag (I j)=true)∧True)∧cj∧br [(0,0),(1,1),(2,2),(3,3),(4,4)] (aa o' M N L C) (aa {o with d3:=⟨true,(y.3%60)⟩} M N L C)∧(zL=zL∧true=true)∧True)∧(BN=BN∧aq BN)∧(BL=BL∧aq BL)∧(BC=BC∧aq BC)∧True)∧Nx):=by kernel_rfl
theorem S3 (y:Rw) (i j:Int) (Rs:List AV) (o o':Ob) (M N L C:AV) (BN BL BC:Option Blk) (Nx:Prop) (Q:AExit→St→Prop):aP prog opts0 40 (oA 1 4 y [] [] none []) (aJ prog 22 5) (cZ BC BL BN C L M N Rs i o) (roundO 0 [(0,0),(1,1),(2,2),(3,3),(4,4)] (c7 C L M N Rs j o') [(1,BN),(2,BL),(3,BC)] Nx [] (oW i Rs [] []) [] Q)=
 (aE prog BinOp.lss 3 (Operand.tmp 55) (Operand.tmp 57) (I i) (I (Int.ofNat (ab Rs)))=some (.bool true)∧aE prog BinOp.lss 3 (Operand.tmp 60) (Operand.const (Value.int IntKind.i64 10)) (I i) (I 10)=some (.bool true)∧aF prog 22 (.fsl false Rs) (I i)=some (ck y)∧SC 23 [I y.1,I 9] (I 1)∧SC 23 [I y.2,I 10] (I 4)∧SC 23 [I y.3,I 60] (I (y.3%60))∧((((bM Rs)∧(I (aj IntKind.i64 (i+1))=I j∧ag (I j)=true)∧True)∧cj∧br [(0,0),(1,1),(2,2),(3,3),(4,4)] (aa o' M N L C) (aa {o with d4:=⟨true,(y.3%60)⟩} M N L C)∧(zL=zL∧true=true)∧True)∧(BN=BN∧aq BN)∧(BL=BL∧aq BL)∧(BC=BC∧aq BC)∧True)∧Nx):=by kernel_rfl
theorem S4 (y:Rw) (i j:Int) (Rs:List AV) (o o':Ob) (M N L C:AV) (BN BL BC:Option Blk) (Nx:Prop) (Q:AExit→St→Prop):aP prog opts0 40 (oA 1 5 y [] [] none []) (aJ prog 22 5) (cZ BC BL BN C L M N Rs i o) (roundO 0 [(0,0),(1,1),(2,2),(3,3),(4,4)] (c7 C L M N Rs j o') [(1,BN),(2,BL),(3,BC)] Nx [] (oW i Rs [] []) [] Q)=
 (aE prog BinOp.lss 3 (Operand.tmp 55) (Operand.tmp 57) (I i) (I (Int.ofNat (ab Rs)))=some (.bool true)∧aE prog BinOp.lss 3 (Operand.tmp 60) (Operand.const (Value.int IntKind.i64 10)) (I i) (I 10)=some (.bool true)∧aF prog 22 (.fsl false Rs) (I i)=some (ck y)∧SC 23 [I y.1,I 9] (I 1)∧SC 23 [I y.2,I 10] (I 5)∧SC 23 [I y.3,I 60] (I (y.3%60))∧((((bM Rs)∧(I (aj IntKind.i64 (i+1))=I j∧ag (I j)=true)∧True)∧cj∧br [(0,0),(1,1),(2,2),(3,3),(4,4)] (aa o' M N L C) (aa {o with d5:=⟨true,(y.3%60)⟩} M N L C)∧(zL=zL∧true=true)∧True)∧(BN=BN∧aq BN)∧(BL=BL∧aq BL)∧(BC=BC∧aq BC)∧True)∧Nx):=by kernel_rfl
theorem S5 (y:Rw) (i j:Int) (Rs:List AV) (o o':Ob) (M N L C:AV) (BN BL BC:Option Blk) (Nx:Prop) (Q:AExit→St→Prop):aP prog opts0 40 (oA 1 6 y [] [] none []) (aJ prog 22 5) (cZ BC BL BN C L M N Rs i o) (roundO 0 [(0,0),(1,1),(2,2),(3,3),(4,4)] (c7 C L M N Rs j o') [(1,BN),(2,BL),(3,BC)] Nx [] (oW i Rs [] []) [] Q)=
 (aE prog BinOp.lss 3 (Operand.tmp 55) (Operand.tmp 57) (I i) (I (Int.ofNat (ab Rs)))=some (.bool true)∧aE prog BinOp.lss 3 (Operand.tmp 60) (Operand.const (Value.int IntKind.i64 10)) (I i) (I 10)=some (.bool true)∧aF prog 22 (.fsl false Rs) (I i)=some (ck y)∧SC 23 [I y.1,I 9] (I 1)∧SC 23 [I y.2,I 10] (I 6)∧SC 23 [I y.3,I 60] (I (y.3%60))∧((((bM Rs)∧(I (aj IntKind.i64 (i+1))=I j∧ag (I j)=true)∧True)∧cj∧br [(0,0),(1,1),(2,2),(3,3),(4,4)] (aa o' M N L C) (aa {o with d6:=⟨true,(y.3%60)⟩} M N L C)∧(zL=zL∧true=true)∧True)∧(BN=BN∧aq BN)∧(BL=BL∧aq BL)∧(BC=BC∧aq BC)∧True)∧Nx):=by kernel_rfl
theorem S6 (y:Rw) (i j:Int) (Rs:List AV) (o o':Ob) (M N L C:AV) (BN BL BC:Option Blk) (Nx:Prop) (Q:AExit→St→Prop):aP prog opts0 40 (oA 1 7 y [] [] none []) (aJ prog 22 5) (cZ BC BL BN C L M N Rs i o) (roundO 0 [(0,0),(1,1),(2,2),(3,3),(4,4)] (c7 C L M N Rs j o') [(1,BN),(2,BL),(3,BC)] Nx [] (oW i Rs [] []) [] Q)=
 (aE prog BinOp.lss 3 (Operand.tmp 55) (Operand.tmp 57) (I i) (I (Int.ofNat (ab Rs)))=some (.bool true)∧aE prog BinOp.lss 3 (Operand.tmp 60) (Operand.const (Value.int IntKind.i64 10)) (I i) (I 10)=some (.bool true)∧aF prog 22 (.fsl false Rs) (I i)=some (ck y)∧SC 23 [I y.1,I 9] (I 1)∧SC 23 [I y.2,I 10] (I 7)∧SC 23 [I y.3,I 60] (I (y.3%60))∧((((bM Rs)∧(I (aj IntKind.i64 (i+1))=I j∧ag (I j)=true)∧True)∧cj∧br [(0,0),(1,1),(2,2),(3,3),(4,4)] (aa o' M N L C) (aa {o with d7:=⟨true,(y.3%60)⟩} M N L C)∧(zL=zL∧true=true)∧True)∧(BN=BN∧aq BN)∧(BL=BL∧aq BL)∧(BC=BC∧aq BC)∧True)∧Nx):=by kernel_rfl
theorem S7 (y:Rw) (i j:Int) (Rs:List AV) (o o':Ob) (M N L C:AV) (BN BL BC:Option Blk) (Nx:Prop) (Q:AExit→St→Prop):aP prog opts0 40 (oA 1 8 y [] [] none []) (aJ prog 22 5) (cZ BC BL BN C L M N Rs i o) (roundO 0 [(0,0),(1,1),(2,2),(3,3),(4,4)] (c7 C L M N Rs j o') [(1,BN),(2,BL),(3,BC)] Nx [] (oW i Rs [] []) [] Q)=
 (aE prog BinOp.lss 3 (Operand.tmp 55) (Operand.tmp 57) (I i) (I (Int.ofNat (ab Rs)))=some (.bool true)∧aE prog BinOp.lss 3 (Operand.tmp 60) (Operand.const (Value.int IntKind.i64 10)) (I i) (I 10)=some (.bool true)∧aF prog 22 (.fsl false Rs) (I i)=some (ck y)∧SC 23 [I y.1,I 9] (I 1)∧SC 23 [I y.2,I 10] (I 8)∧SC 23 [I y.3,I 60] (I (y.3%60))∧((((bM Rs)∧(I (aj IntKind.i64 (i+1))=I j∧ag (I j)=true)∧True)∧cj∧br [(0,0),(1,1),(2,2),(3,3),(4,4)] (aa o' M N L C) (aa {o with d8:=⟨true,(y.3%60)⟩} M N L C)∧(zL=zL∧true=true)∧True)∧(BN=BN∧aq BN)∧(BL=BL∧aq BL)∧(BC=BC∧aq BC)∧True)∧Nx):=by kernel_rfl
theorem S8 (y:Rw) (i j:Int) (Rs:List AV) (o o':Ob) (M N L C:AV) (BN BL BC:Option Blk) (Nx:Prop) (Q:AExit→St→Prop):aP prog opts0 40 (oA 1 9 y [] [] none []) (aJ prog 22 5) (cZ BC BL BN C L M N Rs i o) (roundO 0 [(0,0),(1,1),(2,2),(3,3),(4,4)] (c7 C L M N Rs j o') [(1,BN),(2,BL),(3,BC)] Nx [] (oW i Rs [] []) [] Q)=
 (aE prog BinOp.lss 3 (Operand.tmp 55) (Operand.tmp 57) (I i) (I (Int.ofNat (ab Rs)))=some (.bool true)∧aE prog BinOp.lss 3 (Operand.tmp 60) (Operand.const (Value.int IntKind.i64 10)) (I i) (I 10)=some (.bool true)∧aF prog 22 (.fsl false Rs) (I i)=some (ck y)∧SC 23 [I y.1,I 9] (I 1)∧SC 23 [I y.2,I 10] (I 9)∧SC 23 [I y.3,I 60] (I (y.3%60))∧((((bM Rs)∧(I (aj IntKind.i64 (i+1))=I j∧ag (I j)=true)∧True)∧cj∧br [(0,0),(1,1),(2,2),(3,3),(4,4)] (aa o' M N L C) (aa {o with d9:=⟨true,(y.3%60)⟩} M N L C)∧(zL=zL∧true=true)∧True)∧(BN=BN∧aq BN)∧(BL=BL∧aq BL)∧(BC=BC∧aq BC)∧True)∧Nx):=by kernel_rfl
theorem S9 (y:Rw) (i j:Int) (Rs:List AV) (o o':Ob) (M N L C:AV) (BN BL BC:Option Blk) (Nx:Prop) (Q:AExit→St→Prop):aP prog opts0 40 (oA 2 0 y [] [] none []) (aJ prog 22 5) (cZ BC BL BN C L M N Rs i o) (roundO 0 [(0,0),(1,1),(2,2),(3,3),(4,4)] (c7 C L M N Rs j o') [(1,BN),(2,BL),(3,BC)] Nx [] (oW i Rs [] []) [] Q)=
 (aE prog BinOp.lss 3 (Operand.tmp 55) (Operand.tmp 57) (I i) (I (Int.ofNat (ab Rs)))=some (.bool true)∧aE prog BinOp.lss 3 (Operand.tmp 60) (Operand.const (Value.int IntKind.i64 10)) (I i) (I 10)=some (.bool true)∧aF prog 22 (.fsl false Rs) (I i)=some (ck y)∧SC 23 [I y.1,I 9] (I 2)∧SC 23 [I y.2,I 10] (I 0)∧SC 23 [I y.3,I 60] (I (y.3%60))∧((((bM Rs)∧(I (aj IntKind.i64 (i+1))=I j∧ag (I j)=true)∧True)∧cj∧br [(0,0),(1,1),(2,2),(3,3),(4,4)] (aa o' M N L C) (aa {o with d0:=⟨true,(y.3%60)⟩} M N L C)∧(zL=zL∧true=true)∧True)∧(BN=BN∧aq BN)∧(BL=BL∧aq BL)∧(BC=BC∧aq BC)∧True)∧Nx):=by kernel_rfl
theorem Ta (y:Rw) (i j:Int) (Rs:List AV) (o o':Ob) (M N L C:AV) (BN BL BC:Option Blk) (Nx:Prop) (Q:AExit→St→Prop):aP prog opts0 40 (oA 2 1 y [] [] none []) (aJ prog 22 5) (cZ BC BL BN C L M N Rs i o) (roundO 0 [(0,0),(1,1),(2,2),(3,3),(4,4)] (c7 C L M N Rs j o') [(1,BN),(2,BL),(3,BC)] Nx [] (oW i Rs [] []) [] Q)=
 (aE prog BinOp.lss 3 (Operand.tmp 55) (Operand.tmp 57) (I i) (I (Int.ofNat (ab Rs)))=some (.bool true)∧aE prog BinOp.lss 3 (Operand.tmp 60) (Operand.const (Value.int IntKind.i64 10)) (I i) (I 10)=some (.bool true)∧aF prog 22 (.fsl false Rs) (I i)=some (ck y)∧SC 23 [I y.1,I 9] (I 2)∧SC 23 [I y.2,I 10] (I 1)∧SC 23 [I y.3,I 60] (I (y.3%60))∧((((bM Rs)∧(I (aj IntKind.i64 (i+1))=I j∧ag (I j)=true)∧True)∧cj∧br [(0,0),(1,1),(2,2),(3,3),(4,4)] (aa o' M N L C) (aa {o with d1:=⟨true,(y.3%60)⟩} M N L C)∧(zL=zL∧true=true)∧True)∧(BN=BN∧aq BN)∧(BL=BL∧aq BL)∧(BC=BC∧aq BC)∧True)∧Nx):=by kernel_rfl
theorem Tb (y:Rw) (i j:Int) (Rs:List AV) (o o':Ob) (M N L C:AV) (BN BL BC:Option Blk) (Nx:Prop) (Q:AExit→St→Prop):aP prog opts0 40 (oA 2 2 y [] [] none []) (aJ prog 22 5) (cZ BC BL BN C L M N Rs i o) (roundO 0 [(0,0),(1,1),(2,2),(3,3),(4,4)] (c7 C L M N Rs j o') [(1,BN),(2,BL),(3,BC)] Nx [] (oW i Rs [] []) [] Q)=
 (aE prog BinOp.lss 3 (Operand.tmp 55) (Operand.tmp 57) (I i) (I (Int.ofNat (ab Rs)))=some (.bool true)∧aE prog BinOp.lss 3 (Operand.tmp 60) (Operand.const (Value.int IntKind.i64 10)) (I i) (I 10)=some (.bool true)∧aF prog 22 (.fsl false Rs) (I i)=some (ck y)∧SC 23 [I y.1,I 9] (I 2)∧SC 23 [I y.2,I 10] (I 2)∧SC 23 [I y.3,I 60] (I (y.3%60))∧((((bM Rs)∧(I (aj IntKind.i64 (i+1))=I j∧ag (I j)=true)∧True)∧cj∧br [(0,0),(1,1),(2,2),(3,3),(4,4)] (aa o' M N L C) (aa {o with d2:=⟨true,(y.3%60)⟩} M N L C)∧(zL=zL∧true=true)∧True)∧(BN=BN∧aq BN)∧(BL=BL∧aq BL)∧(BC=BC∧aq BC)∧True)∧Nx):=by kernel_rfl
theorem Tc (y:Rw) (i j:Int) (Rs:List AV) (o o':Ob) (M N L C:AV) (BN BL BC:Option Blk) (Nx:Prop) (Q:AExit→St→Prop):aP prog opts0 40 (oA 2 3 y [] [] none []) (aJ prog 22 5) (cZ BC BL BN C L M N Rs i o) (roundO 0 [(0,0),(1,1),(2,2),(3,3),(4,4)] (c7 C L M N Rs j o') [(1,BN),(2,BL),(3,BC)] Nx [] (oW i Rs [] []) [] Q)=
 (aE prog BinOp.lss 3 (Operand.tmp 55) (Operand.tmp 57) (I i) (I (Int.ofNat (ab Rs)))=some (.bool true)∧aE prog BinOp.lss 3 (Operand.tmp 60) (Operand.const (Value.int IntKind.i64 10)) (I i) (I 10)=some (.bool true)∧aF prog 22 (.fsl false Rs) (I i)=some (ck y)∧SC 23 [I y.1,I 9] (I 2)∧SC 23 [I y.2,I 10] (I 3)∧SC 23 [I y.3,I 60] (I (y.3%60))∧((((bM Rs)∧(I (aj IntKind.i64 (i+1))=I j∧ag (I j)=true)∧True)∧cj∧br [(0,0),(1,1),(2,2),(3,3),(4,4)] (aa o' M N L C) (aa {o with d3:=⟨true,(y.3%60)⟩} M N L C)∧(zL=zL∧true=true)∧True)∧(BN=BN∧aq BN)∧(BL=BL∧aq BL)∧(BC=BC∧aq BC)∧True)∧Nx):=by kernel_rfl
theorem Td (y:Rw) (i j:Int) (Rs:List AV) (o o':Ob) (M N L C:AV) (BN BL BC:Option Blk) (Nx:Prop) (Q:AExit→St→Prop):aP prog opts0 40 (oA 2 4 y [] [] none []) (aJ prog 22 5) (cZ BC BL BN C L M N Rs i o) (roundO 0 [(0,0),(1,1),(2,2),(3,3),(4,4)] (c7 C L M N Rs j o') [(1,BN),(2,BL),(3,BC)] Nx [] (oW i Rs [] []) [] Q)=
 (aE prog BinOp.lss 3 (Operand.tmp 55) (Operand.tmp 57) (I i) (I (Int.ofNat (ab Rs)))=some (.bool true)∧aE prog BinOp.lss 3 (Operand.tmp 60) (Operand.const (Value.int IntKind.i64 10)) (I i) (I 10)=some (.bool true)∧aF prog 22 (.fsl false Rs) (I i)=some (ck y)∧SC 23 [I y.1,I 9] (I 2)∧SC 23 [I y.2,I 10] (I 4)∧SC 23 [I y.3,I 60] (I (y.3%60))∧((((bM Rs)∧(I (aj IntKind.i64 (i+1))=I j∧ag (I j)=true)∧True)∧cj∧br [(0,0),(1,1),(2,2),(3,3),(4,4)] (aa o' M N L C) (aa {o with d4:=⟨true,(y.3%60)⟩} M N L C)∧(zL=zL∧true=true)∧True)∧(BN=BN∧aq BN)∧(BL=BL∧aq BL)∧(BC=BC∧aq BC)∧True)∧Nx):=by kernel_rfl
theorem Te (y:Rw) (i j:Int) (Rs:List AV) (o o':Ob) (M N L C:AV) (BN BL BC:Option Blk) (Nx:Prop) (Q:AExit→St→Prop):aP prog opts0 40 (oA 2 5 y [] [] none []) (aJ prog 22 5) (cZ BC BL BN C L M N Rs i o) (roundO 0 [(0,0),(1,1),(2,2),(3,3),(4,4)] (c7 C L M N Rs j o') [(1,BN),(2,BL),(3,BC)] Nx [] (oW i Rs [] []) [] Q)=
 (aE prog BinOp.lss 3 (Operand.tmp 55) (Operand.tmp 57) (I i) (I (Int.ofNat (ab Rs)))=some (.bool true)∧aE prog BinOp.lss 3 (Operand.tmp 60) (Operand.const (Value.int IntKind.i64 10)) (I i) (I 10)=some (.bool true)∧aF prog 22 (.fsl false Rs) (I i)=some (ck y)∧SC 23 [I y.1,I 9] (I 2)∧SC 23 [I y.2,I 10] (I 5)∧SC 23 [I y.3,I 60] (I (y.3%60))∧((((bM Rs)∧(I (aj IntKind.i64 (i+1))=I j∧ag (I j)=true)∧True)∧cj∧br [(0,0),(1,1),(2,2),(3,3),(4,4)] (aa o' M N L C) (aa {o with d5:=⟨true,(y.3%60)⟩} M N L C)∧(zL=zL∧true=true)∧True)∧(BN=BN∧aq BN)∧(BL=BL∧aq BL)∧(BC=BC∧aq BC)∧True)∧Nx):=by kernel_rfl
theorem Tf (y:Rw) (i j:Int) (Rs:List AV) (o o':Ob) (M N L C:AV) (BN BL BC:Option Blk) (Nx:Prop) (Q:AExit→St→Prop):aP prog opts0 40 (oA 2 6 y [] [] none []) (aJ prog 22 5) (cZ BC BL BN C L M N Rs i o) (roundO 0 [(0,0),(1,1),(2,2),(3,3),(4,4)] (c7 C L M N Rs j o') [(1,BN),(2,BL),(3,BC)] Nx [] (oW i Rs [] []) [] Q)=
 (aE prog BinOp.lss 3 (Operand.tmp 55) (Operand.tmp 57) (I i) (I (Int.ofNat (ab Rs)))=some (.bool true)∧aE prog BinOp.lss 3 (Operand.tmp 60) (Operand.const (Value.int IntKind.i64 10)) (I i) (I 10)=some (.bool true)∧aF prog 22 (.fsl false Rs) (I i)=some (ck y)∧SC 23 [I y.1,I 9] (I 2)∧SC 23 [I y.2,I 10] (I 6)∧SC 23 [I y.3,I 60] (I (y.3%60))∧((((bM Rs)∧(I (aj IntKind.i64 (i+1))=I j∧ag (I j)=true)∧True)∧cj∧br [(0,0),(1,1),(2,2),(3,3),(4,4)] (aa o' M N L C) (aa {o with d6:=⟨true,(y.3%60)⟩} M N L C)∧(zL=zL∧true=true)∧True)∧(BN=BN∧aq BN)∧(BL=BL∧aq BL)∧(BC=BC∧aq BC)∧True)∧Nx):=by kernel_rfl
theorem Tg (y:Rw) (i j:Int) (Rs:List AV) (o o':Ob) (M N L C:AV) (BN BL BC:Option Blk) (Nx:Prop) (Q:AExit→St→Prop):aP prog opts0 40 (oA 2 7 y [] [] none []) (aJ prog 22 5) (cZ BC BL BN C L M N Rs i o) (roundO 0 [(0,0),(1,1),(2,2),(3,3),(4,4)] (c7 C L M N Rs j o') [(1,BN),(2,BL),(3,BC)] Nx [] (oW i Rs [] []) [] Q)=
 (aE prog BinOp.lss 3 (Operand.tmp 55) (Operand.tmp 57) (I i) (I (Int.ofNat (ab Rs)))=some (.bool true)∧aE prog BinOp.lss 3 (Operand.tmp 60) (Operand.const (Value.int IntKind.i64 10)) (I i) (I 10)=some (.bool true)∧aF prog 22 (.fsl false Rs) (I i)=some (ck y)∧SC 23 [I y.1,I 9] (I 2)∧SC 23 [I y.2,I 10] (I 7)∧SC 23 [I y.3,I 60] (I (y.3%60))∧((((bM Rs)∧(I (aj IntKind.i64 (i+1))=I j∧ag (I j)=true)∧True)∧cj∧br [(0,0),(1,1),(2,2),(3,3),(4,4)] (aa o' M N L C) (aa {o with d7:=⟨true,(y.3%60)⟩} M N L C)∧(zL=zL∧true=true)∧True)∧(BN=BN∧aq BN)∧(BL=BL∧aq BL)∧(BC=BC∧aq BC)∧True)∧Nx):=by kernel_rfl
theorem Th (y:Rw) (i j:Int) (Rs:List AV) (o o':Ob) (M N L C:AV) (BN BL BC:Option Blk) (Nx:Prop) (Q:AExit→St→Prop):aP prog opts0 40 (oA 2 8 y [] [] none []) (aJ prog 22 5) (cZ BC BL BN C L M N Rs i o) (roundO 0 [(0,0),(1,1),(2,2),(3,3),(4,4)] (c7 C L M N Rs j o') [(1,BN),(2,BL),(3,BC)] Nx [] (oW i Rs [] []) [] Q)=
 (aE prog BinOp.lss 3 (Operand.tmp 55) (Operand.tmp 57) (I i) (I (Int.ofNat (ab Rs)))=some (.bool true)∧aE prog BinOp.lss 3 (Operand.tmp 60) (Operand.const (Value.int IntKind.i64 10)) (I i) (I 10)=some (.bool true)∧aF prog 22 (.fsl false Rs) (I i)=some (ck y)∧SC 23 [I y.1,I 9] (I 2)∧SC 23 [I y.2,I 10] (I 8)∧SC 23 [I y.3,I 60] (I (y.3%60))∧((((bM Rs)∧(I (aj IntKind.i64 (i+1))=I j∧ag (I j)=true)∧True)∧cj∧br [(0,0),(1,1),(2,2),(3,3),(4,4)] (aa o' M N L C) (aa {o with d8:=⟨true,(y.3%60)⟩} M N L C)∧(zL=zL∧true=true)∧True)∧(BN=BN∧aq BN)∧(BL=BL∧aq BL)∧(BC=BC∧aq BC)∧True)∧Nx):=by kernel_rfl
theorem Ti (y:Rw) (i j:Int) (Rs:List AV) (o o':Ob) (M N L C:AV) (BN BL BC:Option Blk) (Nx:Prop) (Q:AExit→St→Prop):aP prog opts0 40 (oA 2 9 y [] [] none []) (aJ prog 22 5) (cZ BC BL BN C L M N Rs i o) (roundO 0 [(0,0),(1,1),(2,2),(3,3),(4,4)] (c7 C L M N Rs j o') [(1,BN),(2,BL),(3,BC)] Nx [] (oW i Rs [] []) [] Q)=
 (aE prog BinOp.lss 3 (Operand.tmp 55) (Operand.tmp 57) (I i) (I (Int.ofNat (ab Rs)))=some (.bool true)∧aE prog BinOp.lss 3 (Operand.tmp 60) (Operand.const (Value.int IntKind.i64 10)) (I i) (I 10)=some (.bool true)∧aF prog 22 (.fsl false Rs) (I i)=some (ck y)∧SC 23 [I y.1,I 9] (I 2)∧SC 23 [I y.2,I 10] (I 9)∧SC 23 [I y.3,I 60] (I (y.3%60))∧((((bM Rs)∧(I (aj IntKind.i64 (i+1))=I j∧ag (I j)=true)∧True)∧cj∧br [(0,0),(1,1),(2,2),(3,3),(4,4)] (aa o' M N L C) (aa {o with d9:=⟨true,(y.3%60)⟩} M N L C)∧(zL=zL∧true=true)∧True)∧(BN=BN∧aq BN)∧(BL=BL∧aq BL)∧(BC=BC∧aq BC)∧True)∧Nx):=by kernel_rfl
theorem Tj (y:Rw) (i j:Int) (Rs:List AV) (o o':Ob) (M N L C:AV) (BN BL BC:Option Blk) (Nx:Prop) (Q:AExit→St→Prop):aP prog opts0 40 (oA 5 0 y [] [] none []) (aJ prog 22 5) (cZ BC BL BN C L M N Rs i o) (roundO 0 [(0,0),(1,1),(2,2),(3,3),(4,4)] (c7 C L M N Rs j o') [(1,BN),(2,BL),(3,BC)] Nx [] (oW i Rs [] []) [] Q)=
 (aE prog BinOp.lss 3 (Operand.tmp 55) (Operand.tmp 57) (I i) (I (Int.ofNat (ab Rs)))=some (.bool true)∧aE prog BinOp.lss 3 (Operand.tmp 60) (Operand.const (Value.int IntKind.i64 10)) (I i) (I 10)=some (.bool true)∧aF prog 22 (.fsl false Rs) (I i)=some (ck y)∧SC 23 [I y.1,I 9] (I 5)∧SC 23 [I y.2,I 50] (I (y.2%50))∧SC 23 [I y.3,I (aj IntKind.i64 (aj IntKind.i64 (1+y.2%50)+1))] (I (y.3%aj IntKind.i64 (aj IntKind.i64 (1+y.2%50)+1)))∧SC 23 [I y.4,I 2] (I (y.4%2))∧((((bM Rs)∧(I (aj IntKind.i64 (i+1))=I j∧ag (I j)=true)∧True)∧cj∧br [(0,0),(1,1),(2,2),(3,3),(4,4)] (aa o' M N L C) (aa {o with lh:=true,lt:=(aj IntKind.i64 (1+y.2%50)),lc:=(aj IntKind.i64 (aj IntKind.i64 (1+y.2%50)-y.3%aj IntKind.i64 (aj IntKind.i64 (1+y.2%50)+1))),lu:=(aj IntKind.i64 (1+y.4%2))} M N L C)∧(zL=zL∧true=true)∧True)∧(BN=BN∧aq BN)∧(BL=BL∧aq BL)∧(BC=BC∧aq BC)∧True)∧Nx):=by kernel_rfl
theorem Tk (y:Rw) (i j:Int) (Rs:List AV) (o o':Ob) (M N L C:AV) (BN BL BC:Option Blk) (ms:List UInt8) (Nx:Prop) (Q:AExit→St→Prop):aP prog opts0 40 (oA 7 0 y [(40,4,.res (.str ms))] [] none []) (aJ prog 22 5) (cZ BC BL BN C L M N Rs i o) (roundO 0 [(0,0),(1,1),(2,2),(3,3),(4,4)] (c7 C L M N Rs j o') [(1,BN),(2,BL),(3,BC)] Nx [] (oW i Rs [] []) [] Q)=
 (aE prog BinOp.lss 3 (Operand.tmp 55) (Operand.tmp 57) (I i) (I (Int.ofNat (ab Rs)))=some (.bool true)∧aE prog BinOp.lss 3 (Operand.tmp 60) (Operand.const (Value.int IntKind.i64 10)) (I i) (I 10)=some (.bool true)∧aF prog 22 (.fsl false Rs) (I i)=some (ck y)∧SC 23 [I y.1,I 9] (I 7)∧SC 23 [I y.2,I 7] (I (y.2%7))∧SC 23 [I y.3,I 3] (I (y.3%3))∧bf prog 110 (.agg [AV.str [],.str [109],.str [108,111,115,116]]) (I (y.3%3))=some (.str ms)∧((((bM Rs)∧(I (aj IntKind.i64 (i+1))=I j∧ag (I j)=true)∧True)∧cj∧br [(0,0),(1,1),(2,2),(3,3),(4,4)] (aa o' M N L C) (aa {o with why:=(aj IntKind.i64 (1+y.2%7)),msg:=ms} M N L C)∧(zL=zL∧true=true)∧True)∧(BN=BN∧aq BN)∧(BL=BL∧aq BL)∧(BC=BC∧aq BC)∧True)∧Nx):=by kernel_rfl
theorem Tl (y:Rw) (i j:Int) (Rs:List AV) (o o':Ob) (M N L C:AV) (BN BL BC:Option Blk) (Nx:Prop) (Q:AExit→St→Prop):aP prog opts0 40 (oA 8 0 y [] [] none []) (aJ prog 22 5) (cZ BC BL BN C L M N Rs i o) (roundO 0 [(0,0),(1,1),(2,2),(3,3),(4,4)] (c7 C L M N Rs j o') [(1,BN),(2,BL),(3,BC)] Nx [] (oW i Rs [] []) [] Q)=
 (aE prog BinOp.lss 3 (Operand.tmp 55) (Operand.tmp 57) (I i) (I (Int.ofNat (ab Rs)))=some (.bool true)∧aE prog BinOp.lss 3 (Operand.tmp 60) (Operand.const (Value.int IntKind.i64 10)) (I i) (I 10)=some (.bool true)∧aF prog 22 (.fsl false Rs) (I i)=some (ck y)∧SC 23 [I y.1,I 9] (I 8)∧((((bM Rs)∧(I (aj IntKind.i64 (i+1))=I j∧ag (I j)=true)∧True)∧cj∧br [(0,0),(1,1),(2,2),(3,3),(4,4)] (aa o' M N L C) (aa {o with arch:=(ao (y.2.tmod 3) 0)} M N L C)∧(zL=zL∧true=true)∧True)∧(BN=BN∧aq BN)∧(BL=BL∧aq BL)∧(BC=BC∧aq BC)∧True)∧Nx):=by kernel_rfl
abbrev Ba:=(AV.agg [AV.str [111,110,101],AV.str [116,119,111],AV.str [116,104,114,101,101],AV.str [102,111,117,114],AV.str [102,105,118,101]])
theorem Tm (y:Rw) (i j:Int) (Rs:List AV) (o o':Ob) (M L C:AV) (BL BC:Option Blk) (nm:List UInt8) (Nx:Prop) (Q:AExit→St→Prop):aP prog opts0 40 (oA 3 0 y [(14,4,.res (.str nm))] [] (some (.val (.bool false))) []) (aJ prog 22 5) (aQ (oW i Rs (aa o M .nilsl L C) []) [(2,BL),(3,BC)]) (roundO 0 [(0,0),(1,46),(2,2),(3,3),(4,4)] (oW j Rs (aa o' M (.rsl true 1 0 1 1) L C) [(1,.cells [.str nm],.whole)]) [(2,BL),(3,BC)] Nx [] (oW i Rs [] []) [] Q)=
 (aE prog BinOp.lss 3 (Operand.tmp 55) (Operand.tmp 57) (I i) (I (Int.ofNat (ab Rs)))=some (.bool true)∧aE prog BinOp.lss 3 (Operand.tmp 60) (Operand.const (Value.int IntKind.i64 10)) (I i) (I 10)=some (.bool true)∧aF prog 22 (.fsl false Rs) (I i)=some (ck y)∧SC 23 [I y.1,I 9] (I 3)∧SC 23 [I y.2,I 5] (I (y.2%5))∧bf prog 106 Ba (I (y.2%5))=some (.str nm)∧SC 69 [AV.nilsl,.str nm] (.bool false)∧((((bM Rs)∧(I (aj IntKind.i64 (i+1))=I j∧ag (I j)=true)∧True)∧cj∧br [(0,0),(1,46),(2,2),(3,3),(4,4)] (aa o' M (.rsl true 1 0 1 1) L C) (aa o M (.rsl true 46 0 (ab [AV.str nm]) 1) L C)∧(zL=zL∧true=true)∧(flat [AV.str nm]=[AV.str nm]∧ae [AV.str nm]=true)∧True)∧(BL=BL∧aq BL)∧(BC=BC∧aq BC)∧True)∧Nx):=by kernel_rfl
theorem Tn (y:Rw) (i j:Int) (Rs:List AV) (o o':Ob) (M L C:AV) (BL BC:Option Blk) (nm:List UInt8) (k k':Nat) (es es':List AV) (Nx:Prop) (Q:AExit→St→Prop):aP prog opts0 40 (oA 3 0 y [(14,4,.res (.str nm))] [] (some (.part [1] (.bool true) [(1,some (.cells es))] 20)) []) (aJ prog 22 5) (aQ (oW i Rs (aa o M (.rsl true 1 0 k 1) L C) [(1,.cells es,.whole)]) [(2,BL),(3,BC)]) (roundO 0 [(0,0),(1,1),(2,2),(3,3),(4,4)] (oW j Rs (aa o' M (.rsl true 1 0 k' 1) L C) [(1,.cells es',.whole)]) [(2,BL),(3,BC)] Nx [] (oW i Rs [] []) [] Q)=
 (aE prog BinOp.lss 3 (Operand.tmp 55) (Operand.tmp 57) (I i) (I (Int.ofNat (ab Rs)))=some (.bool true)∧aE prog BinOp.lss 3 (Operand.tmp 60) (Operand.const (Value.int IntKind.i64 10)) (I i) (I 10)=some (.bool true)∧aF prog 22 (.fsl false Rs) (I i)=some (ck y)∧SC 23 [I y.1,I 9] (I 3)∧SC 23 [I y.2,I 5] (I (y.2%5))∧bf prog 106 Ba (I (y.2%5))=some (.str nm)∧dw prog opts0.glob 69 [AV.rsl true 1 0 k 1,.str nm] [(1,some (Blk.cells es))] 42 (.bool true) [(1,some (Blk.cells es))] 62∧((((bM Rs)∧(I (aj IntKind.i64 (i+1))=I j∧ag (I j)=true)∧True)∧cj∧br [(0,0),(1,1),(2,2),(3,3),(4,4)] (aa o' M (.rsl true 1 0 k' 1) L C) (aa o M (.rsl true 1 0 k 1) L C)∧(zL=zL∧true=true)∧(es=es'∧ae es'=true)∧True)∧(BL=BL∧aq BL)∧(BC=BC∧aq BC)∧True)∧Nx):=by kernel_rfl
theorem To (y:Rw) (i j:Int) (Rs:List AV) (o o':Ob) (M L C:AV) (BL BC:Option Blk) (nm:List UInt8) (k k':Nat) (es es':List AV) (Nx:Prop) (Q:AExit→St→Prop):aP prog opts0 40 (oA 3 0 y [(14,4,.res (.str nm))] [] (some (.part [1] (.bool false) [(1,some (.cells es))] 20)) []) (aJ prog 22 5) (aQ (oW i Rs (aa o M (.rsl true 1 0 k 1) L C) [(1,.cells es,.whole)]) [(2,BL),(3,BC)]) (roundO 0 [(0,0),(1,66),(2,2),(3,3),(4,4)] (oW j Rs (aa o' M (.rsl true 1 0 k' 1) L C) [(1,.cells es',.whole)]) [(2,BL),(3,BC)] Nx [] (oW i Rs [] []) [] Q)=
 (aE prog BinOp.lss 3 (Operand.tmp 55) (Operand.tmp 57) (I i) (I (Int.ofNat (ab Rs)))=some (.bool true)∧aE prog BinOp.lss 3 (Operand.tmp 60) (Operand.const (Value.int IntKind.i64 10)) (I i) (I 10)=some (.bool true)∧aF prog 22 (.fsl false Rs) (I i)=some (ck y)∧SC 23 [I y.1,I 9] (I 3)∧SC 23 [I y.2,I 5] (I (y.2%5))∧bf prog 106 Ba (I (y.2%5))=some (.str nm)∧dw prog opts0.glob 69 [AV.rsl true 1 0 k 1,.str nm] [(1,some (Blk.cells es))] 42 (.bool false) [(1,some (Blk.cells es))] 62∧aw (a7 1 [AV.str nm]&&(((k+ab [AV.str nm])*16).ble 140737488355328&&(bq (flat [AV.str nm])&&true))) (aw ((ab es).beq (k*1)) (((((bM Rs)∧(I (aj IntKind.i64 (i+1))=I j∧ag (I j)=true)∧True)∧cj∧br [(0,0),(1,66),(2,2),(3,3),(4,4)] (aa o' M (.rsl true 1 0 k' 1) L C) (aa o M (.rsl true 66 0 (k+ab [AV.str nm]) 1) L C)∧(zL=zL∧true=true)∧(es++flat [AV.str nm]=es'∧ae es'=true)∧True)∧(BL=BL∧aq BL)∧(BC=BC∧aq BC)∧True)∧Nx))):=by kernel_rfl
def c8 (i:Int) (Rs O X:List AV) (b:Bool) (t:Int) (hs:Heap2):View:=⟨[(1,.fsl false Rs),(6,I i),(10,.bool b),(11,I t)],[(4,.ptr 4 0),(5,.ptr 0 0),(9,.ptr 5 0)],[(0,.cells O,.rel),(4,.cells zC,.whole),(5,.cells X,.whole)]++hs,7,229⟩
@[simp] abbrev m8:=(ws∧wt∧(some 5=some 5∧0=0)∧True)
@[simp] abbrev jT (i:Int):=(I i=I i∧ag (I i)=true)
@[simp] abbrev wu (x:Lk):=([I x.1,AV.str x.2]=[I x.1,AV.str x.2]∧ae [I x.1,AV.str x.2]=true)
@[simp] abbrev wv (b:Bool):=(AV.bool b=AV.bool b∧ag (AV.bool b)=true)
theorem Tp (i:Int) (Rs:List AV) (o:Ob) (M N C:AV) (BN BC:Option Blk) (x:Lk) (b:Bool) (Nx:Prop) (Q:AExit→St→Prop):aP prog opts0 40 (aB [] [] aR [] []) (aJ prog 22 22) (aQ (c8 i Rs (aa o M N (.nilsl) C) [I x.ty,.str x.id] b 0 []) [(1,BN),(3,BC)]) (roundO 0 [] (c8 i Rs [] [] b 0 []) [] Nx [(0,0),(1,1),(3,3),(4,4),(5,5)] (c8 i Rs (aa o M N (.nilsl) C) [I x.ty,.str x.id] b 0 []) [(1,BN),(3,BC)] Q)=
 (((((bM Rs)∧(jT i)∧(wv b)∧(I 0=I 0∧true=true)∧True)∧m8∧br [(0,0),(1,1),(3,3),(4,4),(5,5)] (aa o M N AV.nilsl C) (aa o M N AV.nilsl C)∧(zL=zL∧true=true)∧(wu x)∧True)∧(BN=BN∧aq BN)∧(BC=BC∧aq BC)∧True)∧Q (AExit.exit 3) (aQ (c8 i Rs (aa o M N AV.nilsl C) [I x.ty,.str x.id] b 0 []) [(1,BN),(3,BC)])):=by kernel_rfl
@[simp] abbrev lL (es:List AV):=(es=es∧ae es=true)
abbrev jn (C M N:AV) (k:Nat) (o:Ob):=(aa o M N (AV.rsl true 2 0 k 2) C)
abbrev kq (C M N:AV) (k:Nat) (o:Ob):=(aa o M N (AV.rsl true 2 0 k 2) C)
@[simp] abbrev Ho:=((none=some 4∧0=0)∧(none=some 0∧0=0)∧(none=some 5∧0=0)∧True)
theorem Tq (i:Int) (Rs:List AV) (o:Ob) (M N C:AV) (BN BC:Option Blk) (x:Lk) (b:Bool) (k:Nat) (es:List AV) (Nx:Prop) (Q:AExit→St→Prop):aP prog opts0 40 (aB [(23,5,.res .nilp),(35,5,.res .nilp)] [] aR [] []) (aJ prog 22 22) (aQ (c8 i Rs (kq C M N k o) [I x.ty,.str x.id] b (.ofNat k) [(2,.cells es,.whole)]) [(1,BN),(3,BC)]) (roundO 0 [] (c8 i Rs [] [] b 0 []) [] Nx [(0,0),(1,1),(2,2),(3,3),(4,4),(5,5)] (c8 i Rs (kq C M N k o) [I x.ty,.str x.id] b (.ofNat k) [(2,.cells es,.whole)]) [(1,BN),(3,BC)] Q)=
 (ac (ay (Int.ofNat k) (Int.ofNat k)) (ac b (((((bM Rs)∧(jT i)∧(AV.bool true=AV.bool b∧ag (.bool b)=true)∧(I (aj IntKind.i64 (Int.ofNat k+1))=I 0∧true=true)∧True)∧Ho∧False∧False∧False∧True)∧True)∧Nx) (aF prog 28 (.rsl true 2 0 k 2) (I (Int.ofNat k))=some AV.nilp∧False)) (((((bM Rs)∧(jT i)∧(wv b)∧(I (Int.ofNat k)=I (Int.ofNat k)∧ag (I (Int.ofNat k))=true)∧True)∧m8∧br [(0,0),(1,1),(2,2),(3,3),(4,4),(5,5)] (jn C M N k o) (jn C M N k o)∧(zL=zL∧true=true)∧(wu x)∧(lL es)∧True)∧(BN=BN∧aq BN)∧(BC=BC∧aq BC)∧True)∧Q (AExit.exit 3) (aQ (c8 i Rs (jn C M N k o) [I x.ty,.str x.id] b (Int.ofNat k) [(2,Blk.cells es,Mode.whole)]) [(1,BN),(3,BC)]))):=by kernel_rfl
theorem Ts (i:Int) (Rs:List AV) (o:Ob) (M N C:AV) (BN BC:Option Blk) (x z:Lk) (b b':Bool) (k t t':Nat) (es:List AV) (Nx:Prop) (Q:AExit→St→Prop):aP prog opts0 40 (aB [(21,4,.res (.bool true)),(23,6,.ld (.agg [I z.ty,.str z.id]))] [] aR [] []) (aJ prog 22 22) (aQ (c8 i Rs (kq C M N k o) [I x.ty,.str x.id] b (.ofNat t) [(2,.cells es,.whole)]) [(1,BN),(3,BC)]) (roundO 0 [(0,0),(1,1),(2,2),(3,3),(4,4),(5,5)] (c8 i Rs (kq C M N k o) [I x.ty,.str x.id] b' (.ofNat t') [(2,.cells es,.whole)]) [(1,BN),(3,BC)] Nx [] (c8 i Rs [] [] b 0 []) [] Q)=
 (aE prog BinOp.lss 3 (Operand.tmp 118) (Operand.tmp 121) (I (Int.ofNat t)) (I (Int.ofNat k))=some (.bool true)∧ac b (((((bM Rs)∧(jT i)∧(AV.bool true=AV.bool b'∧ag (.bool b')=true)∧(I (aj IntKind.i64 (Int.ofNat t+1))=I (Int.ofNat t')∧ag (I (Int.ofNat t'))=true)∧True)∧m8∧br [(0,0),(1,1),(2,2),(3,3),(4,4),(5,5)] (jn C M N k o) (jn C M N k o)∧(zL=zL∧true=true)∧(wu x)∧(lL es)∧True)∧(BN=BN∧aq BN)∧(BC=BC∧aq BC)∧True)∧Nx) (aw (dx (Int.ofNat t)&&((Int.ofNat t).toNat.blt k&&true)) (bZ prog 99 es (0+(Int.ofNat t).toNat*2)=some (.agg [I z.1,.str z.2])∧((((bM Rs)∧(jT i)∧(AV.bool (ao z.1 x.1&&(aI z.2 x.2&&true))=AV.bool b'∧ag (.bool b')=true)∧(I (aj IntKind.i64 (Int.ofNat t+1))=I (Int.ofNat t')∧ag (I (Int.ofNat t'))=true)∧True)∧m8∧br [(0,0),(1,1),(2,2),(3,3),(4,4),(5,5)] (jn C M N k o) (jn C M N k o)∧(zL=zL∧true=true)∧(wu x)∧(lL es)∧True)∧(BN=BN∧aq BN)∧(BC=BC∧aq BC)∧True)∧Nx))):=by kernel_rfl
def cN (i:Int) (Rs O X:List AV) (b:Bool) (t:Int) (hs:Heap2):View:=⟨[(1,.fsl false Rs),(6,I i),(14,.bool b),(15,I t)],[(4,.ptr 4 0),(5,.ptr 0 0),(13,.ptr 5 0)],[(0,.cells O,.rel),(4,.cells zC,.whole),(5,.cells X,.whole)]++hs,7,229⟩
@[simp] abbrev ww (x:Cu):=([AV.str x.1,AV.str x.2]=[AV.str x.1,AV.str x.2]∧ae [AV.str x.1,AV.str x.2]=true)
theorem Tt (i:Int) (Rs:List AV) (o:Ob) (M N L:AV) (BN BL:Option Blk) (x:Cu) (b:Bool) (Nx:Prop) (Q:AExit→St→Prop):aP prog opts0 40 (aB [] [] aR [] []) (aJ prog 22 34) (aQ (cN i Rs (aa o M N L (.nilsl)) [.str x.name,.str x.text] b 0 []) [(1,BN),(2,BL)]) (roundO 0 [] (cN i Rs [] [] b 0 []) [] Nx [(0,0),(1,1),(2,2),(4,4),(5,5)] (cN i Rs (aa o M N L (.nilsl)) [.str x.name,.str x.text] b 0 []) [(1,BN),(2,BL)] Q)=
 (((((bM Rs)∧(jT i)∧(wv b)∧(I 0=I 0∧true=true)∧True)∧m8∧br [(0,0),(1,1),(2,2),(4,4),(5,5)] (aa o M N L AV.nilsl) (aa o M N L AV.nilsl)∧(zL=zL∧true=true)∧(ww x)∧True)∧(BN=BN∧aq BN)∧(BL=BL∧aq BL)∧True)∧Q (AExit.exit 5) (aQ (cN i Rs (aa o M N L AV.nilsl) [AV.str x.name,.str x.text] b 0 []) [(1,BN),(2,BL)])):=by kernel_rfl
abbrev iU (L M N:AV) (k:Nat) (o:Ob):=(aa o M N L (AV.rsl true 3 0 k 2))
abbrev jU (L M N:AV) (k:Nat) (o:Ob):=(aa o M N L (AV.rsl true 3 0 k 2))
theorem Tu (i:Int) (Rs:List AV) (o:Ob) (M N L:AV) (BN BL:Option Blk) (x:Cu) (b:Bool) (k:Nat) (es:List AV) (Nx:Prop) (Q:AExit→St→Prop):aP prog opts0 40 (aB [(23,5,.res .nilp),(35,5,.res .nilp)] [] aR [] []) (aJ prog 22 34) (aQ (cN i Rs (iU L M N k o) [.str x.name,.str x.text] b (.ofNat k) [(3,.cells es,.whole)]) [(1,BN),(2,BL)]) (roundO 0 [] (cN i Rs [] [] b 0 []) [] Nx [(0,0),(1,1),(2,2),(3,3),(4,4),(5,5)] (cN i Rs (iU L M N k o) [.str x.name,.str x.text] b (.ofNat k) [(3,.cells es,.whole)]) [(1,BN),(2,BL)] Q)=
 (ac (ay (Int.ofNat k) (Int.ofNat k)) (ac b (((((bM Rs)∧(jT i)∧(AV.bool true=AV.bool b∧ag (.bool b)=true)∧(I (aj IntKind.i64 (Int.ofNat k+1))=I 0∧true=true)∧True)∧Ho∧False∧False∧False∧True)∧True)∧Nx) (aF prog 29 (.rsl true 3 0 k 2) (I (Int.ofNat k))=some AV.nilp∧False)) (((((bM Rs)∧(jT i)∧(wv b)∧(I (Int.ofNat k)=I (Int.ofNat k)∧ag (I (Int.ofNat k))=true)∧True)∧m8∧br [(0,0),(1,1),(2,2),(3,3),(4,4),(5,5)] (jU L M N k o) (jU L M N k o)∧(zL=zL∧true=true)∧(ww x)∧(lL es)∧True)∧(BN=BN∧aq BN)∧(BL=BL∧aq BL)∧True)∧Q (AExit.exit 5) (aQ (cN i Rs (jU L M N k o) [AV.str x.name,.str x.text] b (Int.ofNat k) [(3,Blk.cells es,Mode.whole)]) [(1,BN),(2,BL)]))):=by kernel_rfl
theorem Tv (i:Int) (Rs:List AV) (o:Ob) (M N L:AV) (BN BL:Option Blk) (x z:Cu) (b b':Bool) (k t t':Nat) (es:List AV) (Nx:Prop) (Q:AExit→St→Prop):aP prog opts0 40 (aB [(33,4,.res (.bool true)),(35,6,.ld (.agg [.str z.name,.str z.text]))] [] aR [] []) (aJ prog 22 34) (aQ (cN i Rs (iU L M N k o) [.str x.name,.str x.text] b (.ofNat t) [(3,.cells es,.whole)]) [(1,BN),(2,BL)]) (roundO 0 [(0,0),(1,1),(2,2),(3,3),(4,4),(5,5)] (cN i Rs (iU L M N k o) [.str x.name,.str x.text] b' (.ofNat t') [(3,.cells es,.whole)]) [(1,BN),(2,BL)] Nx [] (cN i Rs [] [] b 0 []) [] Q)=
 (aE prog BinOp.lss 3 (Operand.tmp 176) (Operand.tmp 179) (I (Int.ofNat t)) (I (Int.ofNat k))=some (.bool true)∧ac b (((((bM Rs)∧(jT i)∧(AV.bool true=AV.bool b'∧ag (.bool b')=true)∧(I (aj IntKind.i64 (Int.ofNat t+1))=I (Int.ofNat t')∧ag (I (Int.ofNat t'))=true)∧True)∧m8∧br [(0,0),(1,1),(2,2),(3,3),(4,4),(5,5)] (jU L M N k o) (jU L M N k o)∧(zL=zL∧true=true)∧(ww x)∧(lL es)∧True)∧(BN=BN∧aq BN)∧(BL=BL∧aq BL)∧True)∧Nx) (aw (dx (Int.ofNat t)&&((Int.ofNat t).toNat.blt k&&true)) (bZ prog 101 es (0+(Int.ofNat t).toNat*2)=some (.agg [AV.str z.1,.str z.2])∧((((bM Rs)∧(jT i)∧(AV.bool (aI z.1 x.1&&(aI z.2 x.2&&true))=AV.bool b'∧ag (.bool b')=true)∧(I (aj IntKind.i64 (Int.ofNat t+1))=I (Int.ofNat t')∧ag (I (Int.ofNat t'))=true)∧True)∧m8∧br [(0,0),(1,1),(2,2),(3,3),(4,4),(5,5)] (jU L M N k o) (jU L M N k o)∧(zL=zL∧true=true)∧(ww x)∧(lL es)∧True)∧(BN=BN∧aq BN)∧(BL=BL∧aq BL)∧True)∧Nx))):=by kernel_rfl
@[simp] abbrev tI (Rs:List AV) (i:Int):=((bM Rs)∧(jT i)∧(AV.bool false=AV.bool false∧true=true)∧(I 0=I 0∧true=true)∧True)
@[simp] abbrev Bb:=(ws∧wt∧(some 41=some 41∧0=0)∧True)
theorem Tw (y:Rw) (i j:Int) (Rs:List AV) (o o':Ob) (M N C:AV) (BN BC:Option Blk) (id:List UInt8) (Nx:Prop) (Q:AExit→St→Prop):aP prog opts0 40 (oA 4 0 y [] [(22,fun s Q=>fC 0 [(0,0),(1,1),(3,3),(4,4),(5,41)] (c8 i Rs (aa o M N (.nilsl) C) [I (aj .i64 (101+y.a%5)),.str id] false 0 []) [(1,BN),(3,BC)] s∧Q (.exit 3) (aQ (c8 i Rs (aa o M N (.nilsl) C) [I (aj .i64 (101+y.a%5)),.str id] false 0 []) [(1,BN),(3,BC)]))] none id) (aJ prog 22 5) (aQ (oW i Rs (aa o M N (.nilsl) C) []) [(1,BN),(3,BC)]) (roundO 0 [(0,0),(1,1),(2,13),(3,3),(4,4)] (oW j Rs (aa o' M N (.rsl true 2 0 1 2) C) [(2,.cells [I (aj .i64 (101+y.a%5)),.str id],.whole)]) [(1,BN),(3,BC)] Nx [] (oW i Rs [] []) [] Q)=
 (aE prog BinOp.lss 3 (Operand.tmp 55) (Operand.tmp 57) (I i) (I (Int.ofNat (ab Rs)))=some (.bool true)∧aE prog BinOp.lss 3 (Operand.tmp 60) (Operand.const (Value.int IntKind.i64 10)) (I i) (I 10)=some (.bool true)∧aF prog 22 (.fsl false Rs) (I i)=some (ck y)∧SC 23 [I y.1,I 9] (I 4)∧SC 23 [I y.2,I 5] (I (y.2%5))∧SC 67 [I y.3] (.str id)∧(((tI Rs i)∧Bb∧br [(0,0),(1,1),(3,3),(4,4),(5,41)] (aa o M N AV.nilsl C) (aa o M N AV.nilsl C)∧(zL=zL∧true=true)∧([I (aj IntKind.i64 (101+y.2%5)),.str id]=[I (aj IntKind.i64 (101+y.2%5)),.str id]∧ae [I (aj IntKind.i64 (101+y.2%5)),.str id]=true)∧True)∧(BN=BN∧aq BN)∧(BC=BC∧aq BC)∧True)∧((((bM Rs)∧(I (aj IntKind.i64 (i+1))=I j∧ag (I j)=true)∧True)∧cj∧br [(0,0),(1,1),(2,13),(3,3),(4,4)] (aa o' M N (.rsl true 2 0 1 2) C) (aa o M N (.rsl true 13 0 (ab [AV.agg [I (aj IntKind.i64 (101+y.2%5)),.str id]]) 2) C)∧(zL=zL∧true=true)∧(flat [AV.agg [I (aj IntKind.i64 (101+y.2%5)),.str id]]=[I (aj IntKind.i64 (101+y.2%5)),.str id]∧ae [I (aj IntKind.i64 (101+y.2%5)),.str id]=true)∧True)∧(BN=BN∧aq BN)∧(BC=BC∧aq BC)∧True)∧Nx):=by kernel_rfl
theorem Tx (y:Rw) (i j:Int) (Rs:List AV) (o o':Ob) (M N C:AV) (BN BC:Option Blk) (id:List UInt8) (k k':Nat) (es es':List AV) (Nx:Prop) (Q:AExit→St→Prop):aP prog opts0 40 (oA 4 0 y [] [(22,fun s Q=>fC 0 [(0,0),(1,1),(2,2),(3,3),(4,4),(5,41)] (c8 i Rs (kq C M N k o) [I (aj .i64 (101+y.a%5)),.str id] false 0 [(2,.cells es,.whole)]) [(1,BN),(3,BC)] s∧Q (.exit 3) (aQ (c8 i Rs (kq C M N k o) [I (aj .i64 (101+y.a%5)),.str id] true (.ofNat k) [(2,.cells es,.whole)]) [(1,BN),(3,BC)]))] none id) (aJ prog 22 5) (aQ (oW i Rs (kq C M N k o) [(2,.cells es,.whole)]) [(1,BN),(3,BC)]) (roundO 0 [(0,0),(1,1),(2,2),(3,3),(4,4)] (oW j Rs (aa o' M N (.rsl true 2 0 k' 2) C) [(2,.cells es',.whole)]) [(1,BN),(3,BC)] Nx [] (oW i Rs [] []) [] Q)=
 (aE prog BinOp.lss 3 (Operand.tmp 55) (Operand.tmp 57) (I i) (I (Int.ofNat (ab Rs)))=some (.bool true)∧aE prog BinOp.lss 3 (Operand.tmp 60) (Operand.const (Value.int IntKind.i64 10)) (I i) (I 10)=some (.bool true)∧aF prog 22 (.fsl false Rs) (I i)=some (ck y)∧SC 23 [I y.1,I 9] (I 4)∧SC 23 [I y.2,I 5] (I (y.2%5))∧SC 67 [I y.3] (.str id)∧(((tI Rs i)∧Bb∧br [(0,0),(1,1),(2,2),(3,3),(4,4),(5,41)] (jn C M N k o) (jn C M N k o)∧(zL=zL∧true=true)∧([I (aj IntKind.i64 (101+y.2%5)),.str id]=[I (aj IntKind.i64 (101+y.2%5)),.str id]∧ae [I (aj IntKind.i64 (101+y.2%5)),.str id]=true)∧(lL es)∧True)∧(BN=BN∧aq BN)∧(BC=BC∧aq BC)∧True)∧((((bM Rs)∧(I (aj IntKind.i64 (i+1))=I j∧ag (I j)=true)∧True)∧cj∧br [(0,0),(1,1),(2,2),(3,3),(4,4)] (aa o' M N (.rsl true 2 0 k' 2) C) (jn C M N k o)∧(zL=zL∧true=true)∧(es=es'∧ae es'=true)∧True)∧(BN=BN∧aq BN)∧(BC=BC∧aq BC)∧True)∧Nx):=by kernel_rfl
theorem Ty (y:Rw) (i j:Int) (Rs:List AV) (o o':Ob) (M N C:AV) (BN BC:Option Blk) (id:List UInt8) (k k':Nat) (es es':List AV) (Nx:Prop) (Q:AExit→St→Prop):aP prog opts0 40 (oA 4 0 y [] [(22,fun s Q=>fC 0 [(0,0),(1,1),(2,2),(3,3),(4,4),(5,41)] (c8 i Rs (kq C M N k o) [I (aj .i64 (101+y.a%5)),.str id] false 0 [(2,.cells es,.whole)]) [(1,BN),(3,BC)] s∧Q (.exit 3) (aQ (c8 i Rs (kq C M N k o) [I (aj .i64 (101+y.a%5)),.str id] false (.ofNat k) [(2,.cells es,.whole)]) [(1,BN),(3,BC)]))] none id) (aJ prog 22 5) (aQ (oW i Rs (kq C M N k o) [(2,.cells es,.whole)]) [(1,BN),(3,BC)]) (roundO 0 [(0,0),(1,1),(2,13),(3,3),(4,4)] (oW j Rs (aa o' M N (.rsl true 2 0 k' 2) C) [(2,.cells es',.whole)]) [(1,BN),(3,BC)] Nx [] (oW i Rs [] []) [] Q)=
 (aE prog BinOp.lss 3 (Operand.tmp 55) (Operand.tmp 57) (I i) (I (Int.ofNat (ab Rs)))=some (.bool true)∧aE prog BinOp.lss 3 (Operand.tmp 60) (Operand.const (Value.int IntKind.i64 10)) (I i) (I 10)=some (.bool true)∧aF prog 22 (.fsl false Rs) (I i)=some (ck y)∧SC 23 [I y.1,I 9] (I 4)∧SC 23 [I y.2,I 5] (I (y.2%5))∧SC 67 [I y.3] (.str id)∧(((tI Rs i)∧Bb∧br [(0,0),(1,1),(2,2),(3,3),(4,4),(5,41)] (jn C M N k o) (jn C M N k o)∧(zL=zL∧true=true)∧([I (aj IntKind.i64 (101+y.2%5)),.str id]=[I (aj IntKind.i64 (101+y.2%5)),.str id]∧ae [I (aj IntKind.i64 (101+y.2%5)),.str id]=true)∧(lL es)∧True)∧(BN=BN∧aq BN)∧(BC=BC∧aq BC)∧True)∧aw (a7 2 [AV.agg [I (aj IntKind.i64 (101+y.2%5)),.str id]]&&(((k+ab [AV.agg [I (aj IntKind.i64 (101+y.2%5)),.str id]])*24).ble 140737488355328&&(bq (flat [AV.agg [I (aj IntKind.i64 (101+y.2%5)),.str id]])&&true))) (aw ((ab es).beq (k*2)) (((((bM Rs)∧(I (aj IntKind.i64 (i+1))=I j∧ag (I j)=true)∧True)∧cj∧br [(0,0),(1,1),(2,13),(3,3),(4,4)] (aa o' M N (.rsl true 2 0 k' 2) C) (aa o M N (.rsl true 13 0 (k+ab [AV.agg [I (aj IntKind.i64 (101+y.2%5)),.str id]]) 2) C)∧(zL=zL∧true=true)∧(es++flat [AV.agg [I (aj IntKind.i64 (101+y.2%5)),.str id]]=es'∧ae es'=true)∧True)∧(BN=BN∧aq BN)∧(BC=BC∧aq BC)∧True)∧Nx))):=by kernel_rfl
abbrev wx:=(AV.agg [AV.str [111,110,101],AV.str [116,119,111],AV.str [116,104,114,101,101],AV.str [102,111,117,114]])
abbrev wy:=(AV.agg [AV.str [120,45,97],AV.str [120,45,98]])
@[simp] abbrev Hp:=(ws∧wt∧(some 48=some 48∧0=0)∧True)
abbrev o3 (cn ct:List UInt8):=[AV.agg [AV.str cn,AV.str ct]]
theorem Tz (y:Rw) (i j:Int) (Rs:List AV) (o o':Ob) (M N L:AV) (BN BL:Option Blk) (cn ct:List UInt8) (Nx:Prop) (Q:AExit→St→Prop):aP prog opts0 40 (oA 6 0 y [(30,4,.res (.str cn)),(30,9,.res (.str ct))] [(34,fun s Q=>fC 0 [(0,0),(1,1),(2,2),(4,4),(5,48)] (cN i Rs (aa o M N L (.nilsl)) [.str cn,.str ct] false 0 []) [(1,BN),(2,BL)] s∧Q (.exit 5) (aQ (cN i Rs (aa o M N L (.nilsl)) [.str cn,.str ct] false 0 []) [(1,BN),(2,BL)]))] none []) (aJ prog 22 5) (aQ (oW i Rs (aa o M N L (.nilsl)) []) [(1,BN),(2,BL)]) (roundO 0 [(0,0),(1,1),(2,2),(3,19),(4,4)] (oW j Rs (aa o' M N L (.rsl true 3 0 1 2)) [(3,.cells [.str cn,.str ct],.whole)]) [(1,BN),(2,BL)] Nx [] (oW i Rs [] []) [] Q)=
 (aE prog BinOp.lss 3 (Operand.tmp 55) (Operand.tmp 57) (I i) (I (Int.ofNat (ab Rs)))=some (.bool true)∧aE prog BinOp.lss 3 (Operand.tmp 60) (Operand.const (Value.int IntKind.i64 10)) (I i) (I 10)=some (.bool true)∧aF prog 22 (.fsl false Rs) (I i)=some (ck y)∧SC 23 [I y.1,I 9] (I 6)∧SC 23 [I y.2,I 2] (I (y.2%2))∧bf prog 108 wy (I (y.2%2))=some (.str cn)∧SC 23 [I y.3,I 4] (I (y.3%4))∧bf prog 109 wx (I (y.3%4))=some (.str ct)∧(((tI Rs i)∧Hp∧br [(0,0),(1,1),(2,2),(4,4),(5,48)] (aa o M N L AV.nilsl) (aa o M N L AV.nilsl)∧(zL=zL∧true=true)∧([AV.str cn,.str ct]=[AV.str cn,.str ct]∧ae [AV.str cn,.str ct]=true)∧True)∧(BN=BN∧aq BN)∧(BL=BL∧aq BL)∧True)∧((((bM Rs)∧(I (aj IntKind.i64 (i+1))=I j∧ag (I j)=true)∧True)∧cj∧br [(0,0),(1,1),(2,2),(3,19),(4,4)] (aa o' M N L (.rsl true 3 0 1 2)) (aa o M N L (.rsl true 19 0 (ab (o3 cn ct)) 2))∧(zL=zL∧true=true)∧(flat (o3 cn ct)=[AV.str cn,.str ct]∧ae [AV.str cn,.str ct]=true)∧True)∧(BN=BN∧aq BN)∧(BL=BL∧aq BL)∧True)∧Nx):=by kernel_rfl
@[simp] abbrev Bc (BL BN:Option Blk) (L M N:AV) (Rs es:List AV) (cn ct:List UInt8) (i:Int) (k:Nat) (o:Ob):=(((tI Rs i)∧Hp∧br [(0,0),(1,1),(2,2),(3,3),(4,4),(5,48)] (jU L M N k o) (jU L M N k o)∧(zL=zL∧true=true)∧([AV.str cn,AV.str ct]=[AV.str cn,AV.str ct]∧ae [AV.str cn,AV.str ct]=true)∧(lL es)∧True)∧(BN=BN∧aq BN)∧(BL=BL∧aq BL)∧True)
theorem TA (y:Rw) (i j:Int) (Rs:List AV) (o o':Ob) (M N L:AV) (BN BL:Option Blk) (cn ct:List UInt8) (k k':Nat) (es es':List AV) (Nx:Prop) (Q:AExit→St→Prop):aP prog opts0 40 (oA 6 0 y [(30,4,.res (.str cn)),(30,9,.res (.str ct))] [(34,fun s Q=>fC 0 [(0,0),(1,1),(2,2),(3,3),(4,4),(5,48)] (cN i Rs (iU L M N k o) [.str cn,.str ct] false 0 [(3,.cells es,.whole)]) [(1,BN),(2,BL)] s∧Q (.exit 5) (aQ (cN i Rs (iU L M N k o) [.str cn,.str ct] true (.ofNat k) [(3,.cells es,.whole)]) [(1,BN),(2,BL)]))] none []) (aJ prog 22 5) (aQ (oW i Rs (iU L M N k o) [(3,.cells es,.whole)]) [(1,BN),(2,BL)]) (roundO 0 [(0,0),(1,1),(2,2),(3,3),(4,4)] (oW j Rs (aa o' M N L (.rsl true 3 0 k' 2)) [(3,.cells es',.whole)]) [(1,BN),(2,BL)] Nx [] (oW i Rs [] []) [] Q)=
 (aE prog BinOp.lss 3 (Operand.tmp 55) (Operand.tmp 57) (I i) (I (Int.ofNat (ab Rs)))=some (.bool true)∧aE prog BinOp.lss 3 (Operand.tmp 60) (Operand.const (Value.int IntKind.i64 10)) (I i) (I 10)=some (.bool true)∧aF prog 22 (.fsl false Rs) (I i)=some (ck y)∧SC 23 [I y.1,I 9] (I 6)∧SC 23 [I y.2,I 2] (I (y.2%2))∧bf prog 108 wy (I (y.2%2))=some (.str cn)∧SC 23 [I y.3,I 4] (I (y.3%4))∧bf prog 109 wx (I (y.3%4))=some (.str ct)∧(Bc BL BN L M N Rs es cn ct i k o)∧((((bM Rs)∧(I (aj IntKind.i64 (i+1))=I j∧ag (I j)=true)∧True)∧cj∧br [(0,0),(1,1),(2,2),(3,3),(4,4)] (aa o' M N L (.rsl true 3 0 k' 2)) (jU L M N k o)∧(zL=zL∧true=true)∧(es=es'∧ae es'=true)∧True)∧(BN=BN∧aq BN)∧(BL=BL∧aq BL)∧True)∧Nx):=by kernel_rfl
theorem TB (y:Rw) (i j:Int) (Rs:List AV) (o o':Ob) (M N L:AV) (BN BL:Option Blk) (cn ct:List UInt8) (k k':Nat) (es es':List AV) (Nx:Prop) (Q:AExit→St→Prop):aP prog opts0 40 (oA 6 0 y [(30,4,.res (.str cn)),(30,9,.res (.str ct)),(36,6,.res (.bool true))] [(34,fun s Q=>fC 0 [(0,0),(1,1),(2,2),(3,3),(4,4),(5,48)] (cN i Rs (iU L M N k o) [.str cn,.str ct] false 0 [(3,.cells es,.whole)]) [(1,BN),(2,BL)] s∧Q (.exit 5) (aQ (cN i Rs (iU L M N k o) [.str cn,.str ct] false (.ofNat k) [(3,.cells es,.whole)]) [(1,BN),(2,BL)]))] none []) (aJ prog 22 5) (aQ (oW i Rs (iU L M N k o) [(3,.cells es,.whole)]) [(1,BN),(2,BL)]) (roundO 0 [(0,0),(1,1),(2,2),(3,19),(4,4)] (oW j Rs (aa o' M N L (.rsl true 3 0 k' 2)) [(3,.cells es',.whole)]) [(1,BN),(2,BL)] Nx [] (oW i Rs [] []) [] Q)=
 (aE prog BinOp.lss 3 (Operand.tmp 55) (Operand.tmp 57) (I i) (I (Int.ofNat (ab Rs)))=some (.bool true)∧aE prog BinOp.lss 3 (Operand.tmp 60) (Operand.const (Value.int IntKind.i64 10)) (I i) (I 10)=some (.bool true)∧aF prog 22 (.fsl false Rs) (I i)=some (ck y)∧SC 23 [I y.1,I 9] (I 6)∧SC 23 [I y.2,I 2] (I (y.2%2))∧bf prog 108 wy (I (y.2%2))=some (.str cn)∧SC 23 [I y.3,I 4] (I (y.3%4))∧bf prog 109 wx (I (y.3%4))=some (.str ct)∧(Bc BL BN L M N Rs es cn ct i k o)∧aE prog BinOp.lss 3 (Operand.tmp 198) (Operand.const (Value.int IntKind.i64 6)) (I (Int.ofNat k)) (I 6)=some (.bool true)∧aw (a7 2 (o3 cn ct)&&(((k+ab (o3 cn ct))*32).ble 140737488355328&&(bq (flat (o3 cn ct))&&true))) (aw ((ab es).beq (k*2)) (((((bM Rs)∧(I (aj IntKind.i64 (i+1))=I j∧ag (I j)=true)∧True)∧cj∧br [(0,0),(1,1),(2,2),(3,19),(4,4)] (aa o' M N L (.rsl true 3 0 k' 2)) (aa o M N L (.rsl true 19 0 (k+ab (o3 cn ct)) 2))∧(zL=zL∧true=true)∧(es++flat (o3 cn ct)=es'∧ae es'=true)∧True)∧(BN=BN∧aq BN)∧(BL=BL∧aq BL)∧True)∧Nx))):=by kernel_rfl
theorem TC (y:Rw) (i j:Int) (Rs:List AV) (o o':Ob) (M N L:AV) (BN BL:Option Blk) (cn ct:List UInt8) (k k':Nat) (es es':List AV) (Nx:Prop) (Q:AExit→St→Prop):aP prog opts0 40 (oA 6 0 y [(30,4,.res (.str cn)),(30,9,.res (.str ct)),(36,6,.res (.bool false))] [(34,fun s Q=>fC 0 [(0,0),(1,1),(2,2),(3,3),(4,4),(5,48)] (cN i Rs (iU L M N k o) [.str cn,.str ct] false 0 [(3,.cells es,.whole)]) [(1,BN),(2,BL)] s∧Q (.exit 5) (aQ (cN i Rs (iU L M N k o) [.str cn,.str ct] false (.ofNat k) [(3,.cells es,.whole)]) [(1,BN),(2,BL)]))] none []) (aJ prog 22 5) (aQ (oW i Rs (iU L M N k o) [(3,.cells es,.whole)]) [(1,BN),(2,BL)]) (roundO 0 [(0,0),(1,1),(2,2),(3,3),(4,4)] (oW j Rs (aa o' M N L (.rsl true 3 0 k' 2)) [(3,.cells es',.whole)]) [(1,BN),(2,BL)] Nx [] (oW i Rs [] []) [] Q)=
 (aE prog BinOp.lss 3 (Operand.tmp 55) (Operand.tmp 57) (I i) (I (Int.ofNat (ab Rs)))=some (.bool true)∧aE prog BinOp.lss 3 (Operand.tmp 60) (Operand.const (Value.int IntKind.i64 10)) (I i) (I 10)=some (.bool true)∧aF prog 22 (.fsl false Rs) (I i)=some (ck y)∧SC 23 [I y.1,I 9] (I 6)∧SC 23 [I y.2,I 2] (I (y.2%2))∧bf prog 108 wy (I (y.2%2))=some (.str cn)∧SC 23 [I y.3,I 4] (I (y.3%4))∧bf prog 109 wx (I (y.3%4))=some (.str ct)∧(Bc BL BN L M N Rs es cn ct i k o)∧aE prog BinOp.lss 3 (Operand.tmp 198) (Operand.const (Value.int IntKind.i64 6)) (I (Int.ofNat k)) (I 6)=some (.bool false)∧((((bM Rs)∧(I (aj IntKind.i64 (i+1))=I j∧ag (I j)=true)∧True)∧cj∧br [(0,0),(1,1),(2,2),(3,3),(4,4)] (aa o' M N L (.rsl true 3 0 k' 2)) (jU L M N k o)∧(zL=zL∧true=true)∧(es=es'∧ae es'=true)∧True)∧(BN=BN∧aq BN)∧(BL=BL∧aq BL)∧True)∧Nx):=by kernel_rfl
end
set_option maxRecDepth 20000
def kr:Nat→List (Nat × Nat)
 |0=>[]
 |n+1=>(n,n)::kr n
noncomputable def o4 (s:List UInt8) (k i:Nat) (es:List AV):View:=⟨[(1,.str s),(4,.bool false),(5,I (.ofNat i))],[(0,.rsl true 1 0 k 1)],[(1,.cells es,.whole)],42,18⟩
noncomputable def ku (b:Bool) (es:List AV):View:=⟨[(4,.bool b)],[],[(1,.cells es,.whole)],60,18⟩
noncomputable def wA (x:List UInt8):bz:=aB [(4,3,.ld (.str x))] [] aR [] []
theorem Bd (s x:List UInt8) (k i j:Nat) (es:List AV) (q:Bool) (N:Prop) (Q:AExit→St→Prop):aP prog opts0 40 (wA x) (aJ prog 69 3) (o4 s k i es).st (cb 42 (kr 42) (o4 s k j es) N (kr 42) (ku q es) Q)=
 (ac (ay (Int.ofNat i) (Int.ofNat k)) (aw (dx (Int.ofNat i)&&((Int.ofNat i).toNat.blt k&&true)) (bZ prog 9 es (0+(Int.ofNat i).toNat*1)=some (.str x)∧ac (aI x s) ((((AV.bool true=AV.bool q∧ag (.bool q)=true)∧True)∧True∧(es=es∧ae es=true)∧True)∧Q AExit.ret (ku q es).st) ((((AV.str s=AV.str s∧ag (.str s)=true)∧(AV.bool false=AV.bool false∧true=true)∧(I (aj IntKind.i64 (Int.ofNat i+1))=I (Int.ofNat j)∧ag (I (Int.ofNat j))=true)∧True)∧((true=true∧some 1=some 1∧0=0∧k=k∧1=1)∧True)∧(es=es∧ae es=true)∧True)∧N))) ((((AV.bool false=AV.bool q∧ag (.bool q)=true)∧True)∧True∧(es=es∧ae es=true)∧True)∧Q (AExit.exit 0) (ku q es).st)):=by kernel_rfl
noncomputable def inL (s:List UInt8) (k:Nat) (es:List AV) (q:Bool):bV:=fun st Q=>dr 42 (kr 42) (o4 s k 0 es) st∧ac q (Q .ret (ku true es).st) (Q (.exit 0) (ku false es).st)
theorem TD (s:List UInt8) (k:Nat) (es:List AV) (q:Bool) (Q:AV→ah→Nat→Prop):aH prog opts0 40 (aB [] [(3,inL s k es q)] aR [] []) 69 [.rsl true 1 0 k 1,.str s] [(1,some (.cells es))] 42 Q=
 ((((AV.str s=AV.str s∧ag (.str s)=true)∧(AV.bool false=AV.bool false∧true=true)∧(I 0=I 0∧true=true)∧True)∧((true=true∧some 1=some 1∧0=0∧k=k∧1=1)∧True)∧(es=es∧ae es=true)∧True)∧ac q (Q (.bool true) [(1,some (Blk.cells es))] 60) (Q (.bool false) [(1,some (Blk.cells es))] 61)):=by kernel_rfl
theorem TE (s:List UInt8) (Q:AV→Prop):aH prog opts0 40 bC 69 [.nilsl,.str s] [] 0 (fun v _ _=>Q v)=
 (Q (.bool false)):=by kernel_rfl
theorem tJ {p:Nat→Prop} (n:Nat) (hn:p n) (hs:∀i,i<n→p (i+1)→p i):∀i,i≤n→p i:=by
 intro i hi;obtain ⟨m,rfl⟩:∃m,n=i+m:=⟨n-i,by omega⟩;clear hi
 induction m generalizing i with
 |zero=>exact hn
 |succ m ih=>exact hs i (by omega) (ih (i+1) (by rw[show i+1+m=i+(m+1) by omega];exact hn) (by intro j hj;exact hs j (by omega)))
def lM (l:List (List UInt8)) (s:List UInt8):Bool:=l.any fun x=>aI x s
theorem Hq:fK prog 9=some false:=by kernel_rfl
theorem Hr {l:List (List UInt8)} {j:Nat} {x:List UInt8} (h:l[j]? =some x):bZ prog 9 (l.map .str) (0+j*1)=some (.str x):=by
 simp only[bZ,Hq,gY,Nat.zero_add,Nat.mul_one,List.getElem?_map,h,Option.map_some]
theorem TF {s:List UInt8} {l:List (List UInt8)} {Q:AExit→St→Prop} (hb:l.length≤1000):∀i,i≤l.length→(ac (lM (l.drop i) s) (Q .ret (ku true (l.map .str)).st) (Q (.exit 0) (ku false (l.map .str)).st)→ALp prog opts0.glob 42 (aJ prog 69 3) (o4 s l.length i (l.map .str)).st Q):=by
 have hc:=fN l;refine tJ _ (fun hq=> ?_) (fun i hi ih hq=> ?_)
 ·rw[List.drop_of_length_le (Nat.le_refl _)] at hq;refine ALp.round (A:=wA []) (V2:=o4 s l.length 0 (l.map .str)) (F:=ku false (l.map .str)) (lk:=kr 42) (lk':=kr 42) base0 ar (LsOk.no rfl) .refl ?_;rw[Bd];refine ai (fun h=> ?_) (fun _=>⟨⟨⟨rflTwoQ,ad⟩,trivial,⟨rfl,hc⟩,ad⟩,hq⟩);have h:=ltInt_iff.1 h;simp only[bh] at h;omega
 ·have g1:=List.getElem?_eq_getElem hi;rw[List.drop_eq_getElem_cons hi] at hq;revert g1 hq;generalize l[i]=x;intro hq g1;simp only[lM,List.any_cons] at hq;have hno:ay (Int.ofNat i) (Int.ofNat l.length)=false→False:=fun h=>by
   have h:=ltInt_false.1 h;simp only[bh] at h;omega
  have hob:(dx (Int.ofNat i)&&((Int.ofNat i).toNat.blt l.length&&true))=true:=by
   simp only[dx,Bool.true_and,Bool.and_true];exact blt_iff.2 hi
  have hw:aj .i64 (Int.ofNat i+1)=Int.ofNat (i+1):=eI (by simp;omega) (by simp;omega);cases hx:aI x s with
  |true=>
   rw[hx] at hq;refine ALp.round (A:=wA x) (V2:=o4 s l.length (i+1) (l.map .str)) (F:=ku true (l.map .str)) (lk:=kr 42) (lk':=kr 42) base0 ar (LsOk.no rfl) .refl ?_;rw[Bd];refine ai (fun _=>aD hob ⟨Hr g1,ai (fun _=>⟨⟨⟨rflTwoQ,ad⟩,trivial,⟨rfl,hc⟩,ad⟩,hq⟩) (fun h=>by rw[hx] at h;cases h)⟩) (fun h=>(hno h).elim)
  |false=>
   rw[hx] at hq;have hn:=ih hq;refine ALp.round (A:=wA x) (V2:=o4 s l.length (i+1) (l.map .str)) (F:=ku false (l.map .str)) (lk:=kr 42) (lk':=kr 42) base0 ar (LsOk.no rfl) .refl ?_;rw[Bd,hw];refine ai (fun _=>aD hob ⟨Hr g1,ai (fun h=>by rw[hx] at h;cases h) (fun _=>⟨⟨⟨rflTwoQ,rflTwoQ,rflTwoQ,ad⟩,⟨⟨rfl,rfl,rfl,rfl,rfl⟩,ad⟩,⟨rfl,hc⟩,ad⟩,hn⟩)⟩) (fun h=>(hno h).elim)
theorem TG:bW (dI prog 69) 3=[aJ prog 69 3]:=by kernel_rfl
theorem Hs (l:List (List UInt8)) (s:List UInt8) (hb:l.length≤1000):dw prog opts0.glob 69 [.rsl true 1 0 l.length 1,.str s] [(1,some (.cells (l.map .str)))] 42 (.bool (lM l s)) [(1,some (.cells (l.map .str)))] 62:=by
 have hc:=fN l;refine fB (k:=2) (A:=aB [] [(3,inL s l.length (l.map .str) (lM l s))] aR [] []) base0 ar
  (aG (LsOk.at1 rfl TG fun st Q hs=> .seen base0.glob hs.1 (TF hb 0 (Nat.zero_le _) hs.2))) ?_
 rw[TD];refine ⟨⟨⟨rflTwoQ,rflTwoQ,rflTwoQ,ad⟩,⟨⟨rfl,rfl,rfl,rfl,rfl⟩,ad⟩,⟨rfl,hc⟩,ad⟩,ai (fun e=> ?_) (fun e=> ?_)⟩
 ·rw[e];exact ⟨rfl,⟨.bool true,Frz.closed _ rfl,.refl _⟩,⟨rfl,.cells (l.map .str),.cells (l.map .str),rfl,FrzL.closed _ hc,WkL.refl _⟩,ad⟩
 ·rw[e];exact ⟨rfl,⟨.bool false,Frz.closed _ rfl,.refl _⟩,⟨rfl,.cells (l.map .str),.cells (l.map .str),rfl,FrzL.closed _ hc,WkL.refl _⟩,ad⟩
theorem TH (s:List UInt8):SC 69 [.nilsl,.str s] (.bool false):=by
 refine bQ (A:=bC) base0 cX (aG (LsOk.no rfl)) rfl rfl ?_;rw[TE]
theorem TI {l:List Lk} {j:Nat} {x:Lk} (h:l[j]? =some x):bZ prog 99 (flat (l.map aL)) (0+j*2)=some (.agg [I x.ty,.str x.id]):=by
  have h1:fK prog 99=some true:=by kernel_rfl
  have h2:ca prog 99=some 2:=by kernel_rfl
  simp only[bZ,h1,h2,Nat.zero_add];rw[chunk_flat l j x h];rfl
 where
  chunk_flat:∀ (l:List Lk) (j:Nat) (x:Lk),l[j]? =some x→chunk (flat (l.map aL)) (j*2) 2=some [I x.ty,.str x.id]
   |[],_,_,h=>by simp at h
   | a::r,0,x,h=>by
     simp at h;subst h;show chunk (flat (aL a::r.map aL)) 0 2=_;simp[flat,aL,AV.cells,chunk]
   | a::r,j+1,x,h=>by
     have ih:=chunk_flat r j x (by simpa using h);rw[show (j+1)*2=j*2+1+1 by omega];exact ih
theorem TJ {l:List Cu} {j:Nat} {x:Cu} (h:l[j]? =some x):bZ prog 101 (flat (l.map az)) (0+j*2)=some (.agg [.str x.name,.str x.text]):=by
  have h1:fK prog 101=some true:=by kernel_rfl
  have h2:ca prog 101=some 2:=by kernel_rfl
  simp only[bZ,h1,h2,Nat.zero_add];rw[chunk_flat l j x h];rfl
 where
  chunk_flat:∀ (l:List Cu) (j:Nat) (x:Cu),l[j]? =some x→chunk (flat (l.map az)) (j*2) 2=some [.str x.name,.str x.text]
   |[],_,_,h=>by simp at h
   | a::r,0,x,h=>by
     simp at h;subst h;show chunk (flat (az a::r.map az)) 0 2=_;simp[flat,az,AV.cells,chunk]
   | a::r,j+1,x,h=>by
     have ih:=chunk_flat r j x (by simpa using h);rw[show (j+1)*2=j*2+1+1 by omega];exact ih
theorem m9:∀l:List Lk,ae (flat (l.map aL))=true
 |[]=>rfl
 |_::r=>m9 r
theorem fa:∀l:List Cu,ae (flat (l.map az))=true
 |[]=>rfl
 |_::r=>fa r
theorem bA {lk:List (Nat × Nat)} {o:Ob} {M N L C N' L' C':AV} (hM:ag M=true) (hN:de lk N N') (hL:de lk L L') (hC:de lk C C'):br lk (aa o M N L C) (aa o M N' L' C'):=by
 refine ⟨?_⟩;simp only[aa,RenL];exact ⟨.same _ rfl,.same _ rfl,.same _ rfl,.same _ rfl,.same _ rfl,.same _ hM,.same _ rfl,.same _ rfl,.same _ rfl,.same _ rfl,.same _ rfl,.same _ rfl,.same _ rfl,.same _ rfl,.same _ rfl,.same _ rfl,.same _ rfl,.same _ rfl,.same _ rfl,.same _ rfl,.same _ rfl,.same _ rfl,.same _ rfl,.same _ rfl,.same _ rfl,.same _ rfl,.same _ rfl,.same _ rfl,.same _ rfl,hN,hL,hC,.same _ rfl,.same _ rfl,.same _ rfl,.same _ rfl,.same _ rfl,ad⟩
noncomputable section
def cr (k:Nat) (i:Int) (O:List AV):View:=⟨[(k,I i)],[(2,.ptr 0 0),(3,.ptr 1 0)],[(0,.cells O,.whole),(1,.cells O,.whole)],2,173⟩
def lN (r:Nat) (x:List AV):bz:=aB [(r,3,.res (.fptr x 0)),(r,8,.res (.fptr x 0))] [] aR [] []
@[simp] abbrev kv:=((some 0=some 0∧0=0)∧(some 1=some 1∧0=0)∧True)
@[simp] abbrev qG (C L M:AV) (R:List AV) (o:Ob):=((aa o M (AV.fsl false R) L C)=(aa o M (AV.fsl false R) L C)∧ae (aa o M (AV.fsl false R) L C)=true)
@[simp] abbrev qH (i:Int):=((I i=I i∧ag (I i)=true)∧True)
theorem Ht (o:Ob) (M L C:AV) (R:List AV) (x:List UInt8) (i j:Int) (Nx:Prop) (Q:AExit→St→Prop):aP prog opts0 40 (lN 6 [.str x]) (aJ prog 20 5) (cr 5 i (aa o M (.fsl false R) L C)).st (cb 0 [(0,0),(1,1)] (cr 5 j (aa o M (.fsl false R) L C)) Nx [(0,0),(1,1)] (cr 5 i (aa o M (.fsl false R) L C)) Q)=
 (ac (ay i (Int.ofNat (ab R))) (aF prog 27 (.fsl false R) (I i)=some (.fptr [AV.str x] 0)∧aF prog 27 (.fsl false R) (I i)=some (.fptr [AV.str x] 0)∧ac (!aI x x) (((qH i)∧kv∧(qG C L M R o)∧(qG C L M R o)∧True)∧Q AExit.ret (cr 5 i (aa o M (.fsl false R) L C)).st) ((((I (aj IntKind.i64 (i+1))=I j∧ag (I j)=true)∧True)∧kv∧(qG C L M R o)∧(qG C L M R o)∧True)∧Nx)) (((qH i)∧kv∧(qG C L M R o)∧(qG C L M R o)∧True)∧Q (AExit.exit 0) (cr 5 i (aa o M (.fsl false R) L C)).st)):=by kernel_rfl
@[simp] abbrev qI (C M N:AV) (R:List AV) (o:Ob):=((aa o M N (AV.fsl false R) C)=(aa o M N (AV.fsl false R) C)∧ae (aa o M N (AV.fsl false R) C)=true)
theorem Hu (o:Ob) (M N C:AV) (R:List AV) (x:Lk) (i j:Int) (Nx:Prop) (Q:AExit→St→Prop):aP prog opts0 40 (lN 11 [I x.ty,.str x.id]) (aJ prog 20 10) (cr 6 i (aa o M N (.fsl false R) C)).st (cb 0 [(0,0),(1,1)] (cr 6 j (aa o M N (.fsl false R) C)) Nx [(0,0),(1,1)] (cr 6 i (aa o M N (.fsl false R) C)) Q)=
 (ac (ay i (Int.ofNat (ab R))) (aF prog 28 (.fsl false R) (I i)=some (.fptr [I x.1,.str x.2] 0)∧aF prog 28 (.fsl false R) (I i)=some (.fptr [I x.1,.str x.2] 0)∧ac (!(ao x.1 x.1&&(aI x.2 x.2&&true))) (((qH i)∧kv∧(qI C M N R o)∧(qI C M N R o)∧True)∧Q AExit.ret (cr 6 i (aa o M N (.fsl false R) C)).st) ((((I (aj IntKind.i64 (i+1))=I j∧ag (I j)=true)∧True)∧kv∧(qI C M N R o)∧(qI C M N R o)∧True)∧Nx)) (((qH i)∧kv∧(qI C M N R o)∧(qI C M N R o)∧True)∧Q (AExit.exit 2) (cr 6 i (aa o M N (.fsl false R) C)).st)):=by kernel_rfl
@[simp] abbrev qJ (L M N:AV) (R:List AV) (o:Ob):=((aa o M N L (AV.fsl false R))=(aa o M N L (AV.fsl false R))∧ae (aa o M N L (AV.fsl false R))=true)
theorem Hv (o:Ob) (M N L:AV) (R:List AV) (x:Cu) (i j:Int) (Nx:Prop) (Q:AExit→St→Prop):aP prog opts0 40 (lN 16 [.str x.name,.str x.text]) (aJ prog 20 15) (cr 7 i (aa o M N L (.fsl false R))).st (cb 0 [(0,0),(1,1)] (cr 7 j (aa o M N L (.fsl false R))) Nx [(0,0),(1,1)] (cr 7 i (aa o M N L (.fsl false R))) Q)=
 (ac (ay i (Int.ofNat (ab R))) (aF prog 29 (.fsl false R) (I i)=some (.fptr [AV.str x.1,.str x.2] 0)∧aF prog 29 (.fsl false R) (I i)=some (.fptr [AV.str x.1,.str x.2] 0)∧ac (!(aI x.1 x.1&&(aI x.2 x.2&&true))) (((qH i)∧kv∧(qJ L M N R o)∧(qJ L M N R o)∧True)∧Q AExit.ret (cr 7 i (aa o M N L (.fsl false R))).st) ((((I (aj IntKind.i64 (i+1))=I j∧ag (I j)=true)∧True)∧kv∧(qJ L M N R o)∧(qJ L M N R o)∧True)∧Nx)) (((qH i)∧kv∧(qJ L M N R o)∧(qJ L M N R o)∧True)∧Q (AExit.exit 4) (cr 7 i (aa o M N L (.fsl false R))).st)):=by kernel_rfl
def qK (k:Nat) (e:Nat) (n:Int) (O:List AV):bV:=fun st Q=>dr 0 [(0,0),(1,1)] (cr k 0 O) st∧Q (.exit e) (cr k n O).st
abbrev qL (C L N:List AV) (m:List UInt8) (o:Ob):=(aa o (AV.fsl false (ak m)) (AV.fsl false N) (AV.fsl false L) (AV.fsl false C))
@[simp] abbrev Be (C L N:List AV) (m:List UInt8) (o:Ob):=(((I 0=I 0∧true=true)∧True)∧kv∧((qL C L N m o)=(qL C L N m o)∧ae (qL C L N m o)=true)∧((qL C L N m o)=(qL C L N m o)∧ae (qL C L N m o)=true)∧True)
abbrev tK (C L N:List AV) (m:List UInt8) (o:Ob):=(aa o (AV.fsl false (ak m)) (AV.fsl false N) (AV.fsl false L) (AV.fsl false C))
theorem TK (o:Ob) (m:List UInt8) (N L C:List AV) (n l c:Int) (Q:AV→Prop):aH prog opts0 40 (aB [(1,36,.res (.str m)),(1,39,.res (.str m))] [(5,qK 5 0 n (tK C L N m o)),(10,qK 6 2 l (tK C L N m o)),(15,qK 7 4 c (tK C L N m o))] aR [] []) 20 [.agg (tK C L N m o),.agg (tK C L N m o)] [] 0 (fun v _ _=>Q v)=
 (ac (!aI o.1 o.1) (Q (.bool false)) (ac (!ao o.2 o.2) (Q (.bool false)) (ac (!ao o.3 o.3) (Q (.bool false)) (ac (!ao o.4 o.4) (Q (.bool false)) (ac (!ao o.5 o.5) (Q (.bool false)) (dM prog 23 9 (.fsl false (ak m))=some (Eff.val (.str m))∧dM prog 23 9 (.fsl false (ak m))=some (Eff.val (.str m))∧ac (!aI m m) (Q (.bool false)) (ac (!ao o.7 o.7) (Q (.bool false)) (ac (!(decide (o.d0.has=o.d0.has)&&(ao o.d0.2 o.d0.2&&true)&&(decide (o.d1.has=o.d1.has)&&(ao o.d1.2 o.d1.2&&true)&&(decide (o.d2.has=o.d2.has)&&(ao o.d2.2 o.d2.2&&true)&&(decide (o.d3.has=o.d3.has)&&(ao o.d3.2 o.d3.2&&true)&&(decide (o.d4.has=o.d4.has)&&(ao o.d4.2 o.d4.2&&true)&&(decide (o.d5.has=o.d5.has)&&(ao o.d5.2 o.d5.2&&true)&&(decide (o.d6.has=o.d6.has)&&(ao o.d6.2 o.d6.2&&true)&&(decide (o.d7.has=o.d7.has)&&(ao o.d7.2 o.d7.2&&true)&&(decide (o.d8.has=o.d8.has)&&(ao o.d8.2 o.d8.2&&true)&&(decide (o.d9.has=o.d9.has)&&(ao o.d9.2 o.d9.2&&true)&&true))))))))))) (Q (.bool false)) (ac (!ao o.18 o.18) (Q (.bool false)) (ac (!aI o.19 o.19) (Q (.bool false)) (ac (!(decide (o.lh=o.lh)&&(ao o.24 o.24&&(ao o.25 o.25&&(ao o.26 o.26&&true))))) (Q (.bool false)) (ac (!decide (o.arch=o.arch)) (Q (.bool false)) (ac (!ao (Int.ofNat (ab N)) (Int.ofNat (ab N))) (Q (.bool false)) (ac (!ao (Int.ofNat (ab L)) (Int.ofNat (ab L))) (Q (.bool false)) (ac (!ao (Int.ofNat (ab C)) (Int.ofNat (ab C))) (Q (.bool false)) ((Be C L N m o)∧(Be C L N m o)∧(Be C L N m o)∧Q (.bool true))))))))))))))))):=by kernel_rfl
theorem TL {o:Ob} (hb:o.names.length≤1000) {Q:AExit→St→Prop} (hq:Q (.exit 0) (cr 5 (.ofNat o.names.length) (ax o)).st):∀i,i≤o.names.length→ALp prog opts0.glob 0 (aJ prog 20 5) (cr 5 (.ofNat i) (ax o)).st Q:=by
 have hc:ae (aa o (b7 o) (.fsl false (o.names.map .str)) (bS o) (bD o))=true:=bX o;refine tJ _ ?_ (fun i hi hn=> ?_)
 ·refine ALp.round (A:=lN 6 [.str []]) (V2:=cr 5 0 (aa o (b7 o) (.fsl false (o.names.map .str)) (bS o) (bD o))) (F:=cr 5 (.ofNat o.names.length) (aa o (b7 o) (.fsl false (o.names.map .str)) (bS o) (bD o))) (lk:=[(0,0),(1,1)]) (lk':=[(0,0),(1,1)]) base0 ar (LsOk.no rfl) .refl ?_;show aP prog opts0 40 _ _ (cr 5 (.ofNat o.names.length) (aa o (b7 o) (.fsl false (o.names.map .str)) (bS o) (bD o))).st _;rw[Ht (x:=[])];refine ai (fun e=> ?_) (fun _=>⟨⟨⟨rflTwoQ,ad⟩,⟨rflTwoQ,rflTwoQ,ad⟩,⟨rfl,hc⟩,⟨rfl,hc⟩,ad⟩,hq⟩);have e:=ltInt_iff.1 e;simp[aM] at e
 ·have g1:=List.getElem?_eq_getElem hi;revert g1;generalize o.names[i]=x;intro g1;have hx:aF prog 27 (.fsl false (o.names.map .str)) (.int .i64 (.ofNat i))=some (.fptr [.str x] 0):=gC (v:= .str x) (e:=9) (sz:=1) (by kernel_rfl) (by kernel_rfl) (by rw[List.getElem?_map,g1];rfl) rfl;have hw:aj .i64 (Int.ofNat i+1)=Int.ofNat (i+1):=eI (by simp;omega) (by simp;omega);refine ALp.round (A:=lN 6 [.str x]) (V2:=cr 5 (.ofNat (i+1)) (aa o (b7 o) (.fsl false (o.names.map .str)) (bS o) (bD o))) (F:=cr 5 (.ofNat i) (aa o (b7 o) (.fsl false (o.names.map .str)) (bS o) (bD o))) (lk:=[(0,0),(1,1)]) (lk':=[(0,0),(1,1)]) base0 ar (LsOk.no rfl) .refl ?_;show aP prog opts0 40 _ _ (cr 5 (.ofNat i) (aa o (b7 o) (.fsl false (o.names.map .str)) (bS o) (bD o))).st _;rw[Ht,hw];refine ai (fun _=>⟨hx,hx,ai (fun e=> ?_) (fun _=>⟨⟨⟨rflTwoQ,ad⟩,⟨rflTwoQ,rflTwoQ,ad⟩,⟨rfl,hc⟩,⟨rfl,hc⟩,ad⟩,hn⟩)⟩) (fun e=> ?_)
  ·have h0:aI x x=true:=beqBytes_iff.2 rfl;rw[h0] at e;cases e
  ·have e:=ltInt_false.1 e;simp only[aM,List.length_map,bh] at e;omega
theorem TM {o:Ob} (hb:o.links.length≤1000) {Q:AExit→St→Prop} (hq:Q (.exit 2) (cr 6 (.ofNat o.links.length) (ax o)).st):∀i,i≤o.links.length→ALp prog opts0.glob 0 (aJ prog 20 10) (cr 6 (.ofNat i) (ax o)).st Q:=by
 have hc:ae (aa o (b7 o) (bR o) (.fsl false (o.links.map aL)) (bD o))=true:=bX o;refine tJ _ ?_ (fun i hi hn=> ?_)
 ·refine ALp.round (A:=lN 11 [I (⟨0,[]⟩:Lk).ty,.str (⟨0,[]⟩:Lk).id]) (V2:=cr 6 0 (aa o (b7 o) (bR o) (.fsl false (o.links.map aL)) (bD o))) (F:=cr 6 (.ofNat o.links.length) (aa o (b7 o) (bR o) (.fsl false (o.links.map aL)) (bD o))) (lk:=[(0,0),(1,1)]) (lk':=[(0,0),(1,1)]) base0 ar (LsOk.no rfl) .refl ?_;show aP prog opts0 40 _ _ (cr 6 (.ofNat o.links.length) (aa o (b7 o) (bR o) (.fsl false (o.links.map aL)) (bD o))).st _;rw[Hu (x:=⟨0,[]⟩)];refine ai (fun e=> ?_) (fun _=>⟨⟨⟨rflTwoQ,ad⟩,⟨rflTwoQ,rflTwoQ,ad⟩,⟨rfl,hc⟩,⟨rfl,hc⟩,ad⟩,hq⟩);have e:=ltInt_iff.1 e;simp[aM] at e
 ·have g1:=List.getElem?_eq_getElem hi;revert g1;generalize o.links[i]=x;intro g1;have hx:aF prog 28 (.fsl false (o.links.map aL)) (.int .i64 (.ofNat i))=some (.fptr [I x.ty,.str x.id] 0):=gC (v:=aL x) (e:=99) (sz:=2) (by kernel_rfl) (by kernel_rfl) (by rw[List.getElem?_map,g1];rfl) rfl;have hw:aj .i64 (Int.ofNat i+1)=Int.ofNat (i+1):=eI (by simp;omega) (by simp;omega);refine ALp.round (A:=lN 11 [I x.ty,.str x.id]) (V2:=cr 6 (.ofNat (i+1)) (aa o (b7 o) (bR o) (.fsl false (o.links.map aL)) (bD o))) (F:=cr 6 (.ofNat i) (aa o (b7 o) (bR o) (.fsl false (o.links.map aL)) (bD o))) (lk:=[(0,0),(1,1)]) (lk':=[(0,0),(1,1)]) base0 ar (LsOk.no rfl) .refl ?_;show aP prog opts0 40 _ _ (cr 6 (.ofNat i) (aa o (b7 o) (bR o) (.fsl false (o.links.map aL)) (bD o))).st _;rw[Hu,hw];refine ai (fun _=>⟨hx,hx,ai (fun e=> ?_) (fun _=>⟨⟨⟨rflTwoQ,ad⟩,⟨rflTwoQ,rflTwoQ,ad⟩,⟨rfl,hc⟩,⟨rfl,hc⟩,ad⟩,hn⟩)⟩) (fun e=> ?_)
  ·have h0:(ao x.ty x.ty&&(aI x.id x.id&&true))=true:=by simp[beqInt_iff,beqBytes_iff]
   rw[h0] at e;cases e
  ·have e:=ltInt_false.1 e;simp only[aM,List.length_map,bh] at e;omega
theorem TN {o:Ob} (hb:o.cust.length≤1000) {Q:AExit→St→Prop} (hq:Q (.exit 4) (cr 7 (.ofNat o.cust.length) (ax o)).st):∀i,i≤o.cust.length→ALp prog opts0.glob 0 (aJ prog 20 15) (cr 7 (.ofNat i) (ax o)).st Q:=by
 have hc:ae (aa o (b7 o) (bR o) (bS o) (.fsl false (o.cust.map az)))=true:=bX o;refine tJ _ ?_ (fun i hi hn=> ?_)
 ·refine ALp.round (A:=lN 16 [.str (⟨[],[]⟩:Cu).name,.str (⟨[],[]⟩:Cu).text]) (V2:=cr 7 0 (aa o (b7 o) (bR o) (bS o) (.fsl false (o.cust.map az)))) (F:=cr 7 (.ofNat o.cust.length) (aa o (b7 o) (bR o) (bS o) (.fsl false (o.cust.map az)))) (lk:=[(0,0),(1,1)]) (lk':=[(0,0),(1,1)]) base0 ar (LsOk.no rfl) .refl ?_;show aP prog opts0 40 _ _ (cr 7 (.ofNat o.cust.length) (aa o (b7 o) (bR o) (bS o) (.fsl false (o.cust.map az)))).st _;rw[Hv (x:=⟨[],[]⟩)];refine ai (fun e=> ?_) (fun _=>⟨⟨⟨rflTwoQ,ad⟩,⟨rflTwoQ,rflTwoQ,ad⟩,⟨rfl,hc⟩,⟨rfl,hc⟩,ad⟩,hq⟩);have e:=ltInt_iff.1 e;simp[aM] at e
 ·have g1:=List.getElem?_eq_getElem hi;revert g1;generalize o.cust[i]=x;intro g1;have hx:aF prog 29 (.fsl false (o.cust.map az)) (.int .i64 (.ofNat i))=some (.fptr [.str x.name,.str x.text] 0):=gC (v:=az x) (e:=101) (sz:=2) (by kernel_rfl) (by kernel_rfl) (by rw[List.getElem?_map,g1];rfl) rfl;have hw:aj .i64 (Int.ofNat i+1)=Int.ofNat (i+1):=eI (by simp;omega) (by simp;omega);refine ALp.round (A:=lN 16 [.str x.name,.str x.text]) (V2:=cr 7 (.ofNat (i+1)) (aa o (b7 o) (bR o) (bS o) (.fsl false (o.cust.map az)))) (F:=cr 7 (.ofNat i) (aa o (b7 o) (bR o) (bS o) (.fsl false (o.cust.map az)))) (lk:=[(0,0),(1,1)]) (lk':=[(0,0),(1,1)]) base0 ar (LsOk.no rfl) .refl ?_;show aP prog opts0 40 _ _ (cr 7 (.ofNat i) (aa o (b7 o) (bR o) (bS o) (.fsl false (o.cust.map az)))).st _;rw[Hv,hw];refine ai (fun _=>⟨hx,hx,ai (fun e=> ?_) (fun _=>⟨⟨⟨rflTwoQ,ad⟩,⟨rflTwoQ,rflTwoQ,ad⟩,⟨rfl,hc⟩,⟨rfl,hc⟩,ad⟩,hn⟩)⟩) (fun e=> ?_)
  ·have h0:(aI x.name x.name&&(aI x.text x.text&&true))=true:=by simp[beqBytes_iff]
   rw[h0] at e;cases e
  ·have e:=ltInt_false.1 e;simp only[aM,List.length_map,bh] at e;omega
theorem TO:bW (dI prog 20) 5=[aJ prog 20 5]:=by kernel_rfl
theorem TP:bW (dI prog 20) 10=[aJ prog 20 10]:=by kernel_rfl
theorem TQ:bW (dI prog 20) 15=[aJ prog 20 15]:=by kernel_rfl
theorem Hw {b:Bool} (h:b=true) {p:Prop} (e:(!b)=true):p:=by rw[h] at e;cases e
theorem TR {o:Ob} (ho:cI o):SC 20 [au o,au o] (.bool true):=by
 have hc:ae (aa o (.fsl false (ak o.mat)) (.fsl false (o.names.map .str)) (.fsl false (o.links.map aL)) (.fsl false (o.cust.map az)))=true:=bX o;have hcl:=cS o (c:=[au o]) (gH o);have hv:dM prog 23 9 (.fsl false (ak o.mat))=some (Eff.val (.str o.mat)):=FC (e:=5) (by kernel_rfl) (by kernel_rfl) (by kernel_rfl);have h1:=ho.n;have h2:=ho.l;have h3:=ho.c;refine bQ (A:=aB [(1,36,.res (.str o.mat)),(1,39,.res (.str o.mat))] [(5,qK 5 0 (.ofNat o.names.length) (aa o (.fsl false (ak o.mat)) (.fsl false (o.names.map .str)) (.fsl false (o.links.map aL)) (.fsl false (o.cust.map az)))),(10,qK 6 2 (.ofNat o.links.length) (aa o (.fsl false (ak o.mat)) (.fsl false (o.names.map .str)) (.fsl false (o.links.map aL)) (.fsl false (o.cust.map az)))),(15,qK 7 4 (.ofNat o.cust.length) (aa o (.fsl false (ak o.mat)) (.fsl false (o.names.map .str)) (.fsl false (o.links.map aL)) (.fsl false (o.cust.map az))))] aR [] []) base0 ar
  (aG (LsOk.at3 rfl TO TP TQ (fun st Q hs=> .seen base0.glob hs.1 (TL (by omega) hs.2 0 (Nat.zero_le _))) (fun st Q hs=> .seen base0.glob hs.1 (TM (by omega) hs.2 0 (Nat.zero_le _))) (fun st Q hs=> .seen base0.glob hs.1 (TN (by omega) hs.2 0 (Nat.zero_le _))))) hcl rfl ?_
 simp only[au,ax,b7,bR,bS,bD];rw[TK]
 repeat (refine ai (fun e=>Hw (by simp[beqInt_iff,beqBytes_iff]) e) (fun _=> ?_))
 refine ⟨hv,hv, ?_⟩
 repeat (refine ai (fun e=>Hw (by simp[beqInt_iff,beqBytes_iff]) e) (fun _=> ?_))
 exact ⟨⟨⟨rflTwoQ,ad⟩,⟨rflTwoQ,rflTwoQ,ad⟩,⟨rfl,hc⟩,⟨rfl,hc⟩,ad⟩,⟨⟨rflTwoQ,ad⟩,⟨rflTwoQ,rflTwoQ,ad⟩,⟨rfl,hc⟩,⟨rfl,hc⟩,ad⟩,⟨⟨rflTwoQ,ad⟩,⟨rflTwoQ,rflTwoQ,ad⟩,⟨rfl,hc⟩,⟨rfl,hc⟩,ad⟩,rfl⟩
end
end Go.Proofs.YtjhggnebkfpgcaaGreatDoor
