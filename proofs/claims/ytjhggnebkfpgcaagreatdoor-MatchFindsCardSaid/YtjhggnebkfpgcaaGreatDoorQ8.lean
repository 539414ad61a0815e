import Derived.Test.YtjhggnebkfpgcaaGreatDoorQ7
import Derived.KernelRfl
import Derived.Test.YtjhggnebkfpgcaaGreatDoorQ2
import Derived.Test.YtjhggnebkfpgcaaGreatDoorQ4
import Derived.Test.YtjhggnebkfpgcaaGreatDoorQ5
import Derived.Test.YtjhggnebkfpgcaaGreatDoorQ1
import Derived.Test.YtjhggnebkfpgcaaGreatDoorG5
import Derived.Shelf.Unicode.ValidAny
namespace Go.Proofs.YtjhggnebkfpgcaaGreatDoor
set_option maxRecDepth 20000
open Go Go.RowKit
open Go.Proofs.Abs
noncomputable section
def oh (i but:Int) (Ls C:List AV):View:=⟨[(2,I but),(6,.bool false),(7,.fsl false Ls),(8,I i)],[(4,.ptr 0 0)],[(0,.cells C,.whole)],1,32⟩
def j6 (b:Bool):View:=⟨[(6,.bool b)],[],[],1,32⟩
@[simp] abbrev BG (D K:List AV) (a q t y:Int) (s:List UInt8):=([AV.str s,I a,I t,I y,I q,AV.fsl false D,AV.fsl false K]=[AV.str s,I a,I t,I y,I q,AV.fsl false D,AV.fsl false K]∧ad [AV.str s,I a,I t,I y,I q,AV.fsl false D,AV.fsl false K]=true)
@[simp] abbrev BH (Ls:List AV):=(AV.fsl false Ls=AV.fsl false Ls∧ac (AV.fsl false Ls)=true)
@[simp] abbrev BI:=(AV.bool false=AV.bool false∧true=true)
theorem BJ (s s':List UInt8) (a t y q a' t' y' q':Int) (D K D' K' Ls:List AV) (i j but:Int) (b c:Bool) (N:Prop) (Q:AExit→St→Prop):aw Tryz.prog opts0 40 (wR (.str s'::I a'::ay t' y' q' D' K') b) (ah Tryz.prog 80 4) (oh i but Ls (.str s::I a::ay t y q D K)).st (bf 0 [(0,0)] (oh j but Ls (.str s::I a::ay t y q D K)) N [] (j6 c) Q)=
  (ak (ar i (Int.ofNat (ab Ls))) (ak (!aF i but) (ax Tryz.prog 43 (AV.fsl false Ls) (I i)=some (AV.fptr [AV.str s',I a',I t',I y',I q',AV.fsl false D',AV.fsl false K'] 0)∧SC 35 [AV.agg [I t',I y',I q',AV.fsl false D',AV.fsl false K'],AV.agg [I t,I y,I q,AV.fsl false D,AV.fsl false K]] (AV.bool b)∧ak b ((((AV.bool true=AV.bool c∧ac (AV.bool c)=true)∧True)∧True∧True)∧Q AExit.ret (j6 c).st) ((((I but=I but∧ac (I but)=true)∧BI∧(BH Ls)∧(I (af IntKind.i64 (i+1))=I j∧ac (I j)=true)∧True)∧((some 0=some 0∧0=0)∧True)∧(BG D K a q t y s)∧True)∧N)) ((((I but=I but∧ac (I but)=true)∧BI∧(BH Ls)∧(I (af IntKind.i64 (i+1))=I j∧ac (I j)=true)∧True)∧((some 0=some 0∧0=0)∧True)∧(BG D K a q t y s)∧True)∧N)) ((((AV.bool false=AV.bool c∧ac (AV.bool c)=true)∧True)∧True∧True)∧Q (AExit.exit 0) (j6 c).st)):=by kernel_rfl
def JM (r:Bool) (but:Int) (Ls C:List AV):bg:=fun st Q=>bR 0 [(0,1)] (oh 0 but Ls C) st∧ak r (Q .ret (j6 true).st) (Q (.exit 0) (j6 false).st)
theorem VK (s:List UInt8) (a t y q but:Int) (D K Ls:List AV) (r:Bool) (o:Ob) (M N L C:AV) (Q:AV→Prop):aL Tryz.prog opts0 40 (aq [] [(4,JM r but Ls (.str s::I a::ay t y q D K))] (cz [(17,.fsl false Ls)]) [] []) 80 [.agg (aa o M N L C),.agg (.str s::I a::ay t y q D K),I but] [] 0 (fun v _ _=>Q v)=
  (SC 17 [AV.agg (aa o M N L C),AV.str s] (AV.fsl false Ls)∧(((I but=I but∧ac (I but)=true)∧BI∧(BH Ls)∧(I 0=I 0∧true=true)∧True)∧((some 1=some 1∧0=0)∧True)∧(BG D K a q t y s)∧True)∧ak r (Q (AV.bool true)) (Q (AV.bool false))):=by kernel_rfl
theorem VL:br (cy Tryz.prog 80) 4=[ah Tryz.prog 80 4]:=by kernel_rfl
theorem VM {n:List UInt8} {l:List It} {s:List UInt8} {a t y q but:Int} {d:List UInt8} {ks:List It} {Q:AExit→St→Prop} (hok:∀x∈l,dF cD x) (hb:l.length≤1000):
  ∀i,i≤l.length→(ak (lE (.mk t y q d ks) but (l.drop i) i) (Q .ret (j6 true).st) (Q (.exit 0) (j6 false).st)→
   ALp Tryz.prog opts0.glob 0 (ah Tryz.prog 80 4) (oh (.ofNat i) but ((bS n l 0).map ag) (.str s::I a::ay t y q (ap d) (an ks))).st Q):=by
 have hM:=bP (bS n l 0)
 have hC:ad (.str s::I a::ay t y q (ap d) (an ks))=true:=by
  have:=jB ⟨s,a,.mk t y q d ks⟩
  exact this
 have hlen:ab ((bS n l 0).map ag)=l.length:=by rw[aI,List.length_map,sI]
 refine F3 _ (fun hq=> ?_) (fun i hi ih hq=> ?_)
 ·rw[List.drop_of_length_le (Nat.le_refl _)] at hq
  refine ALp.round (A:=wR (.str []::I 0::ay 0 0 0 [] []) false) (V2:=oh 0 but ((bS n l 0).map ag) (.str s::I a::ay t y q (ap d) (an ks))) (F:=j6 false) (lk:=[(0,0)]) (lk':=[]) base0 am (LsOk.no rfl) .refl ?_
  rw[BJ,hlen]
  exact az (fun e=>(qA e).elim) fun _=>⟨⟨⟨⟨rfl,rfl⟩,trivial⟩,trivial,trivial⟩,hq⟩
 ·have g:=List.getElem?_eq_getElem hi
  have hm:=hok _ (List.getElem_mem hi)
  rw[List.drop_eq_getElem_cons hi,lE] at hq
  revert g hm hq
  generalize l[i]=x
  intro hq g hm
  have hs:=EA x (.mk t y q d ks) hm
  have k1:=Gs (s:=n) (i:=0) g
  rw[Nat.zero_add] at k1
  obtain ⟨t',y',q',d',ks'⟩:=x
  have gx:=JJ (f:=false) k1
  have hw:=j2 (p:=i) (by omega)
  rw[pd,pd] at hs
  revert hs hq
  generalize dG (.mk t' y' q' d' ks') (.mk t y q d ks)=b
  intro hq hs
  cases hbb:(!aF (.ofNat i) but&&b) with
  |true=>
   rw[hbb] at hq
   rw[Bool.and_eq_true] at hbb
   refine ALp.round (A:=wR (.str n::I (.ofNat i)::ay t' y' q' (ap d') (an ks')) b) (V2:=oh (.ofNat (i+1)) but ((bS n l 0).map ag) (.str s::I a::ay t y q (ap d) (an ks))) (F:=j6 true) (lk:=[(0,0)]) (lk':=[]) base0 am (LsOk.no rfl) .refl ?_
   rw[BJ,hlen]
   exact az (fun _=>mT hbb.1 ⟨gx,hs,mT hbb.2 ⟨⟨⟨⟨rfl,rfl⟩,trivial⟩,trivial,trivial⟩,hq⟩⟩) fun e=>absurd e (iY hi)
  |false=>
   rw[hbb,Bool.false_or] at hq
   have ih:=ih hq
   refine ALp.round (A:=wR (.str n::I (.ofNat i)::ay t' y' q' (ap d') (an ks')) b) (V2:=oh (.ofNat (i+1)) but ((bS n l 0).map ag) (.str s::I a::ay t y q (ap d) (an ks))) (F:=j6 false) (lk:=[(0,0)]) (lk':=[]) base0 am (LsOk.no rfl) .refl ?_
   rw[BJ,hlen,hw]
   refine az (fun _=>az (fun e1=>⟨gx,hs,az (fun e2=> ?_) fun _=>⟨⟨⟨⟨rfl,rfl⟩,⟨rfl,rfl⟩,⟨rfl,hM⟩,⟨rfl,rfl⟩,trivial⟩,⟨⟨rfl,rfl⟩,trivial⟩,⟨rfl,hC⟩,trivial⟩,ih⟩⟩) fun _=>⟨⟨⟨⟨rfl,rfl⟩,⟨rfl,rfl⟩,⟨rfl,hM⟩,⟨rfl,rfl⟩,trivial⟩,⟨⟨rfl,rfl⟩,trivial⟩,⟨rfl,hC⟩,trivial⟩,ih⟩) fun e=>absurd e (iY hi)
   rw[e1,e2] at hbb;cases hbb
section
variable {o:Ob} {k:Kd} {s:List UInt8}
theorem VN (hof:SC 17 [aj o,.str s] (.fsl false ((bS s (aU o k) 0).map ag))) (hg:nB o k) (i:Int) (v:It) (but:Int):SC 80 [aj o,ag ⟨s,i,v⟩,I but] (.bool (lE v but (aU o k) 0)):=by
 have hok:=hg.i
 have hb:=hg.n
 have hcl:ad [aj o,ag ⟨s,i,v⟩,I but]=true:=ec o (by simp[ad,jB,ac])
 revert hof hok hb
 generalize aU o k=l
 intro hof hok hb
 obtain ⟨t,y,q,d,ks⟩:=v
 have hM:=bP (bS s l 0)
 have hC:ad (.str s::I i::ay t y q (ap d) (an ks))=true:=by
  have:=jB ⟨s,i,.mk t y q d ks⟩
  exact this
 refine eB (A:=aq [] [(4,JM (lE (.mk t y q d ks) but l 0) but ((bS s l 0).map ag) (.str s::I i::ay t y q (ap d) (an ks)))] (cz [(17,.fsl false ((bS s l 0).map ag))]) [] []) base0 am
  (aN (LsOk.at1 rfl VL fun st Q hs=> .seen base0.glob hs.1 (VM hok hb 0 (Nat.zero_le _) (by rw[List.drop_zero];exact hs.2)))) hcl rfl ?_
 unfold aj ao at*
 rw[px,VK]
 refine ⟨hof,⟨⟨⟨rfl,rfl⟩,⟨rfl,rfl⟩,⟨rfl,hM⟩,⟨rfl,rfl⟩,trivial⟩,⟨⟨rfl,rfl⟩,trivial⟩,⟨rfl,hC⟩,trivial⟩,az (fun e=> ?_) fun e=> ?_⟩
 ·rw[e]
 ·rw[e]
end
end
end Go.Proofs.YtjhggnebkfpgcaaGreatDoor
namespace Go.Proofs.YtjhggnebkfpgcaaGreatDoor
open Go Go.RowKit
open Go.Proofs.Abs
section
variable {o:Ob} {ms ns ls cs:List AV} {s:List UInt8} {t y n:Int} {d:List UInt8} {ks:List It}
end
section
variable {o:Ob} {ms ns ls:List AV} {s s':List UInt8} {t y n:Int} {d:List UInt8} {ks:List It} {Q:AExit→St→Prop}
end
theorem rv {sz:Nat}:∀ {E:List AV},(∀e∈E,e.cells.length=sz)→(flat E).length=E.length*sz
 |[],_=>(Nat.zero_mul sz).symm
 |e::r,h=>by
  have ih:=rv (E:=r) fun x hx=>h x (by simp[hx])
  rw[flat,List.length_append,h e (by simp),ih,List.length_cons,Nat.add_mul,Nat.one_mul,Nat.add_comm]
section
variable {o:Ob} {ms ns ls cs:List AV} {s:List UInt8} {t y n:Int} {d:List UInt8} {ks:List It}
end
section
variable {o:Ob} {ms ns ls:List AV} {s s':List UInt8} {t y n:Int} {d:List UInt8} {ks:List It}
-- CASES
end
def JN:Option Kd→AV
 |some k=> .tuple [cH k,.bool true]
 |none=> .tuple [TP,.bool false]
def ts (c:Bool) (s:List UInt8):Option Kd:=match gW s kinds with
 |some k=>some k
 |none=>match c with
  |true=>some (.cus s)
  |false=>none
theorem JO {c:Bool} {s:List UInt8} (h:c=true→∀k∈kinds,aM k≠s):ts c s=eb c s:=by
 cases c with
 |true=>rw[ts,Az (h rfl)];rfl
 |false=>
  rw[ts]
  show _=gW s kinds
  cases gW s kinds<;>rfl
set_option maxRecDepth 20000 in
theorem JP {c:Bool} {s:List UInt8} (hc:SC 114 [.str s] (.bool c)):SC 63 [.str s] (JN (ts c s)):=by
 refine cY (A:=HW c) base0 am (aN (LsOk.no rfl)) rfl ?_
 rw[TR]
 refine And.intro sZ ?_
 simp only[ts]
 repeat' first|refine And.intro hc ?_|refine az (fun _=> ?_) (fun _=> ?_)
 all_goals
  simp only[kinds,gW,aM,zJ, *]
  exact sk rfl rfl
section
variable {o:Ob} {k:Kd} {s:List UInt8}
end
end Go.Proofs.YtjhggnebkfpgcaaGreatDoor
namespace Go.Proofs.YtjhggnebkfpgcaaGreatDoor
set_option maxRecDepth 20000
open Go Go.RowKit
open Go.Proofs.Abs
theorem JQ {c:Bool} {s:List UInt8} {k:Kd} (h:eb c s=some k):(∃d,d<10∧k= .dat d)∨(lT k= -1∧aF (iT k) 9=false):=by
 unfold eb at h
 split at h
 ·cases h;exact .inr ⟨rfl,rfl⟩
 ·have h1:=(z7 h).1
  have h2:∀k∈kinds,(match k with| .dat d=>decide (d<10)|_=>true)=true:=by decide
  have h3:=h2 k h1
  cases k with
  |dat d=>exact .inl ⟨d,of_decide_eq_true h3,rfl⟩
  |_=>exact .inr ⟨rfl,rfl⟩
theorem JR (v:It) (s:List UInt8):∀ (l:List It) (i:Nat),lE v (-1) l i=(bS s l i).any (pA v)
 |[],_=>rfl
 |x::r,i=>by
  have ih:=JR v s r (i+1)
  have hi:aF (.ofNat i) (-1)=false:=beqInt_false.2 (by simp only[Int.ofNat_eq_natCast];omega)
  rw[lE,bS,List.any_cons,ih,hi]
  rfl
structure JS (C:List At) (a:At):Prop where
 kd:∃k,eb (da a.name) a.name=some k∧iT k=bN a.v
 ix:a.idx=0
theorem VO {C:List At} (h:jP C=0):∀a∈C,JS C a:=fun a ha=>by
 unfold jP at h
 split at h
 ·cases h
 ·split at h
  ·cases h
  ·rename_i h2
   have h3:=List.any_eq_false.1 h2 a ha
   simp only[pD,Bool.or_eq_true,Bool.not_eq_true',not_or,Bool.not_eq_false] at h3
   obtain ⟨h4,h5⟩:=h3
   unfold jO at h5
   split at h5
   ·cases h5
   ·rename_i e1
    split at h5
    ·cases h5
    ·rename_i e2
     refine ⟨?_,beqInt_iff.1 e2⟩
     have e1:=beqInt_iff.1 e1
     unfold fz at h4
     unfold gE at e1
     cases hk:eb (da a.name) a.name with
     |none=>rw[hk] at h4;cases h4
     |some k=>rw[hk] at e1;exact ⟨k,rfl,e1⟩
theorem VQ {s:List UInt8} {k:Kd} (hs:s∈nameL) (hk:eb (da s) s=some k):SC 63 [.str s] (.tuple [cH k,.bool true]):=by
 have h:=JP (Fk s hs)
 rw[JO fun hc=>(by decide:∀s∈nameL,da s=true→∀k∈kinds,aM k≠s) s hs hc,hk] at h
 exact h
def dM (l:List It):List AV:=l.map fun v=> .int .i64 (bM v)
theorem tt:∀l:List It,ad (dM l)=true
 |[]=>rfl
 |v::r=>by
  have:=tt r
  show (ac (.int .i64 (bM v))&&ad (dM r))=true
  rw[this];rfl
noncomputable def qC (k i:Int) (Cs O R:List AV):List It→View
 |[]=>fH k i Cs O R
 |x::r=>dR k i Cs O R (r.length+1) (dM (x::r))
section
variable {C:List At} {O R:List AV} {Q:AExit→St→Prop}
theorem VR (hO:ad O=true) (hR:ad R=true) {i:Nat} (ws:List It) (hq:Q (.exit 2) (qC (.ofNat C.length) (.ofNat i) (C.map ag) O R ws).st):ALp Tryz.prog opts0.glob 0 (ah Tryz.prog 58 11) (qC (.ofNat C.length) (.ofNat i) (C.map ag) O R ws).st Q:=by
 have hL:=bP C
 have hlen:ab (C.map ag)=C.length:=by rw[aI,List.length_map]
 cases ws with
 |nil=>
  refine ALp.round (A:=jQ (.str []::I 0::ay 0 0 0 [] []) (.str []::I 0::ay 0 0 0 [] [])) (V2:=fH 0 (.ofNat i) (C.map ag) O R) (F:=fH (.ofNat C.length) (.ofNat i) (C.map ag) O R) (lk:=[(0,0),(1,1)]) (lk':=[(0,0),(1,1)]) base0 am (LsOk.no rfl) .refl ?_
  show aw Tryz.prog opts0 40 _ _ (fH (.ofNat C.length) (.ofNat i) (C.map ag) O R).st _
  rw[HY,hlen]
  exact bz (je (Nat.le_refl _)) ⟨⟨⟨⟨rfl,rfl⟩,⟨rfl,rfl⟩,⟨rfl,rfl⟩,⟨rfl,hL⟩,⟨rfl,rfl⟩,trivial⟩,⟨⟨rfl,rfl⟩,⟨rfl,rfl⟩,trivial⟩,⟨rfl,hO⟩,⟨rfl,hR⟩,trivial⟩,hq⟩
 |cons x r=>
  have hc:=tt (x::r)
  refine ALp.round (A:=jQ (.str []::I 0::ay 0 0 0 [] []) (.str []::I 0::ay 0 0 0 [] [])) (V2:=dR 0 (.ofNat i) (C.map ag) O R (r.length+1) (dM (x::r))) (F:=dR (.ofNat C.length) (.ofNat i) (C.map ag) O R (r.length+1) (dM (x::r))) (lk:=[(0,0),(1,1),(2,2)]) (lk':=[(0,0),(1,1),(2,2)]) base0 am (LsOk.no rfl) .refl ?_
  show aw Tryz.prog opts0 40 _ _ (dR (.ofNat C.length) (.ofNat i) (C.map ag) O R (r.length+1) (dM (x::r))).st _
  rw[H5,hlen]
  exact bz (je (Nat.le_refl _)) ⟨⟨⟨⟨rfl,rfl⟩,⟨rfl,rfl⟩,⟨rfl,hL⟩,⟨rfl,rfl⟩,trivial⟩,⟨⟨rfl,rfl⟩,⟨rfl,rfl⟩,⟨rfl,rfl,rfl,rfl,rfl⟩,trivial⟩,⟨rfl,hO⟩,⟨rfl,hR⟩,⟨rfl,hc⟩,trivial⟩,hq⟩
theorem VT (hb:C.length≤1000) (hO:ad O=true) (hR:ad R=true) {i k:Nat} {x y:At} (gi:C[i]? =some y) (gk:C[k]? =some x) (ws:List It) (hw:ws.length≤1000)
  (hn:ALp Tryz.prog opts0.glob 0 (ah Tryz.prog 58 11) (qC (.ofNat (k+1)) (.ofNat i) (C.map ag) O R (match aB x.name y.name with|true=>ws++[x.v]|false=>ws)).st Q):ALp Tryz.prog opts0.glob 0 (ah Tryz.prog 58 11) (qC (.ofNat k) (.ofNat i) (C.map ag) O R ws).st Q:=by
 have hL:=bP C
 have hlen:ab (C.map ag)=C.length:=by rw[aI,List.length_map]
 have hlt:k<C.length:=(List.getElem?_eq_some_iff.1 gk).1
 obtain ⟨s,ix,⟨t,yy,q,d,ks⟩⟩:=x
 obtain ⟨s',ix',⟨t',yy',q',d',ks'⟩⟩:=y
 have gx:=gZ (f:=false) gk
 have gy:=gZ (f:=false) gi
 simp only at hn
 cases hbb:aB s s' with
 | false=>
  rw[hbb] at hn
  dsimp only at hn
  cases ws with
  |nil=>
   refine ALp.round (A:=jQ (.str s::I ix::ay t yy q (ap d) (an ks)) (.str s'::I ix'::ay t' yy' q' (ap d') (an ks'))) (V2:=fH (.ofNat (k+1)) (.ofNat i) (C.map ag) O R) (F:=fH (.ofNat k) (.ofNat i) (C.map ag) O R) (lk:=[(0,0),(1,1)]) (lk':=[(0,0),(1,1)]) base0 am (LsOk.no rfl) .refl ?_
   show aw Tryz.prog opts0 40 _ _ (fH (.ofNat k) (.ofNat i) (C.map ag) O R).st _
   rw[HY,hlen,em (p:=k) (by omega)]
   exact a8 (ep hlt) ⟨gx,gy,bz hbb ⟨⟨⟨⟨rfl,rfl⟩,⟨rfl,rfl⟩,⟨rfl,rfl⟩,⟨rfl,hL⟩,⟨rfl,rfl⟩,trivial⟩,⟨⟨rfl,rfl⟩,⟨rfl,rfl⟩,trivial⟩,⟨rfl,hO⟩,⟨rfl,hR⟩,trivial⟩,hn⟩⟩
  |cons z r=>
   have hc:=tt (z::r)
   refine ALp.round (A:=jQ (.str s::I ix::ay t yy q (ap d) (an ks)) (.str s'::I ix'::ay t' yy' q' (ap d') (an ks'))) (V2:=dR (.ofNat (k+1)) (.ofNat i) (C.map ag) O R (r.length+1) (dM (z::r))) (F:=dR (.ofNat k) (.ofNat i) (C.map ag) O R (r.length+1) (dM (z::r))) (lk:=[(0,0),(1,1),(2,2)]) (lk':=[(0,0),(1,1),(2,2)]) base0 am (LsOk.no rfl) .refl ?_
   show aw Tryz.prog opts0 40 _ _ (dR (.ofNat k) (.ofNat i) (C.map ag) O R (r.length+1) (dM (z::r))).st _
   rw[H5,hlen,em (p:=k) (by omega)]
   exact a8 (ep hlt) ⟨gx,gy,bz hbb ⟨⟨⟨⟨rfl,rfl⟩,⟨rfl,rfl⟩,⟨rfl,hL⟩,⟨rfl,rfl⟩,trivial⟩,⟨⟨rfl,rfl⟩,⟨rfl,rfl⟩,⟨rfl,rfl,rfl,rfl,rfl⟩,trivial⟩,⟨rfl,hO⟩,⟨rfl,hR⟩,⟨rfl,hc⟩,trivial⟩,hn⟩⟩
 | true=>
  rw[hbb] at hn
  dsimp only at hn
  cases ws with
  |nil=>
   have hn:ALp Tryz.prog opts0.glob 0 (ah Tryz.prog 58 11) (dR (.ofNat (k+1)) (.ofNat i) (C.map ag) O R 1 [.int .i64 q]).st Q:=hn
   refine ALp.round (A:=jQ (.str s::I ix::ay t yy q (ap d) (an ks)) (.str s'::I ix'::ay t' yy' q' (ap d') (an ks'))) (V2:=dR (.ofNat (k+1)) (.ofNat i) (C.map ag) O R 1 [.int .i64 q]) (F:=fH (.ofNat k) (.ofNat i) (C.map ag) O R) (lk:=[(0,0),(1,1),(2,25)]) (lk':=[(0,0),(1,1)]) base0 am (LsOk.no rfl) .refl ?_
   show aw Tryz.prog opts0 40 _ _ (fH (.ofNat k) (.ofNat i) (C.map ag) O R).st _
   rw[TS,hlen,em (p:=k) (by omega)]
   exact a8 (ep hlt) ⟨gx,gy,a8 hbb ⟨gx,⟨⟨⟨rfl,rfl⟩,⟨rfl,rfl⟩,⟨rfl,hL⟩,⟨rfl,rfl⟩,trivial⟩,⟨⟨rfl,rfl⟩,⟨rfl,rfl⟩,⟨rfl,rfl,rfl,rfl,rfl⟩,trivial⟩,⟨rfl,hO⟩,⟨rfl,hR⟩,⟨rfl,rfl⟩,trivial⟩,hn⟩⟩
  |cons z r=>
   simp only[List.length_cons] at hw
   have hn:ALp Tryz.prog opts0.glob 0 (ah Tryz.prog 58 11) (dR (.ofNat (k+1)) (.ofNat i) (C.map ag) O R ((r++[It.mk t yy q d ks]).length+1) (dM ((z::r)++[.mk t yy q d ks]))).st Q:=hn
   rw[List.length_append,List.length_singleton] at hn
   have hc:=tt ((z::r)++[.mk t yy q d ks])
   have e1:dM (z::r)++[.int .i64 q]=dM ((z::r)++[.mk t yy q d ks]):=by unfold dM;rw[List.map_append];rfl
   have c1:(Nat.ble ((r.length+1+1)*8) 140737488355328)=true:=iB (by omega)
   have c2:Nat.beq (ab (dM (z::r))) ((r.length+1)*1)=true:=by rw[beq_iff,aI,dM,List.length_map,Nat.mul_one];rfl
   refine ALp.round (A:=jQ (.str s::I ix::ay t yy q (ap d) (an ks)) (.str s'::I ix'::ay t' yy' q' (ap d') (an ks'))) (V2:=dR (.ofNat (k+1)) (.ofNat i) (C.map ag) O R (r.length+1+1) (dM ((z::r)++[.mk t yy q d ks]))) (F:=dR (.ofNat k) (.ofNat i) (C.map ag) O R (r.length+1) (dM (z::r))) (lk:=[(0,0),(1,1),(2,26)]) (lk':=[(0,0),(1,1),(2,2)]) base0 am (LsOk.no rfl) .refl ?_
   show aw Tryz.prog opts0 40 _ _ (dR (.ofNat k) (.ofNat i) (C.map ag) O R (r.length+1) (dM (z::r))).st _
   rw[TT,hlen,em (p:=k) (by omega)]
   exact a8 (ep hlt) ⟨gx,gy,a8 hbb ⟨gx,aH (nX rfl c1 rfl) (aH c2 ⟨⟨⟨⟨rfl,rfl⟩,⟨rfl,rfl⟩,⟨rfl,hL⟩,⟨rfl,rfl⟩,trivial⟩,⟨⟨rfl,rfl⟩,⟨rfl,rfl⟩,⟨rfl,rfl,rfl,rfl,rfl⟩,trivial⟩,⟨rfl,hO⟩,⟨rfl,hR⟩,⟨e1,hc⟩,trivial⟩,hn⟩)⟩⟩
theorem JT (hb:C.length≤1000) (hO:ad O=true) (hR:ad R=true) {i:Nat} {y:At} (gi:C[i]? =some y) (hq:Q (.exit 2) (qC (.ofNat C.length) (.ofNat i) (C.map ag) O R (bG y.name C)).st):
  ∀m k,k+m=C.length→ALp Tryz.prog opts0.glob 0 (ah Tryz.prog 58 11) (qC (.ofNat k) (.ofNat i) (C.map ag) O R (bG y.name (C.take k))).st Q
 |0,k,hk=>by
  have hk:k=C.length:=by omega
  subst hk
  rw[List.take_length]
  exact VR hO hR _ hq
 |m+1,k,hk=>by
  have g:=List.getElem?_eq_getElem (show k<C.length by omega)
  have ih:=JT hb hO hR gi hq m (k+1) (by omega)
  rw[fg g,sP] at ih
  have hv:=pL y.name (C.take k)
  rw[List.length_take] at hv
  exact VT hb hO hR gi g _ (by omega) ih
end
theorem VU (o:Ob) {d:Nat} (h:d<10):bh Tryz.prog 25 (ao o) (7+d*2)=some (.agg [.bool (b9 o d).has,I (b9 o d).t]):=
 match d,h with
 |0,_|1,_|2,_|3,_|4,_|5,_|6,_|7,_|8,_|9,_=>by kernel_rfl
 |n+10,h=>absurd h (by omega)
theorem JU {es:List AV} {i:Nat} {x:AV} (h:es[i]? =some x):bh Tryz.prog 2 es i=some x:=by
 have h1:eY Tryz.prog 2=some false:=by kernel_rfl
 simp only[bh,h1]
 rw[fb,h]
section
variable {o:Ob} {C:List At} {Q:AExit→St→Prop}
theorem VV:br (ah Tryz.prog 58 3) 11=[ah Tryz.prog 58 11]:=by kernel_rfl
theorem VW {i:Nat} (hi:i=C.length) (hq:Q (.exit 0) yiF.st):ALp Tryz.prog opts0.glob 0 (ah Tryz.prog 58 3) (f7 (.ofNat i) (C.map ag) (ao o)).st Q:=by
 have hlen:ab (C.map ag)=C.length:=by rw[aI,List.length_map]
 refine ALp.round (A:=s4 (.str []::I 0::ay 0 0 0 [] []) (dQ [] 0 false false [] [] (-1)) false [] [] 0 0 0) (V2:=f7 0 (C.map ag) (ao o)) (F:=yiF) (lk:=[(0,0)]) (lk':=[]) base0 am (LsOk.no rfl) .refl ?_
 unfold ao
 rw[H6,hlen]
 exact bz (je (by omega)) ⟨⟨⟨⟨rfl,rfl⟩,trivial⟩,trivial,trivial⟩,hq⟩
theorem VX (hb:C.length≤1000) {i:Nat} {a:At} (g:C[i]? =some a) {k:Kd} (hk:lT k= -1) (hf:SC 63 [.str a.name] (.tuple [cH k,.bool true])) {b:Bool} (ht:SC 80 [aj o,ag a,I (-1)] (.bool b))
  (hn:b=true→ALp Tryz.prog opts0.glob 0 (ah Tryz.prog 58 3) (f7 (.ofNat (i+1)) (C.map ag) (ao o)).st Q) (hr:b=false→Q .ret yiF.st):ALp Tryz.prog opts0.glob 0 (ah Tryz.prog 58 3) (f7 (.ofNat i) (C.map ag) (ao o)).st Q:=by
 have hL:=bP C
 have hO:=dr o
 have hlen:ab (C.map ag)=C.length:=by rw[aI,List.length_map]
 have hlt:i<C.length:=(List.getElem?_eq_some_iff.1 g).1
 have e:cH k= .agg (dQ (aM k) (iT k) (pm k) (gV k) (lR k) (lS k) (-1)):=by rw[←hk];rfl
 rw[e] at hf
 obtain ⟨s,ix,⟨t,y,q,d,ks⟩⟩:=a
 have gx:=gZ (f:=false) g
 rw[px] at ht
 refine ALp.round (A:=s4 (.str s::I ix::ay t y q (ap d) (an ks)) (dQ (aM k) (iT k) (pm k) (gV k) (lR k) (lS k) (-1)) b [] [] 0 0 0) (V2:=f7 (.ofNat (i+1)) (C.map ag) (ao o)) (F:=yiF) (lk:=[(0,0)]) (lk':=[]) base0 am (LsOk.no rfl) .refl ?_
 unfold aj at ht
 unfold ao at ht hO hn⊢
 rw[H6,hlen,em (p:=i) (by omega)]
 refine a8 (ep hlt) ⟨gx,hf,gx,ht,az (fun e=> ?_) (fun e=> ?_)⟩
 ·rw[Bool.not_eq_true'] at e
  exact ⟨⟨⟨⟨rfl,rfl⟩,trivial⟩,trivial,trivial⟩,hr e⟩
 ·rw[Bool.not_eq_false'] at e
  exact ⟨⟨⟨⟨rfl,rfl⟩,⟨rfl,hL⟩,⟨rfl,rfl⟩,trivial⟩,⟨⟨rfl,rfl⟩,trivial⟩,⟨rfl,hO⟩,trivial⟩,hn e⟩
def tu (d:Dt) (ws:List It):Bool:=d.has&&(!ar d.t (nO ws)&& !ar (kC ws) d.t)
theorem VY (hb:C.length≤1000) {i:Nat} {a:At} (g:C[i]? =some a) {d:Nat} (hd:d<10) (hf:SC 63 [.str a.name] (.tuple [cH (.dat d),.bool true]))
  (hn:tu (b9 o d) (bG a.name C)=true→ALp Tryz.prog opts0.glob 0 (ah Tryz.prog 58 3) (f7 (.ofNat (i+1)) (C.map ag) (ao o)).st Q) (hr:tu (b9 o d) (bG a.name C)=false→Q .ret yiF.st):ALp Tryz.prog opts0.glob 0 (ah Tryz.prog 58 3) (f7 (.ofNat i) (C.map ag) (ao o)).st Q:=by
 have hL:=bP C
 have hO:=dr o
 have hlen:ab (C.map ag)=C.length:=by rw[aI,List.length_map]
 have hlt:i<C.length:=(List.getElem?_eq_some_iff.1 g).1
 have hR:ad (dQ (aM (.dat d)) 9 false (gV (.dat d)) (lR (.dat d)) (lS (.dat d)) (.ofNat d))=true:=rfl
 have e:cH (.dat d)= .agg (dQ (aM (.dat d)) 9 false (gV (.dat d)) (lR (.dat d)) (lS (.dat d)) (.ofNat d)):=rfl
 rw[e] at hf
 have hrun:=fun (Q:AExit→St→Prop) hq=>JT (Q:=Q) hb hO hR g hq C.length 0 (Nat.zero_add _)
 rw[List.take_zero] at hrun
 have hvn:=AQ (List.mem_of_getElem? g)
 have hvl:=pL a.name C
 have hp1:=Jz hd
 have hp2:=VU o hd
 revert hn hr hp2
 generalize b9 o d=dd
 intro hn hr hp2
 generalize bG a.name C=ws at hrun hvn hvl hn hr
 obtain ⟨x0,r,rfl⟩:∃x r,ws=x::r:=by
  cases ws with
  |nil=>exact absurd rfl hvn
  |cons x r=>exact ⟨x,r,rfl⟩
 simp only[List.length_cons] at hvl
 have e1:nO (x0::r)=bM x0:=rfl
 have g1:(x0::r)[r.length]? =some ((x0::r)[r.length]'(by simp)):=List.getElem?_eq_getElem (by simp)
 have e2:kC (x0::r)=bM ((x0::r)[r.length]'(by simp)):=by unfold kC;rw[List.getLast?_eq_getElem?];simp
 have q0:bh Tryz.prog 2 (dM (x0::r)) 0=some (.int .i64 (nO (x0::r))):=JU rfl
 have q1:bh Tryz.prog 2 (dM (x0::r)) (0+(Int.ofNat r.length).toNat*1)=some (.int .i64 (kC (x0::r))):=by
  rw[e2]
  refine JU ?_
  rw[Nat.zero_add,Nat.mul_one,Int.ofNat_eq_natCast,Int.toNat_natCast,dM,List.getElem?_map,g1]
  rfl
 have hdec:af .i64 (Int.ofNat (r.length+1)-1)=Int.ofNat r.length:=Bm (by omega)
 have hbt:tu dd (x0::r)=(dd.has&&(!ar dd.t (nO (x0::r))&& !ar (kC (x0::r)) dd.t)):=rfl
 rw[hbt] at hn hr
 generalize nO (x0::r)=t0 at q0 hn hr
 generalize kC (x0::r)=t1 at q1 hn hr
 have hc:=tt (x0::r)
 obtain ⟨s,ix,⟨t,y,q,dt,ks⟩⟩:=a
 have gx:=gZ (f:=false) g
 refine ALp.round (A:=s4 (.str s::I ix::ay t y q (ap dt) (an ks)) (dQ (aM (.dat d)) 9 false (gV (.dat d)) (lR (.dat d)) (lS (.dat d)) (.ofNat d)) false [(11,H7 True (.ofNat i) (.ofNat C.length) (C.map ag) (ao o) (dQ (aM (.dat d)) 9 false (gV (.dat d)) (lR (.dat d)) (lS (.dat d)) (.ofNat d)) (r.length+1) (dM (x0::r)))] [.bool dd.has,I dd.t] (7+d*2) t0 t1) (V2:=f7 (.ofNat (i+1)) (C.map ag) (ao o)) (F:=yiF) (lk:=[(0,0)]) (lk':=[]) base0 am (LsOk.at1 rfl VV fun st Q hs=> .seen base0.glob hs.2.1 (hrun Q hs.2.2)) .refl ?_
 generalize dM (x0::r)=es at q0 q1 hc⊢
 unfold ao at hO hn hp2⊢
 rw[TU,hlen,em (p:=i) (by omega),hdec]
 refine a8 (ep hlt) ⟨gx,hf, ?_⟩
 refine ⟨trivial,⟨⟨⟨rfl,rfl⟩,⟨rfl,rfl⟩,⟨rfl,rfl⟩,⟨rfl,hL⟩,⟨rfl,rfl⟩,trivial⟩,⟨⟨rfl,rfl⟩,⟨rfl,rfl⟩,trivial⟩,⟨rfl,hO⟩,⟨rfl,hR⟩,trivial⟩,hp1,hp2, ?_⟩
 have ret:(dd.has&&(!ar dd.t t0&& !ar t1 dd.t))=false→(((AV.bool false= .bool false∧ac (.bool false)=true)∧True)∧True∧True)∧Q .ret yiF.st:=fun e=>⟨⟨⟨⟨rfl,rfl⟩,trivial⟩,trivial,trivial⟩,hr e⟩
 refine az (fun e=>ret (by rw[Bool.not_eq_true'] at e;rw[e];rfl)) fun e=> ?_
 rw[Bool.not_eq_false'] at e
 refine aH rfl ⟨q0,az (fun e2=>ret (by rw[e,e2];rfl)) fun e2=> ?_⟩
 refine aH (f6 (Nat.lt_succ_self _)) ⟨q1,az (fun e3=>ret (by rw[e,e2,e3];rfl)) fun e3=> ?_⟩
 exact ⟨⟨⟨⟨rfl,rfl⟩,⟨rfl,hL⟩,⟨rfl,rfl⟩,trivial⟩,⟨⟨rfl,rfl⟩,trivial⟩,⟨rfl,hO⟩,trivial⟩,hn (by rw[e,e2,e3];rfl)⟩
theorem JV (ho:oa o) (hb:C.length≤1000) (hn:∀a∈C,a.name∈nameL) (hF:∀a∈C,JS C a):∀m i,i+m=C.length→ak ((C.drop i).all (i6 o C)) (Q (.exit 0) yiF.st) (Q .ret yiF.st)→
  ALp Tryz.prog opts0.glob 0 (ah Tryz.prog 58 3) (f7 (.ofNat i) (C.map ag) (ao o)).st Q
 |0,i,hi,hq=>by
  have hi:i=C.length:=by omega
  rw[List.drop_of_length_le (by omega)] at hq
  exact VW hi hq
 | m+1,i,hi,hq=>by
  have hlt:i<C.length:=by omega
  have g:=List.getElem?_eq_getElem hlt
  have hm:=List.getElem_mem hlt
  rw[List.drop_eq_getElem_cons hlt,List.all_cons] at hq
  have ih:=JV ho hb hn hF m (i+1) (by omega)
  revert hq g hm
  generalize C[i]=a
  intro hq g hm
  have hs:=hn a hm
  obtain ⟨k,hk,hty⟩:=(hF a hm).kd
  have hfi:=VQ hs hk
  have hkn:=(FX hk).2
  have hofS:fu (da a.name) o a.name=bS a.name (aU o k) 0:=by rw[fu,hk]
  have hcond:i6 o C a=match aF (bN a.v) 9 with|true=>nP o a.name (bG a.name C)|false=>(fu (da a.name) o a.name).any (pA a.v):=rfl
  have nxt:i6 o C a=true→ALp Tryz.prog opts0.glob 0 (ah Tryz.prog 58 3) (f7 (.ofNat (i+1)) (C.map ag) (ao o)).st Q:=fun e=>by
   rw[e,Bool.true_and] at hq
   exact ih hq
  have bad:i6 o C a=false→Q .ret yiF.st:=fun e=>by
   rw[e,Bool.false_and] at hq
   exact hq
  rcases JQ hk with ⟨d,hd,rfl⟩|⟨hdk,hne⟩
  ·have h9:aF (bN a.v) 9=true:=beqInt_iff.2 hty.symm
   have hc:i6 o C a=tu (b9 o d) (bG a.name C):=by
    rw[hcond,h9]
    dsimp only
    unfold nP tu
    rw[hofS]
    show (bS a.name (cR (b9 o d).has (du 9 (b9 o d).t)) 0).any _=_
    cases (b9 o d).has with
    |false=>rfl
    |true=>exact Bool.or_false _
   rw[hc] at nxt bad
   exact VY hb g hd hfi nxt bad
  ·have h9:aF (bN a.v) 9=false:=by rw[←hty];exact hne
   have hc:i6 o C a=lE a.v (-1) (aU o k) 0:=by
    rw[hcond,h9,hofS,JR]
   have hof:=VJ ho.h.fit (UN ho.h.fit ho.h.g) a.name
   rw[Sz (UL ho hs),hofS] at hof
   have ht:=VN hof (ho.h.g k) a.idx a.v (-1)
   rw[←hc] at ht
   exact VX hb g hdk hfi ht nxt bad
theorem JW:br (cy Tryz.prog 58) 3=[ah Tryz.prog 58 3]:=by kernel_rfl
end
theorem VZ {o:Ob} {C:List At} (ho:oa o) (hb:C.length≤1000) (hn:∀a∈C,a.name∈nameL) (hr:jP C=0):SC 58 [aj o,.fsl false (C.map ag)] (.bool (cE o C)):=by
 have hL:=bP C
 have hO:=dr o
 have hcl:=ec o (c:=[.fsl false (C.map ag)]) (by simp only[ad,ac,hL,Bool.and_self])
 have hrun:=fun (Q:AExit→St→Prop)=>JV (Q:=Q) ho hb hn (VO hr) C.length 0 (Nat.zero_add _)
 rw[List.drop_zero] at hrun
 unfold cE
 generalize C.all (i6 o C)=b at hrun⊢
 cases b with
 |true=>
  refine eB (A:=aq [] [(3,wn (.exit 0) (C.map ag) (ao o))] aA [] []) base0 am (aN (LsOk.at1 rfl JW fun st Q hs=> .seen base0.glob hs.1 (hrun Q hs.2))) hcl rfl ?_
  unfold aj
  unfold ao at hO⊢
  rw[TW]
  exact ⟨⟨⟨⟨rfl,rfl⟩,⟨rfl,hL⟩,⟨rfl,rfl⟩,trivial⟩,⟨⟨rfl,rfl⟩,trivial⟩,⟨rfl,hO⟩,trivial⟩,rfl⟩
 |false=>
  refine eB (A:=aq [] [(3,wn .ret (C.map ag) (ao o))] aA [] []) base0 am (aN (LsOk.at1 rfl JW fun st Q hs=> .seen base0.glob hs.1 (hrun Q hs.2))) hcl rfl ?_
  unfold aj
  unfold ao at hO⊢
  rw[TV]
  exact ⟨⟨⟨⟨rfl,rfl⟩,⟨rfl,hL⟩,⟨rfl,rfl⟩,trivial⟩,⟨⟨rfl,rfl⟩,trivial⟩,⟨rfl,hO⟩,trivial⟩,rfl⟩
def kO (a:At):Bool:=fz a.name&&(aF (gE a.name) (bN a.v)&&aF a.idx 0)
def kP (s:List UInt8):Bool:=match eb (da s) s with
 |none=>false
 |some k=> !ar (lT k) 0
def mi (C:List At) (i:Nat) (a:At):Bool:= !kO a||(kP a.name&&ar 2 (.ofNat (bG a.name (C.take (i+1))).length))
def ol (C:List At) (i:Nat):Bool:=match C[i]? with
 |none=>false
 |some a=>mi C i a
def qD (C:List At):Nat→Nat→Bool
 |_,0=>false
 |i,m+1=>ol C i||qD C (i+1) m
theorem JX {C:List At}:∀ {m i:Nat},qD C i m=true↔∃j,i≤j∧j<i+m∧ol C j=true
 |0,i=>⟨fun h=>(by cases h),fun ⟨j,h1,h2,_⟩=>(by omega)⟩
 | m+1,i=>by
  rw[qD,Bool.or_eq_true,JX (m:=m) (i:=i+1)]
  constructor
  ·rintro (h|⟨j,h1,h2,h3⟩)
   ·exact ⟨i,Nat.le_refl _,by omega,h⟩
   ·exact ⟨j,by omega,by omega,h3⟩
  ·rintro ⟨j,h1,h2,h3⟩
   by_cases e:j=i
   ·subst e;exact .inl h3
   ·exact .inr ⟨j,by omega,by omega,h3⟩
theorem JY {s:List UInt8}:∀ (n:Nat) (C:List At),C.length=n→bG s C≠[]→∃i a,C[i]? =some a∧a.name=s∧bG s (C.take (i+1))=bG s C
 |0,C,hn,h=>by
  have:C=[]:=List.eq_nil_of_length_eq_zero hn
  subst this
  exact absurd rfl h
 | n+1,C,hn,h=>by
  have hlt:n<C.length:=by omega
  have g:=List.getElem?_eq_getElem hlt
  have e:C=C.take n++[C[n]]:=by rw[←fg g,List.take_of_length_le (by omega)]
  have hv:bG s C=match aB (C[n]).name s with|true=>bG s (C.take n)++[(C[n]).v]|false=>bG s (C.take n):=by
   conv=>lhs;rw[e]
   exact sP s _ _
  cases hb:aB (C[n]).name s with
  |true=>exact ⟨n,_,g,beqBytes_iff.1 hb,by rw[List.take_of_length_le (by omega)]⟩
  | false=>
   rw[hb] at hv
   dsimp only at hv
   obtain ⟨i,a,h1,h2,h3⟩:=JY (s:=s) n (C.take n) (by rw[List.length_take];omega) (by rw[←hv];exact h)
   have hi:i<n:=by
    have:=(List.getElem?_eq_some_iff.1 h1).1
    rw[List.length_take] at this
    omega
   refine ⟨i,a, ?_,h2, ?_⟩
   ·rw[List.getElem?_take,if_pos hi] at h1
    exact h1
   ·rw[List.take_take,Nat.min_eq_left (by omega)] at h3
    rw[h3,hv]
theorem V3 {s:List UInt8} {C:List At} (i:Nat):(bG s (C.take i)).length≤(bG s C).length:=by
 have app:∀A B:List At,bG s (A++B)=bG s A++bG s B:=by
  intro A
  induction A with
  |nil=>intro B;rfl
  |cons a r ih=>
   intro B
   rw[List.cons_append,bG,bG,ih]
   cases aB a.name s<;>rfl
 have:=app (C.take i) (C.drop i)
 rw[List.take_append_drop] at this
 rw[this,List.length_append]
 omega
theorem JZ {C:List At} {a:At}:pD fz (jO C) a=(!kO a||(aF (bN a.v) 9&&ar 2 (.ofNat (bG a.name C).length))):=by
 unfold pD kO jO
 cases fz a.name<;>cases aF (gE a.name) (bN a.v)<;>cases aF a.idx 0<;>cases aF (bN a.v) 9<;>simp
theorem J0 {a:At} (h:kO a=true):kP a.name=aF (bN a.v) 9:=by
 unfold kO at h
 simp only[Bool.and_eq_true] at h
 obtain ⟨h1,h2,_⟩:=h
 have h2:=beqInt_iff.1 h2
 unfold fz at h1
 unfold gE at h2
 unfold kP
 cases hk:eb (da a.name) a.name with
 |none=>rw[hk] at h1;cases h1
 | some k=>
  rw[hk] at h2
  have h2:iT k=bN a.v:=h2
  dsimp only
  rcases JQ hk with ⟨d,_,rfl⟩|⟨h3,h4⟩
  ·rw[←h2,show lT (.dat d)=Int.ofNat d from rfl,ltInt_false.2 (by simp only[Int.ofNat_eq_natCast];omega)]
   rfl
  ·rw[←h2,h3,h4]
   rfl
theorem V4 (C:List At):qD C 0 C.length=C.any (pD fz (jO C)):=by
 rw[Bool.eq_iff_iff,JX,List.any_eq_true]
 constructor
 ·rintro ⟨i,_,_,h⟩
  unfold ol at h
  cases g:C[i]? with
  |none=>rw[g] at h;cases h
  | some a=>
   rw[g] at h
   refine ⟨a,List.mem_of_getElem? g, ?_⟩
   rw[JZ]
   simp only[mi] at h
   cases ho:kO a with
   |false=>rfl
   |true=>
    rw[ho,J0 ho] at h
    simp only[Bool.not_true,Bool.false_or,Bool.and_eq_true] at h⊢
    have h2:=ltInt_iff.1 h.2
    have h3:=V3 (s:=a.name) (C:=C) (i+1)
    exact ⟨h.1,ltInt_iff.2 (by simp only[Int.ofNat_eq_natCast] at h2⊢;omega)⟩
 ·rintro ⟨a,ha,h⟩
  rw[JZ] at h
  cases ho:kO a with
  |false=>
   obtain ⟨i,g⟩:=List.getElem?_of_mem ha
   refine ⟨i,Nat.zero_le _,by have:=(List.getElem?_eq_some_iff.1 g).1;omega, ?_⟩
   unfold ol mi
   rw[g,]
   simp only[ho]
   rfl
  |true=>
   rw[ho] at h
   simp only[Bool.not_true,Bool.false_or,Bool.and_eq_true] at h
   obtain ⟨i,b,g,hb,hv⟩:=JY (s:=a.name) C.length C rfl (AQ ha)
   refine ⟨i,Nat.zero_le _,by have:=(List.getElem?_eq_some_iff.1 g).1;omega, ?_⟩
   unfold ol mi
   rw[g]
   simp only[hb,hv,h.2,J0 ho,h.1,Bool.and_self,Bool.or_true]
section
variable {C:List At} {R:List AV} {Q:AExit→St→Prop}
theorem V5 (hb:C.length≤1000) (hR:ad R=true) {i:Nat} {y:At} (gi:C[i]? =some y) (hq:Q (.exit 2) (fI (.ofNat (bG y.name (C.take (i+1))).length) (.ofNat (i+1)) (.ofNat i) (C.map ag) R).st):
  ∀m k,k+m=i+1→ALp Tryz.prog opts0.glob 0 (ah Tryz.prog 57 12) (fI (.ofNat (bG y.name (C.take k)).length) (.ofNat k) (.ofNat i) (C.map ag) R).st Q:=by
 have hL:=bP C
 have hil:i<C.length:=(List.getElem?_eq_some_iff.1 gi).1
 intro m
 induction m with
 |zero=>
  intro k hk
  have hk:k=i+1:=by omega
  subst hk
  generalize (bG y.name (C.take (i+1))).length=n at hq⊢
  refine ALp.round (A:=wo (.str []::I 0::ay 0 0 0 [] []) (.str []::I 0::ay 0 0 0 [] [])) (V2:=fI 0 0 (.ofNat i) (C.map ag) R) (F:=fI (.ofNat n) (.ofNat (i+1)) (.ofNat i) (C.map ag) R) (lk:=[(0,0)]) (lk':=[(0,0)]) base0 am (LsOk.no rfl) .refl ?_
  rw[Ba]
  exact bz (by rw[ep (Nat.lt_succ_self i)];rfl) ⟨⟨⟨⟨rfl,rfl⟩,⟨rfl,rfl⟩,⟨rfl,rfl⟩,⟨rfl,hL⟩,⟨rfl,rfl⟩,trivial⟩,⟨⟨rfl,rfl⟩,trivial⟩,⟨rfl,hR⟩,trivial⟩,hq⟩
 | succ m ih=>
  intro k hk
  have g:=List.getElem?_eq_getElem (show k<C.length by omega)
  have ih:=ih (k+1) (by omega)
  rw[fg g,sP] at ih
  have hv:=pL y.name (C.take k)
  rw[List.length_take] at hv
  revert g ih
  generalize C[k]'(show k<C.length by omega)=x
  intro g ih
  generalize bG y.name (C.take k)=ws at ih hv⊢
  obtain ⟨s,ix,⟨t,yy,q,d,ks⟩⟩:=x
  obtain ⟨s',ix',⟨t',yy',q',d',ks'⟩⟩:=y
  have gx:=gZ (f:=false) g
  have gy:=gZ (f:=false) gi
  simp only at ih
  have yes:(!ar (Int.ofNat i) (Int.ofNat k))=true:=by rw[je (by omega)];rfl
  cases hbb:aB s s' with
  |true=>
   rw[hbb] at ih
   dsimp only at ih
   rw[List.length_append,List.length_singleton] at ih
   refine ALp.round (A:=wo (.str s::I ix::ay t yy q (ap d) (an ks)) (.str s'::I ix'::ay t' yy' q' (ap d') (an ks'))) (V2:=fI (.ofNat (ws.length+1)) (.ofNat (k+1)) (.ofNat i) (C.map ag) R) (F:=fI (.ofNat ws.length) (.ofNat k) (.ofNat i) (C.map ag) R) (lk:=[(0,0)]) (lk':=[(0,0)]) base0 am (LsOk.no rfl) .refl ?_
   rw[Ba,em (p:=k) (by omega),em (p:=ws.length) (by omega)]
   exact a8 yes ⟨gx,gy,a8 hbb ⟨⟨⟨⟨rfl,rfl⟩,⟨rfl,rfl⟩,⟨rfl,rfl⟩,⟨rfl,hL⟩,⟨rfl,rfl⟩,trivial⟩,⟨⟨rfl,rfl⟩,trivial⟩,⟨rfl,hR⟩,trivial⟩,ih⟩⟩
  |false=>
   rw[hbb] at ih
   dsimp only at ih
   refine ALp.round (A:=wo (.str s::I ix::ay t yy q (ap d) (an ks)) (.str s'::I ix'::ay t' yy' q' (ap d') (an ks'))) (V2:=fI (.ofNat ws.length) (.ofNat (k+1)) (.ofNat i) (C.map ag) R) (F:=fI (.ofNat ws.length) (.ofNat k) (.ofNat i) (C.map ag) R) (lk:=[(0,0)]) (lk':=[(0,0)]) base0 am (LsOk.no rfl) .refl ?_
   rw[Ba,em (p:=k) (by omega)]
   exact a8 yes ⟨gx,gy,bz hbb ⟨⟨⟨⟨rfl,rfl⟩,⟨rfl,rfl⟩,⟨rfl,rfl⟩,⟨rfl,hL⟩,⟨rfl,rfl⟩,trivial⟩,⟨⟨rfl,rfl⟩,trivial⟩,⟨rfl,hR⟩,trivial⟩,ih⟩⟩
theorem BK:br (ah Tryz.prog 57 5) 12=[ah Tryz.prog 57 12]:=by kernel_rfl
theorem J1:br (cy Tryz.prog 57) 5=[ah Tryz.prog 57 5]:=by kernel_rfl
theorem V6 {i:Nat} (hi:i=C.length) (hq:Q (.exit 0) (i9 0).st):ALp Tryz.prog opts0.glob 0 (ah Tryz.prog 57 5) (jS (.ofNat i) (C.map ag)).st Q:=by
 have hlen:ab (C.map ag)=C.length:=by rw[aI,List.length_map]
 refine ALp.round (A:=wr (.str []::I 0::ay 0 0 0 [] []) (dQ [] 0 false false [] [] 0) false [(12,wq False 0 0 (.ofNat i) (C.map ag) (dQ [] 0 false false [] [] 0))]) (V2:=jS 0 (C.map ag)) (F:=i9 0) (lk:=[]) (lk':=[]) base0 am (LsOk.at1 rfl BK fun st Q hs=>hs.1.elim) .refl ?_
 rw[Bb,hlen]
 exact bz (je (by omega)) ⟨⟨⟨⟨rfl,rfl⟩,trivial⟩,trivial,trivial⟩,hq⟩
theorem V7 (s:List UInt8):∃ (nm cU sta:List UInt8) (ty dt:Int) (many set:Bool),JN (eb (da s) s)= .tuple [.agg (dQ nm ty many set cU sta dt),.bool (fz s)]∧(fz s=true→ty=gE s∧(!ar dt 0)=kP s):=by
 unfold fz gE kP
 cases eb (da s) s with
 |none=>exact ⟨[],[],[],0,0,false,false,rfl,fun h=>by cases h⟩
 |some k=>exact ⟨aM k,lR k,lS k,iT k,lT k,pm k,gV k,rfl,fun _=>⟨rfl,rfl⟩⟩
theorem V8 (hb:C.length≤1000) {i:Nat} {a:At} (g:C[i]? =some a) (hs:a.name∈nameL) (hn:mi C i a=false→ALp Tryz.prog opts0.glob 0 (ah Tryz.prog 57 5) (jS (.ofNat (i+1)) (C.map ag)).st Q) (hr:mi C i a=true→Q .ret (i9 7).st):ALp Tryz.prog opts0.glob 0 (ah Tryz.prog 57 5) (jS (.ofNat i) (C.map ag)).st Q:=by
 have hL:=bP C
 have hlen:ab (C.map ag)=C.length:=by rw[aI,List.length_map]
 have hlt:i<C.length:=(List.getElem?_eq_some_iff.1 g).1
 have hf:=JP (Fk a.name hs)
 rw[JO fun hc=>(by decide:∀s∈nameL,da s=true→∀k∈kinds,aM k≠s) a.name hs hc] at hf
 obtain ⟨nm,cU,sta,ty,dt,many,set,e,hkn⟩:=V7 a.name
 rw[e] at hf
 have hR:ad (dQ nm ty many set cU sta dt)=true:=rfl
 have hrun:=fun (Q:AExit→St→Prop) hq=>V5 (Q:=Q) hb hR g hq (i+1) 0 (Nat.zero_add _)
 rw[List.take_zero] at hrun
 have hrun2:=fun (Q:AExit→St→Prop) (hq:Q (.exit 2) (fI (.ofNat (bG a.name (C.take (i+1))).length) (.ofNat (i+1)) (.ofNat i) (C.map ag) (dQ nm ty many set cU sta dt)).st)=>(show ALp Tryz.prog opts0.glob 0 (ah Tryz.prog 57 12) (fI 0 0 (.ofNat i) (C.map ag) (dQ nm ty many set cU sta dt)).st Q from hrun Q hq)
 have hbad:mi C i a=(!kO a||(kP a.name&&ar 2 (.ofNat (bG a.name (C.take (i+1))).length))):=rfl
 rw[hbad] at hn hr
 generalize (bG a.name (C.take (i+1))).length=n at hrun2 hn hr
 have hok:kO a=(fz a.name&&(aF (gE a.name) (bN a.v)&&aF a.idx 0)):=rfl
 rw[hok] at hn hr
 generalize hkk:fz a.name=kn at hf hkn hn hr
 have fin:∀b:Bool,b=true∨b=false:=fun b=>by cases b<;>simp
 by_cases hbd:(!(kn&&(aF (gE a.name) (bN a.v)&&aF a.idx 0))||(kP a.name&&ar 2 (.ofNat n)))=true
 ·have hr':=hr hbd
  clear hr hn
  generalize gE a.name=tS at hkn hbd
  generalize kP a.name=dS at hkn hbd
  obtain ⟨s,ix,⟨t,y,q,d,ks⟩⟩:=a
  have gx:=gZ (f:=false) g
  simp only at hf
  have hbd:(!(kn&&(aF tS y&&aF ix 0))||(dS&&ar 2 (.ofNat n)))=true:=hbd
  have st:((AV.int .i64 7= .int .i64 7∧ac (.int .i64 7)=true)∧True)∧True∧True:=⟨⟨⟨rfl,rfl⟩,trivial⟩,trivial,trivial⟩
  refine ALp.round (A:=wr (.str s::I ix::ay t y q (ap d) (an ks)) (dQ nm ty many set cU sta dt) kn [(12,wq True (.ofNat n) (.ofNat (i+1)) (.ofNat i) (C.map ag) (dQ nm ty many set cU sta dt))]) (V2:=jS (.ofNat (i+1)) (C.map ag)) (F:=i9 7) (lk:=[]) (lk':=[]) base0 am (LsOk.at1 rfl BK fun st Q hs=> .seen base0.glob hs.2.1 (hrun2 Q hs.2.2)) .refl ?_
  rw[Bb,hlen,em (p:=i) (by omega)]
  refine a8 (ep hlt) ⟨gx,hf,az (fun _=>⟨st,hr'⟩) fun e1=>⟨gx,az (fun _=>⟨st,hr'⟩) fun e2=>⟨gx,az (fun _=>⟨st,hr'⟩) fun e3=> ?_⟩⟩⟩
  rw[Bool.not_eq_false'] at e1 e2 e3
  obtain ⟨h1,h2⟩:=hkn e1
  have e2':aF tS y=true:=by rw[←h1];exact beqInt_iff.2 (beqInt_iff.1 e2).symm
  rw[e1,e2',e3] at hbd
  simp only[Bool.and_self,Bool.not_true,Bool.false_or,Bool.and_eq_true] at hbd
  refine ⟨trivial,⟨⟨⟨rfl,rfl⟩,⟨rfl,rfl⟩,⟨rfl,rfl⟩,⟨rfl,hL⟩,⟨rfl,rfl⟩,trivial⟩,⟨⟨rfl,rfl⟩,trivial⟩,⟨rfl,hR⟩,trivial⟩, ?_⟩
  exact a8 (by rw[h2];exact hbd.1) (a8 hbd.2 ⟨st,hr'⟩)
 ·rw[Bool.not_eq_true] at hbd
  have hn':=hn hbd
  clear hr hn
  generalize gE a.name=tS at hkn hbd
  generalize kP a.name=dS at hkn hbd
  obtain ⟨s,ix,⟨t,y,q,d,ks⟩⟩:=a
  have gx:=gZ (f:=false) g
  simp only at hf
  have hbd:(!(kn&&(aF tS y&&aF ix 0))||(dS&&ar 2 (.ofNat n)))=false:=hbd
  rw[Bool.or_eq_false_iff,Bool.not_eq_false',Bool.and_eq_true,Bool.and_eq_true] at hbd
  obtain ⟨⟨e1,e2,e3⟩,e4⟩:=hbd
  obtain ⟨h1,h2⟩:=hkn e1
  have e2':aF y ty=true:=by rw[h1];exact beqInt_iff.2 (beqInt_iff.1 e2).symm
  have go:((AV.int .i64 0= .int .i64 0∧true=true)∧True)∧True:=⟨⟨⟨rfl,rfl⟩,trivial⟩,trivial⟩
  refine ALp.round (A:=wr (.str s::I ix::ay t y q (ap d) (an ks)) (dQ nm ty many set cU sta dt) kn [(12,wq True (.ofNat n) (.ofNat (i+1)) (.ofNat i) (C.map ag) (dQ nm ty many set cU sta dt))]) (V2:=jS (.ofNat (i+1)) (C.map ag)) (F:=i9 7) (lk:=[]) (lk':=[]) base0 am (LsOk.at1 rfl BK fun st Q hs=> .seen base0.glob hs.2.1 (hrun2 Q hs.2.2)) .refl ?_
  rw[Bb,hlen,em (p:=i) (by omega)]
  refine a8 (ep hlt) ⟨gx,hf,bz (by rw[e1];rfl) ⟨gx,bz (by rw[e2'];rfl) ⟨gx,bz (by rw[e3];rfl) ?_⟩⟩⟩
  refine ⟨trivial,⟨⟨⟨rfl,rfl⟩,⟨rfl,rfl⟩,⟨rfl,rfl⟩,⟨rfl,hL⟩,⟨rfl,rfl⟩,trivial⟩,⟨⟨rfl,rfl⟩,trivial⟩,⟨rfl,hR⟩,trivial⟩, ?_⟩
  refine az (fun e5=>bz ?_ ⟨⟨⟨⟨rfl,rfl⟩,⟨rfl,hL⟩,⟨rfl,rfl⟩,trivial⟩,trivial,trivial⟩,hn'⟩) fun _=>⟨⟨⟨⟨rfl,rfl⟩,⟨rfl,hL⟩,⟨rfl,rfl⟩,trivial⟩,trivial,trivial⟩,hn'⟩
  rw[h2] at e5
  rw[e5,Bool.true_and] at e4
  exact e4
theorem J2 (hb:C.length≤1000) (hn:∀a∈C,a.name∈nameL):∀m i,i+m=C.length→ak (qD C i m) (Q .ret (i9 7).st) (Q (.exit 0) (i9 0).st)→ALp Tryz.prog opts0.glob 0 (ah Tryz.prog 57 5) (jS (.ofNat i) (C.map ag)).st Q
 |0,i,hi,hq=>V6 (by omega) hq
 | m+1,i,hi,hq=>by
  have hlt:i<C.length:=by omega
  have g:=List.getElem?_eq_getElem hlt
  rw[qD] at hq
  have hba:ol C i=mi C i C[i]:=by unfold ol;rw[g]
  rw[hba] at hq
  refine V8 hb g (hn _ (List.getElem_mem hlt)) (fun e=> ?_) (fun e=> ?_)
  ·rw[e,Bool.false_or] at hq
   exact J2 hb hn m (i+1) (by omega) hq
  ·rw[e,Bool.true_or] at hq
   exact hq
end
theorem V9 {C:List At} (hn:∀a∈C,a.name∈nameL) (hb:C.length≤20):SC 57 [.fsl false (C.map ag)] (I (jP C)):=by
 have hL:=bP C
 have hcl:ad [.fsl false (C.map ag)]=true:=by simp only[ad,ac,hL,Bool.and_self]
 have hlen:ab (C.map ag)=C.length:=by rw[aI,List.length_map]
 have h20:ar 20 (Int.ofNat C.length)=false:=ltInt_false.2 (by simp only[Int.ofNat_eq_natCast];omega)
 have hrun:=fun (Q:AExit→St→Prop)=>J2 (Q:=Q) (show C.length≤1000 by omega) hn C.length 0 (Nat.zero_add _)
 rw[V4] at hrun
 unfold jP
 rw[h20]
 dsimp only
 generalize C.any (pD fz (jO C))=b at hrun⊢
 cases b with
 |true=>
  refine eB (A:=aq [] [(5,wu True .ret 7 (C.map ag))] aA [] []) base0 am (aN (LsOk.at1 rfl J1 fun st Q hs=> .seen base0.glob hs.2.1 (hrun Q hs.2.2))) hcl rfl ?_
  rw[TX,hlen]
  exact bz h20 ⟨trivial,⟨⟨⟨rfl,rfl⟩,⟨rfl,hL⟩,⟨rfl,rfl⟩,trivial⟩,trivial,trivial⟩,rfl⟩
 |false=>
  refine eB (A:=aq [] [(5,wu True (.exit 0) 0 (C.map ag))] aA [] []) base0 am (aN (LsOk.at1 rfl J1 fun st Q hs=> .seen base0.glob hs.2.1 (hrun Q hs.2.2))) hcl rfl ?_
  rw[TY,hlen]
  exact bz h20 ⟨trivial,⟨⟨⟨rfl,rfl⟩,⟨rfl,hL⟩,⟨rfl,rfl⟩,trivial⟩,trivial,trivial⟩,rfl⟩
end Go.Proofs.YtjhggnebkfpgcaaGreatDoor
namespace Go.Proofs.YtjhggnebkfpgcaaGreatDoor
open Go Go.RowKit
open Go.Proofs.Abs
noncomputable section
def g7 (i m:Int) (Os Cs:List AV):View:=⟨[(11,.fsl false Os),(12,.fsl false Cs),(14,I m),(15,I i)],[],[],0,87⟩
def BM (x:List AV) (b:Bool):be:=aq [(12,2,.res (.fptr x 0)),(12,8,.res (.fptr x 0))] [] (cz [(52,.bool b),(58,.bool b)]) [] []
@[simp] abbrev BO (Os:List AV):=(AV.fsl false Os=AV.fsl false Os∧ac (AV.fsl false Os)=true)
@[simp] abbrev BP (Cs:List AV):=(AV.fsl false Cs=AV.fsl false Cs∧ac (AV.fsl false Cs)=true)
@[simp] abbrev J3 (Cs Os:List AV) (i m:Int):=(((BO Os)∧(BP Cs)∧(I m=I m∧ac (I m)=true)∧(I i=I i∧ac (I i)=true)∧True)∧True∧True)
theorem J4 (b:Bool) (i i' m:Int) (Os Cs:List AV) (o:Ob) (M N L C:AV) (Nx:Prop) (Q:AExit→St→Prop):aw Tryz.prog opts0 40 (BM (aa o M N L C) b) (ah Tryz.prog 13 11) (g7 i m Os Cs).st (bf 0 [] (g7 i' m Os Cs) Nx [] (g7 i m Os Cs) Q)=
  (ak (ar i (Int.ofNat (ab Os))) (ax Tryz.prog 72 (AV.fsl false Os) (I i)=some (AV.fptr (aa o M N L C) 0)∧SC 52 [AV.agg (aa o M N L C),AV.fsl false Cs] (AV.bool b)∧ax Tryz.prog 72 (AV.fsl false Os) (I i)=some (AV.fptr (aa o M N L C) 0)∧SC 58 [AV.agg (aa o M N L C),AV.fsl false Cs] (AV.bool b)∧ak (!decide (b=b)) ((J3 Cs Os i m)∧Q AExit.ret (g7 i m Os Cs).st) ((((BO Os)∧(BP Cs)∧(I m=I m∧ac (I m)=true)∧(I (af IntKind.i64 (i+1))=I i'∧ac (I i')=true)∧True)∧True∧True)∧Nx)) ((J3 Cs Os i m)∧Q (AExit.exit 0) (g7 i m Os Cs).st)):=by kernel_rfl
def qE (i:Int) (As:List AV):View:=⟨[(16,.fsl false As),(17,.fsl false As),(18,I i)],[],[],0,87⟩
def wvcF:View:=⟨[],[],[],0,87⟩
def BQ (s:List UInt8):be:=aq [(21,2,.res (.fptr [.str s] 0)),(21,6,.res (.fptr [.str s] 0))] [] aA [] []
@[simp] abbrev wS (As:List AV):=(AV.fsl false As=AV.fsl false As∧ac (AV.fsl false As)=true)
theorem J5 (i i':Int) (As:List AV) (s:List UInt8) (Nx:Prop) (Q:AExit→St→Prop):aw Tryz.prog opts0 40 (BQ s) (ah Tryz.prog 13 20) (qE i As).st (bf 0 [] (qE i' As) Nx [] wvcF Q)=
  (ak (ar i (Int.ofNat (ab As))) (ax Tryz.prog 27 (AV.fsl false As) (I i)=some (AV.fptr [AV.str s] 0)∧ax Tryz.prog 27 (AV.fsl false As) (I i)=some (AV.fptr [AV.str s] 0)∧ak (!aB s s) ((True∧True∧True)∧Q AExit.ret wvcF.st) ((((wS As)∧(wS As)∧(I (af IntKind.i64 (i+1))=I i'∧ac (I i')=true)∧True)∧True∧True)∧Nx)) ((True∧True∧True)∧Q (AExit.exit 2) wvcF.st)):=by kernel_rfl
def BR (p:Prop) (n m:Int) (Os Cs:List AV):bg:=fun st Q=>p∧bR 0 [] (g7 0 m Os Cs) st∧Q (.exit 0) (g7 n m Os Cs).st
def BS (p:Prop) (As:List AV):bg:=fun st Q=>p∧bR 0 [] (qE 0 As) st∧Q (.exit 2) wvcF.st
theorem J6 (p:Prop) (l Ps w:List AV) (how most:Int) (r n m:Int) (Os Cs As:List AV) (Q:AV→Prop):aL Tryz.prog opts0 40 (aq [] [(11,BR p n m Os Cs),(20,BS p As)] (jy [(50,fun _=>some (.fsl false Os)),(56,fun _=>some (.fsl false Cs)),(57,fun _=>some (I r)),(55,fun _=>some (I r)),(51,fun _=>some (.bool true)),(23,ly),(53,fun _=>some (.fsl false As)),(59,fun _=>some (.fsl false As))]) [] []) 13 [.fsl false l,.fsl false Ps,.fsl false w,I how,I most] [] 0 (fun v _ _=>Q v)=
  (SC 50 [AV.fsl false l,AV.fsl false Ps] (AV.fsl false Os)∧SC 56 [AV.fsl false w,I how] (AV.fsl false Cs)∧SC 57 [AV.fsl false Cs] (I r)∧SC 51 [] (AV.bool true)∧SC 55 [AV.fsl false Cs] (I r)∧ak (!aF r r) (Q (AV.bool false)) (ak (!aF r 0) (Q (AV.bool true)) (SC 23 [I most,I 14] (I (most%14))∧p∧(((BO Os)∧(BP Cs)∧(I (af IntKind.i64 (most%14-1))=I m∧ac (I m)=true)∧(I 0=I 0∧true=true)∧True)∧True∧True)∧SC 53 [AV.fsl false Os,AV.fsl false Cs,I m] (AV.fsl false As)∧SC 59 [AV.fsl false Os,AV.fsl false Cs,I m] (AV.fsl false As)∧ak (!aF (Int.ofNat (ab As)) (Int.ofNat (ab As))) (Q (AV.bool false)) (p∧(((wS As)∧(wS As)∧(I 0=I 0∧true=true)∧True)∧True∧True)∧Q (AV.bool true))))):=by kernel_rfl
end
end Go.Proofs.YtjhggnebkfpgcaaGreatDoor
namespace Go.Proofs.YtjhggnebkfpgcaaGreatDoor
set_option maxRecDepth 20000
open Go Go.RowKit
open Go.Proofs.Abs
section
variable {os:List Ob} {C:List At} {m:Int} {Q:AExit→St→Prop}
theorem Wa (hb:os.length≤1000) (h1:∀o∈os,SC 52 [aj o,.fsl false (C.map ag)] (.bool (cE o C))) (h2:∀o∈os,SC 58 [aj o,.fsl false (C.map ag)] (.bool (cE o C)))
  (hq:Q (.exit 0) (g7 (.ofNat os.length) m (os.map aj) (C.map ag)).st):
  ∀k i,i+k=os.length→ALp Tryz.prog opts0.glob 0 (ah Tryz.prog 13 11) (g7 (.ofNat i) m (os.map aj) (C.map ag)).st Q:=by
 have hO:=eW os
 have hL:=bP C
 have hlen:ab (os.map aj)=os.length:=by rw[aI,List.length_map]
 intro k
 induction k with
 |zero=>
  intro i hi
  have hi:i=os.length:=by omega
  subst hi
  refine ALp.round (A:=BM (aa zO .nilsl .nilsl .nilsl .nilsl) false) (V2:=g7 0 m (os.map aj) (C.map ag)) (F:=g7 (.ofNat os.length) m (os.map aj) (C.map ag)) (lk:=[]) (lk':=[]) base0 am (LsOk.no rfl) .refl ?_
  rw[J4,hlen]
  exact bz (je (Nat.le_refl _)) ⟨⟨⟨⟨rfl,hO⟩,⟨rfl,hL⟩,⟨rfl,rfl⟩,⟨rfl,rfl⟩,trivial⟩,trivial,trivial⟩,hq⟩
 |succ k ih=>
  intro i hi
  have hlt:i<os.length:=by omega
  have ih:=ih (i+1) (by omega)
  have g:=List.getElem?_eq_getElem hlt
  have hm:=List.getElem_mem hlt
  revert g hm
  generalize os[i]=o
  intro g hm
  have hs1:=h1 o hm
  have hs2:=h2 o hm
  have hx:=qo g
  generalize cE o C=b at hs1 hs2
  refine ALp.round (A:=BM (ao o) b) (V2:=g7 (.ofNat (i+1)) m (os.map aj) (C.map ag)) (F:=g7 (.ofNat i) m (os.map aj) (C.map ag)) (lk:=[]) (lk':=[]) base0 am (LsOk.no rfl) .refl ?_
  unfold aj at hs1 hs2
  unfold ao at hs1 hs2 hx⊢
  rw[J4,hlen,em (p:=i) (by omega)]
  refine a8 (ep hlt) ⟨hx,hs1,hx,hs2, ?_⟩
  cases b<;>exact bz rfl ⟨⟨⟨⟨rfl,hO⟩,⟨rfl,hL⟩,⟨rfl,rfl⟩,⟨rfl,rfl⟩,trivial⟩,trivial,trivial⟩,ih⟩
end
theorem Wb {ids:List (List UInt8)} {Q:AExit→St→Prop} (hb:ids.length≤1000) (hq:Q (.exit 2) wvcF.st):∀m i,i+m=ids.length→ALp Tryz.prog opts0.glob 0 (ah Tryz.prog 13 20) (qE (.ofNat i) (ids.map .str)).st Q:=by
 have hS:=ea ids
 have hlen:ab (ids.map AV.str)=ids.length:=by rw[aI,List.length_map]
 intro m
 induction m with
 |zero=>
  intro i hi
  have hi:i=ids.length:=by omega
  subst hi
  refine ALp.round (A:=BQ []) (V2:=qE 0 (ids.map .str)) (F:=wvcF) (lk:=[]) (lk':=[]) base0 am (LsOk.no rfl) .refl ?_
  rw[J5,hlen]
  exact bz (je (Nat.le_refl _)) ⟨⟨trivial,trivial,trivial⟩,hq⟩
 |succ m ih=>
  intro i hi
  have hlt:i<ids.length:=by omega
  have g:=List.getElem?_eq_getElem hlt
  refine ALp.round (A:=BQ ids[i]) (V2:=qE (.ofNat (i+1)) (ids.map .str)) (F:=wvcF) (lk:=[]) (lk':=[]) base0 am (LsOk.no rfl) .refl ?_
  rw[J5,hlen,em (p:=i) (by omega)]
  exact a8 (ep hlt) ⟨IZ g,IZ g,bz (by rw[beqBytes_iff.2 rfl];rfl) ⟨⟨⟨⟨rfl,hS⟩,⟨rfl,hS⟩,⟨rfl,rfl⟩,trivial⟩,trivial,trivial⟩,ih (i+1) (by omega)⟩⟩
theorem J7:br (cy Tryz.prog 13) 11=[ah Tryz.prog 13 11]:=by kernel_rfl
theorem J8:br (cy Tryz.prog 13) 20=[ah Tryz.prog 13 20]:=by kernel_rfl
theorem Wc (l ps w:List Rw) (how most:Int) (hps:ps.length≤9223372036854775807):SC 13 [.fsl false (l.map aJ),.fsl false (ps.map aJ),.fsl false (w.map aJ),I how,I most] (.bool true):=by
 obtain ⟨os,hol,hI,hlist⟩:=UI (l:=l) hps
 have hb:os.length≤12:=by omega
 have hR:=fv l
 have hP:=fv ps
 have hW:=fv w
 have hO:=eW os
 have hcl:ad [.fsl false (l.map aJ),.fsl false (ps.map aJ),.fsl false (w.map aJ),I how,I most]=true:=by simp only[ad,ac,hR,hP,hW,Bool.and_self]
 have hmem:∀o∈os,oa o:=fun o ho=>by
  obtain ⟨j,hj⟩:=List.getElem?_of_mem ho
  exact (hI j o hj).1
 have hwant:=TI w how
 have hCn:∀a∈lQ how w,a.name∈nameL:=fun a h=>TK h
 have hCb:=TJ how w
 generalize lQ how w=C at hwant hCn hCb
 have hL:=bP C
 have hrt:=TO hCn (by omega)
 have hrr:=V9 hCn (by omega)
 by_cases hr:jP C=0
 case neg=>
  refine eB (A:=aq [] [(11,BR False 0 0 (os.map aj) (C.map ag)),(20,BS False [])] (jy [(50,fun _=>some (.fsl false (os.map aj))),(56,fun _=>some (.fsl false (C.map ag))),(57,fun _=>some (I (jP C))),(55,fun _=>some (I (jP C))),(51,fun _=>some (.bool true)),(23,ly),(53,fun _=>some (.fsl false [])),(59,fun _=>some (.fsl false []))]) [] []) base0 am (aN (LsOk.at2 rfl J7 J8 (fun st Q hs=>hs.1.elim) (fun st Q hs=>hs.1.elim))) hcl rfl ?_
  rw[J6]
  exact ⟨hlist,hwant,hrr,IV,hrt,bz (by rw[beqInt_iff.2 rfl];rfl) (a8 (by rw[beqInt_false.2 hr];rfl) rfl)⟩
 rw[hr] at hrt hrr
 have hp:=bm most (m:=14) (by decide) (by decide)
 obtain ⟨mm,hm,hml⟩:=pe (n:=most) (m:=14) (by decide)
 have hsub:af .i64 ((mm:Int)-1)=(mm:Int)-1:=UV mm (by omega)
 have h1:∀o∈os,SC 52 [aj o,.fsl false (C.map ag)] (.bool (cE o C)):=fun o ho=>Tc (hmem o ho).h hCn (by omega)
 have h2:∀o∈os,SC 58 [aj o,.fsl false (C.map ag)] (.bool (cE o C)):=fun o ho=>VZ (hmem o ho) (by omega) hCn hr
 have hf1:=UA (L:=C) (l:=os) (by omega) h1 ((mm:Int)-1)
 have hf2:=Vd (C:=C) (os:=os) (by omega) h2 (fun o ho=>(hmem o ho).d) ((mm:Int)-1)
 rw[UR hI hb,←IX] at hf2
 have hAl:(jZ ((mm:Int)-1) C os).length≤1000:=by
  have h3:=(IY C os).length_eq
  have h4:=List.length_filter_le (fun o=>cE o C) os
  rw[IX,Bn,List.length_take,List.length_map]
  omega
 have hS:=ea (jZ ((mm:Int)-1) C os)
 have hln:ab ((jZ ((mm:Int)-1) C os).map AV.str)=(jZ ((mm:Int)-1) C os).length:=by rw[aI,List.length_map]
 have hva:=fun (Q:AExit→St→Prop) hq=>Wa (C:=C) (m:=(mm:Int)-1) (Q:=Q) (show os.length≤1000 by omega) h1 h2 hq os.length 0 (Nat.zero_add _)
 have hvc:=fun (Q:AExit→St→Prop) hq=>Wb (Q:=Q) hAl hq (jZ ((mm:Int)-1) C os).length 0 (Nat.zero_add _)
 generalize jZ ((mm:Int)-1) C os=ids at hf1 hf2 hAl hS hln hvc
 refine eB (A:=aq [] [(11,BR True (.ofNat os.length) ((mm:Int)-1) (os.map aj) (C.map ag)),(20,BS True (ids.map .str))] (jy [(50,fun _=>some (.fsl false (os.map aj))),(56,fun _=>some (.fsl false (C.map ag))),(57,fun _=>some (I 0)),(55,fun _=>some (I 0)),(51,fun _=>some (.bool true)),(23,ly),(53,fun _=>some (.fsl false (ids.map .str))),(59,fun _=>some (.fsl false (ids.map .str)))]) [] []) base0 am (aN (LsOk.at2 rfl J7 J8 (fun st Q hs=> .seen base0.glob hs.2.1 (hva Q hs.2.2)) (fun st Q hs=> .seen base0.glob hs.2.1 (hvc Q hs.2.2)))) hcl rfl ?_
 rw[J6,hm,hsub,hln]
 rw[hm] at hp
 exact ⟨hlist,hwant,hrr,IV,hrt,bz rfl (bz rfl ⟨hp,trivial,⟨⟨⟨rfl,hO⟩,⟨rfl,hL⟩,⟨rfl,rfl⟩,⟨rfl,rfl⟩,trivial⟩,trivial,trivial⟩,hf1,hf2,bz (by rw[beqInt_iff.2 rfl];rfl) ⟨trivial,⟨⟨⟨rfl,hS⟩,⟨rfl,hS⟩,⟨rfl,rfl⟩,trivial⟩,trivial,trivial⟩,rfl⟩⟩)⟩
end Go.Proofs.YtjhggnebkfpgcaaGreatDoor
namespace Go.Proofs.YtjhggnebkfpgcaaGreatDoor
open Go Go.RowKit
open Go.Proofs.Abs
theorem J9:∀ {ess:List (List AV)},(∀c∈ess,(∃a b d z:Int,c=[.int .i64 a,.int .i64 b,.int .i64 d,.int .i64 z]∧(IntKind.i64.min≤a∧a≤IntKind.i64.max)∧(IntKind.i64.min≤b∧b≤IntKind.i64.max)∧(IntKind.i64.min≤d∧d≤IntKind.i64.max)∧(IntKind.i64.min≤z∧z≤IntKind.i64.max))∧c.length=4)→∃l:List Rw,ess.map kR=l.map aJ∧l.length=ess.length
 |[],_=>⟨[],rfl,rfl⟩
 |c::t,h=>by
  obtain ⟨⟨a,b,d,z,rfl,_⟩,_⟩:=h c (by simp)
  obtain ⟨l,e,hl⟩:=J9 (ess:=t) fun c hc=>h c (by simp[hc])
  refine ⟨⟨a,b,d,z⟩::l, ?_,by simp[hl]⟩
  rw[List.map_cons,e]
  rfl
section
variable {P:Program} {H:Type} {enc:TypeId × Value→H} {w:World} {base:Nat} {spare:Nat→Bool} {held:Bool} {v:Value} {d:DataW H} {ps:List MemPlace} {t e i:TypeId}
theorem BT {f0 f1 f2 f3:Field} (ht:P.underlying t=some (.slice e)) (hs:P.underlying e=some (.struct #[f0,f1,f2,f3])) (h0:f0.type=i∧f0.offset=0) (h1:f1.type=i∧f1.offset=1) (h2:f2.type=i∧f2.offset=2) (h3:f3.type=i∧f3.offset=3)
  (he:P.underlying i=some (.int .i64)) (hc:P.cellsOf i=1) (h4:P.cellsOf e=4) (hok:Value.okWide P w .any base t v) (h:DataW.Trod enc P w 0 spare held t v d ps):
  ∃ (l:List Rw),l.length≤9223372036854775807∧Rep w (fun b=>b<w.heap.size) (fun _=>none) (.fsl false (l.map aJ)) v:=by
 rcases MG ht (MH hs h0 h1 h2 h3 he hc h4) hok h with rfl|⟨ess,hr,hp,hl⟩
 ·exact ⟨[],by simp,Wk.nil.out _ _ _ _ .nilsl⟩
 ·obtain ⟨l,e1,e2⟩:=J9 hp
  refine ⟨l,by rw[e2];exact hl, ?_⟩
  rw[e1] at hr
  exact hr
end
end Go.Proofs.YtjhggnebkfpgcaaGreatDoor
namespace Go.Proofs
open Go.Shelf
def Tryz.laysValid_ren:Go.Shelf.Ren:=⟨fun|196=>159|259=>192|n=>n,fun|9=>9|4=>4|3=>3|5=>5|12=>12|119=>203|0=>0|46=>162|139=>206|138=>205|53=>161|n=>n,fun|3=>1|4=>2|n=>n⟩
theorem Tryz.laysValid:Go.Proofs.Lays.n196 Tryz.prog Tryz.laysValid_ren:={
 mixed:=by kernel_rfl
 f196:=Tryz.func159.trans (congrArg some (by kernel_rfl))
 f259:=Tryz.func192.trans (congrArg some (by kernel_rfl))
 t0:=Tryz.underlying0
 a0:=Tryz.isAgg0
 z0:=Tryz.sizeOf0
 v0:=Tryz.zeroValue0
 t3:=Tryz.underlying3
 a3:=Tryz.isAgg3
 z3:=Tryz.sizeOf3
 v3:=Tryz.zeroValue3
 t4:=Tryz.underlying4
 a4:=Tryz.isAgg4
 z4:=Tryz.sizeOf4
 v4:=Tryz.zeroValue4
 t5:=Tryz.underlying5
 a5:=Tryz.isAgg5
 z5:=Tryz.sizeOf5
 v5:=Tryz.zeroValue5
 t9:=Tryz.underlying9
 a9:=Tryz.isAgg9
 z9:=Tryz.sizeOf9
 v9:=Tryz.zeroValue9
 t12:=Tryz.underlying12
 a12:=Tryz.isAgg12
 z12:=Tryz.sizeOf12
 v12:=Tryz.zeroValue12
 t46:=Tryz.underlying162
 a46:=Tryz.isAgg162
 z46:=Tryz.sizeOf162
 v46:=Tryz.zeroValue162
 t53:=Tryz.underlying161
 a53:=Tryz.isAgg161
 z53:=Tryz.sizeOf161
 v53:=Tryz.zeroValue161
 t119:=Tryz.underlying203
 a119:=Tryz.isAgg203
 z119:=Tryz.sizeOf203
 t138:=Tryz.underlying205
 a138:=Tryz.isAgg205
 z138:=Tryz.sizeOf205
 v138:=Tryz.zeroValue205
 t139:=Tryz.underlying206
 a139:=Tryz.isAgg206
 z139:=Tryz.sizeOf206
 v139:=Tryz.zeroValue206
 g3:=by kernel_rfl
 g4:=by kernel_rfl}
end Go.Proofs
namespace Go.Proofs.YtjhggnebkfpgcaaGreatDoor
open Go Go.RowKit
open Go.Proofs.Abs
theorem Wd:∀c,c<256→firL[c]? =some (Lib.firstT c):=by decide+kernel
theorem We:∀i,i<16→accL[2*i]? =some (Lib.accLo i)∧accL[2*i+1]? =some (Lib.accHi i):=by decide+kernel
end Go.Proofs.YtjhggnebkfpgcaaGreatDoor
