import Derived.Test.YtjhggnebkfpgcaaGreatDoorQ7
import Derived.KernelRfl
import Derived.Test.YtjhggnebkfpgcaaGreatDoorQ4
import Derived.Test.YtjhggnebkfpgcaaGreatDoorQ2
import Derived.Test.YtjhggnebkfpgcaaGreatDoorQ5
import Derived.Test.YtjhggnebkfpgcaaGreatDoorQ6
import Derived.Test.YtjhggnebkfpgcaaGreatDoorQ1
import Derived.Test.YtjhggnebkfpgcaaGreatDoorG5
import Derived.Shelf.Unicode.ValidAny
namespace Go.Proofs.YtjhggnebkfpgcaaGreatDoor
set_option maxRecDepth 20000
open Go Go.RowKit _root_.Go.Proofs.Tryz
open Go.Proofs.Abs
def gz (C:List Cu) (p i:Nat):List Cu:=C.take (min i p)++(C.take i).drop (p+1)
theorem XA {C:List Cu} {p i:Nat} {x:Cu} (_g:C[i]? =some x) (h:i=p):gz C p (i+1)=gz C p i:=by
 subst h;unfold gz;rw[show min (i+1) i=min i i by omega,List.drop_of_length_le (by rw[List.length_take];omega),List.drop_of_length_le (by rw[List.length_take];omega)]
theorem XB {C:List Cu} {p i:Nat} {x:Cu} (g:C[i]? =some x) (h:i≠p):gz C p (i+1)=gz C p i++[x]:=by
 have hl:i<C.length:=by
  rcases Nat.lt_or_ge i C.length with h|h
  ·exact h
  ·rw[List.getElem?_eq_none h] at g;cases g
 unfold gz;rw[iR g];rcases Nat.lt_or_ge i p with h1|h1
 ·rw[show min (i+1) p=i+1 by omega,show min i p=i by omega,iR g,List.drop_of_length_le (by rw[List.length_append,List.length_take];simp;omega),List.drop_of_length_le (by rw[List.length_take];omega),List.append_nil,List.append_nil]
 ·rw[show min (i+1) p=p by omega,show min i p=p by omega,List.drop_append_of_le_length (by rw[List.length_take];omega),List.append_assoc]
theorem XC (C:List Cu) {p:Nat} (h:p<C.length):gz C p C.length=cB C p:=by
 unfold gz cB;rw[show min C.length p=p by omega,List.take_of_length_le (Nat.le_refl _)]
theorem XD (C:List Cu) (p i:Nat):(gz C p i).length≤C.length+C.length:=by
 unfold gz;rw[List.length_append,List.length_take,List.length_drop,List.length_take];omega
noncomputable def JB (s:List UInt8) (j now c i:Int) (O:List AV):List Cu→View
 |[]=>eS s j now c i O
 |a::r=>dp s j now c i (r.length+1) O (flat ((a::r).map az))
theorem XE {f:Bool} {l:List Cu} {i:Nat} {x:Cu} (hx:l[i]? =some x):aF prog 29 (.fsl f (l.map az)) (.int .i64 (.ofNat i))=some (.fptr [.str x.name,.str x.text] 0):=
 gC (v:=az x) (e:=101) (sz:=2) (by kernel_rfl) (by kernel_rfl) (by rw[List.getElem?_map,hx];rfl) rfl
section
variable {o:Ob} {M N L:AV} {s:List UInt8} {now:Int} {Q:AExit→St→Prop}
theorem XF {C:List Cu} {p:Nat} {tx:List UInt8} (hb:C.length≤6) (hp:C[p]? =some ⟨s,tx⟩) (hO:ae (aa o M N L (.fsl false (C.map az)))=true)
  (hq:Q (.exit 2) (JB s (.ofNat (aW s (C.take p))) now (.ofNat (aW s C)) (.ofNat C.length) (aa o M N L (.fsl false (C.map az))) (gz C p C.length)).st):
  ∀m i:Nat,i+m=C.length→ALp prog opts0.glob 0 (aJ prog 31 15) (JB s (.ofNat (aW s (C.take p))) now (.ofNat (aW s (C.take i))) (.ofNat i) (aa o M N L (.fsl false (C.map az))) (gz C p i)).st Q:=by
 have hlen:ab (C.map az)=C.length:=by rw[aM,List.length_map]
 have hpl:p<C.length:=by
  rcases Nat.lt_or_ge p C.length with h|h
  ·exact h
  ·rw[List.getElem?_eq_none h] at hp;cases hp
 have hJ:aW s (C.take p)≤6:=Nat.le_trans (pg s C p) (Nat.le_trans (tY s C) hb);intro m
 induction m with
 | zero=>
  intro i hi;rw[Nat.add_zero] at hi;subst hi;rw[List.take_of_length_le (Nat.le_refl _)];revert hq hJ;generalize gz C p C.length=out;generalize aW s (C.take p)=J;generalize aW s C=c;intro hq hJ;have hno:ay (Int.ofNat C.length) (Int.ofNat (ab (C.map az)))=true→False:=fun e=>nr (hlen▸e)
  match out,hq with
  |[],hq=>
   refine ALp.round (A:=iD ⟨[],[]⟩ true true) (V2:=eS s (.ofNat J) now 0 0 (aa o M N L (.fsl false (C.map az)))) (F:=eS s (.ofNat J) now (.ofNat c) (.ofNat C.length) (aa o M N L (.fsl false (C.map az)))) (lk:=[(0,0),(1,1)]) (lk':=[(0,0),(1,1)]) base0 ar (LsOk.no rfl) .refl ?_;show aP prog opts0 40 _ _ (eS s (.ofNat J) now (.ofNat c) (.ofNat C.length) (aa o M N L (.fsl false (C.map az)))).st _;rw[Jt];exact ai (fun e=>(hno e).elim) fun _=>⟨⟨⟨rflTwoQ,rflTwoQ,rflTwoQ,rflTwoQ,rflTwoQ,rflTwoQ,ad⟩,⟨rflTwoQ,rflTwoQ,ad⟩,⟨rfl,hO⟩,rflTwoQ,ad⟩,hq⟩
  |a::r,hq=>
   have hc:=fa (a::r);refine ALp.round (A:=iD ⟨[],[]⟩ true true) (V2:=dp s (.ofNat J) now 0 0 (r.length+1) (aa o M N L (.fsl false (C.map az))) (flat ((a::r).map az))) (F:=dp s (.ofNat J) now (.ofNat c) (.ofNat C.length) (r.length+1) (aa o M N L (.fsl false (C.map az))) (flat ((a::r).map az))) (lk:=[(0,0),(1,1),(2,2)]) (lk':=[(0,0),(1,1),(2,2)]) base0 ar (LsOk.no rfl) .refl ?_;show aP prog opts0 40 _ _ (dp s (.ofNat J) now (.ofNat c) (.ofNat C.length) (r.length+1) (aa o M N L (.fsl false (C.map az))) (flat ((a::r).map az))).st _;rw[Ju];exact ai (fun e=>(hno e).elim) fun _=>⟨⟨⟨rflTwoQ,rflTwoQ,rflTwoQ,rflTwoQ,rflTwoQ,ad⟩,⟨rflTwoQ,rflTwoQ,⟨rfl,rfl,rfl,rfl,rfl⟩,ad⟩,⟨rfl,hO⟩,rflTwoQ,⟨rfl,hc⟩,ad⟩,hq⟩
 | succ m ih=>
  intro i hi;have hlt:i<C.length:=by omega
  have g:=List.getElem?_eq_getElem hlt;have ih:=ih (i+1) (by omega);have hle:i<p→aW s (C.take (i+1))≤aW s (C.take p):=fun h=>by
   have:=pg s (C.take p) (i+1);rw[List.take_take,Nat.min_eq_left (by omega)] at this;exact this
  have hge:p<i→aW s (C.take (p+1))≤aW s (C.take i):=fun h=>by
   have:=pg s (C.take i) (p+1);rw[List.take_take,Nat.min_eq_left (by omega)] at this;exact this
  have hpe:i=p→aW s (C.take i)=aW s (C.take p):=fun h=>by rw[h]
  rw[iR hp,qY,beqBytes_iff.2 rfl] at hge;have hout:=XD C p i;have hcb:aW s (C.take i)≤6:=Nat.le_trans (pg s C i) (Nat.le_trans (tY s C) hb);have hxp:i=p→C[i].name=s:=fun h=>by
   subst h;have:some C[i]=some (⟨s,tx⟩:Cu):=g▸hp;rw[Option.some.inj this]
  have ho1:=XA (p:=p) g;have ho2:=XB (p:=p) g;clear hq hp;rw[iR g,qY] at ih hle;revert g ih hle hge hpe hout hcb hxp ho1 ho2 hJ;generalize C[i]=x;generalize aW s (C.take p)=J;generalize aW s (C.take i)=c;generalize gz C p (i+1)=out';generalize gz C p i=out;intro hJ g ih hle hge hpe hout hcb hxp ho1 ho2;have gx:=XE (f:=false) g;have hw:=dA (p:=i) (by omega);have hwc:=dA (p:=c) (by omega);have hwj:=dA (p:=J) (by omega);have hyes:∀e:ay (Int.ofNat i) (Int.ofNat (ab (C.map az)))=false,False:=fun e=>gL hlt (hlen▸e);have he:=ug (.tmp 86) (.tmp 87) x.name s;have hi2:=nt (.tmp 91) (.tmp 93) (.ofNat (c+1)) (.ofNat (J+1))
  by_cases hip:i=p
  ·have hnm:=hxp hip;rw[beqBytes_iff.2 hnm] at ih he;have hcJ:=hpe hip;subst hcJ;rw[ho1 hip] at ih;rw[beqInt_iff.2 rfl] at hi2
   match out,ih with
   |[],ih=>
    refine ALp.round (A:=iD x true true) (V2:=eS s (.ofNat c) now (.ofNat (c+1)) (.ofNat (i+1)) (aa o M N L (.fsl false (C.map az)))) (F:=eS s (.ofNat c) now (.ofNat c) (.ofNat i) (aa o M N L (.fsl false (C.map az)))) (lk:=[(0,0),(1,1)]) (lk':=[(0,0),(1,1)]) base0 ar (LsOk.no rfl) .refl ?_;show aP prog opts0 40 _ _ (eS s (.ofNat c) now (.ofNat c) (.ofNat i) (aa o M N L (.fsl false (C.map az)))).st _;rw[Jt,hw,hwc];exact ai (fun _=>⟨gx,he,hi2,⟨⟨rflTwoQ,rflTwoQ,rflTwoQ,rflTwoQ,rflTwoQ,rflTwoQ,ad⟩,⟨rflTwoQ,rflTwoQ,ad⟩,⟨rfl,hO⟩,rflTwoQ,ad⟩,ih⟩) fun e=>(hyes e).elim
   |b::r,ih=>
    have hc:=fa (b::r);refine ALp.round (A:=iD x true true) (V2:=dp s (.ofNat c) now (.ofNat (c+1)) (.ofNat (i+1)) (r.length+1) (aa o M N L (.fsl false (C.map az))) (flat ((b::r).map az))) (F:=dp s (.ofNat c) now (.ofNat c) (.ofNat i) (r.length+1) (aa o M N L (.fsl false (C.map az))) (flat ((b::r).map az))) (lk:=[(0,0),(1,1),(2,2)]) (lk':=[(0,0),(1,1),(2,2)]) base0 ar (LsOk.no rfl) .refl ?_;show aP prog opts0 40 _ _ (dp s (.ofNat c) now (.ofNat c) (.ofNat i) (r.length+1) (aa o M N L (.fsl false (C.map az))) (flat ((b::r).map az))).st _;rw[Ju,hw,hwc];exact ai (fun _=>⟨gx,he,hi2,⟨⟨rflTwoQ,rflTwoQ,rflTwoQ,rflTwoQ,rflTwoQ,ad⟩,⟨rflTwoQ,rflTwoQ,⟨rfl,rfl,rfl,rfl,rfl⟩,ad⟩,⟨rfl,hO⟩,rflTwoQ,⟨rfl,hc⟩,ad⟩,ih⟩) fun e=>(hyes e).elim
  ·rw [ho2 hip] at ih;have hfl:=Br out;cases hx:aI x.name s with
   | false=>
    rw[hx] at ih he hle;rw[Nat.add_zero] at ih
    match out,ih,hfl,hout with
    |[],ih,_,_=>
     have hc:=fa [x];refine ALp.round (A:=iD x false false) (V2:=dp s (.ofNat J) now (.ofNat c) (.ofNat (i+1)) 1 (aa o M N L (.fsl false (C.map az))) (flat ([x].map az))) (F:=eS s (.ofNat J) now (.ofNat c) (.ofNat i) (aa o M N L (.fsl false (C.map az)))) (lk:=[(0,0),(1,1),(2,22)]) (lk':=[(0,0),(1,1)]) base0 ar (LsOk.no rfl) .refl ?_;show aP prog opts0 40 _ _ (eS s (.ofNat J) now (.ofNat c) (.ofNat i) (aa o M N L (.fsl false (C.map az)))).st _;rw[Xg,hw];exact ai (fun _=>⟨gx,he,gx,⟨⟨rflTwoQ,rflTwoQ,rflTwoQ,rflTwoQ,rflTwoQ,ad⟩,⟨rflTwoQ,rflTwoQ,⟨rfl,rfl,rfl,rfl,rfl⟩,ad⟩,⟨rfl,hO⟩,rflTwoQ,⟨rfl,hc⟩,ad⟩,ih⟩) fun e=>(hyes e).elim
    |b::r,ih,hfl,hout=>
     have e1:flat ((b::r++[x]).map az)=flat ((b::r).map az)++flat [.agg [.str x.name,.str x.text]]:=by rw[List.map_append,ea];rfl
     have e2:(r++[x]).length+1=r.length+1+1:=by rw[List.length_append];rfl
     have hc:=fa (b::r++[x]);have ih:ALp prog opts0.glob 0 (aJ prog 31 15) (dp s (.ofNat J) now (.ofNat c) (.ofNat (i+1)) ((r++[x]).length+1) (aa o M N L (.fsl false (C.map az))) (flat ((b::r++[x]).map az))).st Q:=ih;rw[e1] at ih hc;rw[e2] at ih;rw[lConQ] at hfl hout;refine ALp.round (A:=iD x false false) (V2:=dp s (.ofNat J) now (.ofNat c) (.ofNat (i+1)) (r.length+1+1) (aa o M N L (.fsl false (C.map az))) (flat ((b::r).map az)++flat [.agg [.str x.name,.str x.text]])) (F:=dp s (.ofNat J) now (.ofNat c) (.ofNat i) (r.length+1) (aa o M N L (.fsl false (C.map az))) (flat ((b::r).map az))) (lk:=[(0,0),(1,1),(2,23)]) (lk':=[(0,0),(1,1),(2,2)]) base0 ar (LsOk.no rfl) .refl ?_;show aP prog opts0 40 _ _ (dp s (.ofNat J) now (.ofNat c) (.ofNat i) (r.length+1) (aa o M N L (.fsl false (C.map az))) (flat ((b::r).map az))).st _;rw[Xh,hw];refine ai (fun _=>⟨gx,he,gx,aD ?_ (aD (by rw[beq_iff,aM,hfl]) ⟨⟨⟨rflTwoQ,rflTwoQ,rflTwoQ,rflTwoQ,rflTwoQ,ad⟩,⟨rflTwoQ,rflTwoQ,⟨rfl,rfl,rfl,rfl,rfl⟩,ad⟩,⟨rfl,hO⟩,rflTwoQ,⟨rfl,hc⟩,ad⟩,ih⟩)⟩) fun e=>(hyes e).elim;simp[a7,bq,flat,AV.cells,ab];omega
   | true=>
    rw[hx] at ih he hle;have hne:ao (.ofNat (c+1)) (.ofNat (J+1))=false:=beqInt_false.2 fun h=>by
     have h:c=J:=by simp only[bh] at h;omega
     rcases Nat.lt_or_ge i p with h1|h1
     ·have h2:c+1≤J:=hle h1;omega
     ·have h2:J+1≤c:=hge (by omega);omega
    rw[hne] at hi2
    match out,ih,hfl,hout with
    |[],ih,_,_=>
     have hc:=fa [x];refine ALp.round (A:=iD x true false) (V2:=dp s (.ofNat J) now (.ofNat (c+1)) (.ofNat (i+1)) 1 (aa o M N L (.fsl false (C.map az))) (flat ([x].map az))) (F:=eS s (.ofNat J) now (.ofNat c) (.ofNat i) (aa o M N L (.fsl false (C.map az)))) (lk:=[(0,0),(1,1),(2,29)]) (lk':=[(0,0),(1,1)]) base0 ar (LsOk.no rfl) .refl ?_;show aP prog opts0 40 _ _ (eS s (.ofNat J) now (.ofNat c) (.ofNat i) (aa o M N L (.fsl false (C.map az)))).st _;rw[Xi,hw,hwc,hwj];exact ai (fun _=>⟨gx,he,hi2,gx,⟨⟨rflTwoQ,rflTwoQ,rflTwoQ,rflTwoQ,rflTwoQ,ad⟩,⟨rflTwoQ,rflTwoQ,⟨rfl,rfl,rfl,rfl,rfl⟩,ad⟩,⟨rfl,hO⟩,rflTwoQ,⟨rfl,hc⟩,ad⟩,ih⟩) fun e=>(hyes e).elim
    |b::r,ih,hfl,hout=>
     have e1:flat ((b::r++[x]).map az)=flat ((b::r).map az)++flat [.agg [.str x.name,.str x.text]]:=by rw[List.map_append,ea];rfl
     have e2:(r++[x]).length+1=r.length+1+1:=by rw[List.length_append];rfl
     have hc:=fa (b::r++[x]);have ih:ALp prog opts0.glob 0 (aJ prog 31 15) (dp s (.ofNat J) now (.ofNat (c+1)) (.ofNat (i+1)) ((r++[x]).length+1) (aa o M N L (.fsl false (C.map az))) (flat ((b::r++[x]).map az))).st Q:=ih;rw[e1] at ih hc;rw[e2] at ih;rw[lConQ] at hfl hout;refine ALp.round (A:=iD x true false) (V2:=dp s (.ofNat J) now (.ofNat (c+1)) (.ofNat (i+1)) (r.length+1+1) (aa o M N L (.fsl false (C.map az))) (flat ((b::r).map az)++flat [.agg [.str x.name,.str x.text]])) (F:=dp s (.ofNat J) now (.ofNat c) (.ofNat i) (r.length+1) (aa o M N L (.fsl false (C.map az))) (flat ((b::r).map az))) (lk:=[(0,0),(1,1),(2,30)]) (lk':=[(0,0),(1,1),(2,2)]) base0 ar (LsOk.no rfl) .refl ?_;show aP prog opts0 40 _ _ (dp s (.ofNat J) now (.ofNat c) (.ofNat i) (r.length+1) (aa o M N L (.fsl false (C.map az))) (flat ((b::r).map az))).st _;rw[Xj,hw,hwc,hwj];refine ai (fun _=>⟨gx,he,hi2,gx,aD ?_ (aD (by rw[beq_iff,aM,hfl]) ⟨⟨⟨rflTwoQ,rflTwoQ,rflTwoQ,rflTwoQ,rflTwoQ,ad⟩,⟨rflTwoQ,rflTwoQ,⟨rfl,rfl,rfl,rfl,rfl⟩,ad⟩,⟨rfl,hO⟩,rflTwoQ,⟨rfl,hc⟩,ad⟩,ih⟩)⟩) fun e=>(hyes e).elim;simp[a7,bq,flat,AV.cells,ab];omega
end
theorem CA:bW (dI prog 31) 15=[aJ prog 31 15]:=by kernel_rfl
theorem XG {o:Ob} {s:List UInt8} {i now:Int} (ho:cI o) (hn:iA (.cus s)) (hf:SC 63 [.str s] (.tuple [aN (.cus s),.bool true])) (hof:SC 17 [au o,.str s] (.fsl false ((bo s (aA o (.cus s)) 0).map aK))):SC 31 [au o,.str s,I i,I now] (cJ (eE o (.cus s) i now)):=by
 have hlen:ab ((bo s (aA o (.cus s)) 0).map aK)=(aA o (.cus s)).length:=by rw[aM,List.length_map,gK]
 have hcl:=cS o (c:=[.str s,I i,I now]) rfl;have hmy:=jr o (.cus s);have hha:=jY (.cus s);have hM:=fA o;have hN:=eJ o;have hL:=eK o;have hC:=fg o;have hOb:ae (aa o (b7 o) (bR o) (bS o) (.fsl false (o.cust.map az)))=true:=bX o;have q1:=fc hn (j:= .lim) (by simp[kinds]);have q2:=fc hn (j:= .nam) (by simp[kinds]);have q3:=fc hn (j:= .lnk) (by simp[kinds])
 by_cases hv:ay i 0=false∧ay i (.ofNat (aA o (.cus s)).length)=true
 ·obtain ⟨v1,v2⟩:=hv;obtain ⟨j,e,hj⟩:=pn v1 v2;rw[qD] at hj;obtain ⟨p,tx,h1,h2,h3⟩:=Cm s o.cust 0 j hj;rw[Nat.zero_add] at h1;subst e;have hpl:p<o.cust.length:=by
   rcases Nat.lt_or_ge p o.cust.length with h|h
   ·exact h
   ·rw[List.getElem?_eq_none h] at h2;cases h2
  have hd:dj o (Int.ofNat j).toNat (.cus s)={o with cust:=cB o.cust p}:=by
   show {o with cust:=cB o.cust (((bT s o.cust 0)[j]?).getD 0)}=_;rw[h1];rfl
  have hrun:=fun Q hq=>XF (o:=o) (M:=b7 o) (N:=bR o) (L:=bS o) (s:=s) (now:=now) (Q:=Q) ho.c h2 hOb hq o.cust.length 0 (Nat.zero_add _);have h0:gz o.cust p 0=[]:=by unfold gz;simp
  rw[XC _ hpl,h3,h0,List.take_zero] at hrun;have hok:=fun e1=>kI (o:=o) (k:= .cus s) (i:= .ofNat j) (now:=now) e1 v1 v2 rfl;rw[hd] at hok;have hfin:(cB o.cust p).length≤6:=by
   unfold cB;have:=ho.c;rw[List.length_append,List.length_take,List.length_drop];omega
  revert hrun hok hfin;generalize cB o.cust p=out;intro hrun hok hfin
  match out,hrun,hok with
  | [],hrun,hok=>
   refine dg (A:=dB [(21,1,.res (.bool false)),(23,1,.res (.bool false)),(25,1,.res (.bool false)),(9,7,.res (.bool false))] [(15,Jv s (.ofNat j) now (.ofNat (aW s o.cust)) (.ofNat o.cust.length) (aa o (b7 o) (bR o) (bS o) (.fsl false (o.cust.map az))))] (aN (.cus s)) true true (ei o (dK (.cus s))) ((bo s (aA o (.cus s)) 0).map aK)) base0 ar
    (aG (LsOk.at1 rfl CA fun st Q hs=> .seen base0.glob hs.1 (hrun Q hs.2))) hcl ?_
   unfold au ax at*
   unfold bD at*
   rw[Xl,hlen];refine ⟨hf,hha,ai (fun e1=> ?_) fun e1=>⟨hof,ai (fun e2=> ?_) fun e2=>ai (fun e3=> ?_) fun e3=>⟨hmy,ai (fun e4=> ?_) fun e4=>⟨q1 _ _,q2 _ _,q3 _ _,q1 _ _,⟨⟨rflTwoQ,rflTwoQ,rflTwoQ,rflTwoQ,rflTwoQ,rflTwoQ,ad⟩,⟨rflTwoQ,rflTwoQ,ad⟩,⟨rfl,hOb⟩,rflTwoQ,ad⟩,aD (nJ {o with cust:=[],d9:=⟨true,now⟩} _ _ _ .nilsl rfl) ?_⟩⟩⟩⟩
   ·rw[jv e1];exact fw 13 _
   ·rw[v1] at e2;cases e2
   ·rw[v2] at e3;cases e3
   ·cases e4
   ·rw[hok e1];refine nH (o:={o with cust:=[],d9:=⟨true,now⟩}) hM (.closed _ hN) (.closed _ hL) (.closed .nilsl rfl) (c9 {o with cust:=[],d9:=⟨true,now⟩} hM hN hL rfl) ?_;refine .tuple (.cons (.agg ?_) (.refl _));simp only[ax,aa,b7,bR,bS,bD]
    (repeat (first|exact Wk.refl _|exact WkL.refl _|exact Wk.nil|exact Wk.row|exact WkE.refl _|exact WkL.nil|exact WkE.nil|apply Wk.agg|apply Wk.tuple|apply WkL.cons|apply Wk.rows|apply WkE.consA))
  | a::r,hrun,hok=>
   refine dg (A:=dB [(21,1,.res (.bool false)),(23,1,.res (.bool false)),(25,1,.res (.bool false)),(9,7,.res (.bool false))] [(15,Jw s (.ofNat j) now (.ofNat (aW s o.cust)) (.ofNat o.cust.length) (r.length+1) (aa o (b7 o) (bR o) (bS o) (.fsl false (o.cust.map az))) (flat ((a::r).map az)))] (aN (.cus s)) true true (ei o (dK (.cus s))) ((bo s (aA o (.cus s)) 0).map aK)) base0 ar
    (aG (LsOk.at1 rfl CA fun st Q hs=> .seen base0.glob hs.1 (hrun Q hs.2))) hcl ?_
   unfold au ax at*
   unfold bD at*
   rw[Xm,hlen];refine ⟨hf,hha,ai (fun e1=> ?_) fun e1=>⟨hof,ai (fun e2=> ?_) fun e2=>ai (fun e3=> ?_) fun e3=>⟨hmy,ai (fun e4=> ?_) fun e4=>⟨q1 _ _,q2 _ _,q3 _ _,q1 _ _,⟨⟨rflTwoQ,rflTwoQ,rflTwoQ,rflTwoQ,rflTwoQ,rflTwoQ,ad⟩,⟨rflTwoQ,rflTwoQ,ad⟩,⟨rfl,hOb⟩,rflTwoQ,ad⟩,aD (nJ {o with cust:=a::r,d9:=⟨true,now⟩} _ _ _ (.rsl true _ 0 _ 2) rfl) ?_⟩⟩⟩⟩
   ·rw[jv e1];exact fw 13 _
   ·rw[v1] at e2;cases e2
   ·rw[v2] at e3;cases e3
   ·cases e4
   ·rw[hok e1];refine nH (o:={o with cust:=a::r,d9:=⟨true,now⟩}) hM (.closed _ hN) (.closed _ hL) (Frz.row (es:=((a::r).map az)) rfl rfl rfl (by rw[List.length_map];rfl) (fun e he=>by
     obtain ⟨_,_,rfl⟩:=List.mem_map.1 he;exact rflTwoQ) (um (fg {o with cust:=a::r,d9:=⟨true,now⟩}))) (c9 {o with cust:=a::r,d9:=⟨true,now⟩} hM hN hL (fg {o with cust:=a::r,d9:=⟨true,now⟩})) (.refl _)
 ·have hbad:ay i 0=false→ay i (.ofNat (aA o (.cus s)).length)=true→False:=fun h1 h2=>hv ⟨h1,h2⟩;refine bG (A:=dB [(21,1,.res (.bool false)),(23,1,.res (.bool false)),(25,1,.res (.bool false)),(9,7,.res (.bool false))] [(15,fun _ _=>False)] (aN (.cus s)) true true (ei o (dK (.cus s))) ((bo s (aA o (.cus s)) 0).map aK)) base0 ar (aG (LsOk.at1 rfl CA fun st Q hs=>hs.elim)) hcl ?_;unfold au ax at*
  unfold bD at*
  rw[Xk,hlen];refine ⟨hf,hha,ai (fun e1=> ?_) fun e1=>⟨hof,ai (fun e2=> ?_) fun e2=>ai (fun e3=> ?_) fun e3=>(hbad e2 (by simpa using e3)).elim⟩⟩
  ·rw[jv e1];exact bd 13
  ·rw[kG e1 e2];exact bd 1
  ·rw[kH e1 e2 (by simpa using e3)];exact bd 1
theorem XH {c:Bool} {o:Ob} (ho:cI o) (hb:(gq o).length≤90000) {s:List UInt8} {i now:Int} (hc:SC 114 [.str s] (.bool c)) (hcu:qZ c s o):SC 31 [au o,.str s,I i,I now] (cJ (jR c o s i now)):=by
 have hf:=Ci hc;rw[Ch hcu.t] at hf;have hcl:=cS o (c:=[.str s,I i,I now]) rfl;have hof:=w5 ho hb s;rw[wX hcu] at hof;unfold jR;unfold jS at hof;cases hk:ec c s with
 |none=>
  rw[hk] at hf;refine bG (A:=dB [] [] o5 false false false []) base0 ar (aG (LsOk.no rfl)) hcl ?_;unfold au ax o5;rw[W5];exact ⟨hf,bd 7⟩
 | some k=>
  rw[hk] at hf hof
  dsimp only at hof⊢
  have hn:=Cl hcu.t hk;have hnm:=(A9 hk).2;subst hnm;cases hw:dl (dm k) with
  |false=>
   have hha:=jY k;rw[hw] at hha;refine bG (A:=dB [] [] (aN k) true false false []) base0 ar (aG (LsOk.no rfl)) hcl ?_;unfold xm aN bp at hf
   dsimp only at hf
   unfold au ax aN bp at*
   rw[W6];exact ⟨hf,hha,bd 7⟩
  | true=>
   show SemCall _ _ _ _ (cJ (eE o k i now));cases k with
   |nam=>exact Xv ho hf hof
   |lnk=>exact Xz ho hf hof
   |lim=>exact Xo hf hof
   |cus s'=>exact XG ho hn hf hof
   |dat d=>
    match d,hw,hf,hof with
    |0,h,_,_=>cases h
    |1,h,_,_=>cases h
    |2,_,hf,hof=>exact Xp hf hof
    |3,_,hf,hof=>exact Xq hf hof
    |4,h,_,_=>cases h
    |_+5,h,_,_=>cases h
   |_=>cases hw
noncomputable section
def ej (L:List AV) (at' k:Int) (t:Int):View:=⟨[(0,.fsl false L),(1,I at'),(7,I k)],[(4,.ptr 0 0),(6,.ptr 1 0)],[(0,.cells FL,.whole),(1,.cells [I t,I 1,I 0,.nilsl,.nilsl],.whole)],3,81⟩
def dT (L:List AV) (at' k:Int) (t:Int) (n:Nat) (es:List AV):View:=⟨[(0,.fsl false L),(1,I at'),(7,I k)],[(4,.ptr 0 0),(6,.ptr 1 0)],[(0,.cells FL,.whole),(1,.cells [I t,I 1,I 0,.nilsl,.rsl true 2 0 n 5],.each),(2,.cells es,.whole)],3,81⟩
def kJ (r:Rw) (p:Int) (v:AV):bz:=aB [(11,2,.res (.fptr (lx r) 0))] [] (bP [(23,I p),(75,v)]) [] []
abbrev xx:=[I 0,I 0,I 0,AV.nilsl,AV.nilsl]
@[simp] abbrev fU:=(xx=xx∧true=true)
@[simp] abbrev fV (L:List AV):=(AV.fsl false L=AV.fsl false L∧ag (AV.fsl false L)=true)
@[simp] abbrev gO:=((some 0=some 0∧0=0)∧(some 1=some 1∧0=0)∧True)
abbrev jw (t:Int):=[I t,I 1,I 0,AV.nilsl,AV.nilsl]
abbrev iZ (D K:List AV) (a b c:Int):=[I a,I b,I c,AV.fsl false D,AV.fsl false K]
@[simp] abbrev nK (k:Int):=(I k=I k∧ag (I k)=true)
abbrev rH (r:Rw):=(AV.fptr [I r.1,I r.2,I r.3,I r.4] 0)
@[simp] abbrev un (t:Int):=((jw t)=(jw t)∧ae (jw t)=true)
theorem JC (L:List AV) (at' k t p a b c e:Int) (r:Rw) (D K:List AV) (N:Prop) (Q:AExit→St→Prop):aP prog opts0 40 (kJ r p (.agg (am a b c D K))) (aJ prog 75 10) (ej L at' k t).st (cb 0 [(0,0),(1,1)] (ej L at' e t) N [(0,0),(1,1)] (ej L at' k t) Q)=
 (ac (ay k (Int.ofNat (ab L))) (ac (ay k 8) (aF prog 22 (.fsl false L) (I k)=some (rH r)∧SC 23 [I r.1,I k] (I p)∧ac (ao p at') (SC 75 [AV.fsl false L,I k] (.agg (iZ D K a b c))∧(((fV L)∧(I at'=I at'∧ag (I at')=true)∧(I (aj IntKind.i64 (k+1))=I e∧ag (I e)=true)∧True)∧gO∧fU∧([I t,I 1,I 0,.nilsl,.rsl true 26 0 (ab [AV.agg (iZ D K a b c)]) 5]=(jw t)∧ae (jw t)=true)∧True)∧N) ((((fV L)∧(I at'=I at'∧ag (I at')=true)∧(I (aj IntKind.i64 (k+1))=I e∧ag (I e)=true)∧True)∧gO∧fU∧(un t)∧True)∧N)) ((((fV L)∧(I at'=I at'∧ag (I at')=true)∧(nK k)∧True)∧gO∧fU∧(un t)∧True)∧Q (AExit.exit 1) (ej L at' k t).st)) ((((fV L)∧(I at'=I at'∧ag (I at')=true)∧(nK k)∧True)∧gO∧fU∧(un t)∧True)∧Q (AExit.exit 1) (ej L at' k t).st)):=by kernel_rfl
@[simp] abbrev rI:=(AV.nilsl=AV.nilsl∧true=true)
@[simp] abbrev rJ (t:Int):=(I t=I t∧ag (I t)=true)
@[simp] abbrev rK:=(I 1=I 1∧true=true)
@[simp] abbrev rM:=(I 0=I 0∧true=true)
theorem XI (L:List AV) (at' k t p a b c e:Int) (r:Rw) (D K:List AV) (es:List AV) (N:Prop) (Q:AExit→St→Prop):aP prog opts0 40 (kJ r p (.agg (am a b c D K))) (aJ prog 75 10) (ej L at' k t).st (cb 0 [(0,0),(1,1),(2,26)] (dT L at' e t 1 es) N [(0,0),(1,1)] (ej L at' k t) Q)=
 (ac (ay k (Int.ofNat (ab L))) (ac (ay k 8) (aF prog 22 (.fsl false L) (I k)=some (rH r)∧SC 23 [I r.1,I k] (I p)∧ac (ao p at') (SC 75 [AV.fsl false L,I k] (.agg (iZ D K a b c))∧(((fV L)∧(I at'=I at'∧ag (I at')=true)∧(I (aj IntKind.i64 (k+1))=I e∧ag (I e)=true)∧True)∧gO∧fU∧((rJ t)∧rK∧rM∧rI∧(true=true∧some 26=some 26∧0=0∧1=ab [AV.agg (iZ D K a b c)]∧5=5)∧True)∧(flat [AV.agg (iZ D K a b c)]=es∧ae es=true)∧True)∧N) ((((fV L)∧(I at'=I at'∧ag (I at')=true)∧(I (aj IntKind.i64 (k+1))=I e∧ag (I e)=true)∧True)∧gO∧fU∧((rJ t)∧rK∧rM∧rI∧False∧True)∧False∧True)∧N)) ((((fV L)∧(I at'=I at'∧ag (I at')=true)∧(nK k)∧True)∧gO∧fU∧(un t)∧True)∧Q (AExit.exit 1) (ej L at' k t).st)) ((((fV L)∧(I at'=I at'∧ag (I at')=true)∧(nK k)∧True)∧gO∧fU∧(un t)∧True)∧Q (AExit.exit 1) (ej L at' k t).st)):=by kernel_rfl
@[simp] abbrev uo (m:Nat) (t:Int):=((rJ t)∧rK∧rM∧rI∧(true=true∧some 2=some 2∧0=0∧m=m∧5=5)∧True)
abbrev JD (D K:List AV) (a b c:Int) (m:Nat):=(a7 5 [AV.agg (iZ D K a b c)]&&(((m+ab [AV.agg (iZ D K a b c)])*72).ble 140737488355328&&(bq (flat [AV.agg (iZ D K a b c)])&&true)))
@[simp] abbrev uq (es:List AV):=(es=es∧ae es=true)
theorem JE (L:List AV) (at' k t p a b c e:Int) (m:Nat) (r:Rw) (D K:List AV) (es:List AV) (N:Prop) (Q:AExit→St→Prop):aP prog opts0 40 (kJ r p (.agg (am a b c D K))) (aJ prog 75 10) (dT L at' k t m es).st (cb 0 [(0,0),(1,1),(2,2)] (dT L at' e t m es) N [(0,0),(1,1),(2,2)] (dT L at' k t m es) Q)=
 (ac (ay k (Int.ofNat (ab L))) (ac (ay k 8) (aF prog 22 (.fsl false L) (I k)=some (rH r)∧SC 23 [I r.1,I k] (I p)∧ac (ao p at') (SC 75 [AV.fsl false L,I k] (.agg (iZ D K a b c))∧aw (JD D K a b c m) (aw ((ab es).beq (m*5)) ((((fV L)∧(I at'=I at'∧ag (I at')=true)∧(I (aj IntKind.i64 (k+1))=I e∧ag (I e)=true)∧True)∧gO∧fU∧((rJ t)∧rK∧rM∧rI∧(true=true∧some 2=some 26∧0=0∧m=m+ab [AV.agg (iZ D K a b c)]∧5=5)∧True)∧False∧True)∧N))) ((((fV L)∧(I at'=I at'∧ag (I at')=true)∧(I (aj IntKind.i64 (k+1))=I e∧ag (I e)=true)∧True)∧gO∧fU∧(uo m t)∧(uq es)∧True)∧N)) ((((fV L)∧(I at'=I at'∧ag (I at')=true)∧(nK k)∧True)∧gO∧fU∧(uo m t)∧(uq es)∧True)∧Q (AExit.exit 1) (dT L at' k t m es).st)) ((((fV L)∧(I at'=I at'∧ag (I at')=true)∧(nK k)∧True)∧gO∧fU∧(uo m t)∧(uq es)∧True)∧Q (AExit.exit 1) (dT L at' k t m es).st)):=by kernel_rfl
theorem XJ (L:List AV) (at' k t p a b c e:Int) (m m':Nat) (r:Rw) (D K:List AV) (es es':List AV) (N:Prop) (Q:AExit→St→Prop):aP prog opts0 40 (kJ r p (.agg (am a b c D K))) (aJ prog 75 10) (dT L at' k t m es).st (cb 0 [(0,0),(1,1),(2,26)] (dT L at' e t m' es') N [(0,0),(1,1),(2,2)] (dT L at' k t m es) Q)=
 (ac (ay k (Int.ofNat (ab L))) (ac (ay k 8) (aF prog 22 (.fsl false L) (I k)=some (rH r)∧SC 23 [I r.1,I k] (I p)∧ac (ao p at') (SC 75 [AV.fsl false L,I k] (.agg (iZ D K a b c))∧aw (JD D K a b c m) (aw ((ab es).beq (m*5)) ((((fV L)∧(I at'=I at'∧ag (I at')=true)∧(I (aj IntKind.i64 (k+1))=I e∧ag (I e)=true)∧True)∧gO∧fU∧((rJ t)∧rK∧rM∧rI∧(true=true∧some 26=some 26∧0=0∧m'=m+ab [AV.agg (iZ D K a b c)]∧5=5)∧True)∧(es++flat [AV.agg (iZ D K a b c)]=es'∧ae es'=true)∧True)∧N))) ((((fV L)∧(I at'=I at'∧ag (I at')=true)∧(I (aj IntKind.i64 (k+1))=I e∧ag (I e)=true)∧True)∧gO∧fU∧((rJ t)∧rK∧rM∧rI∧(true=true∧some 26=some 2∧0=0∧m'=m∧5=5)∧True)∧False∧True)∧N)) ((((fV L)∧(I at'=I at'∧ag (I at')=true)∧(nK k)∧True)∧gO∧fU∧(uo m t)∧(uq es)∧True)∧Q (AExit.exit 1) (dT L at' k t m es).st)) ((((fV L)∧(I at'=I at'∧ag (I at')=true)∧(nK k)∧True)∧gO∧fU∧(uo m t)∧(uq es)∧True)∧Q (AExit.exit 1) (dT L at' k t m es).st)):=by kernel_rfl
def XK (p8 p10 p4 p300:Int):List AV→Option AV
 | [_,.int _ (.ofNat n)]=>match Nat.beq n 8 with
  |true=>some (I p8)
  | false=>match Nat.beq n 10 with
   |true=>some (I p10)
   |false=>match Nat.beq n 4 with
    |true=>some (I p4)
    |false=>some (I p300)
 |_=>none
def po (p:Prop) (L:List AV) (at' k t:Int) (F:View):bV:=fun s Q=>p∧dr 0 [(0,0),(1,25)] (ej L at' k t) s∧Q (.exit 1) F.st
def pp (r:Rw) (p8 p10 p4 p300 t:Int) (s:List UInt8) (L:bV):bz:=aB [(3,2,.res (.fptr (lx r) 0)),(4,4,.res (I t)),(16,4,.res (.str s))] [(10,L)] (fY [(23,XK p8 p10 p4 p300)]) [] []
abbrev rO:=(AV.agg [AV.str [],AV.str [111,110,101],AV.str [116,119,111],AV.str [49,50,51,52,53,54,55,56]])
abbrev nL (r:Rw):=(13,some (Blk.cells [I r.1,I r.2,I r.3,I r.4]))
abbrev JF:=(AV.agg [I 4325387,I 4325386,I 4325384,I 4325524,I 4325570,I 4325385,I 4325451,I 4325377])
abbrev xy (Q:AV→ah→Prop):=(Q (AV.agg xx) [(0,some (Blk.cells xx))])
@[simp] abbrev JG:=((some 0=some 0∧0=0)∧(some 25=some 25∧0=0)∧True)
theorem xz (p:Prop) (L:List AV) (at' k e t p8 p10 p4 p300:Int) (r:Rw) (s:List UInt8) (Q:AV→ah→Prop):aH prog opts0 40 (pp r p8 p10 p4 p300 t s (po p L at' k t (ej L at' e t))) 75 [.fsl false L,I at'] [] 0 (fun v H _=>Q v H)=
 (ac (!ay at' (Int.ofNat (ab L))) (xy Q) (ac (!ay at' 8) (xy Q) (aF prog 22 (.fsl false L) (I at')=some (rH r)∧SC 23 [I r.2,I 8] (I p8)∧bf prog 164 JF (I p8)=some (I t)∧SC 23 [I r.3,I 10] (I p10)∧ac (ao (aj IntKind.i64 (1+p10)) 1) (p∧(((fV L)∧(I at'=I at'∧ag (I at')=true)∧(I (aj IntKind.i64 (at'+1))=I k∧ag (I k)=true)∧True)∧JG∧fU∧([I t,I (aj IntKind.i64 (1+p10)),I 0,.nilsl,.nilsl]=(jw t)∧ae (jw t)=true)∧True)∧Q (.agg (jw t)) [(0,some (Blk.cells (jw t))),(1,some (Blk.cells (jw t)))]) (ac (ao (aj IntKind.i64 (1+p10)) 7) (SC 23 [I r.4,I 4] (I p4)∧bf prog 109 rO (I p4)=some (.str s)∧Q (.agg [I t,I (aj IntKind.i64 (1+p10)),I 0,.fsl false (ak s),.nilsl]) [(25,some (Blk.cells [I t,I (aj IntKind.i64 (1+p10)),I 0,.fsl false (ak s),.nilsl])),(nL r),(0,some (Blk.cells [I t,I (aj IntKind.i64 (1+p10)),I 0,.fsl false (ak s),.nilsl]))]) (ac (ao (aj IntKind.i64 (1+p10)) 8) (SC 23 [I r.4,I 4] (I p4)∧bf prog 109 rO (I p4)=some (.str s)∧Q (.agg [I t,I (aj IntKind.i64 (1+p10)),I 0,.fsl false (ak s),.nilsl]) [(25,some (Blk.cells [I t,I (aj IntKind.i64 (1+p10)),I 0,.fsl false (ak s),.nilsl])),(nL r),(0,some (Blk.cells [I t,I (aj IntKind.i64 (1+p10)),I 0,.fsl false (ak s),.nilsl]))]) (ac (ao (aj IntKind.i64 (1+p10)) 4) (SC 23 [I r.4,I 4] (I p4)∧bf prog 109 rO (I p4)=some (.str s)∧Q (.agg [I t,I (aj IntKind.i64 (1+p10)),I 0,.fsl false (ak s),.nilsl]) [(25,some (Blk.cells [I t,I (aj IntKind.i64 (1+p10)),I 0,.fsl false (ak s),.nilsl])),(nL r),(0,some (Blk.cells [I t,I (aj IntKind.i64 (1+p10)),I 0,.fsl false (ak s),.nilsl]))]) (SC 23 [I r.4,I 300] (I p300)∧Q (.agg [I t,I (aj IntKind.i64 (1+p10)),I (aj IntKind.i64 (p300-5)),.nilsl,.nilsl]) [(25,some (Blk.cells [I t,I (aj IntKind.i64 (1+p10)),I (aj IntKind.i64 (p300-5)),.nilsl,.nilsl])),(nL r),(0,some (Blk.cells [I t,I (aj IntKind.i64 (1+p10)),I (aj IntKind.i64 (p300-5)),.nilsl,.nilsl]))]))))))):=by kernel_rfl
theorem XL (p:Prop) (L:List AV) (at' k e t p8 p10 p4 p300:Int) (m:Nat) (r:Rw) (s:List UInt8) (es:List AV) (Q:AV→ah→Prop):aH prog opts0 40 (pp r p8 p10 p4 p300 t s (po p L at' k t (dT L at' e t m es))) 75 [.fsl false L,I at'] [] 0 (fun v H _=>Q v H)=
 (ac (!ay at' (Int.ofNat (ab L))) (xy Q) (ac (!ay at' 8) (xy Q) (aF prog 22 (.fsl false L) (I at')=some (rH r)∧SC 23 [I r.2,I 8] (I p8)∧bf prog 164 JF (I p8)=some (I t)∧SC 23 [I r.3,I 10] (I p10)∧ac (ao (aj IntKind.i64 (1+p10)) 1) (p∧(((fV L)∧(I at'=I at'∧ag (I at')=true)∧(I (aj IntKind.i64 (at'+1))=I k∧ag (I k)=true)∧True)∧JG∧fU∧([I t,I (aj IntKind.i64 (1+p10)),I 0,.nilsl,.nilsl]=(jw t)∧ae (jw t)=true)∧True)∧Q (.agg [I t,I 1,I 0,.nilsl,.rsl true 2 0 m 5]) [(0,some (Blk.cells [I t,I 1,I 0,.nilsl,.rsl true 2 0 m 5])),(1,some (Blk.cells [I t,I 1,I 0,.nilsl,.rsl true 2 0 m 5])),(2,some (Blk.cells es))]) (ac (ao (aj IntKind.i64 (1+p10)) 7) (SC 23 [I r.4,I 4] (I p4)∧bf prog 109 rO (I p4)=some (.str s)∧Q (.agg [I t,I (aj IntKind.i64 (1+p10)),I 0,.fsl false (ak s),.nilsl]) [(25,some (Blk.cells [I t,I (aj IntKind.i64 (1+p10)),I 0,.fsl false (ak s),.nilsl])),(nL r),(0,some (Blk.cells [I t,I (aj IntKind.i64 (1+p10)),I 0,.fsl false (ak s),.nilsl]))]) (ac (ao (aj IntKind.i64 (1+p10)) 8) (SC 23 [I r.4,I 4] (I p4)∧bf prog 109 rO (I p4)=some (.str s)∧Q (.agg [I t,I (aj IntKind.i64 (1+p10)),I 0,.fsl false (ak s),.nilsl]) [(25,some (Blk.cells [I t,I (aj IntKind.i64 (1+p10)),I 0,.fsl false (ak s),.nilsl])),(nL r),(0,some (Blk.cells [I t,I (aj IntKind.i64 (1+p10)),I 0,.fsl false (ak s),.nilsl]))]) (ac (ao (aj IntKind.i64 (1+p10)) 4) (SC 23 [I r.4,I 4] (I p4)∧bf prog 109 rO (I p4)=some (.str s)∧Q (.agg [I t,I (aj IntKind.i64 (1+p10)),I 0,.fsl false (ak s),.nilsl]) [(25,some (Blk.cells [I t,I (aj IntKind.i64 (1+p10)),I 0,.fsl false (ak s),.nilsl])),(nL r),(0,some (Blk.cells [I t,I (aj IntKind.i64 (1+p10)),I 0,.fsl false (ak s),.nilsl]))]) (SC 23 [I r.4,I 300] (I p300)∧Q (.agg [I t,I (aj IntKind.i64 (1+p10)),I (aj IntKind.i64 (p300-5)),.nilsl,.nilsl]) [(25,some (Blk.cells [I t,I (aj IntKind.i64 (1+p10)),I (aj IntKind.i64 (p300-5)),.nilsl,.nilsl])),(nL r),(0,some (Blk.cells [I t,I (aj IntKind.i64 (1+p10)),I (aj IntKind.i64 (p300-5)),.nilsl,.nilsl]))]))))))):=by kernel_rfl
theorem XM (L:List AV) (t y n:Int) (D K:List AV) (Q:AV→Prop):aH prog opts0 40 (aB [] [] (bP [(75,.agg (am t y n D K))]) [] []) 27 [.fsl false L] [] 0 (fun v _ _=>Q v)=
 (SC 75 [AV.fsl false L,I 0] (.agg [I t,I y,I n,.fsl false D,.fsl false K])∧Q (.agg [I t,I y,I n,.fsl false D,.fsl false K])):=by kernel_rfl
end
set_option maxRecDepth 20000
def i3 (g:Nat→It) (p:Nat→Bool) (a:Nat):Nat→List It
 |0=>[]
 |j+1=>match p (a+j) with
  |true=>i3 g p a j++[g (a+j)]
  |false=>i3 g p a j
theorem CB (g:Nat→It) (p:Nat→Bool) (a:Nat):∀j,(i3 g p a j).length≤j
 |0=>Nat.le_refl _
 |j+1=>by
  have:=CB g p a j;simp only[i3];split
  ·rw[List.length_append];simp only[lConQ,List.length_nil];omega
  ·omega
theorem CC {g:Nat→It} {p:Nat→Bool} {a:Nat}:∀ {j:Nat} {x:It},x∈i3 g p a j→∃i,i<j∧x=g (a+i)
 |0,_,h=>by cases h
 | j+1,x,h=>by
  simp only[i3] at h;split at h
  ·rcases List.mem_append.1 h with h|h
   ·obtain ⟨i,hi,e⟩:=CC h;exact ⟨i,by omega,e⟩
   ·exact ⟨j,by omega,by simpa using h⟩
  ·obtain ⟨i,hi,e⟩:=CC h;exact ⟨i,by omega,e⟩
noncomputable def JH (L:List AV) (at' k t:Int):List It→View
 |[]=>ej L at' k t
 |x::r=>dT L at' k t (r.length+1) (flat (ap (x::r)))
theorem xA (l:List It):ae (flat (ap l))=true:=Ao (iP l) fun e he=>by
 rw[mL] at he;obtain ⟨x,_,rfl⟩:=List.mem_map.1 he;have:=cG x;cases x;exact this
theorem CD {l:List Rw} {i:Nat} {r:Rw} (hx:l[i]? =some r):aF prog 22 (.fsl false (l.map aU)) (I (.ofNat i))=some (.fptr [I r.k,I r.a,I r.b,I r.c] 0):=gC (v:=aU r) (e:=42) (sz:=4) (by kernel_rfl) (by kernel_rfl) (by rw[List.getElem?_map,hx];rfl) rfl
def kK (l:List Rw) (a:Nat) (k:Nat):Bool:=match l[k]? with
 |some r=>ao (r.k%(.ofNat k)) (.ofNat a)
 |none=>false
theorem XN {l:List Rw} {at' t:Nat} {g:Nat→It} {Q:AExit→St→Prop}
  (hg:∀k,at'<k→k<8→SC 75 [.fsl false (l.map aU),I (.ofNat k)] (aX (g k)))
  (J:Nat) (hJ:at'+1+J=min l.length 8) (hq:Q (.exit 1) (JH (l.map aU) (.ofNat at') (.ofNat (at'+1+J)) (.ofNat t) (i3 g (kK l at') (at'+1) J)).st):
  ∀ (m j:Nat),j+m=J→ALp prog opts0.glob 0 (aJ prog 75 10) (JH (l.map aU) (.ofNat at') (.ofNat (at'+1+j)) (.ofNat t) (i3 g (kK l at') (at'+1) j)).st Q:=by
 have hlen:ab (l.map aU)=l.length:=by rw[aM,List.length_map]
 have hL:=iy l;intro m
 induction m with
 | zero=>
  intro j hj;obtain rfl:j=J:=by omega
  generalize i3 g (kK l at') (at'+1) j=ks at hq⊢;have h12:ay (Int.ofNat (at'+1+j)) (Int.ofNat l.length)=true→ay (Int.ofNat (at'+1+j)) 8=true→False:=fun e e2=>by
   have e:=ltInt_iff.1 e;have e2:=ltInt_iff.1 e2;simp only[bh] at e e2;omega
  cases ks with
  |nil=>
   refine ALp.round (A:=kJ ⟨0,0,0,0⟩ 0 (.agg (am 0 0 0 [] []))) (V2:=ej (l.map aU) (.ofNat at') 0 (.ofNat t)) (F:=ej (l.map aU) (.ofNat at') (.ofNat (at'+1+j)) (.ofNat t)) (lk:=[(0,0),(1,1)]) (lk':=[(0,0),(1,1)]) base0 ar (LsOk.no rfl) .refl ?_;show aP prog opts0 40 _ _ (ej (l.map aU) (.ofNat at') (.ofNat (at'+1+j)) (.ofNat t)).st _;rw[JC,hlen];exact ai (fun e=>ai (fun e2=>(h12 e e2).elim) fun _=>⟨⟨⟨⟨rfl,hL⟩,rflTwoQ,rflTwoQ,ad⟩,⟨rflTwoQ,rflTwoQ,ad⟩,rflTwoQ,rflTwoQ,ad⟩,hq⟩) fun _=>⟨⟨⟨⟨rfl,hL⟩,rflTwoQ,rflTwoQ,ad⟩,⟨rflTwoQ,rflTwoQ,ad⟩,rflTwoQ,rflTwoQ,ad⟩,hq⟩
  |cons x r=>
   have hc:=xA (x::r);refine ALp.round (A:=kJ ⟨0,0,0,0⟩ 0 (.agg (am 0 0 0 [] []))) (V2:=dT (l.map aU) (.ofNat at') 0 (.ofNat t) (r.length+1) (flat (ap (x::r)))) (F:=dT (l.map aU) (.ofNat at') (.ofNat (at'+1+j)) (.ofNat t) (r.length+1) (flat (ap (x::r)))) (lk:=[(0,0),(1,1),(2,2)]) (lk':=[(0,0),(1,1),(2,2)]) base0 ar (LsOk.no rfl) .refl ?_;show aP prog opts0 40 _ _ (dT (l.map aU) (.ofNat at') (.ofNat (at'+1+j)) (.ofNat t) (r.length+1) (flat (ap (x::r)))).st _;rw[JE,hlen];exact ai (fun e=>ai (fun e2=>(h12 e e2).elim) fun _=>⟨⟨⟨⟨rfl,hL⟩,rflTwoQ,rflTwoQ,ad⟩,⟨rflTwoQ,rflTwoQ,ad⟩,rflTwoQ,⟨rflTwoQ,rflTwoQ,rflTwoQ,rflTwoQ,⟨rfl,rfl,rfl,rfl,rfl⟩,ad⟩,⟨rfl,hc⟩,ad⟩,hq⟩) fun _=>⟨⟨⟨⟨rfl,hL⟩,rflTwoQ,rflTwoQ,ad⟩,⟨rflTwoQ,rflTwoQ,ad⟩,rflTwoQ,⟨rflTwoQ,rflTwoQ,rflTwoQ,rflTwoQ,⟨rfl,rfl,rfl,rfl,rfl⟩,ad⟩,⟨rfl,hc⟩,ad⟩,hq⟩
 | succ m ih=>
  intro j hj;have h1:at'+1+j<l.length:=by omega
  have h2:at'+1+j<8:=by omega
  have g1:l[at'+1+j]? =some l[at'+1+j]:=List.getElem?_eq_getElem h1;have hi:=CD g1;have hn:=ih (j+1) (by omega);have hgk:=hg (at'+1+j) (by omega) h2;have hlt:=CB g (kK l at') (at'+1) j;have hkp:kK l at' (at'+1+j)=ao (l[at'+1+j].k%(.ofNat (at'+1+j))) (.ofNat at'):=by unfold kK;rw[g1]
  simp only[i3,hkp] at hn;revert hi hn;clear hkp g1;generalize l[at'+1+j]=r;intro hi hn;have hp:=bu r.k (m:= .ofNat (at'+1+j)) (by show (0:Int)<((at'+1+j:Nat):Int);omega) (by show ((at'+1+j:Nat):Int)≤_;omega);have hw:aj .i64 (Int.ofNat (at'+1+j)+1)=Int.ofNat (at'+1+(j+1)):=dA (by omega);generalize i3 g (kK l at') (at'+1) j=ks at hn hlt⊢;generalize hgx:g (at'+1+j)=x at hn hgk;generalize hpr:r.k%Int.ofNat (at'+1+j)=pr at hp hn;have k1:ay (Int.ofNat (at'+1+j)) (Int.ofNat l.length)=true:=ltInt_iff.2 (by show ((at'+1+j:Nat):Int)<l.length;omega);have k2:ay (Int.ofNat (at'+1+j)) 8=true:=ltInt_iff.2 (by show ((at'+1+j:Nat):Int)<8;omega);obtain ⟨a,b,c,d,kk⟩:=x;rw[bJ] at hgk;have no1:ay (Int.ofNat (at'+1+j)) (Int.ofNat l.length)=false→False:=fun e=>by rw[k1] at e;cases e
  have no2:ay (Int.ofNat (at'+1+j)) 8=false→False:=fun e=>by rw[k2] at e;cases e
  cases hb:ao pr (.ofNat at') with
  | false=>
   rw[hb] at hn
   dsimp only at hn
   cases ks with
   |nil=>
    refine ALp.round (A:=kJ r pr (.agg (am a b c (ak d) (ap kk)))) (V2:=ej (l.map aU) (.ofNat at') (.ofNat (at'+1+(j+1))) (.ofNat t)) (F:=ej (l.map aU) (.ofNat at') (.ofNat (at'+1+j)) (.ofNat t)) (lk:=[(0,0),(1,1)]) (lk':=[(0,0),(1,1)]) base0 ar (LsOk.no rfl) .refl ?_;show aP prog opts0 40 _ _ (ej (l.map aU) (.ofNat at') (.ofNat (at'+1+j)) (.ofNat t)).st _;rw[JC,hlen,hw];exact ai (fun _=>ai (fun _=>⟨hi,hp,mF hb ⟨⟨⟨⟨rfl,hL⟩,rflTwoQ,rflTwoQ,ad⟩,⟨rflTwoQ,rflTwoQ,ad⟩,rflTwoQ,rflTwoQ,ad⟩,hn⟩⟩) fun e=>(no2 e).elim) fun e=>(no1 e).elim
   |cons y s=>
    have hc:=xA (y::s);refine ALp.round (A:=kJ r pr (.agg (am a b c (ak d) (ap kk)))) (V2:=dT (l.map aU) (.ofNat at') (.ofNat (at'+1+(j+1))) (.ofNat t) (s.length+1) (flat (ap (y::s)))) (F:=dT (l.map aU) (.ofNat at') (.ofNat (at'+1+j)) (.ofNat t) (s.length+1) (flat (ap (y::s)))) (lk:=[(0,0),(1,1),(2,2)]) (lk':=[(0,0),(1,1),(2,2)]) base0 ar (LsOk.no rfl) .refl ?_;show aP prog opts0 40 _ _ (dT (l.map aU) (.ofNat at') (.ofNat (at'+1+j)) (.ofNat t) (s.length+1) (flat (ap (y::s)))).st _;rw[JE,hlen,hw];exact ai (fun _=>ai (fun _=>⟨hi,hp,mF hb ⟨⟨⟨⟨rfl,hL⟩,rflTwoQ,rflTwoQ,ad⟩,⟨rflTwoQ,rflTwoQ,ad⟩,rflTwoQ,⟨rflTwoQ,rflTwoQ,rflTwoQ,rflTwoQ,⟨rfl,rfl,rfl,rfl,rfl⟩,ad⟩,⟨rfl,hc⟩,ad⟩,hn⟩⟩) fun e=>(no2 e).elim) fun e=>(no1 e).elim
  | true=>
   rw[hb] at hn
   dsimp only at hn
   cases ks with
   |nil=>
    have hc:=xA [It.mk a b c d kk];refine ALp.round (A:=kJ r pr (.agg (am a b c (ak d) (ap kk)))) (V2:=dT (l.map aU) (.ofNat at') (.ofNat (at'+1+(j+1))) (.ofNat t) 1 (flat (ap [It.mk a b c d kk]))) (F:=ej (l.map aU) (.ofNat at') (.ofNat (at'+1+j)) (.ofNat t)) (lk:=[(0,0),(1,1),(2,26)]) (lk':=[(0,0),(1,1)]) base0 ar (LsOk.no rfl) .refl ?_;show aP prog opts0 40 _ _ (ej (l.map aU) (.ofNat at') (.ofNat (at'+1+j)) (.ofNat t)).st _;rw[XI,hlen,hw];exact ai (fun _=>ai (fun _=>⟨hi,hp,mT hb ⟨hgk,⟨⟨⟨rfl,hL⟩,rflTwoQ,rflTwoQ,ad⟩,⟨rflTwoQ,rflTwoQ,ad⟩,rflTwoQ,⟨rflTwoQ,rflTwoQ,rflTwoQ,rflTwoQ,⟨rfl,rfl,rfl,rfl,rfl⟩,ad⟩,⟨rfl,hc⟩,ad⟩,hn⟩⟩) fun e=>(no2 e).elim) fun e=>(no1 e).elim
   |cons y s=>
    have hE:flat (ap (y::s++[It.mk a b c d kk]))=flat (ap (y::s))++flat [.agg (am a b c (ak d) (ap kk))]:=by rw[NL,ea];rfl
    have hE2:(s++[It.mk a b c d kk]).length+1=s.length+1+1:=by rw[List.length_append];rfl
    have hc:=xA (y::s++[It.mk a b c d kk]);have hfl:=FM (y::s);have hn:ALp prog opts0.glob 0 (aJ prog 75 10) (dT (l.map aU) (.ofNat at') (.ofNat (at'+1+(j+1))) (.ofNat t) ((s++[It.mk a b c d kk]).length+1) (flat (ap (y::s++[It.mk a b c d kk])))).st Q:=hn;rw[hE] at hn hc;rw[hE2] at hn;rw[lConQ] at hfl hlt;refine ALp.round (A:=kJ r pr (.agg (am a b c (ak d) (ap kk)))) (V2:=dT (l.map aU) (.ofNat at') (.ofNat (at'+1+(j+1))) (.ofNat t) (s.length+1+1) (flat (ap (y::s))++flat [.agg (am a b c (ak d) (ap kk))])) (F:=dT (l.map aU) (.ofNat at') (.ofNat (at'+1+j)) (.ofNat t) (s.length+1) (flat (ap (y::s)))) (lk:=[(0,0),(1,1),(2,26)]) (lk':=[(0,0),(1,1),(2,2)]) base0 ar (LsOk.no rfl) .refl ?_;show aP prog opts0 40 _ _ (dT (l.map aU) (.ofNat at') (.ofNat (at'+1+j)) (.ofNat t) (s.length+1) (flat (ap (y::s)))).st _;rw[XJ,hlen,hw];refine ai (fun _=>ai (fun _=>⟨hi,hp,mT hb ⟨hgk,aD ?_ (aD (by rw[beq_iff,aM,hfl]) ⟨⟨⟨⟨rfl,hL⟩,rflTwoQ,rflTwoQ,ad⟩,⟨rflTwoQ,rflTwoQ,ad⟩,rflTwoQ,⟨rflTwoQ,rflTwoQ,rflTwoQ,rflTwoQ,⟨rfl,rfl,rfl,rfl,rfl⟩,ad⟩,⟨rfl,hc⟩,ad⟩,hn⟩)⟩⟩) fun e=>(no2 e).elim) fun e=>(no1 e).elim;simp[a7,bq,flat,AV.cells,ab];omega
theorem XO {p:Int} (h0:0≤p) (h1:p<8):∃t:Nat,bf prog 164 (.agg [I 4325387,I 4325386,I 4325384,I 4325524,I 4325570,I 4325385,I 4325451,I 4325377]) (I p)=some (I (.ofNat t)):=by
 have:p=0∨p=1∨p=2∨p=3∨p=4∨p=5∨p=6∨p=7:=by omega
 rcases this with rfl|rfl|rfl|rfl|rfl|rfl|rfl|rfl
 ·exact ⟨4325387,by kernel_rfl⟩
 ·exact ⟨4325386,by kernel_rfl⟩
 ·exact ⟨4325384,by kernel_rfl⟩
 ·exact ⟨4325524,by kernel_rfl⟩
 ·exact ⟨4325570,by kernel_rfl⟩
 ·exact ⟨4325385,by kernel_rfl⟩
 ·exact ⟨4325451,by kernel_rfl⟩
 ·exact ⟨4325377,by kernel_rfl⟩
theorem XP {p:Int} (h0:0≤p) (h1:p<4):∃s:List UInt8,s∈dG∧bf prog 109 (.agg [.str [],.str [111,110,101],.str [116,119,111],.str [49,50,51,52,53,54,55,56]]) (I p)=some (.str s):=by
 have:p=0∨p=1∨p=2∨p=3:=by omega
 rcases this with rfl|rfl|rfl|rfl
 ·exact ⟨[],by decide,by kernel_rfl⟩
 ·exact ⟨[111,110,101],by decide,by kernel_rfl⟩
 ·exact ⟨[116,119,111],by decide,by kernel_rfl⟩
 ·exact ⟨[49,50,51,52,53,54,55,56],by decide,by kernel_rfl⟩
theorem ur:bW (dI prog 75) 10=[aJ prog 75 10]:=by kernel_rfl
def mi (x:It):Prop:=cY x∧eX cv x
def ut:It:= .mk 0 0 0 [] []
theorem CE {t y n:Int} {s:List UInt8} (h:s∈dG):mi (.mk t y n s []):=⟨⟨h,ad⟩,Nat.le_trans (Io s h) (by decide),by simp,ad⟩
theorem JI:mi ut:=CE (by decide)
theorem uu (l:List Rw) (i:Int):ae [.fsl false (l.map aU),I i]=true:=by
 have:=iy l;simp only[ae,ag,this,Bool.and_self]
theorem pq {t y n:Int} {d:List UInt8} {H:ah} {D:AV} (hd:D= .nilsl∧d=[]∨D= .fsl false (ak d)):lp (aX (.mk t y n d [])) (.agg [I t,I y,I n,D,.nilsl]) H:=by
 rcases hd with ⟨rfl,rfl⟩|rfl
 ·exact ⟨_,(Frz.closed _ rfl).out,rfl,.agg (.cons (.refl _) (.cons (.refl _) (.cons (.refl _) (.cons .nil (.cons .nil .nil)))))⟩
 ·refine ⟨_,(Frz.closed _ ?_).out, ?_,.agg (.cons (.refl _) (.cons (.refl _) (.cons (.refl _) (.cons (.refl _) (.cons .nil .nil)))))⟩<;>simp[ag,ae]
theorem JJ {l:List Rw} {at':Nat} (h:l.length≤at'∨8≤at'):SC 75 [.fsl false (l.map aU),I (.ofNat at')] (aX ut):=by
 have hlen:ab (l.map aU)=l.length:=by rw[aM,List.length_map]
 refine dg (A:=pp ⟨0,0,0,0⟩ 0 0 0 0 0 [] (po False (l.map aU) (.ofNat at') 0 0 (ej (l.map aU) (.ofNat at') 0 0))) base0 ar (aG (LsOk.at1 rfl ur fun s Q hs=>hs.1.elim)) (uu l _) ?_;rw[xz,hlen];refine ai (fun _=>pq (.inl rflTwoQ)) fun e=>ai (fun _=>pq (.inl rflTwoQ)) fun e2=> ?_;rw[Bool.not_eq_false'] at e e2;have e:=ltInt_iff.1 e;have e2:=ltInt_iff.1 e2;simp only[bh] at e e2;omega
theorem XQ {l:List Rw} {at' t:Nat} {r:Rw} {s:List UInt8} (hr:l[at']? =some r) (h8:at'<8) (hst:s∈dG)
  (ht:bf prog 164 (.agg [I 4325387,I 4325386,I 4325384,I 4325524,I 4325570,I 4325385,I 4325451,I 4325377]) (I (r.a%8))=some (I (.ofNat t)))
  (hs:bf prog 109 (.agg [.str [],.str [111,110,101],.str [116,119,111],.str [49,50,51,52,53,54,55,56]]) (I (r.c%4))=some (.str s)) (hne:r.b%10≠0):
  ∃x:It,mi x∧SC 75 [.fsl false (l.map aU),I (.ofNat at')] (aX x):=by
 have hlen:ab (l.map aU)=l.length:=by rw[aM,List.length_map]
 have hi:=CD hr;have q8:=bu r.a (m:=8) (by decide) (by decide);have q10:=bu r.b (m:=10) (by decide) (by decide);have q4:=bu r.c (m:=4) (by decide) (by decide);have q300:=bu r.c (m:=300) (by decide) (by decide);have hlt:at'<l.length:=(List.getElem?_eq_some_iff.1 hr).1;have b10:=Int.emod_lt_of_pos r.b (show (0:Int)<10 by decide);have c10:=Int.emod_nonneg r.b (show (10:Int)≠0 by decide);have hw:aj .i64 (1+r.b%10)=1+r.b%10:=eI (by omega) (by omega);have no1:(!ay (Int.ofNat at') (Int.ofNat l.length))=true→False:=fun e=>by
  rw[Bool.not_eq_true'] at e;have e:=ltInt_false.1 e;simp only[bh] at e;omega
 have no2:(!ay (Int.ofNat at') 8)=true→False:=fun e=>by
  rw[Bool.not_eq_true'] at e;have e:=ltInt_false.1 e;simp only[bh] at e;omega
 have no3:ao (1+r.b%10) 1=true→False:=fun e=>by
  have e:=beqInt_iff.1 e;omega
 by_cases hT:1+r.b%10=7∨1+r.b%10=8∨1+r.b%10=4
 ·refine ⟨.mk (.ofNat t) (1+r.b%10) 0 s [],CE hst, ?_⟩;refine dg (A:=pp r (r.a%8) (r.b%10) (r.c%4) (r.c%300) (.ofNat t) s (po False (l.map aU) (.ofNat at') 0 (.ofNat t) (ej (l.map aU) (.ofNat at') 0 (.ofNat t)))) base0 ar (aG (LsOk.at1 rfl ur fun s Q hs=>hs.1.elim)) (uu l _) ?_;rw[xz,hlen,hw];refine ai (fun e=>(no1 e).elim) fun _=>ai (fun e=>(no2 e).elim) fun _=>⟨hi,q8,ht,q10,ai (fun e=>(no3 e).elim) fun _=>ai (fun _=>⟨q4,hs,pq (.inr rfl)⟩) fun e4=>ai (fun _=>⟨q4,hs,pq (.inr rfl)⟩) fun e5=>ai (fun _=>⟨q4,hs,pq (.inr rfl)⟩) fun e6=> ?_⟩;have e4:=beqInt_false.1 e4;have e5:=beqInt_false.1 e5;have e6:=beqInt_false.1 e6;omega
 ·have f7:ao (1+r.b%10) 7=true→False:=fun e=>hT (.inl (beqInt_iff.1 e));have f8:ao (1+r.b%10) 8=true→False:=fun e=>hT (.inr (.inl (beqInt_iff.1 e)));have f4:ao (1+r.b%10) 4=true→False:=fun e=>hT (.inr (.inr (beqInt_iff.1 e)));refine ⟨.mk (.ofNat t) (1+r.b%10) (aj .i64 (r.c%300-5)) [] [],CE (by decide), ?_⟩;refine dg (A:=pp r (r.a%8) (r.b%10) (r.c%4) (r.c%300) (.ofNat t) s (po False (l.map aU) (.ofNat at') 0 (.ofNat t) (ej (l.map aU) (.ofNat at') 0 (.ofNat t)))) base0 ar (aG (LsOk.at1 rfl ur fun s Q hs=>hs.1.elim)) (uu l _) ?_;rw[xz,hlen,hw];exact ai (fun e=>(no1 e).elim) fun _=>ai (fun e=>(no2 e).elim) fun _=>⟨hi,q8,ht,q10,ai (fun e=>(no3 e).elim) fun _=>ai (fun e=>(f7 e).elim) fun _=>ai (fun e=>(f8 e).elim) fun _=>ai (fun e=>(f4 e).elim) fun _=>⟨q300,pq (.inl rflTwoQ)⟩⟩
theorem XR {l:List Rw}:∀ (m at':Nat),8-at'≤m→∃x:It,mi x∧SC 75 [.fsl false (l.map aU),I (.ofNat at')] (aX x):=by
 intro m
 induction m with
 |zero=>exact fun at' hm=>⟨ut,JI,JJ (.inr (by omega))⟩
 | succ m ih=>
  intro at' hm
  by_cases hend:l.length≤at'∨8≤at'
  ·exact ⟨ut,JI,JJ hend⟩
  have hlt:at'<l.length:=by omega
  have h8:at'<8:=by omega
  have hr:l[at']? =some l[at']:=List.getElem?_eq_getElem hlt;revert hr;generalize l[at']=r;intro hr;obtain ⟨t,ht⟩:=XO (p:=r.a%8) (Int.emod_nonneg _ (by decide)) (Int.emod_lt_of_pos _ (by decide));obtain ⟨s,hst,hs⟩:=XP (p:=r.c%4) (Int.emod_nonneg _ (by decide)) (Int.emod_lt_of_pos _ (by decide))
  by_cases hb:r.b%10=0
  ·have hg:∀k,∃x:It,at'<k→mi x∧SC 75 [.fsl false (l.map aU),I (.ofNat k)] (aX x):=fun k=>by
    by_cases hk:at'<k
    ·obtain ⟨x,h1,h2⟩:=ih k (by omega);exact ⟨x,fun _=>⟨h1,h2⟩⟩
    ·exact ⟨ut,fun h=>absurd h hk⟩
   let g:Nat→It:=fun k=>Classical.choose (hg k)
   have hgs:∀k,at'<k→mi (g k)∧SC 75 [.fsl false (l.map aU),I (.ofNat k)] (aX (g k)):=fun k=>Classical.choose_spec (hg k);have hloop:=fun (Q:AExit→St→Prop) J hJ=>XN (l:=l) (t:=t) (g:=g) (Q:=Q) (fun k h1 _=>(hgs k h1).2) J hJ;have hmem:=fun j x=> @CC g (kK l at') (at'+1) j x;have hlen2:=CB g (kK l at') (at'+1);have hJ:at'+1+(min l.length 8-(at'+1))=min l.length 8:=by omega
   have hloop:=fun Q hq=>hloop Q (min l.length 8-(at'+1)) hJ hq (min l.length 8-(at'+1)) 0 (by omega);have hmem:=hmem (min l.length 8-(at'+1));have hlen2:=hlen2 (min l.length 8-(at'+1));simp only[i3] at hloop;revert hloop hmem hlen2;generalize i3 g (kK l at') (at'+1) (min l.length 8-(at'+1))=ks;intro hloop hmem hlen2;have hoks:∀x∈ks,mi x:=fun x hx=>by
    obtain ⟨i,_,rfl⟩:=hmem x hx;exact (hgs _ (by omega)).1
   have hlen:ab (l.map aU)=l.length:=by rw[aM,List.length_map]
   have hi:=CD hr;have q8:=bu r.a (m:=8) (by decide) (by decide);have q10:=bu r.b (m:=10) (by decide) (by decide);have hw:aj .i64 (1+r.b%10)=1:=by rw[hb];rfl
   have hL:=iy l;have hk0:aj .i64 (Int.ofNat at'+1)=Int.ofNat (at'+1+0):=dA (by omega);have no1:(!ay (Int.ofNat at') (Int.ofNat l.length))=true→False:=fun e=>by
    rw[Bool.not_eq_true'] at e;have e:=ltInt_false.1 e;simp only[bh] at e;omega
   have no2:(!ay (Int.ofNat at') 8)=true→False:=fun e=>by
    rw[Bool.not_eq_true'] at e;have e:=ltInt_false.1 e;simp only[bh] at e;omega
   have htx:∀ks:List It,(∀x∈ks,mi x)→tD ks:=fun ks=>by
    induction ks with
    |nil=>exact fun _=>trivial
    |cons x r ih=>exact fun h=>⟨(h x (by simp)).1,ih fun y hy=>h y (by simp[hy])⟩
   refine ⟨.mk (.ofNat t) 1 0 [] ks,⟨⟨by decide,htx ks hoks⟩,by simp, ?_,okIs_iff.2 fun x hx=>(hoks x hx).2⟩, ?_⟩
   ·show ks.length≤1099511627776;omega
   have hcl:=cG (.mk (.ofNat t) 1 0 [] ks);cases ks with
   | nil=>
    refine dg (A:=pp r (r.a%8) (r.b%10) (r.c%4) (r.c%300) (.ofNat t) s (po True (l.map aU) (.ofNat at') (.ofNat (at'+1+0)) (.ofNat t) (ej (l.map aU) (.ofNat at') (.ofNat (at'+1+(min l.length 8-(at'+1)))) (.ofNat t)))) base0 ar
     (aG (LsOk.at1 rfl ur fun s Q hs=> .seen base0.glob hs.2.1 (hloop Q hs.2.2))) (uu l _) ?_
    rw[xz,hlen,hw,hk0];exact ai (fun e=>(no1 e).elim) fun _=>ai (fun e=>(no2 e).elim) fun _=>⟨hi,q8,ht,q10,mT rfl ⟨trivial,⟨⟨⟨rfl,hL⟩,rflTwoQ,rflTwoQ,ad⟩,⟨rflTwoQ,rflTwoQ,ad⟩,rflTwoQ,rflTwoQ,ad⟩,pq (.inl rflTwoQ)⟩⟩
   | cons y ys=>
    refine dg (A:=pp r (r.a%8) (r.b%10) (r.c%4) (r.c%300) (.ofNat t) s (po True (l.map aU) (.ofNat at') (.ofNat (at'+1+0)) (.ofNat t) (dT (l.map aU) (.ofNat at') (.ofNat (at'+1+(min l.length 8-(at'+1)))) (.ofNat t) (ys.length+1) (flat (ap (y::ys)))))) base0 ar
     (aG (LsOk.at1 rfl ur fun s Q hs=> .seen base0.glob hs.2.1 (hloop Q hs.2.2))) (uu l _) ?_
    rw[XL,hlen,hw,hk0];refine ai (fun e=>(no1 e).elim) fun _=>ai (fun e=>(no2 e).elim) fun _=>⟨hi,q8,ht,q10,mT rfl ⟨trivial,⟨⟨⟨rfl,hL⟩,rflTwoQ,rflTwoQ,ad⟩,⟨rflTwoQ,rflTwoQ,ad⟩,rflTwoQ,rflTwoQ,ad⟩, ?_⟩⟩;refine ⟨.agg [I (.ofNat t),I 1,I 0,.nilsl,.fsl false (ap (y::ys))],(Frz.agg (.cons (.closed _ rfl) (.cons (.closed _ rfl) (.cons (.closed _ rfl) (.cons (.closed _ rfl) (.cons (Frz.row rfl rfl rfl (by rw[fO];rfl) NK (iP _)) .nil)))))).out, ?_,.agg (.cons (.refl _) (.cons (.refl _) (.cons (.refl _) (.cons .nil (.cons (.refl _) .nil)))))⟩;have:=iP (y::ys);simp only[ag,ae,this,Bool.and_self]
  ·exact XQ hr h8 hst ht hs hb
theorem XS (l:List Rw):∃x:It,mi x∧SC 27 [.fsl false (l.map aU)] (aX x):=by
 obtain ⟨x,hx,hs⟩:=XR (l:=l) 8 0 (by omega);refine ⟨x,hx, ?_⟩;have hcl:=cG x;obtain ⟨t,y,n,d,ks⟩:=x;rw[bJ] at hs hcl⊢;refine bQ (A:=aB [] [] (bP [(75,.agg (am t y n (ak d) (ap ks)))]) [] []) base0 ar (aG (LsOk.no rfl)) (by have:=iy l;simp only[ae,ag,this,Bool.and_self]) hcl ?_;rw[XM];exact ⟨hs,rfl⟩
noncomputable def JK:bB:={how:=fun f=>match fX [119,120,121,151,191,193,194] f with|true=> .fresh|false=>match fX [102,104,144,145,214,215] f with|true=> .keep|false=> .pure,summ:=fun _ _=>none,glob:=gl,lf:=100000}
theorem XT:SC 21 [] (.bool true):=
 M7 (O:=JK) (n:=20) Tryz.mixed (fun _ _ _ h=>by cases h) yP Al fun id h nx=>LH (O:=JK) (n:=19) (T:=[]) (F:=[]) rfl rfl (by kernel_rfl) trivial id h nx
theorem CF (o:Ob):aY prog 33 (.agg (ax o)) 37=true:=by kernel_rfl
noncomputable section
def gP (now i:Int) (Rs Vs O:List AV):View:=⟨[(2,.fsl false Rs),(4,.fsl false Vs),(12,I now),(13,I i)],[(11,.ptr 0 0)],[(0,.cells O,.whole)],1,139⟩
def chF:View:=⟨[],[],[],0,139⟩
def CG (y:Rw) (s:List UInt8) (idx t yy n t' y' n':Int) (D K D' K' Ls Ws P:List AV) (e p:Int):bz:=aB [(4,3,.res (.bool true)),(4,6,.res (.bool true)),(6,2,.res (.fptr (lx y) 0)),(11,2,.res (.fsl false Ws))] [] (fY [(16,fun _=>some (.agg (.str s::I idx::am t yy n D K))),(17,fun _=>some (.fsl false Ls)),(27,fun _=>some (.agg (am t' y' n' D' K'))),(23,fun _=>some (I p)),(24,fun _=>some (.tuple [.agg P,I e])),(28,fun _=>some (.tuple [.agg P,I e])),(25,fun _=>some (.tuple [.agg P,I e])),(29,fun _=>some (.tuple [.agg P,I e])),(30,fun _=>some (.tuple [.agg P,I e])),(31,fun _=>some (.tuple [.agg P,I e])),(20,fun _=>some (.bool true))]) [] []
abbrev dU (C' L' M' N':AV) (q:Ob):=(aY prog 33 (AV.agg (aa q M' N' L' C')) 37)
abbrev ep (C' L' M' N':AV) (e:Int) (q:Ob):=(AV.tuple [AV.agg (aa q M' N' L' C'),I e])
@[simp] abbrev CH (Rs:List AV):=(AV.fsl false Rs=AV.fsl false Rs∧ag (AV.fsl false Rs)=true)
@[simp] abbrev CI (Vs:List AV):=(AV.fsl false Vs=AV.fsl false Vs∧ag (AV.fsl false Vs)=true)
abbrev uv (D K:List AV) (idx n t yy:Int) (s:List UInt8):=[AV.str s,I idx,I t,I yy,I n,AV.fsl false D,AV.fsl false K]
abbrev xB (C L M N:AV) (D' K':List AV) (idx n' now t' y':Int) (o:Ob) (s:List UInt8):=[AV.agg (aa o M N L C),AV.agg [AV.str s,I idx,I t',I y',I n',AV.fsl false D',AV.fsl false K'],I now]
theorem JL (y:Rw) (i j now:Int) (Rs Vs Ws:List AV) (s:List UInt8) (idx t yy n t' y' n' e p:Int) (D K D' K' Ls O':List AV) (o q:Ob) (M N L C M' N' L' C':AV) (Nx:Prop) (Q:AExit→St→Prop):aP prog opts0 40 (CG y s idx t yy n t' y' n' D K D' K' Ls Ws (aa q M' N' L' C') e p) (aJ prog 5 5) (gP now i Rs Vs (aa o M N L C)).st (cb 0 [(0,0)] (gP now j Rs Vs O') Nx [] chF Q)=
 (let R1:Prop:=ac (ao e 0) (aw (dU C' L' M' N' q) ((((CH Rs)∧(CI Vs)∧(I now=I now∧ag (I now)=true)∧(I (aj IntKind.i64 (i+1))=I j∧ag (I j)=true)∧True)∧((some 0=some 0∧0=0)∧True)∧((aa q M' N' L' C')=O'∧ae O'=true)∧True)∧Nx)) ((((CH Rs)∧(CI Vs)∧(I now=I now∧ag (I now)=true)∧(I (aj IntKind.i64 (i+1))=I j∧ag (I j)=true)∧True)∧((some 0=some 0∧0=0)∧True)∧((aa o M N L C)=O'∧ae O'=true)∧True)∧Nx);let R2:Prop:=ac (!ao e e) ((True∧True∧True)∧Q AExit.ret chF.st) (SC 20 [AV.agg (aa q M' N' L' C'),.agg (aa q M' N' L' C')] (.bool true)∧R1);let R3:Prop:=ac (ao p 1) (SC 25 [AV.agg (aa o M N L C),.agg (uv D K idx n t yy s),I now] (ep C' L' M' N' e q)∧aw (dU C' L' M' N' q) (SC 29 [AV.agg (aa o M N L C),.agg (uv D K idx n t yy s),I now] (ep C' L' M' N' e q)∧aw (dU C' L' M' N' q) (R2))) (SC 30 [AV.agg (aa o M N L C),.str s,I idx,I now] (ep C' L' M' N' e q)∧aw (dU C' L' M' N' q) (SC 31 [AV.agg (aa o M N L C),.str s,I idx,I now] (ep C' L' M' N' e q)∧aw (dU C' L' M' N' q) (R2)));let R4:Prop:=ac (ao p 0) (SC 24 [AV.agg (aa o M N L C),.agg (uv D K idx n t yy s),I now] (ep C' L' M' N' e q)∧aw (dU C' L' M' N' q) (SC 28 [AV.agg (aa o M N L C),.agg (uv D K idx n t yy s),I now] (ep C' L' M' N' e q)∧aw (dU C' L' M' N' q) (R2))) (R3);let R5:Prop:=ac (ao p 1) (SC 25 [AV.agg (aa o M N L C),.agg [AV.str s,I (aj IntKind.i64 (Int.ofNat (ab Ls)-y.2.tmod 2)),I t,I yy,I n,.fsl false D,.fsl false K],I now] (ep C' L' M' N' e q)∧aw (dU C' L' M' N' q) (SC 29 [AV.agg (aa o M N L C),.agg [AV.str s,I (aj IntKind.i64 (Int.ofNat (ab Ls)-y.2.tmod 2)),I t,I yy,I n,.fsl false D,.fsl false K],I now] (ep C' L' M' N' e q)∧aw (dU C' L' M' N' q) (R2))) (SC 30 [AV.agg (aa o M N L C),.str s,I (aj IntKind.i64 (Int.ofNat (ab Ls)-y.2.tmod 2)),I now] (ep C' L' M' N' e q)∧aw (dU C' L' M' N' q) (SC 31 [AV.agg (aa o M N L C),.str s,I (aj IntKind.i64 (Int.ofNat (ab Ls)-y.2.tmod 2)),I now] (ep C' L' M' N' e q)∧aw (dU C' L' M' N' q) (R2)));let R6:Prop:=ac (ao p 0) (SC 24 [AV.agg (aa o M N L C),.agg [AV.str s,I (aj IntKind.i64 (Int.ofNat (ab Ls)-y.2.tmod 2)),I t,I yy,I n,.fsl false D,.fsl false K],I now] (ep C' L' M' N' e q)∧aw (dU C' L' M' N' q) (SC 28 [AV.agg (aa o M N L C),.agg [AV.str s,I (aj IntKind.i64 (Int.ofNat (ab Ls)-y.2.tmod 2)),I t,I yy,I n,.fsl false D,.fsl false K],I now] (ep C' L' M' N' e q)∧aw (dU C' L' M' N' q) (R2))) (R5);(aE prog BinOp.lss 3 (Operand.tmp 25) (Operand.tmp 27) (I i) (I (Int.ofNat (ab Rs)))=some (.bool true)∧aE prog BinOp.lss 3 (Operand.tmp 30) (Operand.const (Value.int IntKind.i64 25)) (I i) (I 25)=some (.bool true)∧aF prog 22 (.fsl false Rs) (I i)=some (.fptr [I y.1,I y.2,I y.3,I y.4] 0)∧SC 16 [AV.agg [I y.1,I y.2,I y.3,I y.4]] (.agg (uv D K idx n t yy s))∧ac (ao (y.4.tmod 5) 0) (SC 17 [AV.agg (aa o M N L C),.str s] (.fsl false Ls)∧ac (ao (y.4.tmod 31) 30) (ac (ay i (Int.ofNat (ab Vs))) (cw prog 22 (.fsl false Vs) (some (I i)) none none=some (Eff.val (.fsl false Ws))∧SC 27 [AV.fsl false Ws] (.agg [I t',I y',I n',.fsl false D',.fsl false K'])∧SC 23 [I (aj IntKind.i64 (y.2.tdiv 3)),I 3] (I p)∧ac (ao p 0) (SC 24 [AV.agg (aa o M N L C),.agg [AV.str s,I (aj IntKind.i64 (Int.ofNat (ab Ls)-y.2.tmod 2)),I t',I y',I n',.fsl false D',.fsl false K'],I now] (ep C' L' M' N' e q)∧aw (dU C' L' M' N' q) (SC 28 [AV.agg (aa o M N L C),.agg [AV.str s,I (aj IntKind.i64 (Int.ofNat (ab Ls)-y.2.tmod 2)),I t',I y',I n',.fsl false D',.fsl false K'],I now] (ep C' L' M' N' e q)∧aw (dU C' L' M' N' q) (R2))) (ac (ao p 1) (SC 25 [AV.agg (aa o M N L C),.agg [AV.str s,I (aj IntKind.i64 (Int.ofNat (ab Ls)-y.2.tmod 2)),I t',I y',I n',.fsl false D',.fsl false K'],I now] (ep C' L' M' N' e q)∧aw (dU C' L' M' N' q) (SC 29 [AV.agg (aa o M N L C),.agg [AV.str s,I (aj IntKind.i64 (Int.ofNat (ab Ls)-y.2.tmod 2)),I t',I y',I n',.fsl false D',.fsl false K'],I now] (ep C' L' M' N' e q)∧aw (dU C' L' M' N' q) (R2))) (SC 30 [AV.agg (aa o M N L C),.str s,I (aj IntKind.i64 (Int.ofNat (ab Ls)-y.2.tmod 2)),I now] (ep C' L' M' N' e q)∧aw (dU C' L' M' N' q) (SC 31 [AV.agg (aa o M N L C),.str s,I (aj IntKind.i64 (Int.ofNat (ab Ls)-y.2.tmod 2)),I now] (ep C' L' M' N' e q)∧aw (dU C' L' M' N' q) (R2))))) (SC 23 [I (aj IntKind.i64 (y.2.tdiv 3)),I 3] (I p)∧R6)) (SC 23 [I (aj IntKind.i64 (y.2.tdiv 3)),I 3] (I p)∧R6)) (ac (ao (y.4.tmod 31) 30) (ac (ay i (Int.ofNat (ab Vs))) (cw prog 22 (.fsl false Vs) (some (I i)) none none=some (Eff.val (.fsl false Ws))∧SC 27 [AV.fsl false Ws] (.agg [I t',I y',I n',.fsl false D',.fsl false K'])∧SC 23 [I (aj IntKind.i64 (y.2.tdiv 3)),I 3] (I p)∧ac (ao p 0) (SC 24 (xB C L M N D' K' idx n' now t' y' o s) (ep C' L' M' N' e q)∧aw (dU C' L' M' N' q) (SC 28 (xB C L M N D' K' idx n' now t' y' o s) (ep C' L' M' N' e q)∧aw (dU C' L' M' N' q) (R2))) (ac (ao p 1) (SC 25 (xB C L M N D' K' idx n' now t' y' o s) (ep C' L' M' N' e q)∧aw (dU C' L' M' N' q) (SC 29 (xB C L M N D' K' idx n' now t' y' o s) (ep C' L' M' N' e q)∧aw (dU C' L' M' N' q) (R2))) (SC 30 [AV.agg (aa o M N L C),.str s,I idx,I now] (ep C' L' M' N' e q)∧aw (dU C' L' M' N' q) (SC 31 [AV.agg (aa o M N L C),.str s,I idx,I now] (ep C' L' M' N' e q)∧aw (dU C' L' M' N' q) (R2))))) (SC 23 [I (aj IntKind.i64 (y.2.tdiv 3)),I 3] (I p)∧R4)) (SC 23 [I (aj IntKind.i64 (y.2.tdiv 3)),I 3] (I p)∧R4)))):=by kernel_rfl
theorem XU (i now:Int) (Rs Vs O:List AV) (Nx:Prop) (Q:AExit→St→Prop):aP prog opts0 40 (aB [(4,3,.res (.bool false))] [] aR [] []) (aJ prog 5 5) (gP now i Rs Vs O).st (cb 0 [] (gP 0 0 [] [] []) Nx [] chF Q)=
 (aE prog BinOp.lss 3 (Operand.tmp 25) (Operand.tmp 27) (I i) (I (Int.ofNat (ab Rs)))=some (.bool false)∧(True∧True∧True)∧Q (AExit.exit 0) chF.st):=by kernel_rfl
theorem XV (i now:Int) (Rs Vs O:List AV) (Nx:Prop) (Q:AExit→St→Prop):aP prog opts0 40 (aB [(4,3,.res (.bool true)),(4,6,.res (.bool false))] [] aR [] []) (aJ prog 5 5) (gP now i Rs Vs O).st (cb 0 [] (gP 0 0 [] [] []) Nx [] chF Q)=
 (aE prog BinOp.lss 3 (Operand.tmp 25) (Operand.tmp 27) (I i) (I (Int.ofNat (ab Rs)))=some (.bool true)∧aE prog BinOp.lss 3 (Operand.tmp 30) (Operand.const (Value.int IntKind.i64 25)) (I i) (I 25)=some (.bool false)∧(True∧True∧True)∧Q (AExit.exit 0) chF.st):=by kernel_rfl
def JM (now:Int) (Rs Vs O:List AV):bV:=fun st Q=>dr 0 [(0,5)] (gP now 0 Rs Vs O) st∧Q (.exit 0) chF.st
theorem XW (x:Rw) (nw now:Int) (Xs Rs Vs:List AV) (o:Ob) (M N L C:AV) (Q:AV→Prop):aH prog opts0 40 (aB [] [(5,JM now Rs Vs (aa o M N L C))] (fY [(22,fun _=>some (.agg (aa o M N L C))),(23,fun _=>some (I now)),(21,fun _=>some (.bool true))]) [] []) 5 [aU x,.fsl false Xs,.fsl false Rs,I nw,.fsl false Vs] [] 0 (fun v _ _=>Q v)=
 (SC 22 [AV.agg [I x.1,I x.2,I x.3,I x.4],.fsl false Xs] (.agg (aa o M N L C))∧aw (aY prog 33 (.agg (aa o M N L C)) 37) (SC 23 [I nw,I 70] (I now)∧(((CH Rs)∧(CI Vs)∧(I now=I now∧ag (I now)=true)∧(I 0=I 0∧true=true)∧True)∧((some 5=some 5∧0=0)∧True)∧((aa o M N L C)=(aa o M N L C)∧ae (aa o M N L C)=true)∧True)∧SC 21 [] (.bool true)∧Q (.bool true))):=by kernel_rfl
end
structure SetI (o:Ob):Prop where
 ok:Okay o
 c:∀x∈o.cust,x.name∈nameL∧eM x.name=true
theorem SetI.cus {o:Ob} (h:SetI o) {s:List UInt8} (hs:s∈nameL):qZ (eM s) s o:=
 ⟨fun hc=>(by decide:∀s∈nameL,eM s=true→∀k∈kinds,aC k≠s) s hs hc,fun hc x hx e=>by
  have:=(h.c x hx).2;rw[e,hc] at this;cases this⟩
theorem SetI.len {o:Ob} (h:SetI o):(gq o).length≤90000:=by
 have h1:=Iw h.ok.g kinds;have h2:=BK o.cust [];have h4:=(BO o.cust []).len;have h5:=h.ok.fit.c;rw[h2,List.length_map] at h4;rw[show kinds.length=20 from rfl] at h1
 rw[gq,List.length_append];omega
def nM (o p:Ob) (c:Bool) (s:List UInt8):Prop:=∀x∈p.cust,x∈o.cust∨(x.name=s∧c=true)
theorem JN {o:Ob} {k:Kd} {j:Nat} {v:It} {c:Bool} {s:List UInt8} (hk:ec c s=some k):nM o (b9 o j v k) c s:=by
 have same:∀p:Ob,p.cust=o.cust→nM o p c s:=fun p e x hx=> .inl (by rw[e] at hx;exact hx);cases k with
 |cus c'=>
  obtain ⟨e1,e2⟩:=Ji hk;intro x hx;rcases wV hx with hx|rfl
  ·exact .inl hx
  ·exact .inr ⟨e2.symm,e1⟩
 |dat k=>
  refine same _ ?_;simp only[b9];unfold aV;split<;>rfl
 |_=>exact same _ rfl
theorem XX {o:Ob} {k:Kd} {a:At} {c:Bool} (hk:ec c a.name=some k):(fR o k a).2=0→nM o (fR o k a).1 c a.name:=by
 unfold fR;split
 ·intro h;cases h
 split
 ·intro h;cases h
 split
 ·intro h;cases h
 split
 ·intro h;cases h
 split
 ·intro h;cases h
 ·unfold eg;split
  ·exact fun _=>JN hk
  ·intro h;cases h
theorem XY:cI zO:=⟨by simp[zO],by simp[zO],by simp[zO],by simp[zO,cv]⟩
theorem xC {α:Type} {l:List α} {i:Nat} {y:α} (h:y∈cB l i):y∈l:=by
 simp only[cB,List.mem_append] at h;rcases h with h|h
 ·exact List.mem_of_mem_take h
 ·exact List.mem_of_mem_drop h
theorem CJ {α:Type} {l:List α} {i n:Nat} (h:l.length≤n):(cB l i).length≤n:=by
 simp only[cB,List.length_append,List.length_take,List.length_drop];omega
theorem Okay.drop {o:Ob} (h:Okay o) (k:Kd) (j:Nat):Okay (dj o j k):=by
 cases k with
 |nam=>exact ⟨⟨CJ h.fit.n,h.fit.l,h.fit.c,h.fit.m⟩,fun s hs=>h.n s (xC hs),h.l,h.c,h.i,h.m⟩
 |dat k=>exact h.date _ k
 |lnk=>exact ⟨⟨h.fit.n,CJ h.fit.l,h.fit.c,h.fit.m⟩,h.n,fun s hs=>h.l s (xC hs),h.c,h.i,h.m⟩
 |lim=>exact ⟨⟨h.fit.n,h.fit.l,h.fit.c,h.fit.m⟩,h.n,h.l,h.c,h.i,h.m⟩
 |cus s=>exact ⟨⟨h.fit.n,h.fit.l,CJ h.fit.c,h.fit.m⟩,h.n,h.l,fun c hc=>h.c c (xC hc),h.i,h.m⟩
 |_=>exact h
theorem XZ (o:Ob) (d:Dt) (k:Nat):(aV o d k).cust=o.cust:=by
 unfold aV;split<;>rfl
theorem X0 {o:Ob} {j:Nat} {k:Kd} {x:Cu} (h:x∈(dj o j k).cust):x∈o.cust:=by
 cases k with
 |dat k=>simp only[dj,XZ] at h;exact h
 |cus s=>exact xC h
 |_=>exact h
theorem SetI.d9 {o:Ob} (h:SetI o) (d:Dt):SetI {o with d9:=d}:=⟨h.ok.date d 9,h.c⟩
theorem X1 {c:Bool} {o:Ob} (h:SetI o) {s:List UInt8} {i now:Int}:(jR c o s i now).2=0→SetI (jR c o s i now).1:=by
 unfold jR;split
 ·intro h0;cases h0
 split
 ·intro h0;cases h0
 split
 ·intro h0;cases h0
 split
 ·intro h0;cases h0
 split
 ·intro h0;cases h0
 ·exact fun _=>SetI.d9 ⟨h.ok.drop _ _,fun x hx=>h.c x (X0 hx)⟩ _
theorem X2 {c:Bool} {o:Ob} {s:List UInt8} {i now:Int}:(jR c o s i now).2≠0→(jR c o s i now).1=zO:=by
 unfold jR;split
 ·exact fun _=>rfl
 split
 ·exact fun _=>rfl
 split
 ·exact fun _=>rfl
 split
 ·exact fun _=>rfl
 split
 ·exact fun _=>rfl
 ·exact fun h=>absurd rfl h
theorem JO {p:Ob × Int} {now:Int}:(gn p now).2≠0→(gn p now).1=zO:=by
 unfold gn;split
 ·exact fun _=>rfl
 ·exact fun h=>absurd rfl h
theorem X3 {c:Bool} {o:Ob} {a:At} {now:Int}:(hZ c o a now).2≠0→(hZ c o a now).1=zO:=by
 unfold hZ;split
 ·exact fun _=>rfl
 split
 ·exact fun _=>rfl
 split
 ·exact fun _=>rfl
 split
 ·exact fun _=>rfl
 ·exact JO
theorem X4 {c:Bool} {o:Ob} {a:At} {now:Int}:(ia c o a now).2≠0→(ia c o a now).1=zO:=by
 unfold ia;split
 ·exact fun _=>rfl
 split
 ·exact fun _=>rfl
 split
 ·exact fun _=>rfl
 split
 ·exact fun _=>rfl
 split
 ·exact fun _=>rfl
 split
 ·exact fun _=>rfl
 split
 ·exact fun _=>rfl
 ·exact JO
theorem JP {o:Ob} {p:Ob × Int} {c:Bool} {s:List UInt8} {now:Int} (h:p.2=0→nM o p.1 c s):(gn p now).2=0→nM o (gn p now).1 c s:=by
 unfold gn;split
 ·rename_i h0;exact fun e=>absurd e (beqInt_false.1 h0)
 ·rename_i h0;exact fun _=>h (beqInt_iff.1 h0)
theorem X5 {o:Ob} {k:Kd} {j:Nat} {v:It} {c:Bool} {s:List UInt8} (hk:ec c s=some k):(eg o k j v).2=0→nM o (eg o k j v).1 c s:=by
 unfold eg;split
 ·exact fun _=>JN hk
 ·intro h;cases h
theorem X6 {c:Bool} {o:Ob} {a:At} {now:Int}:(hZ c o a now).2=0→nM o (hZ c o a now).1 c a.name:=by
 unfold hZ;cases hk:ec c a.name with
 |none=>intro h;cases h
 |some k=>
  dsimp only
  split
  ·intro h;cases h
  split
  ·intro h;cases h
  split
  ·intro h;cases h
  ·exact JP (XX hk)
theorem X7 {c:Bool} {o:Ob} {a:At} {now:Int}:(ia c o a now).2=0→nM o (ia c o a now).1 c a.name:=by
 unfold ia;cases hk:ec c a.name with
 |none=>intro h;cases h
 |some k=>
  dsimp only
  split
  ·intro h;cases h
  split
  ·intro h;cases h
  split
  ·intro h;cases h
  split
  ·intro h;cases h
  split
  ·intro h;cases h
  split
  ·intro h;cases h
  ·exact JP (X5 hk)
theorem X8 {o:Ob} (h:SetI o) {a:At} {now:Int} (ha:cY a.v) (hs:a.name∈nameL) (h0:(hZ (eM a.name) o a now).2=0):SetI (hZ (eM a.name) o a now).1:=by
 refine ⟨(U6 h.ok ha now h0).1,fun x hx=> ?_⟩;rcases X6 h0 x hx with hx|⟨e1,e2⟩
 ·exact h.c x hx
 ·rw[e1];exact ⟨hs,e2⟩
theorem X9 {o:Ob} (h:SetI o) {a:At} {now:Int} (ha:cY a.v) (hs:a.name∈nameL) (h0:(ia (eM a.name) o a now).2=0):SetI (ia (eM a.name) o a now).1:=by
 refine ⟨(U7 h.ok ha now h0).1,fun x hx=> ?_⟩;rcases X7 h0 x hx with hx|⟨e1,e2⟩
 ·exact h.c x hx
 ·rw[e1];exact ⟨hs,e2⟩
theorem Ya {o:Ob} (h:BD o):SetI o:=⟨U3 h,fun x hx=>(by decide:∀s∈cnL,s∈nameL∧eM s=true) _ (h.i.c3 x hx).1⟩
set_option maxRecDepth 20000
def kL (p:Int) (c:Bool) (o:Ob) (a:At) (now:Int):Ob × Int:=match ao p 0 with
 |true=>hZ c o a now
 |false=>match ao p 1 with
  |true=>ia c o a now
  |false=>jR c o a.name a.idx now
theorem Yb {p:Int} {o:Ob} (h:SetI o) {a:At} {now:Int} (ha:cY a.v) (hs:a.name∈nameL):(kL p (eM a.name) o a now).2=0→SetI (kL p (eM a.name) o a now).1:=by
 unfold kL;split
 ·exact X8 h ha hs
 split
 ·exact X9 h ha hs
 ·exact X1 h
theorem Yc {p:Int} {c:Bool} {o:Ob} {a:At} {now:Int}:(kL p c o a now).2≠0→(kL p c o a now).1=zO:=by
 unfold kL;split
 ·exact X3
 split
 ·exact X4
 ·exact X2
theorem Yd {o q:Ob} {e now p:Int} {a:At} {R:Prop} (hq:kL p (eM a.name) o a now=(q,e)) (h:SetI o) (ha:cY a.v) (hs:a.name∈nameL) (hR:R):
  ac (ao p 0) (SC 24 [au o,aK a,I now] (.tuple [au q,I e])∧aw (aY prog 33 (au q) 37) (SC 28 [au o,aK a,I now] (.tuple [au q,I e])∧aw (aY prog 33 (au q) 37) R))
   (ac (ao p 1) (SC 25 [au o,aK a,I now] (.tuple [au q,I e])∧aw (aY prog 33 (au q) 37) (SC 29 [au o,aK a,I now] (.tuple [au q,I e])∧aw (aY prog 33 (au q) 37) R))
    (SC 30 [au o,.str a.name,I a.idx,I now] (.tuple [au q,I e])∧aw (aY prog 33 (au q) 37) (SC 31 [au o,.str a.name,I a.idx,I now] (.tuple [au q,I e])∧aw (aY prog 33 (au q) 37) R))):=by
 have hc:=Pz a.name hs;have hcr:=PA a.name hs;have hcu:=h.cus hs;have fp:aY prog 33 (au q) 37=true:=CF q;unfold kL at hq;cases h0:ao p 0 with
 |true=>
  rw[h0] at hq;have h1:=SF (a:=a) (now:=now) h.ok.fit hc h.ok.g ha;have h2:=W3 (a:=a) (now:=now) h.ok.fit h.len hcr hcu h.ok.g ha
  dsimp only at hq
  rw[hq] at h1 h2;exact ⟨h1,aD fp ⟨h2,aD fp hR⟩⟩
 | false=>
  rw[h0] at hq
  dsimp only at hq
  cases h1:ao p 1 with
  |true=>
   rw[h1] at hq
   dsimp only at hq
   have h1:=SI (a:=a) (now:=now) h.ok.fit hc h.ok.g ha;have h2:=W4 (a:=a) (now:=now) h.ok.fit h.len hcr hcu h.ok.g ha;rw[hq] at h1 h2;exact ⟨h1,aD fp ⟨h2,aD fp hR⟩⟩
  |false=>
   rw[h1] at hq
   dsimp only at hq
   have h1:=SL (i:=a.idx) (now:=now) h.ok.fit hc;have h2:=XH (i:=a.idx) (now:=now) h.ok.fit h.len hcr hcu;rw[hq] at h1 h2;exact ⟨h1,aD fp ⟨h2,aD fp hR⟩⟩
theorem Ye:∀l:List Rw,jy 4 (l.map aU)=true
 |[]=>rfl
 |_::_=>rfl
theorem Yf {l vs:List Rw} {now:Int} {i:Nat} {y:Rw} (hy:l[i]? =some y) (hi:i<25) {o:Ob} (h:SetI o):∃o',SetI o'∧∀Q:AExit→St→Prop,ALp prog opts0.glob 0 (aJ prog 5 5) (gP now (.ofNat (i+1)) (l.map aU) (vs.map aU) (ax o')).st Q→ALp prog opts0.glob 0 (aJ prog 5 5) (gP now (.ofNat i) (l.map aU) (vs.map aU) (ax o)).st Q:=by
 have ha:cY (tl y).v:=U8 _ _;have hnm:(tl y).name∈nameL:=iq nameL [] y.k (by simp[nameL]);have hat:=NV y;have hR:=iy l;have hV:=iy vs;have hO:=bX o;have hl:i<(l.map aU).length:=by
  obtain ⟨h1,_⟩:=List.getElem?_eq_some_iff.1 hy;simpa using h1
 have ga:aE prog .lss 3 (.tmp 25) (.tmp 27) (I (.ofNat i)) (I (.ofNat (ab (l.map aU))))=some (.bool true):=lP (by rw[aM];simp only[bh];omega);have gb:aE prog .lss 3 (.tmp 30) (.const (Value.int IntKind.i64 25)) (I (.ofNat i)) (I 25)=some (.bool true):=lP (by simp only[bh];omega);have gx:aF prog 22 (.fsl false (l.map aU)) (I (.ofNat i))=some (.fptr (lx y) 0):=gC (v:=aU y) (e:=42) (sz:=4) (by kernel_rfl) (by kernel_rfl) (by rw[List.getElem?_map,hy];rfl) rfl;have hw:aj .i64 (Int.ofNat i+1)=Int.ofNat (i+1):=dA (by omega);have hvl:ab (vs.map aU)=vs.length:=by rw[aM,List.length_map]
 have hsl:i<vs.length→cw prog 22 (.fsl false (vs.map aU)) (some (I (.ofNat i))) none none=some (.val (.fsl false ((vs.drop i).map aU))):=fun hlt=>by
  rw[List.map_drop];exact pm (t:=22) (e:=42) (sz:=4) (by kernel_rfl) (by kernel_rfl) (Ye vs) (by rw[List.length_map];omega)
 obtain ⟨w,hwk,hws⟩:=XS (vs.drop i);have hpk:=bu (aj .i64 (y.a.tdiv 3)) (m:=3) (by decide) (by decide);generalize aj .i64 (y.a.tdiv 3)%3=p at hpk;revert ha hnm hat;generalize tl y=a;obtain ⟨s,idx,⟨t,yy,n,d,ks⟩⟩:=a;obtain ⟨t',y',n',d',ks'⟩:=w;intro ha hnm hat;simp only at ha hnm;rw[bJ] at hws;rw[cT] at hat;have hcu:=h.cus hnm;have hof:=w5 h.ok.fit h.len s;rw[wX hcu] at hof;have step:∀ (j:Int) (v:It),cY v→((ao (y.c.tmod 5) 0=true→j=aj .i64 (Int.ofNat (ab ((jS (eM s) o s).map aK))-y.a.tmod 2))∧(ao (y.c.tmod 5) 0=false→j=idx))→((ao (y.c.tmod 31) 30=true→ay (.ofNat i) (.ofNat vs.length)=true→v=⟨t',y',n',d',ks'⟩)∧(ao (y.c.tmod 31) 30=true→ay (.ofNat i) (.ofNat vs.length)=false→v=⟨t,yy,n,d,ks⟩)∧(ao (y.c.tmod 31) 30=false→v=⟨t,yy,n,d,ks⟩))→∃o',SetI o'∧∀Q:AExit→St→Prop,ALp prog opts0.glob 0 (aJ prog 5 5) (gP now (.ofNat (i+1)) (l.map aU) (vs.map aU) (ax o')).st Q→ALp prog opts0.glob 0 (aJ prog 5 5) (gP now (.ofNat i) (l.map aU) (vs.map aU) (ax o)).st Q:=fun j v hv hj hvv=>by
  have hI:=Yb (p:=p) (a:=⟨s,j,v⟩) (now:=now) h hv hnm;have hz:=Yc (p:=p) (c:=eM s) (o:=o) (a:=⟨s,j,v⟩) (now:=now);simp only at hI;obtain ⟨r,hr⟩:∃r,kL p (eM s) o ⟨s,j,v⟩ now=r:=⟨_,rfl⟩;rw[hr] at hI hz;obtain ⟨q,e⟩:=r;simp only at hI hz;have hfit:cI q:=by
   by_cases e0:e=0
   ·exact (hI e0).ok.fit
   ·rw[hz e0];exact XY
  have hsame:=TR hfit;have fp:=CF q;have hP:=bX q;have hee:(!ao e e)=false:=by rw[beqInt_iff.2 rfl];rfl
  have hfin:∀ {R:Prop} {a:At},kL p (eM a.name) o a now=(q,e)→cY a.v→a.name∈nameL→R→_:=fun {R a} hq hav hs hR=>Yd (R:=R) (a:=a) hq h hav hs hR;have r1:ao (y.c.tmod 5) 0=true→ao (y.c.tmod 31) 30=true→ay (.ofNat i) (.ofNat vs.length)=true→∀R:Prop,R→_:=fun e5 e31 el R hR=>hfin (R:=R) (a:=⟨s,aj .i64 (Int.ofNat (ab ((jS (eM s) o s).map aK))-y.a.tmod 2),⟨t',y',n',d',ks'⟩⟩) (by rw[←hr,hj.1 e5,hvv.1 e31 el]) hwk.1 hnm hR;have r2:ao (y.c.tmod 5) 0=true→(v=⟨t,yy,n,d,ks⟩)→∀R:Prop,R→_:=fun e5 ev R hR=>hfin (R:=R) (a:=⟨s,aj .i64 (Int.ofNat (ab ((jS (eM s) o s).map aK))-y.a.tmod 2),⟨t,yy,n,d,ks⟩⟩) (by rw[←hr,hj.1 e5,ev]) ha hnm hR;have r3:ao (y.c.tmod 5) 0=false→ao (y.c.tmod 31) 30=true→ay (.ofNat i) (.ofNat vs.length)=true→∀R:Prop,R→_:=fun e5 e31 el R hR=>hfin (R:=R) (a:=⟨s,idx,⟨t',y',n',d',ks'⟩⟩) (by rw[←hr,hj.2 e5,hvv.1 e31 el]) hwk.1 hnm hR;have r4:ao (y.c.tmod 5) 0=false→(v=⟨t,yy,n,d,ks⟩)→∀R:Prop,R→_:=fun e5 ev R hR=>hfin (R:=R) (a:=⟨s,idx,⟨t,yy,n,d,ks⟩⟩) (by rw[←hr,hj.2 e5,ev]) ha hnm hR;clear hfin
  by_cases e0:e=0
  ·have e0':ao e 0=true:=beqInt_iff.2 e0;refine ⟨q,hI e0,fun Q hq=> ?_⟩;refine ALp.round (A:=CG y s idx t yy n t' y' n' (ak d) (ap ks) (ak d') (ap ks') ((jS (eM s) o s).map aK) ((vs.drop i).map aU) (ax q) e p) (V2:=gP now (.ofNat (i+1)) (l.map aU) (vs.map aU) (ax q)) (F:=chF) (lk:=[(0,0)]) (lk':=[]) base0 ar (LsOk.no rfl) .refl ?_;unfold au at hof hsame r1 r2 r3 r4;unfold ax at hO hP hof hsame fp hq r1 r2 r3 r4⊢;rw[JL,hw,hvl];intro R1 R2 R3 R4 R5 R6;have hR2:R2:=mF hee ⟨hsame,mT e0' (aD fp ⟨⟨⟨⟨rfl,hR⟩,⟨rfl,hV⟩,rflTwoQ,rflTwoQ,ad⟩,⟨rflTwoQ,ad⟩,⟨rfl,hP⟩,ad⟩,hq⟩)⟩;exact ⟨ga,gb,gx,hat,ai (fun e5=>⟨hof,ai (fun e31=>ai (fun el=>⟨hsl (by have:=ltInt_iff.1 el;simp only[bh] at this;omega),hws,hpk,r1 e5 e31 el R2 hR2⟩) fun el=>⟨hpk,r2 e5 (hvv.2.1 e31 el) R2 hR2⟩) fun e31=>⟨hpk,r2 e5 (hvv.2.2 e31) R2 hR2⟩⟩)
    fun e5=>ai (fun e31=>ai (fun el=>⟨hsl (by have:=ltInt_iff.1 el;simp only[bh] at this;omega),hws,hpk,r3 e5 e31 el R2 hR2⟩) fun el=>⟨hpk,r4 e5 (hvv.2.1 e31 el) R2 hR2⟩) fun e31=>⟨hpk,r4 e5 (hvv.2.2 e31) R2 hR2⟩⟩
  ·have e0':ao e 0=false:=beqInt_false.2 e0;refine ⟨o,h,fun Q hq=> ?_⟩;refine ALp.round (A:=CG y s idx t yy n t' y' n' (ak d) (ap ks) (ak d') (ap ks') ((jS (eM s) o s).map aK) ((vs.drop i).map aU) (ax q) e p) (V2:=gP now (.ofNat (i+1)) (l.map aU) (vs.map aU) (ax o)) (F:=chF) (lk:=[(0,0)]) (lk':=[]) base0 ar (LsOk.no rfl) .refl ?_;unfold au at hof hsame r1 r2 r3 r4;unfold ax at hO hP hof hsame fp hq r1 r2 r3 r4⊢;rw[JL,hw,hvl];intro R1 R2 R3 R4 R5 R6;have hR2:R2:=mF hee ⟨hsame,mF e0' ⟨⟨⟨⟨rfl,hR⟩,⟨rfl,hV⟩,rflTwoQ,rflTwoQ,ad⟩,⟨rflTwoQ,ad⟩,⟨rfl,hO⟩,ad⟩,hq⟩⟩;exact ⟨ga,gb,gx,hat,ai (fun e5=>⟨hof,ai (fun e31=>ai (fun el=>⟨hsl (by have:=ltInt_iff.1 el;simp only[bh] at this;omega),hws,hpk,r1 e5 e31 el R2 hR2⟩) fun el=>⟨hpk,r2 e5 (hvv.2.1 e31 el) R2 hR2⟩) fun e31=>⟨hpk,r2 e5 (hvv.2.2 e31) R2 hR2⟩⟩)
    fun e5=>ai (fun e31=>ai (fun el=>⟨hsl (by have:=ltInt_iff.1 el;simp only[bh] at this;omega),hws,hpk,r3 e5 e31 el R2 hR2⟩) fun el=>⟨hpk,r4 e5 (hvv.2.1 e31 el) R2 hR2⟩) fun e31=>⟨hpk,r4 e5 (hvv.2.2 e31) R2 hR2⟩⟩
 have two:∀b:Bool,b=true→b=false→False:=fun b h1 h2=>by rw[h1] at h2;cases h2
 obtain ⟨j,hj⟩:∃j:Int,(ao (y.c.tmod 5) 0=true→j=aj .i64 (Int.ofNat (ab ((jS (eM s) o s).map aK))-y.a.tmod 2))∧(ao (y.c.tmod 5) 0=false→j=idx):=by
  cases h5:ao (y.c.tmod 5) 0 with
  |true=>exact ⟨_,fun _=>rfl,fun e=>by cases e⟩
  |false=>exact ⟨idx,(fun e=>by cases e),fun _=>rfl⟩
 cases h31:ao (y.c.tmod 31) 30 with
 |false=>exact step j ⟨t,yy,n,d,ks⟩ ha hj ⟨fun e=>(two _ e h31).elim,fun e=>(two _ e h31).elim,fun _=>rfl⟩
 |true=>
  cases hlt:ay (.ofNat i) (.ofNat vs.length) with
  |true=>exact step j ⟨t',y',n',d',ks'⟩ hwk.1 hj ⟨fun _ _=>rfl,fun _ e=>(two _ hlt e).elim,fun e=>(two _ h31 e).elim⟩
  |false=>exact step j ⟨t,yy,n,d,ks⟩ ha hj ⟨fun _ e=>(two _ e hlt).elim,fun _ _=>rfl,fun _=>rfl⟩
theorem JQ {l vs:List Rw} {now:Int}:∀ (m i:Nat) (o:Ob),i+m=min l.length 25→SetI o→∀Q:AExit→St→Prop,Q (.exit 0) chF.st→ALp prog opts0.glob 0 (aJ prog 5 5) (gP now (.ofNat i) (l.map aU) (vs.map aU) (ax o)).st Q
 | 0,i,o,hm,h,Q,hq=>by
  rw[Nat.add_zero] at hm
  by_cases hi:i<l.length
  ·refine ALp.round (A:=aB [(4,3,.res (.bool true)),(4,6,.res (.bool false))] [] aR [] []) (V2:=gP 0 0 [] [] []) (F:=chF) (lk:=[]) (lk':=[]) base0 ar (LsOk.no rfl) .refl ?_;rw[XV];exact ⟨lP (by simp only[aM,List.length_map,bh];omega),qQ (by simp only[bh];omega),⟨trivial,trivial,ad⟩,hq⟩
  ·refine ALp.round (A:=aB [(4,3,.res (.bool false))] [] aR [] []) (V2:=gP 0 0 [] [] []) (F:=chF) (lk:=[]) (lk':=[]) base0 ar (LsOk.no rfl) .refl ?_;rw[XU];exact ⟨qQ (by simp only[aM,List.length_map,bh];omega),⟨trivial,trivial,ad⟩,hq⟩
 |m+1,i,o,hm,h,Q,hq=>by
  have hi:i<l.length:=by omega
  obtain ⟨o1,h1,s1⟩:=Yf (l:=l) (vs:=vs) (now:=now) (List.getElem?_eq_getElem hi) (by omega) h;exact s1 Q (JQ (l:=l) m (i+1) o1 (by omega) h1 Q hq)
theorem Yg:bW (dI prog 5) 5=[aJ prog 5 5]:=by kernel_rfl
theorem Yh (x:Rw) (xs l:List Rw) (nw:Int) (vs:List Rw):SC 5 [aU x,.fsl false (xs.map aU),.fsl false (l.map aU),I nw,.fsl false (vs.map aU)] (.bool true):=by
 obtain ⟨o,hox,hob⟩:=U1 x xs;have hX:=iy xs;have hR:=iy l;have hV:=iy vs;have hO:=bX o;have fo:=CF o;have hpk:=bu nw (m:=70) (by decide) (by decide);generalize nw%70=now at hpk;refine bQ (A:=aB [] [(5,JM now (l.map aU) (vs.map aU) (ax o))] (fY [(22,fun _=>some (.agg (ax o))),(23,fun _=>some (I now)),(21,fun _=>some (.bool true))]) [] []) base0 ar
  (aG (LsOk.at1 rfl Yg fun st Q hs=> .seen base0.glob hs.1 (JQ (l:=l) (min l.length 25) 0 o (Nat.zero_add _) (Ya hox) Q hs.2))) (by simp only[ae,ag,hX,hR,hV,aU,lx,Bool.and_self]) rfl ?_
 unfold au at hob;unfold ax at hO fo hob⊢;rw[XW];exact ⟨hob,aD fo ⟨hpk,⟨⟨⟨rfl,hR⟩,⟨rfl,hV⟩,rflTwoQ,rflTwoQ,ad⟩,⟨rflTwoQ,ad⟩,⟨rfl,hO⟩,ad⟩,XT,rfl⟩⟩
theorem JR:∀ {ess:List (List AV)},(∀c∈ess,(∃a b d z:Int,c=[.int .i64 a,.int .i64 b,.int .i64 d,.int .i64 z]∧(IntKind.i64.min≤a∧a≤IntKind.i64.max)∧(IntKind.i64.min≤b∧b≤IntKind.i64.max)∧(IntKind.i64.min≤d∧d≤IntKind.i64.max)∧(IntKind.i64.min≤z∧z≤IntKind.i64.max))∧c.length=4)→∃l:List Rw,ess.map mq=l.map aU∧l.length=ess.length
 |[],_=>⟨[],rfl,rfl⟩
 |c::t,h=>by
  obtain ⟨⟨a,b,d,z,rfl,_⟩,_⟩:=h c (by simp);obtain ⟨l,e,hl⟩:=JR (ess:=t) fun c hc=>h c (by simp[hc]);refine ⟨⟨a,b,d,z⟩::l, ?_,by simp[hl]⟩;rw[List.map_cons,e];rfl
section
variable {P:Program} {H:Type} {enc:TypeId × Value→H} {w:World} {base:Nat} {spare:Nat→Bool} {held:Bool} {v:Value} {d:DataW H} {ps:List MemPlace} {t e i:TypeId}
theorem CK {f0 f1 f2 f3:Field} (ht:P.underlying t=some (.slice e)) (hs:P.underlying e=some (.struct #[f0,f1,f2,f3])) (h0:f0.type=i∧f0.offset=0) (h1:f1.type=i∧f1.offset=1) (h2:f2.type=i∧f2.offset=2) (h3:f3.type=i∧f3.offset=3)
  (he:P.underlying i=some (.int .i64)) (hc:P.cellsOf i=1) (h4:P.cellsOf e=4) (hok:Value.okWide P w .any base t v) (h:DataW.Trod enc P w 0 spare held t v d ps):
  ∃ (l:List Rw),l.length≤9223372036854775807∧Rep w (fun b=>b<w.heap.size) (fun _=>none) (.fsl false (l.map aU)) v:=by
 rcases Mn ht (Mo hs h0 h1 h2 h3 he hc h4) hok h with rfl|⟨ess,hr,hp,hl⟩
 ·exact ⟨[],by simp,Wk.nil.out _ _ _ _ .nilsl⟩
 ·obtain ⟨l,e1,e2⟩:=JR hp;refine ⟨l,by rw[e2];exact hl, ?_⟩;rw[e1] at hr;exact hr
end
end Go.Proofs.YtjhggnebkfpgcaaGreatDoor
namespace Go.Proofs
open Go.Shelf
def Tryz.laysValid_ren:Go.Shelf.Ren:=⟨fun|196=>159|259=>192|n=>n,fun|9=>9|4=>4|3=>3|5=>5|12=>12|119=>203|0=>0|46=>162|139=>206|138=>205|53=>161|n=>n,fun|3=>1|4=>2|n=>n⟩
theorem Tryz.laysValid:Go.Proofs.Lays.n196 prog Tryz.laysValid_ren:={
 mixed:=by kernel_rfl
 f196:=Tryz.func159.trans (congrArg some (by kernel_rfl))
 f259:=Tryz.func192.trans (congrArg some (by kernel_rfl))
 t0:=Tryz.underlying0
 a0:=Tryz.isAgg0
 z0:=Tryz.sizeOf0
 v0:=Tryz.zeroValue0
 t3:=Tryz.underlying3
 a3:=Tryz.isAgg3
 z3:=Tryz.sizeOf3
 v3:=Tryz.zeroValue3
 t4:=Tryz.underlying4
 a4:=Tryz.isAgg4
 z4:=Tryz.sizeOf4
 v4:=Tryz.zeroValue4
 t5:=Tryz.underlying5
 a5:=Tryz.isAgg5
 z5:=Tryz.sizeOf5
 v5:=Tryz.zeroValue5
 t9:=Tryz.underlying9
 a9:=Tryz.isAgg9
 z9:=Tryz.sizeOf9
 v9:=Tryz.zeroValue9
 t12:=Tryz.underlying12
 a12:=Tryz.isAgg12
 z12:=Tryz.sizeOf12
 v12:=Tryz.zeroValue12
 t46:=Tryz.underlying162
 a46:=Tryz.isAgg162
 z46:=Tryz.sizeOf162
 v46:=Tryz.zeroValue162
 t53:=Tryz.underlying161
 a53:=Tryz.isAgg161
 z53:=Tryz.sizeOf161
 v53:=Tryz.zeroValue161
 t119:=Tryz.underlying203
 a119:=Tryz.isAgg203
 z119:=Tryz.sizeOf203
 t138:=Tryz.underlying205
 a138:=Tryz.isAgg205
 z138:=Tryz.sizeOf205
 v138:=Tryz.zeroValue205
 t139:=Tryz.underlying206
 a139:=Tryz.isAgg206
 z139:=Tryz.sizeOf206
 v139:=Tryz.zeroValue206
 g3:=by kernel_rfl
 g4:=by kernel_rfl}
end Go.Proofs
namespace Go.Proofs.YtjhggnebkfpgcaaGreatDoor
open Go Go.RowKit _root_.Go.Proofs.Tryz
open Go.Proofs.Abs
theorem Yi:∀c,c<256→firL[c]? =some (Lib.firstT c):=by decide+kernel
theorem Yj:∀i,i<16→accL[2*i]? =some (Lib.accLo i)∧accL[2*i+1]? =some (Lib.accHi i):=by decide+kernel
end Go.Proofs.YtjhggnebkfpgcaaGreatDoor
