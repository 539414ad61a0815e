import Derived.Test.YtmnlofhodbnenaaGreatDoorQ4
import Derived.KernelRfl
namespace Go.Proofs.YtmnlofhodbnenaaGreatDoor
set_option maxRecDepth 20000
open Go Go.RowKit
open Go.Proofs.Abs
section
variable {o:Ob} {Q:AExit→St→Prop}
theorem Sp {i k:Nat} {es:List AV} {c:Cu} (g:o.cust[i]? =some c) (hi:i≤1000) (hc:ac es=true)
  (hq:Q (.exit 8) (aZ [(9,I (.ofNat i)),(10,I (.ofNat (b7 c.name (o.cust.take i)))),(11,I (.ofNat i))] k (am o) es).st):
  ∀m j:Nat,j+m=i→ALp Tryz.prog opts0.glob 0 (aD Tryz.prog 133 37) (aZ [(9,I (.ofNat i)),(10,I (.ofNat (b7 c.name (o.cust.take j)))),(11,I (.ofNat j))] k (am o) es).st Q:=by
 have hO:=bH o
 have hlt:=(List.getElem?_eq_some_iff.1 g).1
 intro m
 induction m with
 |zero=>
  intro j hj
  rw[Nat.add_zero] at hj
  subst hj
  refine ALp.round (A:=vf [] [] [] []) (V2:=aZ [(9,I (.ofNat j)),(10,I 0),(11,I 0)] k (am o) es) (F:=aZ [(9,I (.ofNat j)),(10,I (.ofNat (b7 c.name (o.cust.take j)))),(11,I (.ofNat j))] k (am o) es) (lk:=[(0,0),(1,1),(2,2)]) (lk':=[(0,0),(1,1),(2,2)]) base0 ao (LsOk.no rfl) .refl ?_
  unfold am bo at hO hq⊢
  rw[zU]
  exact aj (fun e=>(nu e).elim) fun _=>⟨⟨⟨⟨rfl,rfl⟩,⟨rfl,rfl⟩,⟨rfl,rfl⟩,trivial⟩,⟨⟨rfl,rfl⟩,⟨rfl,rfl⟩,trivial⟩,⟨rfl,hO⟩,⟨⟨rfl,rfl,rfl,rfl,rfl⟩,trivial⟩,⟨rfl,hc⟩,trivial⟩,hq⟩
 | succ m ih=>
  intro j hj
  have hjl:j<o.cust.length:=by omega
  have gj:=List.getElem?_eq_getElem hjl
  have ih:=ih (j+1) (by omega)
  rw[lw gj,z2] at ih
  have hcl:=GU c.name (o.cust.take j)
  have htl:=List.length_take_le j o.cust
  revert gj ih
  generalize o.cust[j]=x
  revert hcl
  generalize b7 c.name (o.cust.take j)=n
  intro hcl gj ih
  have g1:=z7 gj
  have g2:=z7 g
  have hw:=dG (p:=j) (by omega)
  have hn:n≤1000:=by rw[List.length_take] at hcl;omega
  have hw2:=dG (p:=n) (by omega)
  cases hx:aA x.name c.name with
  |true=>
   rw[hx] at ih
   refine ALp.round (A:=vf x.name x.text c.name c.text) (V2:=aZ [(9,I (.ofNat i)),(10,I (.ofNat (n+1))),(11,I (.ofNat (j+1)))] k (am o) es) (F:=aZ [(9,I (.ofNat i)),(10,I (.ofNat n)),(11,I (.ofNat j))] k (am o) es) (lk:=[(0,0),(1,1),(2,2)]) (lk':=[(0,0),(1,1),(2,2)]) base0 ao (LsOk.no rfl) .refl ?_
   unfold am bo at hO ih⊢
   rw[zU,hw,hw2]
   exact aj (fun _=>⟨g1,g2,aj (fun _=>⟨⟨⟨⟨rfl,rfl⟩,⟨rfl,rfl⟩,⟨rfl,rfl⟩,trivial⟩,⟨⟨rfl,rfl⟩,⟨rfl,rfl⟩,trivial⟩,⟨rfl,hO⟩,⟨⟨rfl,rfl,rfl,rfl,rfl⟩,trivial⟩,⟨rfl,hc⟩,trivial⟩,ih⟩) fun e=>by rw[hx] at e;cases e⟩) fun e=>absurd e (gR (by omega))
  |false=>
   rw[hx] at ih
   refine ALp.round (A:=vf x.name x.text c.name c.text) (V2:=aZ [(9,I (.ofNat i)),(10,I (.ofNat n)),(11,I (.ofNat (j+1)))] k (am o) es) (F:=aZ [(9,I (.ofNat i)),(10,I (.ofNat n)),(11,I (.ofNat j))] k (am o) es) (lk:=[(0,0),(1,1),(2,2)]) (lk':=[(0,0),(1,1),(2,2)]) base0 ao (LsOk.no rfl) .refl ?_
   unfold am bo at hO ih⊢
   rw[zU,hw,hw2]
   exact aj (fun _=>⟨g1,g2,aj (fun e=>by rw[hx] at e;cases e) fun _=>⟨⟨⟨⟨rfl,rfl⟩,⟨rfl,rfl⟩,⟨rfl,rfl⟩,trivial⟩,⟨⟨rfl,rfl⟩,⟨rfl,rfl⟩,trivial⟩,⟨rfl,hO⟩,⟨⟨rfl,rfl,rfl,rfl,rfl⟩,trivial⟩,⟨rfl,hc⟩,trivial⟩,ih⟩⟩) fun e=>absurd e (gR (by omega))
theorem G6:bu (aD Tryz.prog 133 33) 37=[aD Tryz.prog 133 37]:=by kernel_rfl
theorem Sq {B:List AV} {k0:Nat} (hB:B.length=k0*7) (hBc:ac B=true) (hk:k0≤1000) (hn:o.cust.length≤1000)
  (hq:Q (.exit 6) (aZ [(9,I (.ofNat o.cust.length))] (k0+o.cust.length) (am o) (B++flat (c7 [] o.cust))).st):
  ∀m i:Nat,i+m=o.cust.length→ALp Tryz.prog opts0.glob 0 (aD Tryz.prog 133 33) (aZ [(9,I (.ofNat i))] (k0+i) (am o) (B++flat (c7 [] (o.cust.take i)))).st Q:=by
 have hO:=bH o
 have hlen:aa (o.cust.map aQ)=o.cust.length:=by rw[aE,List.length_map]
 intro m
 induction m with
 |zero=>
  intro i hi
  rw[Nat.add_zero] at hi
  subst hi
  rw[List.take_of_length_le (Nat.le_refl _)]
  have hc:ac (B++flat (c7 [] o.cust))=true:=by rw[dV,hBc,z4];rfl
  refine ALp.round (A:=zV False [] [] (.ofNat o.cust.length) 0 (k0+o.cust.length) (am o) (B++flat (c7 [] o.cust))) (V2:=aZ [(9,I 0)] 0 (am o) []) (F:=aZ [(9,I (.ofNat o.cust.length))] (k0+o.cust.length) (am o) (B++flat (c7 [] o.cust))) (lk:=[(0,0),(1,1),(2,36)]) (lk':=[(0,0),(1,1),(2,2)]) base0 ao (LsOk.at1 rfl G6 fun st Q hs=>hs.1.elim) .refl ?_
  unfold am bo at hO hq⊢
  rw[GD,hlen]
  exact aj (fun e=>(nu e).elim) fun _=>⟨⟨⟨⟨rfl,rfl⟩,trivial⟩,⟨⟨rfl,rfl⟩,⟨rfl,rfl⟩,trivial⟩,⟨rfl,hO⟩,⟨⟨rfl,rfl,rfl,rfl,rfl⟩,trivial⟩,⟨rfl,hc⟩,trivial⟩,hq⟩
 | succ m ih=>
  intro i hi
  have hlt:i<o.cust.length:=by omega
  have g:=List.getElem?_eq_getElem hlt
  have ih:=ih (i+1) (by omega)
  have hti:(o.cust.take i).length=i:=by rw[List.length_take];omega
  rw[lw g,GS,ej,←List.append_assoc,List.nil_append,←Nat.add_assoc] at ih
  have hpc:=z4 (o.cust.take i) []
  have hpl:=GT (o.cust.take i) []
  rw[hti] at hpl
  revert g ih
  generalize o.cust[i]=x
  intro g ih
  have hc:ac (B++flat (c7 [] (o.cust.take i)))=true:=by rw[dV,hBc,hpc];rfl
  have hl:(B++flat (c7 [] (o.cust.take i))).length=(k0+i)*7:=by rw[List.length_append,hB,hpl];omega
  have hrun:=fun Q hq=>Sp (o:=o) (Q:=Q) (k:=k0+i) g (by omega) hc hq i 0 (Nat.zero_add _)
  rw[show o.cust.take 0=[] from List.take_zero] at hrun
  revert ih hc hl hrun
  generalize B++flat (c7 [] (o.cust.take i))=P
  generalize b7 x.name (o.cust.take i)=n
  intro ih hc hl hrun
  have hr:eA (gQ x n):=⟨by simp[gQ,ah,ac],by simp[gQ,AV.cells,ah,ac],rfl,⟨rfl,rfl⟩⟩
  have hc2:ac (P++flat [gQ x n])=true:=Se hc
  have g:=z7 g
  refine ALp.round (A:=zV True x.name x.text (.ofNat i) (.ofNat n) (k0+i) (am o) P) (V2:=aZ [(9,I (.ofNat (i+1)))] (k0+i+1) (am o) (P++flat [gQ x n])) (F:=aZ [(9,I (.ofNat i))] (k0+i) (am o) P) (lk:=[(0,0),(1,1),(2,36)]) (lk':=[(0,0),(1,1),(2,2)]) base0 ao
   (LsOk.at1 rfl G6 fun st Q hs=> .seen base0.glob hs.2.1 (hrun Q hs.2.2)) .refl ?_
  unfold am bo at hO ih⊢
  rw[GD,dG (by omega)]
  exact aj (fun _=>⟨trivial,⟨⟨⟨rfl,rfl⟩,⟨rfl,rfl⟩,⟨rfl,rfl⟩,trivial⟩,⟨⟨rfl,rfl⟩,⟨rfl,rfl⟩,trivial⟩,⟨rfl,hO⟩,⟨⟨rfl,rfl,rfl,rfl,rfl⟩,trivial⟩,⟨rfl,hc⟩,trivial⟩,g,g,aF (eL hr rfl (by omega)) (aF (eB hl) ⟨⟨⟨⟨rfl,rfl⟩,trivial⟩,⟨⟨rfl,rfl⟩,⟨rfl,rfl⟩,trivial⟩,⟨rfl,hO⟩,⟨⟨rfl,rfl,rfl,rfl,rfl⟩,trivial⟩,⟨rfl,hc2⟩,trivial⟩,ih⟩)⟩) fun e=>absurd (hlen▸e) (gR hlt)
end
end Go.Proofs.YtmnlofhodbnenaaGreatDoor
namespace Go.Proofs.YtmnlofhodbnenaaGreatDoor
open Go Go.RowKit
open Go.Proofs.Abs
theorem Ad:∀ {a b c d:List AV},WkE a b→WkE c d→WkE (a++c) (b++d)
 |[],[],_,_,_,h=>h
 |x::_,y::_,_,_,h,h2=> .cons (h.at_ 0 x y rfl rfl) (Ad ⟨by have:=h.len;simpa using this,fun i u v h3 h4=>h.at_ (i+1) u v h3 h4⟩ h2)
 |[],_::_,_,_,h,_=>by have:=h.len;simp at this
 |_::_,[],_,_,h,_=>by have:=h.len;simp at this
theorem Sr {P:Program} {G:aP} {nx0 r1 r2 r3 r4:Nat} {L1 L2 L3 L4:bq} {b1 b2 b3 b4:Code} {c:Code} {A:aX} (hA:A.ls=iM [(r1,L1),(r2,L2),(r3,L3),(r4,L4)]) (a1:bu c r1=[b1]) (a2:bu c r2=[b2]) (a3:bu c r3=[b3]) (a4:bu c r4=[b4])
  (h1:∀s Q,L1 s Q→AWp P G nx0 (.loop b1) s Q) (h2:∀s Q,L2 s Q→AWp P G nx0 (.loop b2) s Q) (h3:∀s Q,L3 s Q→AWp P G nx0 (.loop b3) s Q) (h4:∀s Q,L4 s Q→AWp P G nx0 (.loop b4) s Q):LsOk P G nx0 A c:=
 LsOk.many hA fun p hp b hb s Q hs=>by
  simp only[List.mem_cons,List.not_mem_nil,or_false] at hp
  rcases hp with rfl|rfl|rfl|rfl
  ·rw[a1,List.mem_singleton] at hb;subst hb;exact h1 s Q hs
  ·rw[a2,List.mem_singleton] at hb;subst hb;exact h2 s Q hs
  ·rw[a3,List.mem_singleton] at hb;subst hb;exact h3 s Q hs
  ·rw[a4,List.mem_singleton] at hb;subst hb;exact h4 s Q hs
theorem Ss:bu (cy Tryz.prog 133) 5=[aD Tryz.prog 133 5]:=by kernel_rfl
theorem Su:bu (cy Tryz.prog 133) 17=[aD Tryz.prog 133 17]:=by kernel_rfl
theorem Sv:bu (cy Tryz.prog 133) 27=[aD Tryz.prog 133 27]:=by kernel_rfl
theorem Sw:bu (cy Tryz.prog 133) 33=[aD Tryz.prog 133 33]:=by kernel_rfl
def sg (o:Ob) (l:List AV):List AV:=l++aL o (.dat 0)++aL o (.dat 1)++aL o (.dat 2)++aL o (.dat 3)++aL o (.dat 4)++aL o (.dat 5)++aL o (.dat 6)++aL o (.dat 7)++aL o (.dat 8)++aL o (.dat 9)
def kp (o:Ob):List AV:=sg o (aL o .uid++aL o .nam++aL o .typ++aL o .alg++aL o .len++aL o .mask++aL o .sta)++aL o .why++aL o .lnk++aL o .lim++c7 [] o.cust
theorem Sx (o:Ob):WkE (kp o) ((gq o).map aB):=by
 have h:∀k,lC k=true→(∀s,k≠ .cus s)→WkE (aL o k) ((bX (aJ k) (aK o k) 0).map aB):=Sf o
 simp only[kp,sg,List.append_assoc,gq,kinds,km,List.nil_append,List.map_append]
 repeat' first|exact z6 _ _|exact Ad (h _ rfl fun _ e=>by cases e) ?_|refine Ad (h _ rfl fun _ e=>by cases e) ?_
theorem Sy (o:Ob):∀e∈kp o,eA e:=fun e he=>by
 simp only[kp,sg,List.mem_append] at he
 repeat' first|exact eX o _ e ‹_› |exact G0 _ _ e ‹_› |rcases he with he|he
set_option maxRecDepth 20000 in
theorem Sz {o:Ob} (ho:dO o):SC 133 [az o] (.fsl false ((gq o).map aB)):=by
 have hO:=bH o
 have hcl:ac [az o]=true:=dj o (c:=[]) rfl
 have hT:=vl
 have hn:=ho.n
 have hl:=ho.l
 have hcu:=ho.c
 have hnl:(aL o .nam).length=o.names.length:=z8 _ _ _
 have hll:(aL o .lnk).length=o.links.length:=z9 _ _
 have na:(aL o .alg).length≤1:=pz
 have nl:(aL o .len).length≤1:=pz
 have nd:∀k,(aL o (.dat k)).length≤1:=fun k=>pz
 have nw:(aL o .why).length≤1:=pz
 have nm:(aL o .lim).length≤1:=pz
 have a1:(!ak o.alg 0)=true→aL o .alg=[cr (aJ .alg) 5 o.alg]:=fun e=>by simp only[aL,e,ey]
 have a0:(!ak o.alg 0)=false→aL o .alg=[]:=fun e=>by simp only[aL,e,ey]
 have b1:(!ak o.len 0)=true→aL o .len=[cr (aJ .len) 2 o.len]:=fun e=>by simp only[aL,e,ey]
 have b0:(!ak o.len 0)=false→aL o .len=[]:=fun e=>by simp only[aL,e,ey]
 have w1:(!ak o.why 0)=true→aL o .why=[eu (aJ .why) 0 (fx o)]:=fun e=>by simp only[aL,e,ey]
 have w0:(!ak o.why 0)=false→aL o .why=[]:=fun e=>by simp only[aL,e,ey]
 have m1:o.lh=true→aL o .lim=[eu (aJ .lim) 0 (px o)]:=fun e=>by simp only[aL,e,ey]
 have m0:o.lh=false→aL o .lim=[]:=fun e=>by simp only[aL,e,ey]
 obtain ⟨E0,hE0⟩:∃E,E=flat (aL o .uid):=⟨_,rfl⟩
 obtain ⟨K0,hK0⟩:∃K,K=(aL o .uid).length:=⟨_,rfl⟩
 have c0:ac E0=true:=by rw[hE0];exact fV (eX _ _)
 have l0:E0.length=K0*7:=by rw[hE0,hK0];exact iW (eX _ _)
 obtain ⟨E1,hE1⟩:∃E,E=E0++flat (aL o .nam):=⟨_,rfl⟩
 obtain ⟨K1,hK1⟩:∃K,K=K0+o.names.length:=⟨_,rfl⟩
 have c1:ac E1=true:=by rw[hE1,dV,c0,fV (eX _ _)];rfl
 have l1:E1.length=K1*7:=by rw[hE1,hK1,List.length_append,l0,iW (eX _ _),hnl,Nat.add_mul]
 obtain ⟨E2,hE2⟩:∃E,E=E1++flat (aL o .typ)++flat (aL o .alg)++flat (aL o .len)++flat (aL o .mask)++flat (aL o .sta):=⟨_,rfl⟩
 obtain ⟨K2,hK2⟩:∃K,K=K1+1+(aL o .alg).length+(aL o .len).length+1+1:=⟨_,rfl⟩
 have c2:ac E2=true:=by
  rw[hE2]
  simp only[dV,c1,fV (eX o _),Bool.and_self]
 have l2:E2.length=K2*7:=by
  have h1:(aL o .typ).length=1:=rfl
  have h2:(aL o .mask).length=1:=rfl
  have h3:(aL o .sta).length=1:=rfl
  rw[hE2,hK2]
  simp only[List.length_append,l1,iW (eX o _),h1,h2,h3]
  omega
 obtain ⟨E3,hE3⟩:∃E,E=E2++flat (aL o (.dat 0))++flat (aL o (.dat 1))++flat (aL o (.dat 2))++flat (aL o (.dat 3))++flat (aL o (.dat 4))++flat (aL o (.dat 5))++flat (aL o (.dat 6))++flat (aL o (.dat 7))++flat (aL o (.dat 8))++flat (aL o (.dat 9)):=⟨_,rfl⟩
 obtain ⟨K3,hK3⟩:∃K,K=K2+(aL o (.dat 0)).length+(aL o (.dat 1)).length+(aL o (.dat 2)).length+(aL o (.dat 3)).length+(aL o (.dat 4)).length+(aL o (.dat 5)).length+(aL o (.dat 6)).length+(aL o (.dat 7)).length+(aL o (.dat 8)).length+(aL o (.dat 9)).length:=⟨_,rfl⟩
 have c3:ac E3=true:=by
  rw[hE3]
  simp only[dV,c2,fV (eX o _),Bool.and_self]
 have l3:E3.length=K3*7:=by
  rw[hE3,hK3]
  simp only[List.length_append,l2,iW (eX o _),Nat.add_mul]
 obtain ⟨E4,hE4⟩:∃E,E=E3++flat (aL o .why):=⟨_,rfl⟩
 obtain ⟨K4,hK4⟩:∃K,K=K3+(aL o .why).length:=⟨_,rfl⟩
 have c4:ac E4=true:=by rw[hE4,dV,c3,fV (eX _ _)];rfl
 have l4:E4.length=K4*7:=by rw[hE4,hK4,List.length_append,l3,iW (eX _ _),Nat.add_mul]
 obtain ⟨E5,hE5⟩:∃E,E=E4++flat (aL o .lnk):=⟨_,rfl⟩
 obtain ⟨K5,hK5⟩:∃K,K=K4+o.links.length:=⟨_,rfl⟩
 have c5:ac E5=true:=by rw[hE5,dV,c4,fV (eX _ _)];rfl
 have l5:E5.length=K5*7:=by rw[hE5,hK5,List.length_append,l4,iW (eX _ _),hll,Nat.add_mul]
 obtain ⟨E6,hE6⟩:∃E,E=E5++flat (aL o .lim):=⟨_,rfl⟩
 obtain ⟨K6,hK6⟩:∃K,K=K5+(aL o .lim).length:=⟨_,rfl⟩
 have c6:ac E6=true:=by rw[hE6,dV,c5,fV (eX _ _)];rfl
 have l6:E6.length=K6*7:=by rw[hE6,hK6,List.length_append,l5,iW (eX _ _),Nat.add_mul]
 obtain ⟨E7,hE7⟩:∃E,E=E6++flat (c7 [] o.cust):=⟨_,rfl⟩
 obtain ⟨K7,hK7⟩:∃K,K=K6+o.cust.length:=⟨_,rfl⟩
 have e7:E7=flat (kp o):=by
  rw[hE7,hE6,hE5,hE4,hE3,hE2,hE1,hE0]
  simp only[kp,sg,ej]
 have k7:K7=(kp o).length:=by
  rw[hK7,hK6,hK5,hK4,hK3,hK2,hK1,hK0]
  have h1:(aL o .typ).length=1:=rfl
  have h2:(aL o .mask).length=1:=rfl
  have h3:(aL o .sta).length=1:=rfl
  simp only[kp,sg,List.length_append,hnl,hll,h1,h2,h3,z3]
 have k0:K0=1:=hK0
 have n0:=nd 0
 have n1:=nd 1
 have n2:=nd 2
 have n3:=nd 3
 have n4:=nd 4
 have n5:=nd 5
 have n6:=nd 6
 have n7:=nd 7
 have n8:=nd 8
 have n9:=nd 9
 refine dp (A:=mZ (ap [] [(5,GE (.ofNat o.names.length) K0 K1 (am o) E0 E1),(17,GF (kinds.map aN) K2 K3 (am o) E2 E3),(27,GG (.ofNat o.links.length) K4 K5 (am o) E4 E5),(33,GH (.ofNat o.cust.length) K6 K7 (am o) E6 E7)] (bg [(62,.fsl true (kinds.map aN))]) lI lJ) 24 20 (GI K3 (am o) E3 (fx o))) base0 (oM ao)
  (aw (Sr rfl Ss Su Sv Sw (fun st Q hs=> .seen base0.glob hs.1 ?_) (fun st Q hs=> .seen base0.glob hs.1 ?_) (fun st Q hs=> .seen base0.glob hs.1 ?_) (fun st Q hs=> .seen base0.glob hs.1 ?_))) hcl ?_
 ·have hq:=hs.2
  rw[hE1,hK1] at hq
  have:=Si l0 c0 (by omega) (by omega) hq o.names.length 0 (Nat.zero_add _)
  rw[show o.names.take 0=[] from List.take_zero,show flat (eV (aJ .nam) [] 0)=[] from rfl,List.append_nil] at this
  exact this
 ·have hq:=hs.2
  rw[hE3,hK3] at hq
  exact So c2 l2 (by omega) hq
 ·have hq:=hs.2
  rw[hE5,hK5] at hq
  have:=Sj l4 c4 (by omega) (by omega) hq o.links.length 0 (Nat.zero_add _)
  rw[show o.links.take 0=[] from List.take_zero,show flat (eW [] 0)=[] from rfl,List.append_nil] at this
  exact this
 ·have hq:=hs.2
  rw[hE7,hK7] at hq
  have:=Sq l6 c6 (by omega) (by omega) hq o.cust.length 0 (Nat.zero_add _)
  rw[show o.cust.take 0=[] from List.take_zero,show flat (c7 [] [])=[] from rfl,List.append_nil] at this
  exact this
 ·have hw:=Sx o
  have hr:=Sy o
  revert e7 k7 hw hr
  generalize kp o=AR
  intro e7 k7 hw hr
  have hend:jV (.fsl false ((gq o).map aB)) (.rsl true 2 0 K7 7) [(0,some (.cells (am o))),(1,some (.cells [.rsl true 2 0 K7 7])),(2,some (.cells E7))]:=
   ⟨.fsl false AR,(Frz.row rfl rfl e7 k7 (fun e he=>(hr e he).g) (Ac hr)).out,iS (Ac hr),.rows hw⟩
  unfold az am bV bW bo at*
  rw[Sb]
  intro R1 R2 R3
  have h1:R1:=by
   refine aj (fun e=> ?_) (fun e=> ?_)
   ·have q:=eL (k:=K5) (GZ o) rfl (by omega)
    have q2:=eB l5
    have q3:K6=K5+aa [eu (aJ .lim) 0 (px o)]:=by rw[hK6,m1 e];rfl
    have q4:E5++flat [eu (aJ .lim) 0 (px o)]=E6:=by rw[hE6,m1 e]
    refine aF q ?_
    refine aF q2 ?_
    refine ⟨?_,hend⟩
    exact ⟨⟨⟨rfl,rfl⟩,trivial⟩,⟨⟨rfl,rfl⟩,⟨rfl,rfl⟩,trivial⟩,⟨rfl,hO⟩,⟨⟨rfl,rfl,rfl,q3,rfl⟩,trivial⟩,⟨q4,c6⟩,trivial⟩
   ·have q3:K6=K5:=by rw[hK6,m0 e];rfl
    have q4:E5=E6:=by rw[hE6,m0 e];exact (List.append_nil _).symm
    refine ⟨?_,hend⟩
    exact ⟨⟨⟨rfl,rfl⟩,trivial⟩,⟨⟨rfl,rfl⟩,⟨rfl,rfl⟩,trivial⟩,⟨rfl,hO⟩,⟨⟨rfl,rfl,rfl,q3,rfl⟩,trivial⟩,⟨q4,c6⟩,trivial⟩
  have h2:(!ak o.why 0)=true→R2:=fun ew=>by
   have q:=eL (k:=K3) (GY o) (by unfold fx;split<;>rfl) (by omega)
   have q2:=eB l3
   have hfit:bM Tryz.prog 26 (.agg [I 4325387,I 1,I 0,.nilsl,fx o]) 5=true:=yY (by kernel_rfl) rfl (by unfold fx;split<;>rfl)
   have hfit:(bM Tryz.prog 26 (.agg [I 4325387,I 1,I 0,.nilsl,fx o]) 5&&true)=true:=by rw[hfit];rfl
   have q3:K4=K3+aa [eu (aJ .why) 0 (fx o)]:=by rw[hK4,w1 ew];rfl
   have q4:E3++flat [eu (aJ .why) 0 (fx o)]=E4:=by rw[hE4,w1 ew]
   refine aj (fun e=> ?_) (fun e=> ?_)
   ·have hk:fx o= .fsl false [.agg [I 4325506,I 5,I o.why,.nilsl,.nilsl],.agg [I 4325504,I 7,I 0,.fsl false (ai o.msg),.nilsl]]:=by
     unfold fx
     rw[Bool.not_eq_true'] at e
     rw[e]
    refine ⟨⟨⟨.keepP rfl,.keepP rfl,.keepP rfl,trivial⟩,FrzL.closed _ hO,FrzL.cons (.keepR rfl) .nil,FrzL.closed _ c3,FrzL.cons (.closed _ rfl) (FrzL.cons (.closed _ rfl) (FrzL.cons (.closed _ rfl) (FrzL.cons (.closed _ rfl) (FrzL.cons ?_ .nil)))),trivial⟩,aF hfit (aF q (aF q2 ⟨?_,h1⟩))⟩
    ·rw[hk]
     refine Frz.row (es:=[.agg [I 4325506,I 5,I o.why,.nilsl,.nilsl],.agg [I 4325504,I 7,I 0,.fsl false (ai o.msg),.nilsl]]) rfl rfl rfl rfl (fun e he=> ?_) (by simp[ah,ac])
     simp only[List.mem_cons,List.not_mem_nil,or_false] at he
     rcases he with rfl|rfl<;>exact ⟨rfl,rfl⟩
    ·exact ⟨⟨⟨rfl,rfl⟩,trivial⟩,⟨⟨rfl,rfl⟩,⟨rfl,rfl⟩,trivial⟩,⟨rfl,hO⟩,⟨⟨rfl,rfl,rfl,q3,rfl⟩,trivial⟩,⟨q4,c4⟩,trivial⟩
   ·have hk:fx o= .fsl true [.agg [I 4325506,I 5,I o.why,.nilsl,.nilsl]]:=by
     unfold fx
     rw[Bool.not_eq_false'] at e
     rw[e]
    refine ⟨⟨⟨.keepP rfl,.keepP rfl,.keepP rfl,trivial⟩,FrzL.closed _ hO,FrzL.cons (.keepR rfl) .nil,FrzL.closed _ c3, ?_,trivial⟩,aF hfit (aF q (aF q2 ⟨?_,h1⟩))⟩
    ·rw[hk]
     exact FrzL.closed _ rfl
    ·exact ⟨⟨⟨rfl,rfl⟩,trivial⟩,⟨⟨rfl,rfl⟩,⟨rfl,rfl⟩,trivial⟩,⟨rfl,hO⟩,⟨⟨rfl,rfl,rfl,q3,rfl⟩,trivial⟩,⟨q4,c4⟩,trivial⟩
  have h3:R3:=by
   refine aj (fun e=>h2 e) (fun e=> ?_)
   have q3:K4=K3:=by rw[hK4,w0 e];rfl
   have q4:E3=E4:=by rw[hE4,w0 e];exact (List.append_nil _).symm
   refine ⟨?_,h1⟩
   exact ⟨⟨⟨rfl,rfl⟩,trivial⟩,⟨⟨rfl,rfl⟩,⟨rfl,rfl⟩,trivial⟩,⟨rfl,hO⟩,⟨⟨rfl,rfl,rfl,q3,rfl⟩,trivial⟩,⟨q4,c4⟩,trivial⟩
  have ln:∀x:AV,aa [x]=1:=fun _=>rfl
  have fl:∀x:AV,(flat [x]).length=x.cells.length:=fun x=>by simp[flat]
  have ql:∀ {B:List AV} {k:Nat} {e:AV},B.length=k*7→eA e→(B++flat [e]).length=(k+aa [e])*7:=fun {B} {k} {e} h r=>by
   rw[List.length_append,h,fl,r.l,ln,Nat.add_mul]
  have qt:=iq (aJ .typ) 5 o.ty
  have qa:=iq (aJ .alg) 5 o.alg
  have qn:=iq (aJ .len) 2 o.len
  have qm:=iq (aJ .mask) 2 o.mask
  have qs:=iq (aJ .sta) 5 o.st
  have z0:E2=E1++flat [cr (aJ .typ) 5 o.ty]++flat (aL o .alg)++flat (aL o .len)++flat [cr (aJ .mask) 2 o.mask]++flat [cr (aJ .sta) 5 o.st]:=hE2
  have fn:flat ([]:List AV)=[]:=rfl
  refine ⟨⟨⟨⟨rfl,rfl⟩,trivial⟩,⟨⟨rfl,rfl⟩,⟨rfl,rfl⟩,trivial⟩,⟨rfl,hO⟩,⟨⟨rfl,rfl,rfl,k0,rfl⟩,trivial⟩,⟨hE0.symm,c0⟩,trivial⟩,aF (eL qt rfl (by omega)) (aF (eB l1) (aj (fun e=> ?_) (fun e=> ?_)))⟩
  ·refine aF (eL qa rfl (by simp only[ln];omega)) (aF (eB (ql l1 qt)) (aj (fun e2=> ?_) (fun e2=> ?_)))
   ·rw[a1 e,b1 e2] at z0
    have z1:K2=K1+aa [cr (aJ .typ) 5 o.ty]+aa [cr (aJ .alg) 5 o.alg]+aa [cr (aJ .len) 2 o.len]+aa [cr (aJ .mask) 2 o.mask]+aa [cr (aJ .sta) 5 o.st]:=by
     rw[hK2,a1 e,b1 e2];rfl
    exact aF (eL qn rfl (by simp only[ln];omega)) (aF (eB (ql (ql l1 qt) qa)) (aF (eL qm rfl (by simp only[ln];omega)) (aF (eB (ql (ql (ql l1 qt) qa) qn)) (aF (eL qs rfl (by simp only[ln];omega)) (aF (eB (ql (ql (ql (ql l1 qt) qa) qn) qm)) (⟨rX,⟨⟨⟨rfl,hT⟩,⟨rfl,rfl⟩,trivial⟩,⟨⟨rfl,rfl⟩,⟨rfl,rfl⟩,trivial⟩,⟨rfl,hO⟩,⟨⟨rfl,rfl,rfl,z1,rfl⟩,trivial⟩,⟨z0.symm,c2⟩,trivial⟩,h3⟩))))))
   ·rw[a1 e,b0 e2,fn] at z0
    simp only[List.append_nil] at z0
    have z1:K2=K1+aa [cr (aJ .typ) 5 o.ty]+aa [cr (aJ .alg) 5 o.alg]+aa [cr (aJ .mask) 2 o.mask]+aa [cr (aJ .sta) 5 o.st]:=by
     rw[hK2,a1 e,b0 e2];rfl
    exact aF (eL qm rfl (by simp only[ln];omega)) (aF (eB (ql (ql l1 qt) qa)) (aF (eL qs rfl (by simp only[ln];omega)) (aF (eB (ql (ql (ql l1 qt) qa) qm)) (⟨rX,⟨⟨⟨rfl,hT⟩,⟨rfl,rfl⟩,trivial⟩,⟨⟨rfl,rfl⟩,⟨rfl,rfl⟩,trivial⟩,⟨rfl,hO⟩,⟨⟨rfl,rfl,rfl,z1,rfl⟩,trivial⟩,⟨z0.symm,c2⟩,trivial⟩,h3⟩))))
  ·refine aj (fun e2=> ?_) (fun e2=> ?_)
   ·rw[a0 e,b1 e2,fn] at z0
    simp only[List.append_nil] at z0
    have z1:K2=K1+aa [cr (aJ .typ) 5 o.ty]+aa [cr (aJ .len) 2 o.len]+aa [cr (aJ .mask) 2 o.mask]+aa [cr (aJ .sta) 5 o.st]:=by
     rw[hK2,a0 e,b1 e2];rfl
    exact aF (eL qn rfl (by simp only[ln];omega)) (aF (eB (ql l1 qt)) (aF (eL qm rfl (by simp only[ln];omega)) (aF (eB (ql (ql l1 qt) qn)) (aF (eL qs rfl (by simp only[ln];omega)) (aF (eB (ql (ql (ql l1 qt) qn) qm)) (⟨rX,⟨⟨⟨rfl,hT⟩,⟨rfl,rfl⟩,trivial⟩,⟨⟨rfl,rfl⟩,⟨rfl,rfl⟩,trivial⟩,⟨rfl,hO⟩,⟨⟨rfl,rfl,rfl,z1,rfl⟩,trivial⟩,⟨z0.symm,c2⟩,trivial⟩,h3⟩))))))
   ·rw[a0 e,b0 e2,fn] at z0
    simp only[List.append_nil] at z0
    have z1:K2=K1+aa [cr (aJ .typ) 5 o.ty]+aa [cr (aJ .mask) 2 o.mask]+aa [cr (aJ .sta) 5 o.st]:=by
     rw[hK2,a0 e,b0 e2];rfl
    exact aF (eL qm rfl (by simp only[ln];omega)) (aF (eB (ql l1 qt)) (aF (eL qs rfl (by simp only[ln];omega)) (aF (eB (ql (ql l1 qt) qm)) (⟨rX,⟨⟨⟨rfl,hT⟩,⟨rfl,rfl⟩,trivial⟩,⟨⟨rfl,rfl⟩,⟨rfl,rfl⟩,trivial⟩,⟨rfl,hO⟩,⟨⟨rfl,rfl,rfl,z1,rfl⟩,trivial⟩,⟨z0.symm,c2⟩,trivial⟩,h3⟩))))
noncomputable section
def eC (s:List UInt8) (i:Int) (Ls:List AV):View:=⟨[(1,.str s),(5,.nilsl),(6,.fsl false Ls),(7,I i)],[],[],0,31⟩
def dQ (s:List UInt8) (i:Int) (k:Nat) (Ls es:List AV):View:=⟨[(1,.str s),(6,.fsl false Ls),(7,I i)],[(5,.rsl true 0 0 k 7)],[(0,.cells es,.whole)],1,31⟩
@[simp] abbrev kq (Ls:List AV):=(AV.fsl false Ls=AV.fsl false Ls∧ah (AV.fsl false Ls)=true)
abbrev gS (D K:List AV) (a q t y:Int) (n:List UInt8):=[AV.str n,I a,I t,I y,I q,AV.fsl false D,AV.fsl false K]
@[simp] abbrev ku (s:List UInt8):=(AV.str s=AV.str s∧ah (AV.str s)=true)
@[simp] abbrev sk:=(AV.nilsl=AV.nilsl∧true=true)
theorem G7 (s n:List UInt8) (a t y q:Int) (D K Ls:List AV) (i j:Int) (N:Prop) (Q:AExit→St→Prop):aI Tryz.prog opts0 40 (ap [(6,2,.res (.fptr (.str n::I a::ag t y q D K) 0)),(6,6,.res (.bool false))] [] aH [] []) (aD Tryz.prog 64 5) (eC s i Ls).st (bf 0 [] (eC s j Ls) N [] (eC s i Ls) Q)=
  (ab (aq i (Int.ofNat (aa Ls))) (aC Tryz.prog 54 (AV.fsl false Ls) (I i)=some (AV.fptr (gS D K a q t y n) 0)∧aM Tryz.prog BinOp.eql 9 (Operand.tmp 20) (Operand.tmp 21) (AV.str n) (AV.str s)=some (AV.bool false)∧(((ku s)∧sk∧(kq Ls)∧(I (ar IntKind.i64 (i+1))=I j∧ah (I j)=true)∧True)∧True∧True)∧N) ((((ku s)∧sk∧(kq Ls)∧(I i=I i∧ah (I i)=true)∧True)∧True∧True)∧Q (AExit.exit 0) (eC s i Ls).st)):=by kernel_rfl
abbrev G8 (D K:List AV) (a q t y:Int) (n:List UInt8):=(ap [(6,2,.res (AV.fptr (AV.str n::I a::ag t y q D K) 0)),(6,6,.res (AV.bool true)),(7,3,.res (AV.fptr (AV.str n::I a::ag t y q D K) 0))] [] aH [] [])
theorem SA (s n:List UInt8) (a t y q:Int) (D K Ls es:List AV) (i j:Int) (k:Nat) (N:Prop) (Q:AExit→St→Prop):aI Tryz.prog opts0 40 (G8 D K a q t y n) (aD Tryz.prog 64 5) (eC s i Ls).st (bf 0 [(0,17)] (dQ s j k Ls es) N [] (eC s i Ls) Q)=
  (ab (aq i (Int.ofNat (aa Ls))) (aC Tryz.prog 54 (AV.fsl false Ls) (I i)=some (AV.fptr (gS D K a q t y n) 0)∧aM Tryz.prog BinOp.eql 9 (Operand.tmp 20) (Operand.tmp 21) (AV.str n) (AV.str s)=some (AV.bool true)∧aC Tryz.prog 54 (AV.fsl false Ls) (I i)=some (AV.fptr (gS D K a q t y n) 0)∧(((ku s)∧(kq Ls)∧(I (ar IntKind.i64 (i+1))=I j∧ah (I j)=true)∧True)∧((true=true∧some 17=some 17∧0=0∧k=aa [AV.agg (gS D K a q t y n)]∧7=7)∧True)∧(flat [AV.agg (gS D K a q t y n)]=es∧ac es=true)∧True)∧N) ((((ku s)∧sk∧(kq Ls)∧(I i=I i∧ah (I i)=true)∧True)∧True∧True)∧Q (AExit.exit 0) (eC s i Ls).st)):=by kernel_rfl
@[simp] abbrev G9 (Ls es:List AV) (Q:AExit→St→Prop) (i:Int) (k:Nat) (s:List UInt8):=((((ku s)∧(kq Ls)∧(I i=I i∧ah (I i)=true)∧True)∧((true=true∧some 0=some 0∧0=0∧k=k∧7=7)∧True)∧(es=es∧ac es=true)∧True)∧Q (AExit.exit 0) (dQ s i k Ls es).st)
theorem Ha (s n:List UInt8) (a t y q:Int) (D K Ls es:List AV) (i j:Int) (k:Nat) (N:Prop) (Q:AExit→St→Prop):aI Tryz.prog opts0 40 (ap [(6,2,.res (.fptr (.str n::I a::ag t y q D K) 0)),(6,6,.res (.bool false))] [] aH [] []) (aD Tryz.prog 64 5) (dQ s i k Ls es).st (bf 0 [(0,0)] (dQ s j k Ls es) N [(0,0)] (dQ s i k Ls es) Q)=
  (ab (aq i (Int.ofNat (aa Ls))) (aC Tryz.prog 54 (AV.fsl false Ls) (I i)=some (AV.fptr (gS D K a q t y n) 0)∧aM Tryz.prog BinOp.eql 9 (Operand.tmp 20) (Operand.tmp 21) (AV.str n) (AV.str s)=some (AV.bool false)∧(((ku s)∧(kq Ls)∧(I (ar IntKind.i64 (i+1))=I j∧ah (I j)=true)∧True)∧((true=true∧some 0=some 0∧0=0∧k=k∧7=7)∧True)∧(es=es∧ac es=true)∧True)∧N) (G9 Ls es Q i k s)):=by kernel_rfl
theorem SB (s n:List UInt8) (a t y q:Int) (D K Ls es es':List AV) (i j:Int) (k k':Nat) (N:Prop) (Q:AExit→St→Prop):aI Tryz.prog opts0 40 (G8 D K a q t y n) (aD Tryz.prog 64 5) (dQ s i k Ls es).st (bf 0 [(0,18)] (dQ s j k' Ls es') N [(0,0)] (dQ s i k Ls es) Q)=
  (ab (aq i (Int.ofNat (aa Ls))) (aC Tryz.prog 54 (AV.fsl false Ls) (I i)=some (AV.fptr (gS D K a q t y n) 0)∧aM Tryz.prog BinOp.eql 9 (Operand.tmp 20) (Operand.tmp 21) (AV.str n) (AV.str s)=some (AV.bool true)∧aC Tryz.prog 54 (AV.fsl false Ls) (I i)=some (AV.fptr (gS D K a q t y n) 0)∧au (a8 7 [AV.agg (gS D K a q t y n)]&&(((k+aa [AV.agg (gS D K a q t y n)])*96).ble 140737488355328&&(bc (flat [AV.agg (gS D K a q t y n)])&&true))) (au ((aa es).beq (k*7)) ((((ku s)∧(kq Ls)∧(I (ar IntKind.i64 (i+1))=I j∧ah (I j)=true)∧True)∧((true=true∧some 18=some 18∧0=0∧k'=k+aa [AV.agg (gS D K a q t y n)]∧7=7)∧True)∧(es++flat [AV.agg (gS D K a q t y n)]=es'∧ac es'=true)∧True)∧N))) (G9 Ls es Q i k s)):=by kernel_rfl
def Hb (s:List UInt8) (n:Int) (Ls:List AV):bq:=fun st Q=>ck 0 [] (eC s 0 Ls) st∧Q (.exit 0) (eC s n Ls).st
def Hc (s:List UInt8) (n:Int) (k:Nat) (Ls es:List AV):bq:=fun st Q=>ck 0 [] (eC s 0 Ls) st∧Q (.exit 0) (dQ s n k Ls es).st
theorem SD (s:List UInt8) (n:Int) (Ls:List AV) (o:Ob) (M N L C:AV) (Q:AV→af→Prop):ax Tryz.prog opts0 40 (ap [] [(5,Hb s n Ls)] (bg [(133,.fsl false Ls)]) [] []) 64 [.agg (ae o M N L C),.str s] [] 0 (fun v H _=>Q v H)=
  (SC 133 [AV.agg (ae o M N L C)] (AV.fsl false Ls)∧(((ku s)∧sk∧(kq Ls)∧(I 0=I 0∧true=true)∧True)∧True∧True)∧Q AV.nilsl []):=by kernel_rfl
theorem SE (s:List UInt8) (n:Int) (k:Nat) (Ls es:List AV) (o:Ob) (M N L C:AV) (Q:AV→af→Prop):ax Tryz.prog opts0 40 (ap [] [(5,Hc s n k Ls es)] (bg [(133,.fsl false Ls)]) [] []) 64 [.agg (ae o M N L C),.str s] [] 0 (fun v H _=>Q v H)=
  (SC 133 [AV.agg (ae o M N L C)] (AV.fsl false Ls)∧(((ku s)∧sk∧(kq Ls)∧(I 0=I 0∧true=true)∧True)∧True∧True)∧Q (AV.rsl true 0 0 k 7) [(0,some (Blk.cells es))]):=by kernel_rfl
end
end Go.Proofs.YtmnlofhodbnenaaGreatDoor
namespace Go.Proofs.YtmnlofhodbnenaaGreatDoor
set_option maxRecDepth 20000
open Go Go.RowKit
open Go.Proofs.Abs
theorem SF (a b:Tmp) (x y:List UInt8):aM Tryz.prog .eql 9 (.tmp a) (.tmp b) (.str x) (.str y)=some (.bool (aA x y)):=by kernel_rfl
theorem He {f:Bool} {l:List At} {i:Nat} {s:List UInt8} {k t y n:Int} {d:List UInt8} {ks:List It} (hx:l[i]? =some ⟨s,k,.mk t y n d ks⟩):aC Tryz.prog 54 (.fsl f (l.map aB)) (.int .i64 (.ofNat i))=some (.fptr (.str s::I k::ag t y n (ai d) (ad ks)) 0):=
 fN (v:=aB ⟨s,k,.mk t y n d ks⟩) (e:=58) (sz:=7) (by kernel_rfl) (by kernel_rfl) (by rw[List.getElem?_map,hx];rfl) rfl
noncomputable def Hf (s:List UInt8) (i:Int) (Ls:List AV):List At→View
 |[]=>eC s i Ls
 |a::r=>dQ s i (r.length+1) Ls (flat ((a::r).map aB))
theorem SG (s:List UInt8) (l:List At) (a:At):dF s (l++[a])=dF s l++(match aA a.name s with|true=>[a]|false=>[]):=by
 unfold dF
 rw[List.filter_append,List.filter_cons]
 cases aA a.name s<;>rfl
theorem SH {s:List UInt8} {L:List At} {Q:AExit→St→Prop} (hb:L.length≤90000) (hq:Q (.exit 0) (Hf s (.ofNat L.length) (L.map aB) (dF s L)).st):
  ∀m i:Nat,i+m=L.length→ALp Tryz.prog opts0.glob 0 (aD Tryz.prog 64 5) (Hf s (.ofNat i) (L.map aB) (dF s (L.take i))).st Q:=by
 have hL:=ip L
 have hlen:aa (L.map aB)=L.length:=by rw[aE,List.length_map]
 intro m
 induction m with
 | zero=>
  intro i hi
  rw[Nat.add_zero] at hi
  subst hi
  rw[List.take_of_length_le (Nat.le_refl _)]
  revert hq
  generalize dF s L=out
  intro hq
  have hno:aq (Int.ofNat L.length) (Int.ofNat (aa (L.map aB)))=true→False:=fun e=>nu (hlen▸e)
  match out,hq with
  |[],hq=>
   refine ALp.round (A:=ap [(6,2,.res (.fptr (.str []::I 0::ag 0 0 0 [] []) 0)),(6,6,.res (.bool false))] [] aH [] []) (V2:=eC s 0 (L.map aB)) (F:=eC s (.ofNat L.length) (L.map aB)) (lk:=[]) (lk':=[]) base0 ao (LsOk.no rfl) .refl ?_
   show aI Tryz.prog opts0 40 _ _ (eC s (.ofNat L.length) (L.map aB)).st _
   rw[G7]
   exact aj (fun e=>(hno e).elim) fun _=>⟨⟨⟨⟨rfl,rfl⟩,⟨rfl,rfl⟩,⟨rfl,hL⟩,⟨rfl,rfl⟩,trivial⟩,trivial,trivial⟩,hq⟩
  |a::r,hq=>
   have hc:=rV (a::r)
   refine ALp.round (A:=ap [(6,2,.res (.fptr (.str []::I 0::ag 0 0 0 [] []) 0)),(6,6,.res (.bool false))] [] aH [] []) (V2:=dQ s 0 (r.length+1) (L.map aB) (flat ((a::r).map aB))) (F:=dQ s (.ofNat L.length) (r.length+1) (L.map aB) (flat ((a::r).map aB))) (lk:=[(0,0)]) (lk':=[(0,0)]) base0 ao (LsOk.no rfl) .refl ?_
   show aI Tryz.prog opts0 40 _ _ (dQ s (.ofNat L.length) (r.length+1) (L.map aB) (flat ((a::r).map aB))).st _
   rw[Ha]
   exact aj (fun e=>(hno e).elim) fun _=>⟨⟨⟨⟨rfl,rfl⟩,⟨rfl,hL⟩,⟨rfl,rfl⟩,trivial⟩,⟨⟨rfl,rfl,rfl,rfl,rfl⟩,trivial⟩,⟨rfl,hc⟩,trivial⟩,hq⟩
 | succ m ih=>
  intro i hi
  have hlt:i<L.length:=by omega
  have g:=List.getElem?_eq_getElem hlt
  have ih:=ih (i+1) (by omega)
  rw[lw g,SG] at ih
  have htl:(dF s (L.take i)).length≤90000:=by
   have h1:=List.length_filter_le (fun a:At=>aA a.name s) (L.take i)
   have h2:(L.take i).length≤L.length:=List.length_take_le' i L
   exact Nat.le_trans h1 (Nat.le_trans h2 hb)
  revert g ih htl
  generalize L[i]=a
  generalize dF s (L.take i)=out
  obtain ⟨n,idx,⟨t,y,q,d,ks⟩⟩:=a
  intro g ih htl
  have gx:=He (f:=false) g
  have hw:=dG (p:=i) (by omega)
  have hyes:∀e:aq (Int.ofNat i) (Int.ofNat (aa (L.map aB)))=false,False:=fun e=>gR hlt (hlen▸e)
  have he:=SF 20 21 n s
  simp only at ih
  cases hx:aA n s with
  | false=>
   rw[hx] at ih he
   rw[List.append_nil] at ih
   match out,ih with
   |[],ih=>
    refine ALp.round (A:=ap [(6,2,.res (.fptr (.str n::I idx::ag t y q (ai d) (ad ks)) 0)),(6,6,.res (.bool false))] [] aH [] []) (V2:=eC s (.ofNat (i+1)) (L.map aB)) (F:=eC s (.ofNat i) (L.map aB)) (lk:=[]) (lk':=[]) base0 ao (LsOk.no rfl) .refl ?_
    show aI Tryz.prog opts0 40 _ _ (eC s (.ofNat i) (L.map aB)).st _
    rw[G7,hw]
    exact aj (fun _=>⟨gx,he,⟨⟨⟨rfl,rfl⟩,⟨rfl,rfl⟩,⟨rfl,hL⟩,⟨rfl,rfl⟩,trivial⟩,trivial,trivial⟩,ih⟩) fun e=>(hyes e).elim
   |b::r,ih=>
    have hc:=rV (b::r)
    refine ALp.round (A:=ap [(6,2,.res (.fptr (.str n::I idx::ag t y q (ai d) (ad ks)) 0)),(6,6,.res (.bool false))] [] aH [] []) (V2:=dQ s (.ofNat (i+1)) (r.length+1) (L.map aB) (flat ((b::r).map aB))) (F:=dQ s (.ofNat i) (r.length+1) (L.map aB) (flat ((b::r).map aB))) (lk:=[(0,0)]) (lk':=[(0,0)]) base0 ao (LsOk.no rfl) .refl ?_
    show aI Tryz.prog opts0 40 _ _ (dQ s (.ofNat i) (r.length+1) (L.map aB) (flat ((b::r).map aB))).st _
    rw[Ha,hw]
    exact aj (fun _=>⟨gx,he,⟨⟨⟨rfl,rfl⟩,⟨rfl,hL⟩,⟨rfl,rfl⟩,trivial⟩,⟨⟨rfl,rfl,rfl,rfl,rfl⟩,trivial⟩,⟨rfl,hc⟩,trivial⟩,ih⟩) fun e=>(hyes e).elim
  | true=>
   rw[hx] at ih he
   match out,ih,htl with
   |[],ih,_=>
    have hc:=rV [⟨n,idx,.mk t y q d ks⟩]
    refine ALp.round (A:=ap [(6,2,.res (.fptr (.str n::I idx::ag t y q (ai d) (ad ks)) 0)),(6,6,.res (.bool true)),(7,3,.res (.fptr (.str n::I idx::ag t y q (ai d) (ad ks)) 0))] [] aH [] []) (V2:=dQ s (.ofNat (i+1)) 1 (L.map aB) (flat ([(⟨n,idx,.mk t y q d ks⟩:At)].map aB))) (F:=eC s (.ofNat i) (L.map aB)) (lk:=[(0,17)]) (lk':=[]) base0 ao (LsOk.no rfl) .refl ?_
    show aI Tryz.prog opts0 40 _ _ (eC s (.ofNat i) (L.map aB)).st _
    rw[SA,hw]
    exact aj (fun _=>⟨gx,he,gx,⟨⟨⟨rfl,rfl⟩,⟨rfl,hL⟩,⟨rfl,rfl⟩,trivial⟩,⟨⟨rfl,rfl,rfl,rfl,rfl⟩,trivial⟩,⟨rfl,hc⟩,trivial⟩,ih⟩) fun e=>(hyes e).elim
   |b::r,ih,htl=>
    have e1:flat ((b::r++[(⟨n,idx,.mk t y q d ks⟩:At)]).map aB)=flat ((b::r).map aB)++flat [.agg [.str n,I idx,I t,I y,I q,.fsl false (ai d),.fsl false (ad ks)]]:=by rw[List.map_append,ej];rfl
    have e2:(r++[(⟨n,idx,.mk t y q d ks⟩:At)]).length+1=r.length+1+1:=by rw[List.length_append];rfl
    have hc:=rV (b::r++[(⟨n,idx,.mk t y q d ks⟩:At)])
    have hfl:=nZ (b::r)
    have ih:ALp Tryz.prog opts0.glob 0 (aD Tryz.prog 64 5) (dQ s (.ofNat (i+1)) ((r++[(⟨n,idx,.mk t y q d ks⟩:At)]).length+1) (L.map aB) (flat ((b::r++[(⟨n,idx,.mk t y q d ks⟩:At)]).map aB))).st Q:=ih
    rw[e1] at ih hc
    rw[e2] at ih
    rw[List.length_cons] at htl hfl
    refine ALp.round (A:=ap [(6,2,.res (.fptr (.str n::I idx::ag t y q (ai d) (ad ks)) 0)),(6,6,.res (.bool true)),(7,3,.res (.fptr (.str n::I idx::ag t y q (ai d) (ad ks)) 0))] [] aH [] []) (V2:=dQ s (.ofNat (i+1)) (r.length+1+1) (L.map aB) (flat ((b::r).map aB)++flat [.agg [.str n,I idx,I t,I y,I q,.fsl false (ai d),.fsl false (ad ks)]])) (F:=dQ s (.ofNat i) (r.length+1) (L.map aB) (flat ((b::r).map aB))) (lk:=[(0,18)]) (lk':=[(0,0)]) base0 ao (LsOk.no rfl) .refl ?_
    show aI Tryz.prog opts0 40 _ _ (dQ s (.ofNat i) (r.length+1) (L.map aB) (flat ((b::r).map aB))).st _
    rw[SB,hw]
    refine aj (fun _=>⟨gx,he,gx,aF ?_ (aF (eB hfl) ⟨⟨⟨⟨rfl,rfl⟩,⟨rfl,hL⟩,⟨rfl,rfl⟩,trivial⟩,⟨⟨rfl,rfl,rfl,rfl,rfl⟩,trivial⟩,⟨rfl,hc⟩,trivial⟩,ih⟩)⟩) fun e=>(hyes e).elim
    simp[a8,bc,flat,AV.cells,aa]
    omega
theorem Hg:bu (cy Tryz.prog 64) 5=[aD Tryz.prog 64 5]:=by kernel_rfl
theorem SI {o:Ob} (ho:dO o) (hb:(gq o).length≤90000) (s:List UInt8):SC 64 [az o,.str s] (.fsl false ((dF s (gq o)).map aB)):=by
 have hall:=Sz ho
 have hcl:=dj o (c:=[.str s]) rfl
 have hL:=ip (gq o)
 have hrun:=fun Q hq=>SH (s:=s) (Q:=Q) hb hq (gq o).length 0 (Nat.zero_add _)
 rw[List.take_zero] at hrun
 revert hrun hall hL
 generalize gq o=L
 intro hall hL hrun
 cases hout:dF s L with
 | nil=>
  rw[hout] at hrun
  refine dp (A:=ap [] [(5,Hb s (.ofNat L.length) (L.map aB))] (bg [(133,.fsl false (L.map aB))]) [] []) base0 ao
   (aw (LsOk.at1 rfl Hg fun st Q hs=> .seen base0.glob hs.1 (hrun Q hs.2))) hcl ?_
  unfold az am at*
  rw[SD]
  exact ⟨hall,⟨⟨⟨rfl,rfl⟩,⟨rfl,rfl⟩,⟨rfl,hL⟩,⟨rfl,rfl⟩,trivial⟩,trivial,trivial⟩,.nilsl,(Frz.closed _ rfl).out,rfl,.nil⟩
 | cons a r=>
  rw[hout] at hrun
  refine dp (A:=ap [] [(5,Hc s (.ofNat L.length) (r.length+1) (L.map aB) (flat ((a::r).map aB)))] (bg [(133,.fsl false (L.map aB))]) [] []) base0 ao
   (aw (LsOk.at1 rfl Hg fun st Q hs=> .seen base0.glob hs.1 (hrun Q hs.2))) hcl ?_
  unfold az am at*
  rw[SE]
  exact ⟨hall,⟨⟨⟨rfl,rfl⟩,⟨rfl,rfl⟩,⟨rfl,hL⟩,⟨rfl,rfl⟩,trivial⟩,trivial,trivial⟩,.fsl false ((a::r).map aB),(Frz.row rfl rfl rfl (by rw[List.length_map];rfl) (fun e he=>by obtain ⟨a,_,rfl⟩:=List.mem_map.1 he;exact RS a) (ip _)).out,iS (ip _),.refl _⟩
end Go.Proofs.YtmnlofhodbnenaaGreatDoor
namespace Go.Proofs.YtmnlofhodbnenaaGreatDoor
open Go Go.RowKit
open Go.Proofs.Abs
noncomputable section
def SJ (sh r0 r1 r2:Bool):List AV→Option AV
 | [_,.int _ t,_]=>match ak t 4325387 with
  |true=>some (.bool sh)
  | false=>match ak t 4325451||ak t 4325527 with
   |true=>some (.bool r0)
   |false=>match ak t 4325452||ak t 4325526 with
    |true=>some (.bool r1)
    |false=>some (.bool r2)
 |_=>none
def gT (c0 c1 c2:List AV) (sh r0 r1 r2 tx:Bool):aX:=ap [(11,7,.res (.fptr c0 0)),(11,14,.res (.fptr c0 0)),(11,22,.res (.fptr c0 0)),(11,30,.res (.fptr c1 0)),(11,37,.res (.fptr c1 0)),(13,7,.res (.fptr c0 0)),(13,15,.res (.fptr c1 0)),(13,23,.res (.fptr c2 0)),(15,2,.res (.fptr c0 0)),(16,2,.res (.fptr c1 0)),(17,2,.res (.fptr c2 0))] [] (dW [(38,SJ sh r0 r1 r2),(132,fun _=>some (.bool tx))]) [] []
abbrev nv (D0 K0:List AV) (n0 t0 y0:Int):=[I t0,I y0,I n0,AV.fsl false D0,AV.fsl false K0]
abbrev pA (D1 K1:List AV) (n1 t1 y1:Int):=[I t1,I y1,I n1,AV.fsl false D1,AV.fsl false K1]
theorem gu (nm ch st:List UInt8) (ty da:Int) (ma se:Bool) (t y n t0 y0 n0 t1 y1 n1 t2 y2 n2:Int) (D K D0 K0 D1 K1 D2 K2:List AV) (sh r0 r1 r2 tx:Bool) (Q:AV→Prop):ax Tryz.prog opts0 40 (gT (ag t0 y0 n0 D0 K0) (ag t1 y1 n1 D1 K1) (ag t2 y2 n2 D2 K2) sh r0 r1 r2 tx) 66 [.agg [.str nm,I ty,.bool ma,.bool se,.str ch,.str st,I da],.agg (ag t y n D K)] [] 0 (fun v _ _=>Q v)=
  (SC 38 [AV.agg [I t,I y,I n,AV.fsl false D,AV.fsl false K],I 4325387,I ty] (AV.bool sh)∧ab (!sh) (Q (AV.bool false)) (ab (aA nm [67,114,121,112,116,111,103,114,97,112,104,105,99,32,65,108,103,111,114,105,116,104,109]) (ab (!aq n 1) (Q (AV.bool !aq 100 n)) (Q (AV.bool false))) (ab (aA nm [67,114,121,112,116,111,103,114,97,112,104,105,99,32,76,101,110,103,116,104]) (ab (!aq n 1) (Q (AV.bool !aq 100000 n)) (Q (AV.bool false))) (ab (aA nm [67,114,121,112,116,111,103,114,97,112,104,105,99,32,85,115,97,103,101,32,77,97,115,107]) (ab (!aq n 0) (Q (AV.bool !aq 1048575 n)) (Q (AV.bool false))) (ab (aA nm [76,105,110,107]) (ab (ak (Int.ofNat (aa K)) 2) (aC Tryz.prog 24 (AV.fsl false K) (I 0)=some (AV.fptr (nv D0 K0 n0 t0 y0) 0)∧SC 38 [AV.agg (nv D0 K0 n0 t0 y0),I 4325451,I 5] (AV.bool r0)∧ab r0 (aC Tryz.prog 24 (AV.fsl false K) (I 0)=some (AV.fptr (nv D0 K0 n0 t0 y0) 0)∧ab (!aq n0 101) (aC Tryz.prog 24 (AV.fsl false K) (I 0)=some (AV.fptr (nv D0 K0 n0 t0 y0) 0)∧ab (!aq 110 n0) (aC Tryz.prog 24 (AV.fsl false K) (I 1)=some (AV.fptr (pA D1 K1 n1 t1 y1) 0)∧SC 38 [AV.agg (pA D1 K1 n1 t1 y1),I 4325452,I 7] (AV.bool r1)∧ab r1 (aC Tryz.prog 24 (AV.fsl false K) (I 1)=some (AV.fptr (pA D1 K1 n1 t1 y1) 0)∧au (cW D1).isSome (SC 132 [AV.str (gH D1)] (AV.bool tx)∧Q (AV.bool tx))) (Q (AV.bool false))) (Q (AV.bool false))) (Q (AV.bool false))) (Q (AV.bool false))) (Q (AV.bool false))) (ab (aA nm [85,115,97,103,101,32,76,105,109,105,116,115]) (ab (!ak (Int.ofNat (aa K)) 3) (Q (AV.bool false)) (aC Tryz.prog 24 (AV.fsl false K) (I 0)=some (AV.fptr (nv D0 K0 n0 t0 y0) 0)∧SC 38 [AV.agg (nv D0 K0 n0 t0 y0),I 4325527,I 3] (AV.bool r0)∧ab (!r0) (Q (AV.bool false)) (aC Tryz.prog 24 (AV.fsl false K) (I 1)=some (AV.fptr (pA D1 K1 n1 t1 y1) 0)∧SC 38 [AV.agg (pA D1 K1 n1 t1 y1),I 4325526,I 3] (AV.bool r1)∧ab (!r1) (Q (AV.bool false)) (aC Tryz.prog 24 (AV.fsl false K) (I 2)=some (AV.fptr [I t2,I y2,I n2,AV.fsl false D2,AV.fsl false K2] 0)∧SC 38 [AV.agg [I t2,I y2,I n2,AV.fsl false D2,AV.fsl false K2],I 4325528,I 5] (AV.bool r2)∧ab (!r2) (Q (AV.bool false)) (aC Tryz.prog 24 (AV.fsl false K) (I 0)=some (AV.fptr (nv D0 K0 n0 t0 y0) 0)∧aC Tryz.prog 24 (AV.fsl false K) (I 1)=some (AV.fptr (pA D1 K1 n1 t1 y1) 0)∧aC Tryz.prog 24 (AV.fsl false K) (I 2)=some (AV.fptr [I t2,I y2,I n2,AV.fsl false D2,AV.fsl false K2] 0)∧ab (!aq n0 1) (ab (!aq 1099511627776 n0) (ab (!aq n1 0) (ab (!aq n0 n1) (ab (ak n2 1) (Q (AV.bool true)) (Q (AV.bool (ak n2 2)))) (Q (AV.bool false))) (Q (AV.bool false))) (Q (AV.bool false))) (Q (AV.bool false))))))) (ab (!aq da 0) (ab (!aq n (Int.negSucc 1099511627775)) (Q (AV.bool !aq 1099511627776 n)) (Q (AV.bool false))) (au (cW D).isSome (SC 132 [AV.str (gH D)] (AV.bool tx)∧Q (AV.bool tx)))))))))):=by kernel_rfl
theorem SK (o:Ob) (M N L C:AV) (s:List UInt8) (Ls:List AV) (Q:AV→Prop):ax Tryz.prog opts0 40 (ap [] [] (bg [(64,.fsl false Ls)]) [] []) 65 [.agg (ae o M N L C),.str s] [] 0 (fun v _ _=>Q v)=
  (ab (aA s [67,114,121,112,116,111,103,114,97,112,104,105,99,32,85,115,97,103,101,32,77,97,115,107]) (Q (AV.bool !ak o.5 0)) (SC 64 [AV.agg (ae o M N L C),AV.str s] (AV.fsl false Ls)∧Q (AV.bool (aq 0 (Int.ofNat (aa Ls)))))):=by kernel_rfl
theorem SL (o:Ob) (M:AV) (Ns Ls Cs:List AV) (s:List UInt8) (c:Bool) (Q:AV→Prop):ax Tryz.prog opts0 40 (ap [] [] (bg [(63,.bool c)]) [] []) 67 [.agg (ae o M (.fsl false Ns) (.fsl false Ls) (.fsl false Cs)),.str s] [] 0 (fun v _ _=>Q v)=
  (ab (aA s [78,97,109,101]) (Q (AV.bool !aq (Int.ofNat (aa Ns)) 6)) (ab (aA s [76,105,110,107]) (Q (AV.bool !aq (Int.ofNat (aa Ls)) 8)) (SC 63 [AV.str s] (AV.bool c)∧ab c (Q (AV.bool !aq (Int.ofNat (aa Cs)) 6)) (Q (AV.bool false))))):=by kernel_rfl
def vo (c:List AV) (b:Bool):aX:=ap [(5,6,.res (.fptr c 0))] [] (bg [(134,.bool b)]) [] []
end
end Go.Proofs.YtmnlofhodbnenaaGreatDoor
namespace Go.Proofs.YtmnlofhodbnenaaGreatDoor
set_option maxRecDepth 20000
open Go Go.RowKit
open Go.Proofs.Abs
theorem mT {c:Bool} {T F:Prop} (h:c=true) (t:T):ab c T F:=aj (fun _=>t) fun e=>by rw[h] at e;cases e
theorem mF {c:Bool} {T F:Prop} (h:c=false) (f:F):ab c T F:=aj (fun e=>by rw[h] at e;cases e) fun _=>f
def eY (v:It):Kd→Bool
 | .lim=>bp v 4325387 1&&di (aV v)
 |k=>gn zO v k
def iX (k:Kd):Prop:=∀s,k= .cus s→∀j∈kinds,aJ j≠s
theorem kv {s:List UInt8} {j:Kd} (h:iX (.cus s)) (hj:j∈kinds):aA s (aJ j)=false:=vi fun e=>h s rfl j hj e.symm
theorem SM (n:Int):kf n 1 2=(match ak n 1 with|true=>true|false=>ak n 2):=by
 unfold kf
 cases h1:aq n 1 with
 |true=>
  have h1:=ltInt_iff.1 h1
  have e1:ak n 1=false:=beqInt_false.2 (by omega)
  have e2:ak n 2=false:=beqInt_false.2 (by omega)
  rw[e1,e2];rfl
 | false=>
  have h1:=ltInt_false.1 h1
  cases h2:aq 2 n with
  |true=>
   have h2:=ltInt_iff.1 h2
   have e1:ak n 1=false:=beqInt_false.2 (by omega)
   have e2:ak n 2=false:=beqInt_false.2 (by omega)
   rw[e1,e2];rfl
  |false=>
   have h2:=ltInt_false.1 h2
   have:n=1∨n=2:=by omega
   rcases this with rfl|rfl<;>rfl
def z5:List AV:=ag 0 0 0 [] []
theorem Hh (k:Kd):ah (aN k)=true:=rfl
section
variable {t y n:Int} {d:List UInt8} {ks:List It}
theorem vp {nm:List UInt8} {ty lo hi:Int} {ch st:List UInt8} {ma se:Bool} {da:Int} (hty:ty≠8) (x:It)
  (hwalk:∀ (t y n:Int) (D K:List AV) (sh:Bool) (Q:AV→Prop),SC 38 [.agg (ag t y n D K),I 4325387,I ty] (.bool sh)→(sh=false→Q (.bool false))→(sh=true→Q (.bool (kf n lo hi)))→ax Tryz.prog opts0 40 (gT z5 z5 z5 sh false false false false) 66 [.agg [.str nm,I ty,.bool ma,.bool se,.str ch,.str st,I da],.agg (ag t y n D K)] [] 0 (fun v _ _=>Q v)):
  SC 66 [.agg [.str nm,I ty,.bool ma,.bool se,.str ch,.str st,I da],aG x] (.bool (dB x 4325387 ty lo hi)):=by
 have hs:=gL x 4325387 ty
 rw[gM x 4325387 hty] at hs
 unfold dB
 revert hs
 generalize bp x 4325387 ty=sh
 obtain ⟨t,y,n,d,ks⟩:=x
 intro hs
 refine bN (A:=gT z5 z5 z5 sh false false false false) base0 ao (aw (LsOk.no rfl)) (by simp[ac,bG,ah]) rfl ?_
 rw[aU] at hs⊢
 exact hwalk _ _ _ _ _ _ _ hs (fun e=>by rw[e];rfl) (fun e=>by rw[e];rfl)
end
theorem vq {n lo hi:Int} {Q:AV→Prop} (h:Q (.bool (kf n lo hi))):ab (!aq n lo) (Q (.bool (!aq hi n))) (Q (.bool false)):=by
 unfold kf at h
 exact aj (fun e=>by rw[e] at h;exact h) fun e=>by rw[e] at h;exact h
theorem SN (x:It):SC 66 [aN .alg,aG x] (.bool (eY x .alg)):=by
 refine vp (nm:=aJ .alg) (lo:=1) (hi:=100) (by decide) x fun t y n D K sh Q hs h0 h1=> ?_
 unfold z5
 rw[gu]
 exact ⟨hs,aj (fun e=>h0 (by simpa using e)) fun e=>mT rfl (vq (h1 (by simpa using e)))⟩
theorem SO (x:It):SC 66 [aN .len,aG x] (.bool (eY x .len)):=by
 refine vp (nm:=aJ .len) (lo:=1) (hi:=100000) (by decide) x fun t y n D K sh Q hs h0 h1=> ?_
 unfold z5
 rw[gu]
 exact ⟨hs,aj (fun e=>h0 (by simpa using e)) fun e=>mF rfl (mT rfl (vq (h1 (by simpa using e))))⟩
theorem SP (x:It):SC 66 [aN .mask,aG x] (.bool (eY x .mask)):=by
 refine vp (nm:=aJ .mask) (lo:=0) (hi:=1048575) (by decide) x fun t y n D K sh Q hs h0 h1=> ?_
 unfold z5
 rw[gu]
 exact ⟨hs,aj (fun e=>h0 (by simpa using e)) fun e=>mF rfl (mF rfl (mT rfl (vq (h1 (by simpa using e)))))⟩
theorem SQ (x:It) {k:Nat} (hk:lq k=true):SC 66 [aN (.dat k),aG x] (.bool (eY x (.dat k))):=by
 have hk4:k=1∨k=2∨k=3∨k=4:=by
  simp only[lq,Bool.and_eq_true,Nat.ble_eq] at hk
  omega
 rcases hk4 with rfl|rfl|rfl|rfl
 all_goals
  refine vp (lo:= -1099511627776) (hi:=1099511627776) (by decide) x fun t y n D K sh Q hs h0 h1=> ?_
  unfold z5
  rw[gu]
  exact ⟨hs,aj (fun e=>h0 (by simpa using e)) fun e=>mF rfl (mF rfl (mF rfl (mF rfl (mF rfl (mT rfl (vq (h1 (by simpa using e))))))))⟩
theorem Hi {nm ch st:List UInt8} {ma se:Bool} (x:It) (hx:cV x) (h1:aA nm (aJ .alg)=false) (h2:aA nm (aJ .len)=false) (h3:aA nm (aJ .mask)=false) (h4:aA nm (aJ .lnk)=false) (h5:aA nm (aJ .lim)=false):
  SC 66 [.agg [.str nm,I 7,.bool ma,.bool se,.str ch,.str st,I (-1)],aG x] (.bool (ia x 4325387)):=by
 have hs:=gL x 4325387 7
 rw[gM x 4325387 (by decide)] at hs
 have ht:=EX _ (jn hx)
 unfold ia
 revert hs ht
 generalize bp x 4325387 7=sh
 obtain ⟨t,y,n,d,ks⟩:=x
 intro hs ht
 have hso:=mX d
 refine bN (A:=gT z5 z5 z5 sh false false false (oX d)) base0 ao (aw (LsOk.no rfl)) (by simp[ac,bG,ah]) rfl ?_
 rw[aU] at hs⊢
 unfold z5
 rw[gu,hso]
 refine ⟨hs,aj (fun e=> ?_) fun e=>mF h1 (mF h2 (mF h3 (mF h4 (mF h5 (mF rfl (aF (by simp) ⟨ht, ?_⟩))))))⟩
 ·rw[Bool.not_eq_true'] at e;rw[e];rfl
 ·rw[Bool.not_eq_false'] at e;rw[e];rfl
theorem SR (x:It) (hx:cV x):SC 66 [aN .lnk,aG x] (.bool (eY x .lnk)):=by
 have hs:=gL x 4325387 1
 rw[gM x 4325387 (by decide)] at hs
 simp only[eY,gn]
 revert hs
 generalize bp x 4325387 1=sh
 obtain ⟨t,y,n,d,ks⟩:=x
 intro hs
 have hln:aa (ad ks)=ks.length:=by rw[aE,dq]
 rw[aU] at hs
 match ks,hx,hln,hs with
 | [a,b],hx,hln,hs=>
  have hb:cV b:=hx.2.2.1
  have ha:=gL a 4325451 5
  rw[gM a 4325451 (by decide)] at ha
  have hb2:=gL b 4325452 7
  rw[gM b 4325452 (by decide)] at hb2
  have ht:=EX _ (jn hb)
  simp only[aV,ib,dB,ia]
  revert ha hb2 ht
  generalize bp a 4325451 5=r0
  generalize bp b 4325452 7=r1
  obtain ⟨t0,y0,n0,d0,k0⟩:=a
  obtain ⟨t1,y1,n1,d1,k1⟩:=b
  intro ha hb2 ht
  have hso:=mX d1
  have g0:=bB (f:=false) (ks:=[.mk t0 y0 n0 d0 k0,.mk t1 y1 n1 d1 k1]) (i:=0) rfl
  have g1:=bB (f:=false) (ks:=[.mk t0 y0 n0 d0 k0,.mk t1 y1 n1 d1 k1]) (i:=1) rfl
  refine bN (A:=gT (ag t0 y0 n0 (ai d0) (ad k0)) (ag t1 y1 n1 (ai d1) (ad k1)) z5 sh r0 r1 false (oX d1)) base0 ao (aw (LsOk.no rfl)) (by simp[ac,bG,ah,aN,bx]) rfl ?_
  rw[aU] at ha hb2⊢
  unfold z5 aN bx
  rw[gu,hso]
  refine ⟨hs,aj (fun e=> ?_) fun e=>mF rfl (mF rfl (mF rfl (mT rfl (mT rfl ⟨g0,ha,aj (fun e1=>⟨g0,aj (fun e2=>⟨g0,aj (fun e3=>⟨g1,hb2,aj (fun e4=>⟨g1,aF (by simp) ⟨ht, ?_⟩⟩) fun e4=> ?_⟩) fun e3=> ?_⟩) fun e2=> ?_⟩) fun e1=> ?_⟩))))⟩
  ·rw[Bool.not_eq_true'] at e;rw[e];rfl
  all_goals
   rw[Bool.not_eq_false'] at e
   simp only[kf,cG,dr] at*
   simp_all
 |[],_,hln,hs=>
  refine bN (A:=gT z5 z5 z5 sh false false false false) base0 ao (aw (LsOk.no rfl)) (by simp[ac,bG,ah,aN,bx]) rfl ?_
  rw[aU]
  unfold z5 aN bx
  rw[gu]
  refine ⟨hs,aj (fun e=> ?_) fun e=>mF rfl (mF rfl (mF rfl (mT rfl (mF rfl ?_))))⟩
  all_goals simp[aV,ib]
 |[a],_,hln,hs=>
  refine bN (A:=gT z5 z5 z5 sh false false false false) base0 ao (aw (LsOk.no rfl)) (by simp[ac,bG,ah,aN,bx]) rfl ?_
  rw[aU]
  unfold z5 aN bx
  rw[gu]
  refine ⟨hs,aj (fun e=> ?_) fun e=>mF rfl (mF rfl (mF rfl (mT rfl (mF rfl ?_))))⟩
  all_goals simp[aV,ib]
 |a::b::c::r,_,hln,hs=>
  refine bN (A:=gT z5 z5 z5 sh false false false false) base0 ao (aw (LsOk.no rfl)) (by simp[ac,bG,ah,aN,bx]) rfl ?_
  rw[aU]
  unfold z5 aN bx
  rw[gu,hln]
  have hne:ak (Int.ofNat (a::b::c::r).length) 2=false:=beqInt_false.2 (by simp only[List.length_cons,Int.ofNat_eq_natCast];omega)
  refine ⟨hs,aj (fun e=> ?_) fun e=>mF rfl (mF rfl (mF rfl (mT rfl (mF hne ?_))))⟩
  all_goals simp[aV,ib]
theorem SS (x:It):SC 66 [aN .lim,aG x] (.bool (eY x .lim)):=by
 have hs:=gL x 4325387 1
 rw[gM x 4325387 (by decide)] at hs
 simp only[eY]
 revert hs
 generalize bp x 4325387 1=sh
 obtain ⟨t,y,n,d,ks⟩:=x
 intro hs
 have hln:aa (ad ks)=ks.length:=by rw[aE,dq]
 rw[aU] at hs
 match ks,hln,hs with
 | [a,b,c],hln,hs=>
  have ha:=gL a 4325527 3
  rw[gM a 4325527 (by decide)] at ha
  have hb:=gL b 4325526 3
  rw[gM b 4325526 (by decide)] at hb
  have hc:=gL c 4325528 5
  rw[gM c 4325528 (by decide)] at hc
  simp only[aV,di,dB,SM]
  revert ha hb hc
  generalize bp a 4325527 3=r0
  generalize bp b 4325526 3=r1
  generalize bp c 4325528 5=r2
  obtain ⟨t0,y0,n0,d0,k0⟩:=a
  obtain ⟨t1,y1,n1,d1,k1⟩:=b
  obtain ⟨t2,y2,n2,d2,k2⟩:=c
  intro ha hb hc
  have g0:=bB (f:=false) (ks:=[.mk t0 y0 n0 d0 k0,.mk t1 y1 n1 d1 k1,.mk t2 y2 n2 d2 k2]) (i:=0) rfl
  have g1:=bB (f:=false) (ks:=[.mk t0 y0 n0 d0 k0,.mk t1 y1 n1 d1 k1,.mk t2 y2 n2 d2 k2]) (i:=1) rfl
  have g2:=bB (f:=false) (ks:=[.mk t0 y0 n0 d0 k0,.mk t1 y1 n1 d1 k1,.mk t2 y2 n2 d2 k2]) (i:=2) rfl
  refine bN (A:=gT (ag t0 y0 n0 (ai d0) (ad k0)) (ag t1 y1 n1 (ai d1) (ad k1)) (ag t2 y2 n2 (ai d2) (ad k2)) sh r0 r1 r2 false) base0 ao (aw (LsOk.no rfl)) (by simp[ac,bG,ah,aN,bx]) rfl ?_
  rw[aU] at ha hb hc⊢
  unfold aN bx
  rw[gu]
  refine ⟨hs,aj (fun e=> ?_) fun e=>mF rfl (mF rfl (mF rfl (mF rfl (mT rfl (mF rfl ⟨g0,ha,aj (fun e0=> ?_) fun e0=>⟨g1,hb,aj (fun e1=> ?_) fun e1=>⟨g2,hc,aj (fun e2=> ?_) fun e2=>⟨g0,g1,g2,aj (fun e3=>aj (fun e4=>aj (fun e5=>aj (fun e6=>aj (fun e7=> ?_) fun e7=> ?_) fun e6=> ?_) fun e5=> ?_) fun e4=> ?_) fun e3=> ?_⟩⟩⟩⟩)))))⟩
  all_goals
   simp only[kf,cG] at*
   simp_all
 |[],hln,hs=>
  refine bN (A:=gT z5 z5 z5 sh false false false false) base0 ao (aw (LsOk.no rfl)) (by simp[ac,bG,ah,aN,bx]) rfl ?_
  rw[aU]
  unfold z5 aN bx
  rw[gu]
  refine ⟨hs,aj (fun e=> ?_) fun e=>mF rfl (mF rfl (mF rfl (mF rfl (mT rfl (mT rfl ?_)))))⟩
  all_goals simp[aV,di]
 |[a],hln,hs=>
  refine bN (A:=gT z5 z5 z5 sh false false false false) base0 ao (aw (LsOk.no rfl)) (by simp[ac,bG,ah,aN,bx]) rfl ?_
  rw[aU]
  unfold z5 aN bx
  rw[gu]
  refine ⟨hs,aj (fun e=> ?_) fun e=>mF rfl (mF rfl (mF rfl (mF rfl (mT rfl (mT rfl ?_)))))⟩
  all_goals simp[aV,di]
 |[a,b],hln,hs=>
  refine bN (A:=gT z5 z5 z5 sh false false false false) base0 ao (aw (LsOk.no rfl)) (by simp[ac,bG,ah,aN,bx]) rfl ?_
  rw[aU]
  unfold z5 aN bx
  rw[gu]
  refine ⟨hs,aj (fun e=> ?_) fun e=>mF rfl (mF rfl (mF rfl (mF rfl (mT rfl (mT rfl ?_)))))⟩
  all_goals simp[aV,di]
 | a::b::c::g::r,hln,hs=>
  refine bN (A:=gT z5 z5 z5 sh false false false false) base0 ao (aw (LsOk.no rfl)) (by simp[ac,bG,ah,aN,bx]) rfl ?_
  rw[aU]
  unfold z5 aN bx
  rw[gu,hln]
  have hne:(!ak (Int.ofNat (a::b::c::g::r).length) 3)=true:=by
   rw[Bool.not_eq_true',beqInt_false]
   simp only[List.length_cons,Int.ofNat_eq_natCast]
   omega
  refine ⟨hs,aj (fun e=> ?_) fun e=>mF rfl (mF rfl (mF rfl (mF rfl (mT rfl (mT hne ?_)))))⟩
  all_goals simp[aV,di]
theorem Hj {k:Kd} (hk:dg k=true) (hn:iX k) (x:It) (hx:cV x):SC 66 [aN k,aG x] (.bool (eY x k)):=by
 cases k with
 |nam=>exact Hi x hx rfl rfl rfl rfl rfl
 |alg=>exact SN x
 |len=>exact SO x
 |mask=>exact SP x
 |dat k=>exact SQ x hk
 |lnk=>exact SR x hx
 |lim=>exact SS x
 |cus s=>exact Hi x hx (kv hn (by simp[kinds])) (kv hn (by simp[kinds])) (kv hn (by simp[kinds])) (kv hn (by simp[kinds])) (kv hn (by simp[kinds]))
 |_=>cases hk
def gU (g:Nat→It) (p:Nat→Bool) (a:Nat):Nat→List It
 |0=>[]
 |j+1=>match p (a+j) with
  |true=>gU g p a j++[g (a+j)]
  |false=>gU g p a j
theorem Ae (g:Nat→It) (p:Nat→Bool) (a:Nat):∀j,(gU g p a j).length≤j
 |0=>Nat.le_refl _
 |j+1=>by
  have:=Ae g p a j
  simp only[gU]
  split
  ·rw[List.length_append];simp only[List.length_cons,List.length_nil];omega
  ·omega
theorem Af {g:Nat→It} {p:Nat→Bool} {a:Nat}:∀ {j:Nat} {x:It},x∈gU g p a j→∃i,i<j∧x=g (a+i)
 |0,_,h=>by cases h
 | j+1,x,h=>by
  simp only[gU] at h
  split at h
  ·rcases List.mem_append.1 h with h|h
   ·obtain ⟨i,hi,e⟩:=Af h;exact ⟨i,by omega,e⟩
   ·exact ⟨j,by omega,by simpa using h⟩
  ·obtain ⟨i,hi,e⟩:=Af h;exact ⟨i,by omega,e⟩
noncomputable def Hk (L:List AV) (at' k t:Int):List It→View
 |[]=>dk L at' k t
 |x::r=>cZ L at' k t (r.length+1) (flat (ad (x::r)))
theorem fW (l:List It):ac (flat (ad l))=true:=rD (cH l) fun e he=>by
 rw[jU] at he
 obtain ⟨x,_,rfl⟩:=List.mem_map.1 he
 have:=bG x
 cases x
 exact this
theorem Ag {l:List Rw} {i:Nat} {r:Rw} (hx:l[i]? =some r):aC Tryz.prog 22 (.fsl false (l.map a7)) (I (.ofNat i))=some (.fptr [I r.k,I r.a,I r.b,I r.c] 0):=fN (v:=a7 r) (e:=50) (sz:=4) (by kernel_rfl) (by kernel_rfl) (by rw[List.getElem?_map,hx];rfl) rfl
def jy (l:List Rw) (a:Nat) (k:Nat):Bool:=match l[k]? with
 |some r=>ak (r.k%(.ofNat k)) (.ofNat a)
 |none=>false
theorem ST {l:List Rw} {at' t:Nat} {g:Nat→It} {Q:AExit→St→Prop}
  (hg:∀k,at'<k→k<8→SC 15 [.fsl false (l.map a7),I (.ofNat k)] (aG (g k)))
  (J:Nat) (hJ:at'+1+J=min l.length 8) (hq:Q (.exit 1) (Hk (l.map a7) (.ofNat at') (.ofNat (at'+1+J)) (.ofNat t) (gU g (jy l at') (at'+1) J)).st):
  ∀ (m j:Nat),j+m=J→ALp Tryz.prog opts0.glob 0 (aD Tryz.prog 15 10) (Hk (l.map a7) (.ofNat at') (.ofNat (at'+1+j)) (.ofNat t) (gU g (jy l at') (at'+1) j)).st Q:=by
 have hlen:aa (l.map a7)=l.length:=by rw[aE,List.length_map]
 have hL:=ki l
 intro m
 induction m with
 | zero=>
  intro j hj
  obtain rfl:j=J:=by omega
  generalize gU g (jy l at') (at'+1) j=ks at hq⊢
  have h12:aq (Int.ofNat (at'+1+j)) (Int.ofNat l.length)=true→aq (Int.ofNat (at'+1+j)) 8=true→False:=fun e e2=>by
   have e:=ltInt_iff.1 e
   have e2:=ltInt_iff.1 e2
   simp only[Int.ofNat_eq_natCast] at e e2
   omega
  cases ks with
  |nil=>
   refine ALp.round (A:=jt ⟨0,0,0,0⟩ 0 (.agg (ag 0 0 0 [] []))) (V2:=dk (l.map a7) (.ofNat at') 0 (.ofNat t)) (F:=dk (l.map a7) (.ofNat at') (.ofNat (at'+1+j)) (.ofNat t)) (lk:=[(0,0),(1,1)]) (lk':=[(0,0),(1,1)]) base0 ao (LsOk.no rfl) .refl ?_
   show aI Tryz.prog opts0 40 _ _ (dk (l.map a7) (.ofNat at') (.ofNat (at'+1+j)) (.ofNat t)).st _
   rw[FZ,hlen]
   exact aj (fun e=>aj (fun e2=>(h12 e e2).elim) fun _=>⟨⟨⟨⟨rfl,hL⟩,⟨rfl,rfl⟩,⟨rfl,rfl⟩,trivial⟩,⟨⟨rfl,rfl⟩,⟨rfl,rfl⟩,trivial⟩,⟨rfl,rfl⟩,⟨rfl,rfl⟩,trivial⟩,hq⟩) fun _=>⟨⟨⟨⟨rfl,hL⟩,⟨rfl,rfl⟩,⟨rfl,rfl⟩,trivial⟩,⟨⟨rfl,rfl⟩,⟨rfl,rfl⟩,trivial⟩,⟨rfl,rfl⟩,⟨rfl,rfl⟩,trivial⟩,hq⟩
  |cons x r=>
   have hc:=fW (x::r)
   refine ALp.round (A:=jt ⟨0,0,0,0⟩ 0 (.agg (ag 0 0 0 [] []))) (V2:=cZ (l.map a7) (.ofNat at') 0 (.ofNat t) (r.length+1) (flat (ad (x::r)))) (F:=cZ (l.map a7) (.ofNat at') (.ofNat (at'+1+j)) (.ofNat t) (r.length+1) (flat (ad (x::r)))) (lk:=[(0,0),(1,1),(2,2)]) (lk':=[(0,0),(1,1),(2,2)]) base0 ao (LsOk.no rfl) .refl ?_
   show aI Tryz.prog opts0 40 _ _ (cZ (l.map a7) (.ofNat at') (.ofNat (at'+1+j)) (.ofNat t) (r.length+1) (flat (ad (x::r)))).st _
   rw[F3,hlen]
   exact aj (fun e=>aj (fun e2=>(h12 e e2).elim) fun _=>⟨⟨⟨⟨rfl,hL⟩,⟨rfl,rfl⟩,⟨rfl,rfl⟩,trivial⟩,⟨⟨rfl,rfl⟩,⟨rfl,rfl⟩,trivial⟩,⟨rfl,rfl⟩,⟨⟨rfl,rfl⟩,⟨rfl,rfl⟩,⟨rfl,rfl⟩,⟨rfl,rfl⟩,⟨rfl,rfl,rfl,rfl,rfl⟩,trivial⟩,⟨rfl,hc⟩,trivial⟩,hq⟩) fun _=>⟨⟨⟨⟨rfl,hL⟩,⟨rfl,rfl⟩,⟨rfl,rfl⟩,trivial⟩,⟨⟨rfl,rfl⟩,⟨rfl,rfl⟩,trivial⟩,⟨rfl,rfl⟩,⟨⟨rfl,rfl⟩,⟨rfl,rfl⟩,⟨rfl,rfl⟩,⟨rfl,rfl⟩,⟨rfl,rfl,rfl,rfl,rfl⟩,trivial⟩,⟨rfl,hc⟩,trivial⟩,hq⟩
 | succ m ih=>
  intro j hj
  have h1:at'+1+j<l.length:=by omega
  have h2:at'+1+j<8:=by omega
  have g1:l[at'+1+j]? =some l[at'+1+j]:=List.getElem?_eq_getElem h1
  have hi:=Ag g1
  have hn:=ih (j+1) (by omega)
  have hgk:=hg (at'+1+j) (by omega) h2
  have hlt:=Ae g (jy l at') (at'+1) j
  have hkp:jy l at' (at'+1+j)=ak (l[at'+1+j].k%(.ofNat (at'+1+j))) (.ofNat at'):=by unfold jy;rw[g1]
  simp only[gU,hkp] at hn
  revert hi hn
  clear hkp g1
  generalize l[at'+1+j]=r
  intro hi hn
  have hp:=iQ r.k (m:= .ofNat (at'+1+j)) (by show (0:Int)<((at'+1+j:Nat):Int);omega) (by show ((at'+1+j:Nat):Int)≤_;omega)
  have hw:ar .i64 (Int.ofNat (at'+1+j)+1)=Int.ofNat (at'+1+(j+1)):=dG (by omega)
  generalize gU g (jy l at') (at'+1) j=ks at hn hlt⊢
  generalize hgx:g (at'+1+j)=x at hn hgk
  generalize hpr:r.k%Int.ofNat (at'+1+j)=pr at hp hn
  have k1:aq (Int.ofNat (at'+1+j)) (Int.ofNat l.length)=true:=ltInt_iff.2 (by show ((at'+1+j:Nat):Int)<l.length;omega)
  have k2:aq (Int.ofNat (at'+1+j)) 8=true:=ltInt_iff.2 (by show ((at'+1+j:Nat):Int)<8;omega)
  obtain ⟨a,b,c,d,kk⟩:=x
  rw[aU] at hgk
  have no1:aq (Int.ofNat (at'+1+j)) (Int.ofNat l.length)=false→False:=fun e=>by rw[k1] at e;cases e
  have no2:aq (Int.ofNat (at'+1+j)) 8=false→False:=fun e=>by rw[k2] at e;cases e
  cases hb:ak pr (.ofNat at') with
  | false=>
   rw[hb] at hn
   dsimp only at hn
   cases ks with
   |nil=>
    refine ALp.round (A:=jt r pr (.agg (ag a b c (ai d) (ad kk)))) (V2:=dk (l.map a7) (.ofNat at') (.ofNat (at'+1+(j+1))) (.ofNat t)) (F:=dk (l.map a7) (.ofNat at') (.ofNat (at'+1+j)) (.ofNat t)) (lk:=[(0,0),(1,1)]) (lk':=[(0,0),(1,1)]) base0 ao (LsOk.no rfl) .refl ?_
    show aI Tryz.prog opts0 40 _ _ (dk (l.map a7) (.ofNat at') (.ofNat (at'+1+j)) (.ofNat t)).st _
    rw[FZ,hlen,hw]
    exact aj (fun _=>aj (fun _=>⟨hi,hp,mF hb ⟨⟨⟨⟨rfl,hL⟩,⟨rfl,rfl⟩,⟨rfl,rfl⟩,trivial⟩,⟨⟨rfl,rfl⟩,⟨rfl,rfl⟩,trivial⟩,⟨rfl,rfl⟩,⟨rfl,rfl⟩,trivial⟩,hn⟩⟩) fun e=>(no2 e).elim) fun e=>(no1 e).elim
   |cons y s=>
    have hc:=fW (y::s)
    refine ALp.round (A:=jt r pr (.agg (ag a b c (ai d) (ad kk)))) (V2:=cZ (l.map a7) (.ofNat at') (.ofNat (at'+1+(j+1))) (.ofNat t) (s.length+1) (flat (ad (y::s)))) (F:=cZ (l.map a7) (.ofNat at') (.ofNat (at'+1+j)) (.ofNat t) (s.length+1) (flat (ad (y::s)))) (lk:=[(0,0),(1,1),(2,2)]) (lk':=[(0,0),(1,1),(2,2)]) base0 ao (LsOk.no rfl) .refl ?_
    show aI Tryz.prog opts0 40 _ _ (cZ (l.map a7) (.ofNat at') (.ofNat (at'+1+j)) (.ofNat t) (s.length+1) (flat (ad (y::s)))).st _
    rw[F3,hlen,hw]
    exact aj (fun _=>aj (fun _=>⟨hi,hp,mF hb ⟨⟨⟨⟨rfl,hL⟩,⟨rfl,rfl⟩,⟨rfl,rfl⟩,trivial⟩,⟨⟨rfl,rfl⟩,⟨rfl,rfl⟩,trivial⟩,⟨rfl,rfl⟩,⟨⟨rfl,rfl⟩,⟨rfl,rfl⟩,⟨rfl,rfl⟩,⟨rfl,rfl⟩,⟨rfl,rfl,rfl,rfl,rfl⟩,trivial⟩,⟨rfl,hc⟩,trivial⟩,hn⟩⟩) fun e=>(no2 e).elim) fun e=>(no1 e).elim
  | true=>
   rw[hb] at hn
   dsimp only at hn
   cases ks with
   |nil=>
    have hc:=fW [It.mk a b c d kk]
    refine ALp.round (A:=jt r pr (.agg (ag a b c (ai d) (ad kk)))) (V2:=cZ (l.map a7) (.ofNat at') (.ofNat (at'+1+(j+1))) (.ofNat t) 1 (flat (ad [It.mk a b c d kk]))) (F:=dk (l.map a7) (.ofNat at') (.ofNat (at'+1+j)) (.ofNat t)) (lk:=[(0,0),(1,1),(2,26)]) (lk':=[(0,0),(1,1)]) base0 ao (LsOk.no rfl) .refl ?_
    show aI Tryz.prog opts0 40 _ _ (dk (l.map a7) (.ofNat at') (.ofNat (at'+1+j)) (.ofNat t)).st _
    rw[RF,hlen,hw]
    exact aj (fun _=>aj (fun _=>⟨hi,hp,mT hb ⟨hgk,⟨⟨⟨rfl,hL⟩,⟨rfl,rfl⟩,⟨rfl,rfl⟩,trivial⟩,⟨⟨rfl,rfl⟩,⟨rfl,rfl⟩,trivial⟩,⟨rfl,rfl⟩,⟨⟨rfl,rfl⟩,⟨rfl,rfl⟩,⟨rfl,rfl⟩,⟨rfl,rfl⟩,⟨rfl,rfl,rfl,rfl,rfl⟩,trivial⟩,⟨rfl,hc⟩,trivial⟩,hn⟩⟩) fun e=>(no2 e).elim) fun e=>(no1 e).elim
   |cons y s=>
    have hE:flat (ad (y::s++[It.mk a b c d kk]))=flat (ad (y::s))++flat [.agg (ag a b c (ai d) (ad kk))]:=by rw[uj,ej];rfl
    have hE2:(s++[It.mk a b c d kk]).length+1=s.length+1+1:=by rw[List.length_append];rfl
    have hc:=fW (y::s++[It.mk a b c d kk])
    have hfl:=rC (y::s)
    have hn:ALp Tryz.prog opts0.glob 0 (aD Tryz.prog 15 10) (cZ (l.map a7) (.ofNat at') (.ofNat (at'+1+(j+1))) (.ofNat t) ((s++[It.mk a b c d kk]).length+1) (flat (ad (y::s++[It.mk a b c d kk])))).st Q:=hn
    rw[hE] at hn hc
    rw[hE2] at hn
    rw[List.length_cons] at hfl hlt
    refine ALp.round (A:=jt r pr (.agg (ag a b c (ai d) (ad kk)))) (V2:=cZ (l.map a7) (.ofNat at') (.ofNat (at'+1+(j+1))) (.ofNat t) (s.length+1+1) (flat (ad (y::s))++flat [.agg (ag a b c (ai d) (ad kk))])) (F:=cZ (l.map a7) (.ofNat at') (.ofNat (at'+1+j)) (.ofNat t) (s.length+1) (flat (ad (y::s)))) (lk:=[(0,0),(1,1),(2,26)]) (lk':=[(0,0),(1,1),(2,2)]) base0 ao (LsOk.no rfl) .refl ?_
    show aI Tryz.prog opts0 40 _ _ (cZ (l.map a7) (.ofNat at') (.ofNat (at'+1+j)) (.ofNat t) (s.length+1) (flat (ad (y::s)))).st _
    rw[RG,hlen,hw]
    refine aj (fun _=>aj (fun _=>⟨hi,hp,mT hb ⟨hgk,aF ?_ (aF (by rw[beq_iff,aE,hfl]) ⟨⟨⟨⟨rfl,hL⟩,⟨rfl,rfl⟩,⟨rfl,rfl⟩,trivial⟩,⟨⟨rfl,rfl⟩,⟨rfl,rfl⟩,trivial⟩,⟨rfl,rfl⟩,⟨⟨rfl,rfl⟩,⟨rfl,rfl⟩,⟨rfl,rfl⟩,⟨rfl,rfl⟩,⟨rfl,rfl,rfl,rfl,rfl⟩,trivial⟩,⟨rfl,hc⟩,trivial⟩,hn⟩)⟩⟩) fun e=>(no2 e).elim) fun e=>(no1 e).elim
    simp[a8,bc,flat,AV.cells,aa]
    omega
theorem SU {p:Int} (h0:0≤p) (h1:p<8):∃t:Nat,cm Tryz.prog 90 (.agg [I 4325387,I 4325386,I 4325384,I 4325524,I 4325570,I 4325385,I 4325451,I 4325377]) (I p)=some (I (.ofNat t)):=by
 have:p=0∨p=1∨p=2∨p=3∨p=4∨p=5∨p=6∨p=7:=by omega
 rcases this with rfl|rfl|rfl|rfl|rfl|rfl|rfl|rfl
 ·exact ⟨4325387,by kernel_rfl⟩
 ·exact ⟨4325386,by kernel_rfl⟩
 ·exact ⟨4325384,by kernel_rfl⟩
 ·exact ⟨4325524,by kernel_rfl⟩
 ·exact ⟨4325570,by kernel_rfl⟩
 ·exact ⟨4325385,by kernel_rfl⟩
 ·exact ⟨4325451,by kernel_rfl⟩
 ·exact ⟨4325377,by kernel_rfl⟩
theorem SV {p:Int} (h0:0≤p) (h1:p<4):∃s:List UInt8,s∈cF∧cm Tryz.prog 91 (.agg [.str [],.str [111,110,101],.str [116,119,111],.str [49,50,51,52,53,54,55,56]]) (I p)=some (.str s):=by
 have:p=0∨p=1∨p=2∨p=3:=by omega
 rcases this with rfl|rfl|rfl|rfl
 ·exact ⟨[],by decide,by kernel_rfl⟩
 ·exact ⟨[111,110,101],by decide,by kernel_rfl⟩
 ·exact ⟨[116,119,111],by decide,by kernel_rfl⟩
 ·exact ⟨[49,50,51,52,53,54,55,56],by decide,by kernel_rfl⟩
theorem sm:bu (cy Tryz.prog 15) 10=[aD Tryz.prog 15 10]:=by kernel_rfl
def jz (x:It):Prop:=cV x∧bO bd x
def nz:It:= .mk 0 0 0 [] []
theorem Ah {t y n:Int} {s:List UInt8} (h:s∈cF):jz (.mk t y n s []):=⟨⟨h,trivial⟩,Nat.le_trans (F6 s h) (by decide),by simp,trivial⟩
theorem Hl:jz nz:=Ah (by decide)
theorem sn (l:List Rw) (i:Int):ac [.fsl false (l.map a7),I i]=true:=by
 have:=ki l
 simp only[ac,ah,this,Bool.and_self]
theorem nA {t y n:Int} {d:List UInt8} {H:af} {D:AV} (hd:D= .nilsl∧d=[]∨D= .fsl false (ai d)):jV (aG (.mk t y n d [])) (.agg [I t,I y,I n,D,.nilsl]) H:=by
 rcases hd with ⟨rfl,rfl⟩|rfl
 ·exact ⟨_,(Frz.closed _ rfl).out,rfl,.agg (.cons (.refl _) (.cons (.refl _) (.cons (.refl _) (.cons .nil (.cons .nil .nil)))))⟩
 ·refine ⟨_,(Frz.closed _ ?_).out, ?_,.agg (.cons (.refl _) (.cons (.refl _) (.cons (.refl _) (.cons (.refl _) (.cons .nil .nil)))))⟩<;>simp[ah,ac]
theorem Hm {l:List Rw} {at':Nat} (h:l.length≤at'∨8≤at'):SC 15 [.fsl false (l.map a7),I (.ofNat at')] (aG nz):=by
 have hlen:aa (l.map a7)=l.length:=by rw[aE,List.length_map]
 refine dp (A:=nn ⟨0,0,0,0⟩ 0 0 0 0 0 [] (nk False (l.map a7) (.ofNat at') 0 0 (dk (l.map a7) (.ofNat at') 0 0))) base0 ao (aw (LsOk.at1 rfl sm fun s Q hs=>hs.1.elim)) (sn l _) ?_
 rw[u5,hlen]
 refine aj (fun _=>nA (.inl ⟨rfl,rfl⟩)) fun e=>aj (fun _=>nA (.inl ⟨rfl,rfl⟩)) fun e2=> ?_
 rw[Bool.not_eq_false'] at e e2
 have e:=ltInt_iff.1 e
 have e2:=ltInt_iff.1 e2
 simp only[Int.ofNat_eq_natCast] at e e2
 omega
theorem SW {l:List Rw} {at' t:Nat} {r:Rw} {s:List UInt8} (hr:l[at']? =some r) (h8:at'<8) (hst:s∈cF)
  (ht:cm Tryz.prog 90 (.agg [I 4325387,I 4325386,I 4325384,I 4325524,I 4325570,I 4325385,I 4325451,I 4325377]) (I (r.a%8))=some (I (.ofNat t)))
  (hs:cm Tryz.prog 91 (.agg [.str [],.str [111,110,101],.str [116,119,111],.str [49,50,51,52,53,54,55,56]]) (I (r.c%4))=some (.str s)) (hne:r.b%10≠0):
  ∃x:It,jz x∧SC 15 [.fsl false (l.map a7),I (.ofNat at')] (aG x):=by
 have hlen:aa (l.map a7)=l.length:=by rw[aE,List.length_map]
 have hi:=Ag hr
 have q8:=iQ r.a (m:=8) (by decide) (by decide)
 have q10:=iQ r.b (m:=10) (by decide) (by decide)
 have q4:=iQ r.c (m:=4) (by decide) (by decide)
 have q300:=iQ r.c (m:=300) (by decide) (by decide)
 have hlt:at'<l.length:=(List.getElem?_eq_some_iff.1 hr).1
 have b10:=Int.emod_lt_of_pos r.b (show (0:Int)<10 by decide)
 have c10:=Int.emod_nonneg r.b (show (10:Int)≠0 by decide)
 have hw:ar .i64 (1+r.b%10)=1+r.b%10:=eQ (by omega) (by omega)
 have no1:(!aq (Int.ofNat at') (Int.ofNat l.length))=true→False:=fun e=>by
  rw[Bool.not_eq_true'] at e
  have e:=ltInt_false.1 e
  simp only[Int.ofNat_eq_natCast] at e
  omega
 have no2:(!aq (Int.ofNat at') 8)=true→False:=fun e=>by
  rw[Bool.not_eq_true'] at e
  have e:=ltInt_false.1 e
  simp only[Int.ofNat_eq_natCast] at e
  omega
 have no3:ak (1+r.b%10) 1=true→False:=fun e=>by
  have e:=beqInt_iff.1 e
  omega
 by_cases hT:1+r.b%10=7∨1+r.b%10=8∨1+r.b%10=4
 ·refine ⟨.mk (.ofNat t) (1+r.b%10) 0 s [],Ah hst, ?_⟩
  refine dp (A:=nn r (r.a%8) (r.b%10) (r.c%4) (r.c%300) (.ofNat t) s (nk False (l.map a7) (.ofNat at') 0 (.ofNat t) (dk (l.map a7) (.ofNat at') 0 (.ofNat t)))) base0 ao (aw (LsOk.at1 rfl sm fun s Q hs=>hs.1.elim)) (sn l _) ?_
  rw[u5,hlen,hw]
  refine aj (fun e=>(no1 e).elim) fun _=>aj (fun e=>(no2 e).elim) fun _=>⟨hi,q8,ht,q10,aj (fun e=>(no3 e).elim) fun _=>aj (fun _=>⟨q4,hs,nA (.inr rfl)⟩) fun e4=>aj (fun _=>⟨q4,hs,nA (.inr rfl)⟩) fun e5=>aj (fun _=>⟨q4,hs,nA (.inr rfl)⟩) fun e6=> ?_⟩
  have e4:=beqInt_false.1 e4
  have e5:=beqInt_false.1 e5
  have e6:=beqInt_false.1 e6
  omega
 ·have f7:ak (1+r.b%10) 7=true→False:=fun e=>hT (.inl (beqInt_iff.1 e))
  have f8:ak (1+r.b%10) 8=true→False:=fun e=>hT (.inr (.inl (beqInt_iff.1 e)))
  have f4:ak (1+r.b%10) 4=true→False:=fun e=>hT (.inr (.inr (beqInt_iff.1 e)))
  refine ⟨.mk (.ofNat t) (1+r.b%10) (ar .i64 (r.c%300-5)) [] [],Ah (by decide), ?_⟩
  refine dp (A:=nn r (r.a%8) (r.b%10) (r.c%4) (r.c%300) (.ofNat t) s (nk False (l.map a7) (.ofNat at') 0 (.ofNat t) (dk (l.map a7) (.ofNat at') 0 (.ofNat t)))) base0 ao (aw (LsOk.at1 rfl sm fun s Q hs=>hs.1.elim)) (sn l _) ?_
  rw[u5,hlen,hw]
  exact aj (fun e=>(no1 e).elim) fun _=>aj (fun e=>(no2 e).elim) fun _=>⟨hi,q8,ht,q10,aj (fun e=>(no3 e).elim) fun _=>aj (fun e=>(f7 e).elim) fun _=>aj (fun e=>(f8 e).elim) fun _=>aj (fun e=>(f4 e).elim) fun _=>⟨q300,nA (.inl ⟨rfl,rfl⟩)⟩⟩
theorem SX {l:List Rw}:∀ (m at':Nat),8-at'≤m→∃x:It,jz x∧SC 15 [.fsl false (l.map a7),I (.ofNat at')] (aG x):=by
 intro m
 induction m with
 |zero=>exact fun at' hm=>⟨nz,Hl,Hm (.inr (by omega))⟩
 | succ m ih=>
  intro at' hm
  by_cases hend:l.length≤at'∨8≤at'
  ·exact ⟨nz,Hl,Hm hend⟩
  have hlt:at'<l.length:=by omega
  have h8:at'<8:=by omega
  have hr:l[at']? =some l[at']:=List.getElem?_eq_getElem hlt
  revert hr
  generalize l[at']=r
  intro hr
  obtain ⟨t,ht⟩:=SU (p:=r.a%8) (Int.emod_nonneg _ (by decide)) (Int.emod_lt_of_pos _ (by decide))
  obtain ⟨s,hst,hs⟩:=SV (p:=r.c%4) (Int.emod_nonneg _ (by decide)) (Int.emod_lt_of_pos _ (by decide))
  by_cases hb:r.b%10=0
  ·have hg:∀k,∃x:It,at'<k→jz x∧SC 15 [.fsl false (l.map a7),I (.ofNat k)] (aG x):=fun k=>by
    by_cases hk:at'<k
    ·obtain ⟨x,h1,h2⟩:=ih k (by omega)
     exact ⟨x,fun _=>⟨h1,h2⟩⟩
    ·exact ⟨nz,fun h=>absurd h hk⟩
   let g:Nat→It:=fun k=>Classical.choose (hg k)
   have hgs:∀k,at'<k→jz (g k)∧SC 15 [.fsl false (l.map a7),I (.ofNat k)] (aG (g k)):=fun k=>Classical.choose_spec (hg k)
   have hloop:=fun (Q:AExit→St→Prop) J hJ=>ST (l:=l) (t:=t) (g:=g) (Q:=Q) (fun k h1 _=>(hgs k h1).2) J hJ
   have hmem:=fun j x=> @Af g (jy l at') (at'+1) j x
   have hlen2:=Ae g (jy l at') (at'+1)
   have hJ:at'+1+(min l.length 8-(at'+1))=min l.length 8:=by omega
   have hloop:=fun Q hq=>hloop Q (min l.length 8-(at'+1)) hJ hq (min l.length 8-(at'+1)) 0 (by omega)
   have hmem:=hmem (min l.length 8-(at'+1))
   have hlen2:=hlen2 (min l.length 8-(at'+1))
   simp only[gU] at hloop
   revert hloop hmem hlen2
   generalize gU g (jy l at') (at'+1) (min l.length 8-(at'+1))=ks
   intro hloop hmem hlen2
   have hoks:∀x∈ks,jz x:=fun x hx=>by
    obtain ⟨i,_,rfl⟩:=hmem x hx
    exact (hgs _ (by omega)).1
   have hlen:aa (l.map a7)=l.length:=by rw[aE,List.length_map]
   have hi:=Ag hr
   have q8:=iQ r.a (m:=8) (by decide) (by decide)
   have q10:=iQ r.b (m:=10) (by decide) (by decide)
   have hw:ar .i64 (1+r.b%10)=1:=by rw[hb];rfl
   have hL:=ki l
   have hk0:ar .i64 (Int.ofNat at'+1)=Int.ofNat (at'+1+0):=dG (by omega)
   have no1:(!aq (Int.ofNat at') (Int.ofNat l.length))=true→False:=fun e=>by
    rw[Bool.not_eq_true'] at e
    have e:=ltInt_false.1 e
    simp only[Int.ofNat_eq_natCast] at e
    omega
   have no2:(!aq (Int.ofNat at') 8)=true→False:=fun e=>by
    rw[Bool.not_eq_true'] at e
    have e:=ltInt_false.1 e
    simp only[Int.ofNat_eq_natCast] at e
    omega
   have htx:∀ks:List It,(∀x∈ks,jz x)→o6 ks:=fun ks=>by
    induction ks with
    |nil=>exact fun _=>trivial
    |cons x r ih=>exact fun h=>⟨(h x (by simp)).1,ih fun y hy=>h y (by simp[hy])⟩
   refine ⟨.mk (.ofNat t) 1 0 [] ks,⟨⟨by decide,htx ks hoks⟩,by simp, ?_,okIs_iff.2 fun x hx=>(hoks x hx).2⟩, ?_⟩
   ·show ks.length≤1099511627776
    omega
   have hcl:=bG (.mk (.ofNat t) 1 0 [] ks)
   cases ks with
   | nil=>
    refine dp (A:=nn r (r.a%8) (r.b%10) (r.c%4) (r.c%300) (.ofNat t) s (nk True (l.map a7) (.ofNat at') (.ofNat (at'+1+0)) (.ofNat t) (dk (l.map a7) (.ofNat at') (.ofNat (at'+1+(min l.length 8-(at'+1)))) (.ofNat t)))) base0 ao
     (aw (LsOk.at1 rfl sm fun s Q hs=> .seen base0.glob hs.2.1 (hloop Q hs.2.2))) (sn l _) ?_
    rw[u5,hlen,hw,hk0]
    exact aj (fun e=>(no1 e).elim) fun _=>aj (fun e=>(no2 e).elim) fun _=>⟨hi,q8,ht,q10,mT rfl ⟨trivial,⟨⟨⟨rfl,hL⟩,⟨rfl,rfl⟩,⟨rfl,rfl⟩,trivial⟩,⟨⟨rfl,rfl⟩,⟨rfl,rfl⟩,trivial⟩,⟨rfl,rfl⟩,⟨rfl,rfl⟩,trivial⟩,nA (.inl ⟨rfl,rfl⟩)⟩⟩
   | cons y ys=>
    refine dp (A:=nn r (r.a%8) (r.b%10) (r.c%4) (r.c%300) (.ofNat t) s (nk True (l.map a7) (.ofNat at') (.ofNat (at'+1+0)) (.ofNat t) (cZ (l.map a7) (.ofNat at') (.ofNat (at'+1+(min l.length 8-(at'+1)))) (.ofNat t) (ys.length+1) (flat (ad (y::ys)))))) base0 ao
     (aw (LsOk.at1 rfl sm fun s Q hs=> .seen base0.glob hs.2.1 (hloop Q hs.2.2))) (sn l _) ?_
    rw[RI,hlen,hw,hk0]
    refine aj (fun e=>(no1 e).elim) fun _=>aj (fun e=>(no2 e).elim) fun _=>⟨hi,q8,ht,q10,mT rfl ⟨trivial,⟨⟨⟨rfl,hL⟩,⟨rfl,rfl⟩,⟨rfl,rfl⟩,trivial⟩,⟨⟨rfl,rfl⟩,⟨rfl,rfl⟩,trivial⟩,⟨rfl,rfl⟩,⟨rfl,rfl⟩,trivial⟩, ?_⟩⟩
    refine ⟨.agg [I (.ofNat t),I 1,I 0,.nilsl,.fsl false (ad (y::ys))],(Frz.agg (.cons (.closed _ rfl) (.cons (.closed _ rfl) (.cons (.closed _ rfl) (.cons (.closed _ rfl) (.cons (Frz.row rfl rfl rfl (by rw[dq];rfl) oT (cH _)) .nil)))))).out, ?_,.agg (.cons (.refl _) (.cons (.refl _) (.cons (.refl _) (.cons .nil (.cons (.refl _) .nil)))))⟩
    have:=cH (y::ys)
    simp only[ah,ac,this,Bool.and_self]
  ·exact SW hr h8 hst ht hs hb
theorem SY (l:List Rw):∃x:It,jz x∧SC 5 [.fsl false (l.map a7)] (aG x):=by
 obtain ⟨x,hx,hs⟩:=SX (l:=l) 8 0 (by omega)
 refine ⟨x,hx, ?_⟩
 have hcl:=bG x
 obtain ⟨t,y,n,d,ks⟩:=x
 rw[aU] at hs hcl⊢
 refine bN (A:=ap [] [] (bg [(15,.agg (ag t y n (ai d) (ad ks)))]) [] []) base0 ao (aw (LsOk.no rfl)) (by have:=ki l;simp only[ac,ah,this,Bool.and_self]) hcl ?_
 rw[RJ]
 exact ⟨hs,rfl⟩
end Go.Proofs.YtmnlofhodbnenaaGreatDoor
namespace Go.Proofs.YtmnlofhodbnenaaGreatDoor
open Go Go.RowKit
open Go.Proofs.Abs
noncomputable section
abbrev lP (D K:List AV) (n t y:Int):=[I t,I y,I n,AV.fsl false D,AV.fsl false K]
theorem SZ (t y n:Int) (D K:List AV) (Q:AV→Prop):ax Tryz.prog opts0 40 (ap [] [] (bg [(189,.agg (ag t y n D K))]) [] []) 98 [.agg [I 0,I 0,I 0,.nilsl,.fsl true [.agg (ag t y n D K)]],I t] [] 0 (fun v _ _=>Q v)=
  (ab (ak t t) (SC 189 [AV.agg (lP D K n t y)] (AV.agg (lP D K n t y))∧Q (AV.tuple [AV.agg (lP D K n t y),AV.bool true])) (Q (AV.tuple [AV.agg [I 0,I 0,I 0,AV.nilsl,AV.nilsl],AV.bool false]))):=by kernel_rfl
theorem S0 (t y n:Int) (D K:List AV) (Q:AV→Prop):ax Tryz.prog opts0 40 (ap [] [] (bg [(98,.tuple [.agg (ag t y n D K),.bool true])]) [] []) 54 [.agg (ag t y n D K)] [] 0 (fun v _ _=>Q v)=
  (SC 98 [AV.agg [I 0,I 0,I 0,AV.nilsl,AV.fsl true [AV.agg (lP D K n t y)]],I t] (AV.tuple [AV.agg (lP D K n t y),AV.bool true])∧Q (AV.agg (lP D K n t y))):=by kernel_rfl
def Hn (r0 r1 r2:Bool):List AV→Option AV
 | [_,.int _ (.ofNat n),_]=>match Nat.beq n 4325384 with
  |true=>some (.bool r0)
  |false=>match Nat.beq n 4325386 with
   |true=>some (.bool r1)
   |false=>some (.bool r2)
 |_=>none
def vr (r0 r1 r2:Bool) (c0 c1 cl:List AV) (s:List UInt8) (v:AV):aX:=ap [(4,2,.res (.fptr c0 0)),(4,10,.res (.fptr cl 0)),(8,2,.res (.fptr c1 0)),(12,2,.res (.str s))] []
 (dW [(53,Hn r0 r1 r2),(54,fun _=>some v)]) [] []
abbrev fX:=(AV.tuple [AV.agg [AV.str [],I 0,I 0,I 0,I 0,AV.nilsl,AV.nilsl],AV.bool false])
abbrev pB (Dl Kl:List AV) (nl tl yl:Int):=[I tl,I yl,I nl,AV.fsl false Dl,AV.fsl false Kl]
abbrev pC (D1 K1:List AV) (n1 t1 y1:Int):=[I t1,I y1,I n1,AV.fsl false D1,AV.fsl false K1]
abbrev sp (D0 K0:List AV) (n0 t0 y0:Int):=[I t0,I y0,I n0,AV.fsl false D0,AV.fsl false K0]
theorem Ai (r0 r1 r2:Bool) (s:List UInt8) (t y n t0 y0 n0 t1 y1 n1 tl yl nl:Int) (D K D0 K0 D1 K1 Dl Kl:List AV) (Q:AV→Prop):ax Tryz.prog opts0 40 (vr r0 r1 r2 (ag t0 y0 n0 D0 K0) (ag t1 y1 n1 D1 K1) (ag tl yl nl Dl Kl) s (.agg (ag tl yl nl Dl Kl))) 31 [.agg (ag t y n D K)] [] 0 (fun v _ _=>Q v)=
  (SC 53 [AV.agg (lP D K n t y),I 4325384,I 1] (AV.bool r0)∧ab (!r0) (Q fX) (ab (aq (Int.ofNat (aa K)) 2) (Q fX) (ab (aq 3 (Int.ofNat (aa K))) (Q fX) (aC Tryz.prog 24 (AV.fsl false K) (I 0)=some (AV.fptr (sp D0 K0 n0 t0 y0) 0)∧aC Tryz.prog 24 (AV.fsl false K) (I (ar IntKind.i64 (Int.ofNat (aa K)-1)))=some (AV.fptr (pB Dl Kl nl tl yl) 0)∧SC 53 [AV.agg (sp D0 K0 n0 t0 y0),I 4325386,I 7] (AV.bool r1)∧ab (!r1) (Q fX) (ab (!ak tl 4325387) (Q fX) (ab (ak (Int.ofNat (aa K)) 3) (aC Tryz.prog 24 (AV.fsl false K) (I 1)=some (AV.fptr (pC D1 K1 n1 t1 y1) 0)∧SC 53 [AV.agg (pC D1 K1 n1 t1 y1),I 4325385,I 2] (AV.bool r2)∧ab (!r2) (Q fX) (ab (!aq 0 n1) (Q fX) (cR Tryz.prog 23 9 (AV.fsl false D0)=some (Eff.val (AV.str s))∧SC 54 [AV.agg (pB Dl Kl nl tl yl)] (AV.agg (pB Dl Kl nl tl yl))∧Q (AV.tuple [AV.agg [AV.str s,I n1,I tl,I yl,I nl,AV.fsl false Dl,AV.fsl false Kl],AV.bool true])))) (cR Tryz.prog 23 9 (AV.fsl false D0)=some (Eff.val (AV.str s))∧SC 54 [AV.agg (pB Dl Kl nl tl yl)] (AV.agg (pB Dl Kl nl tl yl))∧Q (AV.tuple [AV.agg [AV.str s,I 0,I tl,I yl,I nl,AV.fsl false Dl,AV.fsl false Kl],AV.bool true])))))))):=by kernel_rfl
def vu (r0 r1 r2:Bool) (c0 c1 cl:List AV) (s:List UInt8):aX:=ap [(1,18,.res (.fptr c0 0)),(3,2,.res (.fptr c0 0)),(3,5,.res (.str s)),(3,12,.res (.fptr cl 0)),(5,2,.res (.fptr c1 0)),(5,9,.res (.fptr c1 0)),(7,2,.res (.fptr c1 0))] []
 (dW [(38,Hn r0 r1 r2)]) [] []
theorem Aj (r0 r1 r2:Bool) (s:List UInt8) (t y n t0 y0 n0 t1 y1 n1 tl yl nl:Int) (D K D0 K0 D1 K1 Dl Kl:List AV) (Q:AV→Prop):ax Tryz.prog opts0 40 (vu r0 r1 r2 (ag t0 y0 n0 D0 K0) (ag t1 y1 n1 D1 K1) (ag tl yl nl Dl Kl) s) 21 [.agg (ag t y n D K)] [] 0 (fun v _ _=>Q v)=
  (SC 38 [AV.agg (lP D K n t y),I 4325384,I 1] (AV.bool r0)∧ab (!r0) (Q fX) (ab (aq (Int.ofNat (aa K)) 2) (Q fX) (ab (aq 3 (Int.ofNat (aa K))) (Q fX) (aC Tryz.prog 24 (AV.fsl false K) (I 0)=some (AV.fptr (sp D0 K0 n0 t0 y0) 0)∧SC 38 [AV.agg (sp D0 K0 n0 t0 y0),I 4325386,I 7] (AV.bool r1)∧ab (!r1) (Q fX) (aC Tryz.prog 24 (AV.fsl false K) (I 0)=some (AV.fptr (sp D0 K0 n0 t0 y0) 0)∧cR Tryz.prog 23 9 (AV.fsl false D0)=some (Eff.val (AV.str s))∧aC Tryz.prog 24 (AV.fsl false K) (I (ar IntKind.i64 (Int.ofNat (aa K)-1)))=some (AV.fptr (pB Dl Kl nl tl yl) 0)∧ab (ak (Int.ofNat (aa K)) 3) (aC Tryz.prog 24 (AV.fsl false K) (I 1)=some (AV.fptr (pC D1 K1 n1 t1 y1) 0)∧SC 38 [AV.agg (pC D1 K1 n1 t1 y1),I 4325385,I 2] (AV.bool r2)∧ab (!r2) (Q fX) (aC Tryz.prog 24 (AV.fsl false K) (I 1)=some (AV.fptr (pC D1 K1 n1 t1 y1) 0)∧ab (!aq 0 n1) (Q fX) (aC Tryz.prog 24 (AV.fsl false K) (I 1)=some (AV.fptr (pC D1 K1 n1 t1 y1) 0)∧ab (!ak tl 4325387) (Q fX) (Q (AV.tuple [AV.agg [AV.str s,I n1,I tl,I yl,I nl,AV.fsl false Dl,AV.fsl false Kl],AV.bool true]))))) (ab (!ak tl 4325387) (Q fX) (Q (AV.tuple [AV.agg [AV.str s,I 0,I tl,I yl,I nl,AV.fsl false Dl,AV.fsl false Kl],AV.bool true])))))))):=by kernel_rfl
end
end Go.Proofs.YtmnlofhodbnenaaGreatDoor
namespace Go.Proofs.YtmnlofhodbnenaaGreatDoor
set_option maxRecDepth 20000
open Go Go.RowKit
open Go.Proofs.Abs
def fy:It→Int
 | .mk t _ _ _ _=>t
def ec:List It→Option At
 |[k0,v]=>match bp k0 4325386 7&&ak (fy v) 4325387 with
  |true=>some ⟨dr k0,0,v⟩
  |false=>none
 |[k0,k1,v]=>match bp k0 4325386 7&&(ak (fy v) 4325387&&(bp k1 4325385 2&&aq 0 (cG k1))) with
  |true=>some ⟨dr k0,cG k1,v⟩
  |false=>none
 |_=>none
def bI (x:It):Option At:=match bp x 4325384 1 with
 |true=>ec (aV x)
 |false=>none
def Ho:At:=⟨[],0,nz⟩
def vw:Option At→AV
 |some a=> .tuple [aB a,.bool true]
 |none=> .tuple [aB Ho,.bool false]
theorem dH:eH (vw none) (.tuple [.agg [.str [],I 0,I 0,I 0,I 0,.nilsl,.nilsl],.bool false]):=by
 refine ⟨rfl,.tuple (.cons (.agg ?_) (.refl _))⟩
 simp only[Ho,nz]
 (repeat (first|exact Wk.refl _|exact WkL.refl _|exact Wk.nil|exact Wk.row|exact WkE.refl _|exact WkL.nil|exact WkE.nil|apply Wk.agg|apply Wk.tuple|apply WkL.cons|apply Wk.rows|apply WkE.consA))
theorem vx {t y n i:Int} {d s:List UInt8} {ks:List It}:eH (vw (some ⟨s,i,.mk t y n d ks⟩)) (.tuple [.agg (.str s::I i::ag t y n (ai d) (ad ks)),.bool true]):=by
 refine dM ?_
 have:=eR ⟨s,i,.mk t y n d ks⟩
 show (ah (aB ⟨s,i,.mk t y n d ks⟩)&&true)=true
 rw[this];rfl
theorem lQ (ks:List It):aa (ad ks)=ks.length:=by rw[aE,dq]
theorem sq {t y n:Int} {d:List UInt8} {ks:List It} (h:bO bd (.mk t y n d ks)):∀x∈ks,bO bd x:=okIs_iff.1 h.2.2
theorem Hp {t y n:Int} {D K:List AV} (hc:SC 189 [.agg (ag t y n D K)] (.agg (ag t y n D K))) (hcl:ah (.agg (ag t y n D K))=true):SC 98 [.agg [I 0,I 0,I 0,.nilsl,.fsl true [.agg (ag t y n D K)]],I t] (.tuple [.agg (ag t y n D K),.bool true]):=by
 refine bh (A:=ap [] [] (bg [(189,.agg (ag t y n D K))]) [] []) base0 ao (aw (LsOk.no rfl)) (by simp only[ac,ah] at hcl⊢;simp only[hcl,Bool.and_self]) ?_
 rw[SZ]
 exact aj (fun _=>⟨hc,dM (by simp only[ah,ac] at hcl⊢;simp only[hcl,Bool.and_self])⟩) fun e=>by rw[beqInt_false] at e;exact absurd rfl e
theorem Hq {x:It} (h:bO bd x):SC 54 [aG x] (aG x):=by
 have hc:=za x h
 have hcl:=bG x
 obtain ⟨t,y,n,d,ks⟩:=x
 rw[aU] at hc hcl⊢
 refine bh (A:=ap [] [] (bg [(98,.tuple [.agg (ag t y n (ai d) (ad ks)),.bool true])]) [] []) base0 ao (aw (LsOk.no rfl)) (by simp only[ac,hcl,Bool.and_self]) ?_
 rw[S0]
 exact ⟨Hp hc hcl,dM hcl⟩
theorem vz {n:Nat} (h:0<n) (h':n≤4):ar .i64 (Int.ofNat n-1)= .ofNat (n-1):=by
 rw[eQ (by simp only[Int.ofNat_eq_natCast];omega) (by simp only[Int.ofNat_eq_natCast];omega)]
 simp only[Int.ofNat_eq_natCast];omega
theorem vA (d:List UInt8):cR Tryz.prog 23 9 (.fsl false (ai d))=some (.val (.str d)):=y4 (e:=5) (by kernel_rfl) (by kernel_rfl) (by kernel_rfl)
section
variable {t y n:Int} {d:List UInt8} {ks:List It}
theorem Hr (h:ks.length<2∨3<ks.length):bI (.mk t y n d ks)=none:=by
 unfold bI
 split
 ·match ks,h with
  |[],_=>rfl
  |[_],_=>rfl
  |[_,_],h=>simp at h
  |[_,_,_],h=>simp at h
  |_::_::_::_::_,_=>rfl
 ·rfl
theorem vB (h:bp (.mk t y n d ks) 4325384 1=false):bI (.mk t y n d ks)=none:=by unfold bI;rw[h]
theorem S1 {x:It} (h:bO bd x):SC 31 [aG x] (vw (bI x)):=by
 have hcl:=bG x
 have hs:=lm x 4325384 1
 obtain ⟨t,y,n,d,ks⟩:=x
 have hl:=lQ ks
 have hok:=sq h
 by_cases hb:ks.length<2∨3<ks.length
 ·have hr:=Hr (t:=t) (y:=y) (n:=n) (d:=d) hb
  refine bh (A:=vr (bp (.mk t y n d ks) 4325384 1) false false (ag 0 0 0 [] []) (ag 0 0 0 [] []) (ag 0 0 0 [] []) [] (.agg (ag 0 0 0 [] []))) base0 ao (aw (LsOk.no rfl)) (by simp only[ac,hcl,Bool.and_self]) ?_
  rw[aU] at hs⊢
  rw[Ai,hl,hr]
  refine ⟨hs,aj (fun _=>dH) fun _=>aj (fun _=>dH) fun e2=>aj (fun _=>dH) fun e3=> ?_⟩
  have e2:=ltInt_false.1 e2
  have e3:=ltInt_false.1 e3
  simp only[Int.ofNat_eq_natCast] at e2 e3
  omega
 ·match ks,hb,hok with
  |[⟨t0,y0,n0,d0,l0⟩,⟨t1,y1,n1,d1,l1⟩],_,hok=>
   have s0:=lm (.mk t0 y0 n0 d0 l0) 4325386 7
   have i0:=bB (f:=false) (ks:=[.mk t0 y0 n0 d0 l0,.mk t1 y1 n1 d1 l1]) (i:=0) rfl
   have i1:=bB (f:=false) (ks:=[.mk t0 y0 n0 d0 l0,.mk t1 y1 n1 d1 l1]) (i:=1) rfl
   have hc:=Hq (hok (.mk t1 y1 n1 d1 l1) (by simp))
   refine bh (A:=vr (bp (.mk t y n d [.mk t0 y0 n0 d0 l0,.mk t1 y1 n1 d1 l1]) 4325384 1) (bp (.mk t0 y0 n0 d0 l0) 4325386 7) false (ag t0 y0 n0 (ai d0) (ad l0)) (ag 0 0 0 [] []) (ag t1 y1 n1 (ai d1) (ad l1)) d0 (.agg (ag t1 y1 n1 (ai d1) (ad l1)))) base0 ao (aw (LsOk.no rfl)) (by simp only[ac,hcl,Bool.and_self]) ?_
   rw[aU] at hs⊢
   rw[aU] at s0 hc
   rw[Ai,hl,vz (by simp) (by simp)]
   refine ⟨hs,aj (fun e=> ?_) fun e=>aj (fun e2=>absurd e2 (show ¬aq (.ofNat 2) 2=true by decide)) fun _=>aj (fun e3=>absurd e3 (show ¬aq 3 (.ofNat 2)=true by decide)) fun _=>⟨i0,i1,s0,aj (fun e4=> ?_) fun e4=>aj (fun e5=> ?_) fun e5=>aj (fun e6=>absurd e6 (show ¬ak (.ofNat 2) 3=true by decide)) fun _=>⟨vA d0,hc, ?_⟩⟩⟩
   ·rw[vB (by simpa using e)];exact dH
   all_goals rw[Bool.not_eq_false'] at e
   ·rw[show bI (.mk t y n d [.mk t0 y0 n0 d0 l0,.mk t1 y1 n1 d1 l1])=none from by simp only[bI,e,aV,ec,(by simpa using e4:bp (.mk t0 y0 n0 d0 l0) 4325386 7=false),Bool.false_and]];exact dH
   ·rw[show bI (.mk t y n d [.mk t0 y0 n0 d0 l0,.mk t1 y1 n1 d1 l1])=none from by simp only[bI,e,aV,ec,fy,(by simpa using e5:ak t1 4325387=false),Bool.and_false]];exact dH
   ·rw[show bI (.mk t y n d [.mk t0 y0 n0 d0 l0,.mk t1 y1 n1 d1 l1])=some ⟨d0,0,.mk t1 y1 n1 d1 l1⟩ from by simp only[bI,e,aV,ec,fy,dr,(by simpa using e4:bp (.mk t0 y0 n0 d0 l0) 4325386 7=true),(by simpa using e5:ak t1 4325387=true),Bool.and_self]];exact vx
  |[⟨t0,y0,n0,d0,l0⟩,⟨t1,y1,n1,d1,l1⟩,⟨t2,y2,n2,d2,l2⟩],_,hok=>
   have s0:=lm (.mk t0 y0 n0 d0 l0) 4325386 7
   have s1:=lm (.mk t1 y1 n1 d1 l1) 4325385 2
   have i0:=bB (f:=false) (ks:=[.mk t0 y0 n0 d0 l0,.mk t1 y1 n1 d1 l1,.mk t2 y2 n2 d2 l2]) (i:=0) rfl
   have i1:=bB (f:=false) (ks:=[.mk t0 y0 n0 d0 l0,.mk t1 y1 n1 d1 l1,.mk t2 y2 n2 d2 l2]) (i:=1) rfl
   have i2:=bB (f:=false) (ks:=[.mk t0 y0 n0 d0 l0,.mk t1 y1 n1 d1 l1,.mk t2 y2 n2 d2 l2]) (i:=2) rfl
   have hc:=Hq (hok (.mk t2 y2 n2 d2 l2) (by simp))
   refine bh (A:=vr (bp (.mk t y n d [.mk t0 y0 n0 d0 l0,.mk t1 y1 n1 d1 l1,.mk t2 y2 n2 d2 l2]) 4325384 1) (bp (.mk t0 y0 n0 d0 l0) 4325386 7) (bp (.mk t1 y1 n1 d1 l1) 4325385 2) (ag t0 y0 n0 (ai d0) (ad l0)) (ag t1 y1 n1 (ai d1) (ad l1)) (ag t2 y2 n2 (ai d2) (ad l2)) d0 (.agg (ag t2 y2 n2 (ai d2) (ad l2)))) base0 ao (aw (LsOk.no rfl)) (by simp only[ac,hcl,Bool.and_self]) ?_
   rw[aU] at hs⊢
   rw[aU] at s0 s1 hc
   rw[Ai,hl,vz (by simp) (by simp)]
   refine ⟨hs,aj (fun e=> ?_) fun e=>aj (fun e2=>absurd e2 (show ¬aq (.ofNat 3) 2=true by decide)) fun _=>aj (fun e3=>absurd e3 (show ¬aq 3 (.ofNat 3)=true by decide)) fun _=>⟨i0,i2,s0,aj (fun e4=> ?_) fun e4=>aj (fun e5=> ?_) fun e5=>aj (fun _=>⟨i1,s1,aj (fun e7=> ?_) fun e7=>aj (fun e8=> ?_) fun e8=>⟨vA d0,hc, ?_⟩⟩) fun e6=>absurd e6 (show ¬ak (.ofNat 3) 3=false by decide)⟩⟩
   ·rw[vB (by simpa using e)];exact dH
   all_goals rw[Bool.not_eq_false'] at e
   ·rw[show bI (.mk t y n d [.mk t0 y0 n0 d0 l0,.mk t1 y1 n1 d1 l1,.mk t2 y2 n2 d2 l2])=none from by simp only[bI,e,aV,ec,(by simpa using e4:bp (.mk t0 y0 n0 d0 l0) 4325386 7=false),Bool.false_and]];exact dH
   ·rw[show bI (.mk t y n d [.mk t0 y0 n0 d0 l0,.mk t1 y1 n1 d1 l1,.mk t2 y2 n2 d2 l2])=none from by simp only[bI,e,aV,ec,fy,(by simpa using e5:ak t2 4325387=false),Bool.false_and,Bool.and_false]];exact dH
   ·rw[show bI (.mk t y n d [.mk t0 y0 n0 d0 l0,.mk t1 y1 n1 d1 l1,.mk t2 y2 n2 d2 l2])=none from by simp only[bI,e,aV,ec,(by simpa using e7:bp (.mk t1 y1 n1 d1 l1) 4325385 2=false),Bool.false_and,Bool.and_false]];exact dH
   ·rw[show bI (.mk t y n d [.mk t0 y0 n0 d0 l0,.mk t1 y1 n1 d1 l1,.mk t2 y2 n2 d2 l2])=none from by simp only[bI,e,aV,ec,cG,(by simpa using e8:aq 0 n1=false),Bool.and_false]];exact dH
   ·rw[show bI (.mk t y n d [.mk t0 y0 n0 d0 l0,.mk t1 y1 n1 d1 l1,.mk t2 y2 n2 d2 l2])=some ⟨d0,n1,.mk t2 y2 n2 d2 l2⟩ from by simp only[bI,e,aV,ec,fy,dr,cG,(by simpa using e4:bp (.mk t0 y0 n0 d0 l0) 4325386 7=true),(by simpa using e5:ak t2 4325387=true),(by simpa using e7:bp (.mk t1 y1 n1 d1 l1) 4325385 2=true),(by simpa using e8:aq 0 n1=true),Bool.and_self]];exact vx
  |[],hb,_=>exact absurd (.inl (by simp)) hb
  |[_],hb,_=>exact absurd (.inl (by simp)) hb
  |_::_::_::_::_,hb,_=>exact absurd (.inr (by simp)) hb
theorem Hs {x:It} (h:bO bd x):SC 21 [aG x] (vw (bI x)):=by
 have hcl:=bG x
 have hs:=gL x 4325384 1
 rw[gM _ _ (by decide)] at hs
 obtain ⟨t,y,n,d,ks⟩:=x
 have hl:=lQ ks
 have hok:=sq h
 by_cases hb:ks.length<2∨3<ks.length
 ·have hr:=Hr (t:=t) (y:=y) (n:=n) (d:=d) hb
  refine bh (A:=vu (bp (.mk t y n d ks) 4325384 1) false false (ag 0 0 0 [] []) (ag 0 0 0 [] []) (ag 0 0 0 [] []) []) base0 ao (aw (LsOk.no rfl)) (by simp only[ac,hcl,Bool.and_self]) ?_
  rw[aU] at hs⊢
  rw[Aj,hl,hr]
  refine ⟨hs,aj (fun _=>dH) fun _=>aj (fun _=>dH) fun e2=>aj (fun _=>dH) fun e3=> ?_⟩
  have e2:=ltInt_false.1 e2
  have e3:=ltInt_false.1 e3
  simp only[Int.ofNat_eq_natCast] at e2 e3
  omega
 ·match ks,hb,hok with
  |[⟨t0,y0,n0,d0,l0⟩,⟨t1,y1,n1,d1,l1⟩],_,hok=>
   have s0:=gL (.mk t0 y0 n0 d0 l0) 4325386 7
   rw[gM _ _ (by decide)] at s0
   have i0:=bB (f:=false) (ks:=[.mk t0 y0 n0 d0 l0,.mk t1 y1 n1 d1 l1]) (i:=0) rfl
   have i1:=bB (f:=false) (ks:=[.mk t0 y0 n0 d0 l0,.mk t1 y1 n1 d1 l1]) (i:=1) rfl
   refine bh (A:=vu (bp (.mk t y n d [.mk t0 y0 n0 d0 l0,.mk t1 y1 n1 d1 l1]) 4325384 1) (bp (.mk t0 y0 n0 d0 l0) 4325386 7) false (ag t0 y0 n0 (ai d0) (ad l0)) (ag 0 0 0 [] []) (ag t1 y1 n1 (ai d1) (ad l1)) d0) base0 ao (aw (LsOk.no rfl)) (by simp only[ac,hcl,Bool.and_self]) ?_
   rw[aU] at hs⊢
   rw[aU] at s0
   rw[Aj,hl,vz (by simp) (by simp)]
   refine ⟨hs,aj (fun e=> ?_) fun e=>aj (fun e2=>absurd e2 (show ¬aq (.ofNat 2) 2=true by decide)) fun _=>aj (fun e3=>absurd e3 (show ¬aq 3 (.ofNat 2)=true by decide)) fun _=>⟨i0,s0,aj (fun e4=> ?_) fun e4=>⟨i0,vA d0,i1,aj (fun e6=>absurd e6 (show ¬ak (.ofNat 2) 3=true by decide)) fun _=>aj (fun e5=> ?_) fun e5=> ?_⟩⟩⟩
   ·rw[vB (by simpa using e)];exact dH
   all_goals rw[Bool.not_eq_false'] at e
   ·rw[show bI (.mk t y n d [.mk t0 y0 n0 d0 l0,.mk t1 y1 n1 d1 l1])=none from by simp only[bI,e,aV,ec,(by simpa using e4:bp (.mk t0 y0 n0 d0 l0) 4325386 7=false),Bool.false_and]];exact dH
   ·rw[show bI (.mk t y n d [.mk t0 y0 n0 d0 l0,.mk t1 y1 n1 d1 l1])=none from by simp only[bI,e,aV,ec,fy,(by simpa using e5:ak t1 4325387=false),Bool.and_false]];exact dH
   ·rw[show bI (.mk t y n d [.mk t0 y0 n0 d0 l0,.mk t1 y1 n1 d1 l1])=some ⟨d0,0,.mk t1 y1 n1 d1 l1⟩ from by simp only[bI,e,aV,ec,fy,dr,(by simpa using e4:bp (.mk t0 y0 n0 d0 l0) 4325386 7=true),(by simpa using e5:ak t1 4325387=true),Bool.and_self]];exact vx
  |[⟨t0,y0,n0,d0,l0⟩,⟨t1,y1,n1,d1,l1⟩,⟨t2,y2,n2,d2,l2⟩],_,hok=>
   have s0:=gL (.mk t0 y0 n0 d0 l0) 4325386 7
   rw[gM _ _ (by decide)] at s0
   have s1:=gL (.mk t1 y1 n1 d1 l1) 4325385 2
   rw[gM _ _ (by decide)] at s1
   have i0:=bB (f:=false) (ks:=[.mk t0 y0 n0 d0 l0,.mk t1 y1 n1 d1 l1,.mk t2 y2 n2 d2 l2]) (i:=0) rfl
   have i1:=bB (f:=false) (ks:=[.mk t0 y0 n0 d0 l0,.mk t1 y1 n1 d1 l1,.mk t2 y2 n2 d2 l2]) (i:=1) rfl
   have i2:=bB (f:=false) (ks:=[.mk t0 y0 n0 d0 l0,.mk t1 y1 n1 d1 l1,.mk t2 y2 n2 d2 l2]) (i:=2) rfl
   refine bh (A:=vu (bp (.mk t y n d [.mk t0 y0 n0 d0 l0,.mk t1 y1 n1 d1 l1,.mk t2 y2 n2 d2 l2]) 4325384 1) (bp (.mk t0 y0 n0 d0 l0) 4325386 7) (bp (.mk t1 y1 n1 d1 l1) 4325385 2) (ag t0 y0 n0 (ai d0) (ad l0)) (ag t1 y1 n1 (ai d1) (ad l1)) (ag t2 y2 n2 (ai d2) (ad l2)) d0) base0 ao (aw (LsOk.no rfl)) (by simp only[ac,hcl,Bool.and_self]) ?_
   rw[aU] at hs⊢
   rw[aU] at s0 s1
   rw[Aj,hl,vz (by simp) (by simp)]
   refine ⟨hs,aj (fun e=> ?_) fun e=>aj (fun e2=>absurd e2 (show ¬aq (.ofNat 3) 2=true by decide)) fun _=>aj (fun e3=>absurd e3 (show ¬aq 3 (.ofNat 3)=true by decide)) fun _=>⟨i0,s0,aj (fun e4=> ?_) fun e4=>⟨i0,vA d0,i2,aj (fun _=>⟨i1,s1,aj (fun e7=> ?_) fun e7=>⟨i1,aj (fun e8=> ?_) fun e8=>⟨i1,aj (fun e5=> ?_) fun e5=> ?_⟩⟩⟩) fun e6=>absurd e6 (show ¬ak (.ofNat 3) 3=false by decide)⟩⟩⟩
   ·rw[vB (by simpa using e)];exact dH
   all_goals rw[Bool.not_eq_false'] at e
   ·rw[show bI (.mk t y n d [.mk t0 y0 n0 d0 l0,.mk t1 y1 n1 d1 l1,.mk t2 y2 n2 d2 l2])=none from by simp only[bI,e,aV,ec,(by simpa using e4:bp (.mk t0 y0 n0 d0 l0) 4325386 7=false),Bool.false_and]];exact dH
   ·rw[show bI (.mk t y n d [.mk t0 y0 n0 d0 l0,.mk t1 y1 n1 d1 l1,.mk t2 y2 n2 d2 l2])=none from by simp only[bI,e,aV,ec,(by simpa using e7:bp (.mk t1 y1 n1 d1 l1) 4325385 2=false),Bool.false_and,Bool.and_false]];exact dH
   ·rw[show bI (.mk t y n d [.mk t0 y0 n0 d0 l0,.mk t1 y1 n1 d1 l1,.mk t2 y2 n2 d2 l2])=none from by simp only[bI,e,aV,ec,cG,(by simpa using e8:aq 0 n1=false),Bool.and_false]];exact dH
   ·rw[show bI (.mk t y n d [.mk t0 y0 n0 d0 l0,.mk t1 y1 n1 d1 l1,.mk t2 y2 n2 d2 l2])=none from by simp only[bI,e,aV,ec,fy,(by simpa using e5:ak t2 4325387=false),Bool.false_and,Bool.and_false]];exact dH
   ·rw[show bI (.mk t y n d [.mk t0 y0 n0 d0 l0,.mk t1 y1 n1 d1 l1,.mk t2 y2 n2 d2 l2])=some ⟨d0,n1,.mk t2 y2 n2 d2 l2⟩ from by simp only[bI,e,aV,ec,fy,dr,cG,(by simpa using e4:bp (.mk t0 y0 n0 d0 l0) 4325386 7=true),(by simpa using e5:ak t2 4325387=true),(by simpa using e7:bp (.mk t1 y1 n1 d1 l1) 4325385 2=true),(by simpa using e8:aq 0 n1=true),Bool.and_self]];exact vx
  |[],hb,_=>exact absurd (.inl (by simp)) hb
  |[_],hb,_=>exact absurd (.inl (by simp)) hb
  |_::_::_::_::_,hb,_=>exact absurd (.inr (by simp)) hb
end
noncomputable section
def nB (i but:Int) (Ls C:List AV):View:=⟨[(2,I but),(6,.bool false),(7,.fsl false Ls),(8,I i)],[(4,.ptr 0 0)],[(0,.cells C,.whole)],1,32⟩
def jA (b:Bool):View:=⟨[(6,.bool b)],[],[],1,32⟩
@[simp] abbrev Ak (D K:List AV) (a q t y:Int) (s:List UInt8):=([AV.str s,I a,I t,I y,I q,AV.fsl false D,AV.fsl false K]=[AV.str s,I a,I t,I y,I q,AV.fsl false D,AV.fsl false K]∧ac [AV.str s,I a,I t,I y,I q,AV.fsl false D,AV.fsl false K]=true)
@[simp] abbrev Al (Ls:List AV):=(AV.fsl false Ls=AV.fsl false Ls∧ah (AV.fsl false Ls)=true)
@[simp] abbrev Am:=(AV.bool false=AV.bool false∧true=true)
theorem An (s s':List UInt8) (a t y q a' t' y' q':Int) (D K D' K' Ls:List AV) (i j but:Int) (b c:Bool) (N:Prop) (Q:AExit→St→Prop):aI Tryz.prog opts0 40 (vo (.str s'::I a'::ag t' y' q' D' K') b) (aD Tryz.prog 68 4) (nB i but Ls (.str s::I a::ag t y q D K)).st (bf 0 [(0,0)] (nB j but Ls (.str s::I a::ag t y q D K)) N [] (jA c) Q)=
  (ab (aq i (Int.ofNat (aa Ls))) (ab (!ak i but) (aC Tryz.prog 54 (AV.fsl false Ls) (I i)=some (AV.fptr [AV.str s',I a',I t',I y',I q',AV.fsl false D',AV.fsl false K'] 0)∧SC 134 [AV.agg [I t',I y',I q',AV.fsl false D',AV.fsl false K'],AV.agg [I t,I y,I q,AV.fsl false D,AV.fsl false K]] (AV.bool b)∧ab b ((((AV.bool true=AV.bool c∧ah (AV.bool c)=true)∧True)∧True∧True)∧Q AExit.ret (jA c).st) ((((I but=I but∧ah (I but)=true)∧Am∧(Al Ls)∧(I (ar IntKind.i64 (i+1))=I j∧ah (I j)=true)∧True)∧((some 0=some 0∧0=0)∧True)∧(Ak D K a q t y s)∧True)∧N)) ((((I but=I but∧ah (I but)=true)∧Am∧(Al Ls)∧(I (ar IntKind.i64 (i+1))=I j∧ah (I j)=true)∧True)∧((some 0=some 0∧0=0)∧True)∧(Ak D K a q t y s)∧True)∧N)) ((((AV.bool false=AV.bool c∧ah (AV.bool c)=true)∧True)∧True∧True)∧Q (AExit.exit 0) (jA c).st)):=by kernel_rfl
def Ht (r:Bool) (but:Int) (Ls C:List AV):bq:=fun st Q=>ck 0 [(0,1)] (nB 0 but Ls C) st∧ab r (Q .ret (jA true).st) (Q (.exit 0) (jA false).st)
theorem S2 (s:List UInt8) (a t y q but:Int) (D K Ls:List AV) (r:Bool) (o:Ob) (M N L C:AV) (Q:AV→Prop):ax Tryz.prog opts0 40 (ap [] [(4,Ht r but Ls (.str s::I a::ag t y q D K))] (bg [(64,.fsl false Ls)]) [] []) 68 [.agg (ae o M N L C),.agg (.str s::I a::ag t y q D K),I but] [] 0 (fun v _ _=>Q v)=
  (SC 64 [AV.agg (ae o M N L C),AV.str s] (AV.fsl false Ls)∧(((I but=I but∧ah (I but)=true)∧Am∧(Al Ls)∧(I 0=I 0∧true=true)∧True)∧((some 1=some 1∧0=0)∧True)∧(Ak D K a q t y s)∧True)∧ab r (Q (AV.bool true)) (Q (AV.bool false))):=by kernel_rfl
theorem S3:bu (cy Tryz.prog 68) 4=[aD Tryz.prog 68 4]:=by kernel_rfl
theorem S4 {n:List UInt8} {l:List It} {s:List UInt8} {a t y q but:Int} {d:List UInt8} {ks:List It} {Q:AExit→St→Prop} (hok:∀x∈l,bO bd x) (hb:l.length≤1000):
  ∀i,i≤l.length→(ab (gp (.mk t y q d ks) but (l.drop i) i) (Q .ret (jA true).st) (Q (.exit 0) (jA false).st)→
   ALp Tryz.prog opts0.glob 0 (aD Tryz.prog 68 4) (nB (.ofNat i) but ((bX n l 0).map aB) (.str s::I a::ag t y q (ai d) (ad ks))).st Q):=by
 have hM:=ip (bX n l 0)
 have hC:ac (.str s::I a::ag t y q (ai d) (ad ks))=true:=by
  have:=eR ⟨s,a,.mk t y q d ks⟩
  exact this
 have hlen:aa ((bX n l 0).map aB)=l.length:=by rw[aE,List.length_map,rU]
 refine uu _ (fun hq=> ?_) (fun i hi ih hq=> ?_)
 ·rw[List.drop_of_length_le (Nat.le_refl _)] at hq
  refine ALp.round (A:=vo (.str []::I 0::ag 0 0 0 [] []) false) (V2:=nB 0 but ((bX n l 0).map aB) (.str s::I a::ag t y q (ai d) (ad ks))) (F:=jA false) (lk:=[(0,0)]) (lk':=[]) base0 ao (LsOk.no rfl) .refl ?_
  rw[An,hlen]
  exact aj (fun e=>(nu e).elim) fun _=>⟨⟨⟨⟨rfl,rfl⟩,trivial⟩,trivial,trivial⟩,hq⟩
 ·have g:=List.getElem?_eq_getElem hi
  have hm:=hok _ (List.getElem_mem hi)
  rw[List.drop_eq_getElem_cons hi,gp] at hq
  revert g hm hq
  generalize l[i]=x
  intro hq g hm
  have hs:=Ec x (.mk t y q d ks) hm
  have k1:=GQ (s:=n) (i:=0) g
  rw[Nat.zero_add] at k1
  obtain ⟨t',y',q',d',ks'⟩:=x
  have gx:=He (f:=false) k1
  have hw:=dG (p:=i) (by omega)
  rw[aU,aU] at hs
  revert hs hq
  generalize dL (.mk t' y' q' d' ks') (.mk t y q d ks)=b
  intro hq hs
  cases hbb:(!ak (.ofNat i) but&&b) with
  |true=>
   rw[hbb] at hq
   rw[Bool.and_eq_true] at hbb
   refine ALp.round (A:=vo (.str n::I (.ofNat i)::ag t' y' q' (ai d') (ad ks')) b) (V2:=nB (.ofNat (i+1)) but ((bX n l 0).map aB) (.str s::I a::ag t y q (ai d) (ad ks))) (F:=jA true) (lk:=[(0,0)]) (lk':=[]) base0 ao (LsOk.no rfl) .refl ?_
   rw[An,hlen]
   exact aj (fun _=>mT hbb.1 ⟨gx,hs,mT hbb.2 ⟨⟨⟨⟨rfl,rfl⟩,trivial⟩,trivial,trivial⟩,hq⟩⟩) fun e=>absurd e (gR hi)
  |false=>
   rw[hbb,Bool.false_or] at hq
   have ih:=ih hq
   refine ALp.round (A:=vo (.str n::I (.ofNat i)::ag t' y' q' (ai d') (ad ks')) b) (V2:=nB (.ofNat (i+1)) but ((bX n l 0).map aB) (.str s::I a::ag t y q (ai d) (ad ks))) (F:=jA false) (lk:=[(0,0)]) (lk':=[]) base0 ao (LsOk.no rfl) .refl ?_
   rw[An,hlen,hw]
   refine aj (fun _=>aj (fun e1=>⟨gx,hs,aj (fun e2=> ?_) fun _=>⟨⟨⟨⟨rfl,rfl⟩,⟨rfl,rfl⟩,⟨rfl,hM⟩,⟨rfl,rfl⟩,trivial⟩,⟨⟨rfl,rfl⟩,trivial⟩,⟨rfl,hC⟩,trivial⟩,ih⟩⟩) fun _=>⟨⟨⟨⟨rfl,rfl⟩,⟨rfl,rfl⟩,⟨rfl,hM⟩,⟨rfl,rfl⟩,trivial⟩,⟨⟨rfl,rfl⟩,trivial⟩,⟨rfl,hC⟩,trivial⟩,ih⟩) fun e=>absurd e (gR hi)
   rw[e1,e2] at hbb;cases hbb
section
variable {o:Ob} {k:Kd} {s:List UInt8}
theorem S5 (hof:SC 64 [az o,.str s] (.fsl false ((bX s (aK o k) 0).map aB))) (hg:lE o k) (i:Int) (v:It) (but:Int):SC 68 [az o,aB ⟨s,i,v⟩,I but] (.bool (gp v but (aK o k) 0)):=by
 have hok:=hg.i
 have hb:=hg.n
 have hcl:ac [az o,aB ⟨s,i,v⟩,I but]=true:=dj o (by simp[ac,eR,ah])
 revert hof hok hb
 generalize aK o k=l
 intro hof hok hb
 obtain ⟨t,y,q,d,ks⟩:=v
 have hM:=ip (bX s l 0)
 have hC:ac (.str s::I i::ag t y q (ai d) (ad ks))=true:=by
  have:=eR ⟨s,i,.mk t y q d ks⟩
  exact this
 refine bN (A:=ap [] [(4,Ht (gp (.mk t y q d ks) but l 0) but ((bX s l 0).map aB) (.str s::I i::ag t y q (ai d) (ad ks)))] (bg [(64,.fsl false ((bX s l 0).map aB))]) [] []) base0 ao
  (aw (LsOk.at1 rfl S3 fun st Q hs=> .seen base0.glob hs.1 (S4 hok hb 0 (Nat.zero_le _) (by rw[List.drop_zero];exact hs.2)))) hcl rfl ?_
 unfold az am at*
 rw[cM,S2]
 refine ⟨hof,⟨⟨⟨rfl,rfl⟩,⟨rfl,rfl⟩,⟨rfl,hM⟩,⟨rfl,rfl⟩,trivial⟩,⟨⟨rfl,rfl⟩,trivial⟩,⟨rfl,hC⟩,trivial⟩,aj (fun e=> ?_) fun e=> ?_⟩
 ·rw[e]
 ·rw[e]
theorem S6 (hof:SC 64 [az o,.str s] (.fsl false ((bX s (aK o k) 0).map aB))) (hs:s=aJ k) (hm:ce k=false) (hk:dg k=true):SC 65 [az o,.str s] (.bool (aq 0 (.ofNat (cL o k)))):=by
 have hcl:ac [az o,.str s]=true:=dj o rfl
 have hlen:aa ((bX s (aK o k) 0).map aB)=(aK o k).length:=by rw[aE,List.length_map,rU]
 refine bN (A:=ap [] [] (bg [(64,.fsl false ((bX s (aK o k) 0).map aB))]) [] []) base0 ao (aw (LsOk.no rfl)) hcl rfl ?_
 unfold az am at*
 rw[SK,hlen]
 subst hs
 have hone:∀ (b:Bool) (x:It),(gi k=2→b=true→ak (cG x) 0=false)→ni false (gi k) (cd b x)=(cd b x).length:=fun b x h=>by
  cases b with
  |false=>rfl
  |true=>
   show (match false||(!ak (gi k) 2|| !ak (cG x) 0) with|true=>1|false=>0)=1
   cases h2:ak (gi k) 2 with
   |false=>rfl
   |true=>rw[h (beqInt_iff.1 h2) rfl];rfl
 cases k with
 |mask=>
  refine mT rfl ?_
  show _=AV.bool (aq 0 (.ofNat (ni false 2 [a9 2 o.mask])))
  show _=AV.bool (aq 0 (.ofNat (match false||(!ak 2 2|| !ak o.mask 0) with|true=>1|false=>0)))
  cases ak o.mask 0<;>rfl
 |alg=>
  refine mF rfl ⟨hof, ?_⟩
  rw[show cL o .alg=(aK o .alg).length from hone _ _ fun e=>by cases e]
 |len=>
  refine mF rfl ⟨hof, ?_⟩
  rw[show cL o .len=(aK o .len).length from hone _ _ fun _ e=>by simpa [a9,bE,cG] using e]
 | dat j=>
  have hk4:j=1∨j=2∨j=3∨j=4:=by
   simp only[dg,lq,Bool.and_eq_true,Nat.ble_eq] at hk
   omega
  have hne:aA (aJ (.dat j)) [67,114,121,112,116,111,103,114,97,112,104,105,99,32,85,115,97,103,101,32,77,97,115,107]=false:=by
   rcases hk4 with rfl|rfl|rfl|rfl<;>rfl
  refine mF hne ⟨hof, ?_⟩
  rw[show cL o (.dat j)=(aK o (.dat j)).length from hone _ _ fun e=>by cases e]
 |lim=>
  refine mF rfl ⟨hof, ?_⟩
  rw[show cL o .lim=(aK o .lim).length from hone _ _ fun e=>by cases e]
 |nam=>cases hm
 |lnk=>cases hm
 |cus s=>cases hm
 |_=>cases hk
theorem S7 (hn:iX k) (hm:ce k=true) (hc:∀s,k= .cus s→SC 63 [.str s] (.bool true)):SC 67 [az o,.str (aJ k)] (.bool (!jq o k)):=by
 have hcl:ac [az o,.str (aJ k)]=true:=dj o rfl
 have h6:∀n m:Nat,(!aq (Int.ofNat n) (Int.ofNat m))= !Nat.blt n m:=fun n m=>by
  cases hb:Nat.blt n m with
  |true=>
   have:=blt_iff.1 hb
   rw[ltInt_iff.2 (by simp only[Int.ofNat_eq_natCast];omega)]
  |false=>
   have:¬n<m:=fun h=>by rw[blt_iff.2 h] at hb;cases hb
   rw[ltInt_false.2 (by simp only[Int.ofNat_eq_natCast];omega)]
 refine bN (A:=ap [] [] (bg [(63,.bool true)]) [] []) base0 ao (aw (LsOk.no rfl)) hcl rfl ?_
 unfold az am bV bW bo
 rw[SL]
 cases k with
 |nam=>
  refine mT rfl ?_
  have:=h6 o.names.length 6
  rw[aE,List.length_map]
  exact congrArg AV.bool this
 |lnk=>
  refine mF rfl (mT rfl ?_)
  have:=h6 o.links.length 8
  rw[aE,List.length_map]
  exact congrArg AV.bool this
 |cus s=>
  refine mF (kv hn (j:= .nam) (by simp[kinds])) (mF (kv hn (j:= .lnk) (by simp[kinds])) ⟨hc s rfl,mT rfl ?_⟩)
  have:=h6 o.cust.length 6
  rw[aE,List.length_map]
  exact congrArg AV.bool this
 |_=>cases hm
end
end
end Go.Proofs.YtmnlofhodbnenaaGreatDoor
namespace Go.Proofs.YtmnlofhodbnenaaGreatDoor
open Go Go.RowKit
open Go.Proofs.Abs
noncomputable def cA (l:List (Nat × Nat × dU)):aX:=ap l [] aH [] []
theorem S8 (o:Ob) (M N L C:AV) (s:List UInt8) (i t y n:Int) (D K:List AV) (Q:AV→Prop):ax Tryz.prog opts0 40 (cA []) 69 [.agg (ae o M N L C),aN .alg,.agg (.str s::I i::ag t y n D K)] [] 0 (fun v _ _=>Q v)=
  (au (bM Tryz.prog 38 (AV.agg (ae {o with alg:=n} M N L C)) 37) (Q (AV.agg (ae {o with alg:=n} M N L C)))):=by kernel_rfl
theorem S9 (o:Ob) (M N L C:AV) (s:List UInt8) (i t y n:Int) (D K:List AV) (Q:AV→Prop):ax Tryz.prog opts0 40 (cA []) 69 [.agg (ae o M N L C),aN .len,.agg (.str s::I i::ag t y n D K)] [] 0 (fun v _ _=>Q v)=
  (au (bM Tryz.prog 38 (AV.agg (ae {o with len:=n} M N L C)) 37) (Q (AV.agg (ae {o with len:=n} M N L C)))):=by kernel_rfl
theorem Ta (o:Ob) (M N L C:AV) (s:List UInt8) (i t y n:Int) (D K:List AV) (Q:AV→Prop):ax Tryz.prog opts0 40 (cA []) 69 [.agg (ae o M N L C),aN .mask,.agg (.str s::I i::ag t y n D K)] [] 0 (fun v _ _=>Q v)=
  (au (bM Tryz.prog 38 (AV.agg (ae {o with mask:=n} M N L C)) 37) (Q (AV.agg (ae {o with mask:=n} M N L C)))):=by kernel_rfl
theorem Tb (o:Ob) (M N L C:AV) (s:List UInt8) (i t y n:Int) (D K:List AV) (Q:AV→Prop):ax Tryz.prog opts0 40 (cA []) 69 [.agg (ae o M N L C),aN (.dat 1),.agg (.str s::I i::ag t y n D K)] [] 0 (fun v _ _=>Q v)=
  (au (bM Tryz.prog 38 (AV.agg (ae {o with d1:=⟨true,n⟩} M N L C)) 37) (Q (AV.agg (ae {o with d1:=⟨true,n⟩} M N L C)))):=by kernel_rfl
theorem Tc (o:Ob) (M N L C:AV) (s:List UInt8) (i t y n:Int) (D K:List AV) (Q:AV→Prop):ax Tryz.prog opts0 40 (cA []) 69 [.agg (ae o M N L C),aN (.dat 2),.agg (.str s::I i::ag t y n D K)] [] 0 (fun v _ _=>Q v)=
  (au (bM Tryz.prog 38 (AV.agg (ae {o with d2:=⟨true,n⟩} M N L C)) 37) (Q (AV.agg (ae {o with d2:=⟨true,n⟩} M N L C)))):=by kernel_rfl
theorem Td (o:Ob) (M N L C:AV) (s:List UInt8) (i t y n:Int) (D K:List AV) (Q:AV→Prop):ax Tryz.prog opts0 40 (cA []) 69 [.agg (ae o M N L C),aN (.dat 3),.agg (.str s::I i::ag t y n D K)] [] 0 (fun v _ _=>Q v)=
  (au (bM Tryz.prog 38 (AV.agg (ae {o with d3:=⟨true,n⟩} M N L C)) 37) (Q (AV.agg (ae {o with d3:=⟨true,n⟩} M N L C)))):=by kernel_rfl
theorem Te (o:Ob) (M N L C:AV) (s:List UInt8) (i t y n:Int) (D K:List AV) (Q:AV→Prop):ax Tryz.prog opts0 40 (cA []) 69 [.agg (ae o M N L C),aN (.dat 4),.agg (.str s::I i::ag t y n D K)] [] 0 (fun v _ _=>Q v)=
  (au (bM Tryz.prog 38 (AV.agg (ae {o with d4:=⟨true,n⟩} M N L C)) 37) (Q (AV.agg (ae {o with d4:=⟨true,n⟩} M N L C)))):=by kernel_rfl
theorem Tf (o:Ob) (M N L C:AV) (s:List UInt8) (i t y n t0 y0 n0 t1 y1 n1 t2 y2 n2:Int) (D K D0 K0 D1 K1 D2 K2:List AV) (Q:AV→Prop):ax Tryz.prog opts0 40 (cA [(30,2,.res (.fptr (ag t0 y0 n0 D0 K0) 0)),(30,7,.res (.fptr (ag t1 y1 n1 D1 K1) 0)),(30,12,.res (.fptr (ag t2 y2 n2 D2 K2) 0))]) 69 [.agg (ae o M N L C),aN .lim,.agg (.str s::I i::ag t y n D K)] [] 0 (fun v _ _=>Q v)=
  (aC Tryz.prog 24 (AV.fsl false K) (I 0)=some (AV.fptr [I t0,I y0,I n0,AV.fsl false D0,AV.fsl false K0] 0)∧aC Tryz.prog 24 (AV.fsl false K) (I 1)=some (AV.fptr [I t1,I y1,I n1,AV.fsl false D1,AV.fsl false K1] 0)∧aC Tryz.prog 24 (AV.fsl false K) (I 2)=some (AV.fptr [I t2,I y2,I n2,AV.fsl false D2,AV.fsl false K2] 0)∧au (bM Tryz.prog 38 (AV.agg (ae {o with lh:=true,lt:=n0,lc:=n1,lu:=n2} M N L C)) 37) (Q (AV.agg (ae {o with lh:=true,lt:=n0,lc:=n1,lu:=n2} M N L C)))):=by kernel_rfl
theorem Tg (o:Ob) (M L C:AV) (s x:List UInt8) (t y n:Int) (D K:List AV) (Q:AV→af→Prop):ax Tryz.prog opts0 40 (cA [(17,6,.res (.str x))]) 69 [.agg (ae o M (.fsl false []) L C),aN .nam,.agg (.str s::I 0::ag t y n D K)] [] 0 (fun v H _=>Q v H)=
  (cR Tryz.prog 23 9 (AV.fsl false D)=some (Eff.val (AV.str x))∧au (bM Tryz.prog 38 (AV.agg (ae o M (AV.rsl true 27 0 1 1) L C)) 37) (Q (AV.agg (ae o M (AV.rsl true 27 0 1 1) L C)) [(27,some (Blk.cells [AV.str x])),(6,some (Blk.cells [I t,I y,I n,AV.fsl false D,AV.fsl false K])),(3,some (Blk.cells (ae o M (AV.rsl true 27 0 1 1) L C))),(2,some (Blk.cells [AV.str s,I 0,I t,I y,I n,AV.fsl false D,AV.fsl false K])),(1,some (Blk.cells [AV.str [78,97,109,101],I 7,AV.bool true,AV.bool true,AV.str [65,77,68],AV.str [],I (Int.negSucc 0)])),(0,some (Blk.cells (ae o M (AV.rsl true 27 0 1 1) L C)))])):=by kernel_rfl
theorem Th (o:Ob) (M N C:AV) (s x:List UInt8) (t y n t0 y0 n0 t1 y1 n1:Int) (D K D0 K0 D1 K1:List AV) (Q:AV→af→Prop):ax Tryz.prog opts0 40 (cA [(28,6,.res (.fptr (ag t0 y0 n0 D0 K0) 0)),(28,11,.res (.fptr (ag t1 y1 n1 D1 K1) 0)),(28,14,.res (.str x))]) 69 [.agg (ae o M N (.fsl false []) C),aN .lnk,.agg (.str s::I 0::ag t y n D K)] [] 0 (fun v H _=>Q v H)=
  (aC Tryz.prog 24 (AV.fsl false K) (I 0)=some (AV.fptr [I t0,I y0,I n0,AV.fsl false D0,AV.fsl false K0] 0)∧aC Tryz.prog 24 (AV.fsl false K) (I 1)=some (AV.fptr [I t1,I y1,I n1,AV.fsl false D1,AV.fsl false K1] 0)∧cR Tryz.prog 23 9 (AV.fsl false D1)=some (Eff.val (AV.str x))∧au (bM Tryz.prog 38 (AV.agg (ae o M N (AV.rsl true 44 0 1 2) C)) 37) (Q (AV.agg (ae o M N (AV.rsl true 44 0 1 2) C)) [(44,some (Blk.cells [I n0,AV.str x])),(6,some (Blk.cells [I t,I y,I n,AV.fsl false D,AV.fsl false K])),(3,some (Blk.cells (ae o M N (AV.rsl true 44 0 1 2) C))),(2,some (Blk.cells [AV.str s,I 0,I t,I y,I n,AV.fsl false D,AV.fsl false K])),(1,some (Blk.cells [AV.str [76,105,110,107],I 1,AV.bool true,AV.bool true,AV.str [65,77,68],AV.str [],I (Int.negSucc 0)])),(0,some (Blk.cells (ae o M N (AV.rsl true 44 0 1 2) C)))])):=by kernel_rfl
end Go.Proofs.YtmnlofhodbnenaaGreatDoor
