import Derived.Test.YtjmnheinkchlfaaGreatDoorQ2
import Derived.KernelRfl
import Derived.Test.YtjmnheinkchlfaaGreatDoorG5
namespace Go.Proofs.YtjmnheinkchlfaaGreatDoor
open Go Go.RowKit
open Go.Proofs.Abs
theorem Ee (t y n:Int) (D K:List AV) (Q:AV→Prop):aA Tryz.prog opts0 40 (ar [] [] (ed [(363,.agg (ai t y n D K))]) [] []) 283 [.agg [I 0,I 0,I 0,.nilsl,.fsl true [.agg (ai t y n D K)]],I t] [] 0 (fun v _ _=>Q v)=
  (ah (ag t t) (SC 363 [AV.agg [I t,I y,I n,AV.fsl false D,AV.fsl false K]] (AV.agg [I t,I y,I n,AV.fsl false D,AV.fsl false K])∧Q (AV.tuple [AV.agg [I t,I y,I n,AV.fsl false D,AV.fsl false K],AV.bool true])) (Q (AV.tuple [AV.agg [I 0,I 0,I 0,AV.nilsl,AV.nilsl],AV.bool false]))):=by kernel_rfl
def dQ:It→Int
 | .mk t _ _ _ _=>t
theorem ia (ks:List It):ac (ab ks)=ks.length:=by rw[ap,dc]
theorem Ef {t y n:Int} {d:List UInt8} {ks:List It} (h:aX aD (.mk t y n d ks)):∀x∈ks,aX aD x:=okIs_iff.1 h.2.2
theorem Eg {t y n:Int} {D K:List AV} (hc:SC 363 [.agg (ai t y n D K)] (.agg (ai t y n D K))) (hcl:ad (.agg (ai t y n D K))=true):SC 283 [.agg [I 0,I 0,I 0,.nilsl,.fsl true [.agg (ai t y n D K)]],I t] (.tuple [.agg (ai t y n D K),.bool true]):=by
 refine dx (A:=ar [] [] (ed [(363,.agg (ai t y n D K))]) [] []) base0 au (aF (LsOk.no rfl)) (by simp only[ae,ad] at hcl⊢;simp only[hcl,Bool.and_self]) ?_
 rw[Ee]
 exact aw (fun _=>⟨hc,eH (by simp only[ad,ae] at hcl⊢;simp only[hcl,Bool.and_self])⟩) fun e=>by rw[beqInt_false] at e;exact absurd rfl e
theorem Eh {i n:Nat} (h:i<n):(i9 (Int.ofNat i)&&(Nat.blt (Int.ofNat i).toNat n&&true))=true:=by
 have h1:Nat.blt (Int.ofNat i).toNat n=true:=blt_iff.2 (by simpa using h)
 rw[h1];rfl
structure SetI (o:Ob):Prop where
 ok:Okay o
 c:∀x∈o.cust,x.name∈tk∧tD x.name=true
theorem SetI.cus {o:Ob} (h:SetI o) {s:List UInt8} (hs:s∈tk):D7 (tD s) s o:=
 ⟨fun hc=>(by decide:∀s∈tk,tD s=true→∀k∈kinds,tC k≠s) s hs hc,fun hc x hx e=>by
  have:=(h.c x hx).2
  rw[e,hc] at this
  cases this⟩
theorem SetI.len {o:Ob} (h:SetI o):(ya o).length≤90000:=by
 have h1:=yb h.ok.g kinds
 have h2:=yc o.cust []
 have h4:=(yd o.cust []).len
 have h5:=h.ok.fit.c
 rw[h2,List.length_map] at h4
 rw[show kinds.length=20 from rfl] at h1
 rw[ya,List.length_append]
 omega
noncomputable section
def bQ (tag ty:Int):AV:= .agg [I tag,I ty,.bool false,.bool true]
def yi (tag ty:Int) (K:List AV) (i:Nat):List (Nat × AV):=[(1,.fsl true [bQ tag ty]),(7,I 0),(19,.fsl false K),(20,I (.ofNat (ac K))),(21,I (.ofNat i))]
def cu (tag ty:Int) (K:List AV) (i:Nat):View:=⟨yi tag ty K i,[(6,.rsl true 0 0 1 1)],[(0,.cells [.nilsl],.whole)],2,90⟩
def cZ (tag ty:Int) (K:List AV) (i k:Nat) (es:List AV):View:=⟨yi tag ty K i,[(6,.rsl true 0 0 1 1)],[(0,.cells [.rsl true 1 0 k 5],.rel),(1,.cells es,.whole)],2,90⟩
def cE (r:Int):View:=⟨[(4,.nilsl),(5,I r)],[],[],2,90⟩
def ib (t y n:Int) (D L:List AV) (r:Int):aN:=ar [(7,0,.res (.fptr (ai t y n D L) 0))] [] (bT [(159,fun _=>some (I r)),(160,fun _=>some (.agg (ai t y n D L)))]) [] []
theorem yj (tag ty t:Int) (Q:AV→Prop):aA Tryz.prog opts0 40 aZ 159 [.fsl true [bQ tag ty],I 0,I t] [] 0 (fun v _ _=>Q v)=
  (ah (ag tag t) (Q (I 0)) (Q (I (Int.negSucc 0)))):=by kernel_rfl
abbrev nh (D K:List AV) (n t y:Int):=[I t,I y,I n,AV.fsl false D,AV.fsl false K]
theorem Ei (t y n:Int) (D K:List AV) (Q:AV→Prop):aA Tryz.prog opts0 40 (ar [] [] (ed [(283,.tuple [.agg (ai t y n D K),.bool true])]) [] []) 160 [.agg (ai t y n D K)] [] 0 (fun v _ _=>Q v)=
  (SC 283 [AV.agg [I 0,I 0,I 0,AV.nilsl,AV.fsl true [AV.agg (nh D K n t y)]],I t] (AV.tuple [AV.agg (nh D K n t y),AV.bool true])∧Q (AV.agg (nh D K n t y))):=by kernel_rfl
abbrev gB (tag ty:Int):=[I tag,I ty,AV.bool false,AV.bool true]
abbrev gC (D L:List AV) (n t y:Int):=[I t,I y,I n,AV.fsl false D,AV.fsl false L]
@[simp] abbrev yk (D K L:List AV) (Q:AExit→St→Prop) (i:Nat) (n t tag ty y:Int):=(aJ Tryz.prog 29 (AV.fsl false K) (I (Int.ofNat i))=some (AV.fptr (gC D L n t y) 0)∧SC 159 [AV.fsl true [AV.agg (gB tag ty)],I 0,I t] (I (Int.negSucc 0))∧(((AV.nilsl=AV.nilsl∧true=true)∧(I 4=I 4∧true=true)∧True)∧True∧True)∧Q AExit.ret (cE 4).st)
theorem Ej (tag ty:Int) (K:List AV) (i:Nat) (t y n:Int) (D L:List AV) (Nx:Prop) (Q:AExit→St→Prop):al Tryz.prog opts0 40 (ib t y n D L (-1)) (aq Tryz.prog 69 7) (cu tag ty K i).st (aO 0 [(0,0)] (cu tag ty K i) Nx [] (cE 4) Q)=
  (ah (am (Int.ofNat i) (Int.ofNat (ac K))) (yk D K L Q i n t tag ty y) (((False∧False∧True)∧True∧True)∧Q (AExit.exit 0) (cE 4).st)):=by kernel_rfl
theorem Ek (tag ty:Int) (K:List AV) (i k:Nat) (es:List AV) (t y n:Int) (D L:List AV) (Nx:Prop) (Q:AExit→St→Prop):al Tryz.prog opts0 40 (ib t y n D L (-1)) (aq Tryz.prog 69 7) (cZ tag ty K i (k+1) es).st (aO 0 [(0,0)] (cu tag ty K i) Nx [] (cE 4) Q)=
  (ah (am (Int.ofNat i) (Int.ofNat (ac K))) (yk D K L Q i n t tag ty y) (((False∧False∧True)∧True∧True)∧Q (AExit.exit 0) (cE 4).st)):=by kernel_rfl
@[simp] abbrev po (tag ty:Int):=(AV.fsl true [AV.agg (gB tag ty)]=AV.fsl true [AV.agg (gB tag ty)]∧ad (AV.fsl true [AV.agg (gB tag ty)])=true)
@[simp] abbrev pp (K:List AV):=(I (Int.ofNat (ac K))=I (Int.ofNat (ac K))∧ad (I (Int.ofNat (ac K)))=true)
@[simp] abbrev pq (K:List AV):=(AV.fsl false K=AV.fsl false K∧ad (AV.fsl false K)=true)
@[simp] abbrev pt:=((true=true∧some 0=some 0∧0=0∧1=1∧1=1)∧True)
@[simp] abbrev ni:=(I 0=I 0∧true=true)
@[simp] abbrev yl:=(((AV.nilsl=AV.nilsl∧true=true)∧(I 7=I 7∧true=true)∧True)∧True∧True)
theorem El (tag ty:Int) (K:List AV) (i j:Nat) (es:List AV) (t y n:Int) (D L:List AV) (Nx:Prop) (Q:AExit→St→Prop):al Tryz.prog opts0 40 (ib t y n D L 0) (aq Tryz.prog 69 7) (cu tag ty K i).st (aO 0 [(0,0),(1,50)] (cZ tag ty K j 1 es) Nx [] (cE 7) Q)=
  (ah (am (Int.ofNat i) (Int.ofNat (ac K))) (aJ Tryz.prog 29 (AV.fsl false K) (I (Int.ofNat i))=some (AV.fptr (gC D L n t y) 0)∧SC 159 [AV.fsl true [AV.agg (gB tag ty)],I 0,I t] (I 0)∧ah (!ag y ty) (yl∧Q AExit.ret (cE 7).st) (SC 160 [AV.agg (gC D L n t y)] (AV.agg (gC D L n t y))∧(((po tag ty)∧ni∧(pq K)∧(pp K)∧(I (af IntKind.i64 (Int.ofNat i+1))=I (Int.ofNat j)∧ad (I (Int.ofNat j))=true)∧True)∧pt∧bx [(0,0),(1,50)] [AV.rsl true 1 0 1 5] [AV.rsl true 50 0 1 5]∧((gC D L n t y)=es∧ae es=true)∧True)∧Nx)) (((False∧False∧True)∧True∧True)∧Q (AExit.exit 0) (cE 7).st)):=by kernel_rfl
abbrev tM:=[I 0,I 0,I 0,AV.nilsl,AV.nilsl]
theorem Em (tag ty:Int) (K:List AV) (i j k k':Nat) (es es':List AV) (t y n:Int) (D L:List AV) (Nx:Prop) (Q:AExit→St→Prop):al Tryz.prog opts0 40 (ib t y n D L 0) (aq Tryz.prog 69 7) (cZ tag ty K i (k+1) es).st (aO 0 [(0,0),(1,50)] (cZ tag ty K j k' es') Nx [] (cE 7) Q)=
  (ah (am (Int.ofNat i) (Int.ofNat (ac K))) (aJ Tryz.prog 29 (AV.fsl false K) (I (Int.ofNat i))=some (AV.fptr (gC D L n t y) 0)∧SC 159 [AV.fsl true [AV.agg (gB tag ty)],I 0,I t] (I 0)∧ah (!ag y ty) (yl∧Q AExit.ret (cE 7).st) (SC 160 [AV.agg (gC D L n t y)] (AV.agg (gC D L n t y))∧aE (((k+1+1)*72).ble 140737488355328&&true) (aE ((ac es).beq ((k+1)*5)) (aE (i9 (Int.ofNat (k+1))&&((Int.ofNat (k+1)).toNat.blt (k+1+1)&&true)) (aE ((0+(Int.ofNat (k+1)).toNat*5+5).ble (ac (es++tM))) ((((po tag ty)∧ni∧(pq K)∧(pp K)∧(I (af IntKind.i64 (Int.ofNat i+1))=I (Int.ofNat j)∧ad (I (Int.ofNat j))=true)∧True)∧pt∧bx [(0,0),(1,50)] [AV.rsl true 1 0 k' 5] [AV.rsl true 50 0 (k+1+1) 5]∧(List.take (0+(Int.ofNat (k+1)).toNat*5) (es++tM)++I t::I y::I n::AV.fsl false D::AV.fsl false L::List.drop (0+(Int.ofNat (k+1)).toNat*5+ac (gC D L n t y)) (es++tM)=es'∧ae es'=true)∧True)∧Nx)))))) (((False∧False∧True)∧True∧True)∧Q (AExit.exit 0) (cE 7).st)):=by kernel_rfl
@[simp] abbrev ym (K:List AV) (i:Nat) (tag ty:Int):=((po tag ty)∧ni∧(pq K)∧(pp K)∧(I (Int.ofNat i)=I (Int.ofNat i)∧ad (I (Int.ofNat i))=true)∧True)
theorem En (tag ty:Int) (K:List AV) (i:Nat) (Nx:Prop) (Q:AExit→St→Prop):al Tryz.prog opts0 40 (ar [(6,0,.res (.bool false))] [] aI [] []) (aq Tryz.prog 69 7) (cu tag ty K i).st (aO 0 [(0,0)] (cu tag ty K i) Nx [(0,0)] (cu tag ty K i) Q)=
  (an Tryz.prog BinOp.lss 3 (Operand.tmp 21) (Operand.tmp 20) (I (Int.ofNat i)) (I (Int.ofNat (ac K)))=some (AV.bool false)∧((ym K i tag ty)∧pt∧([AV.nilsl]=[AV.nilsl]∧true=true)∧True)∧Q (AExit.exit 0) (cu tag ty K i).st):=by kernel_rfl
theorem Eo (tag ty:Int) (K:List AV) (i k:Nat) (es:List AV) (Nx:Prop) (Q:AExit→St→Prop):al Tryz.prog opts0 40 (ar [(6,0,.res (.bool false))] [] aI [] []) (aq Tryz.prog 69 7) (cZ tag ty K i k es).st (aO 0 [(0,0)] (cu tag ty K i) Nx [(0,0),(1,1)] (cZ tag ty K i k es) Q)=
  (an Tryz.prog BinOp.lss 3 (Operand.tmp 21) (Operand.tmp 20) (I (Int.ofNat i)) (I (Int.ofNat (ac K)))=some (AV.bool false)∧((ym K i tag ty)∧pt∧bx [(0,0),(1,1)] [AV.rsl true 1 0 k 5] [AV.rsl true 1 0 k 5]∧(es=es∧ae es=true)∧True)∧Q (AExit.exit 0) (cZ tag ty K i k es).st):=by kernel_rfl
def kH (tag ty:Int) (K:List AV) (e:AExit) (F:View):a7:=fun st Q=>ck 0 [(0,8)] (cu tag ty K 0) st∧Q e F.st
abbrev pu:=(AV.tuple [AV.nilsl,I 4])
theorem Ep (tag ty:Int) (t y n:Int) (D K:List AV) (Q:AV→Prop):aA Tryz.prog opts0 40 (ar [] [(7,fun _ _=>False)] aI [] []) 69 [.agg (ai t y n D K),.fsl true [bQ tag ty]] [] 0 (fun v _ _=>Q v)=
  (aE (!ag y 1) (Q pu)):=by kernel_rfl
@[simp] abbrev tN (K:List AV) (tag ty:Int):=(((po tag ty)∧ni∧(pq K)∧(pp K)∧ni∧True)∧((true=true∧some 8=some 8∧0=0∧1=(Int.ofNat (ac [AV.agg (gB tag ty)])).toNat∧1=1)∧True)∧([AV.nilsl]=[AV.nilsl]∧true=true)∧True)
theorem Er (tag ty:Int) (t y n r:Int) (D K:List AV) (Q:AV→Prop):aA Tryz.prog opts0 40 (ar [] [(7,kH tag ty K .ret (cE r))] aI [] []) 69 [.agg (ai t y n D K),.fsl true [bQ tag ty]] [] 0 (fun v _ _=>Q v)=
  (ah (!ag y 1) (Q pu) ((tN K tag ty)∧Q (AV.tuple [AV.nilsl,I r]))):=by kernel_rfl
theorem Es (tag ty:Int) (t y n:Int) (D K:List AV) (i:Nat) (Q:AV→aa→Prop):aA Tryz.prog opts0 40 (ar [] [(7,kH tag ty K (.exit 0) (cu tag ty K i))] aI [] []) 69 [.agg (ai t y n D K),.fsl true [bQ tag ty]] [] 0 (fun v H _=>Q v H)=
  (ah (!ag y 1) (Q pu [(0,some (Blk.cells (nh D K n t y)))]) ((tN K tag ty)∧Q (AV.tuple [AV.rsl true 0 0 1 1,I 0]) [(9,some (Blk.cells (gB tag ty))),(0,some (Blk.cells [AV.nilsl]))])):=by kernel_rfl
theorem Et (tag ty:Int) (t y n:Int) (D K:List AV) (i k:Nat) (es:List AV) (Q:AV→aa→Prop):aA Tryz.prog opts0 40 (ar [] [(7,kH tag ty K (.exit 0) (cZ tag ty K i k es))] aI [] []) 69 [.agg (ai t y n D K),.fsl true [bQ tag ty]] [] 0 (fun v H _=>Q v H)=
  (ah (!ag y 1) (Q pu [(0,some (Blk.cells (nh D K n t y)))]) ((tN K tag ty)∧Q (AV.tuple [AV.rsl true 0 0 1 1,I 0]) [(9,some (Blk.cells (gB tag ty))),(0,some (Blk.cells [AV.rsl true 1 0 k 5])),(1,some (Blk.cells es))])):=by kernel_rfl
end
def fl:It→Int
 | .mk _ y _ _ _=>y
def bE (tag ty:Int):List It→Int
 |[]=>0
 | x::r=>match ag tag (dQ x) with
  |false=>4
  |true=>match ag (fl x) ty with
   |false=>7
   |true=>bE tag ty r
def dR (tag ty:Int) (x:It):Int:=match ag (fl x) 1 with
 |false=>4
 |true=>bE tag ty (dd x)
def eM (tag ty:Int) (x:It):AV:=match ag (dR tag ty x) 0 with
 |true=> .tuple [.fsl false [.fsl false (ab (dd x))],I 0]
 |false=> .tuple [.nilsl,I (dR tag ty x)]
theorem Eu {es z x:List AV} {n:Nat} (h:es.length=n) (hz:z.length=x.length):List.take n (es++z)++(x++List.drop (n+ac x) (es++z))=es++x:=by
 subst h
 rw[ap,←hz,←List.length_append,List.drop_length,List.append_nil,List.take_left]
theorem kI {lk:List (Nat × Nat)} {a b:AV} (h:RenV lk a b):bx lk [a] [b]:=⟨by simp only[RenL];exact ⟨h,trivial⟩⟩
theorem Ew {tag ty t:Int} (h:ag tag t=true):SC 159 [.fsl true [bQ tag ty],I 0,I t] (I 0):=by
 refine dx (A:=aZ) base0 ct (aF (LsOk.no rfl)) rfl ?_
 rw[yj]
 exact aw (fun _=>eH rfl) fun e=>by rw[h] at e;cases e
theorem Ex {tag ty t:Int} (h:ag tag t=false):SC 159 [.fsl true [bQ tag ty],I 0,I t] (I (-1)):=by
 refine dx (A:=aZ) base0 ct (aF (LsOk.no rfl)) rfl ?_
 rw[yj]
 exact aw (fun e=>by rw[h] at e;cases e) fun _=>eH rfl
theorem pv {x:It} (h:aX aD x):SC 160 [ao x] (ao x):=by
 have hc:=xR x h
 have hcl:=cC x
 obtain ⟨t,y,n,d,ks⟩:=x
 rw[br] at hc hcl⊢
 refine dx (A:=ar [] [] (ed [(283,.tuple [.agg (ai t y n (aj d) (ab ks)),.bool true])]) [] []) base0 au (aF (LsOk.no rfl)) (by simp only[ae,hcl,Bool.and_self]) ?_
 rw[Ei]
 exact ⟨Eg hc hcl,eH hcl⟩
section
variable {tag ty:Int} {ks:List It}
noncomputable def yn (tag ty:Int) (ks:List It):Nat→View
 |0=>cu tag ty (ab ks) 0
 |i+1=>cZ tag ty (ab ks) (i+1) (i+1) (aR ks (i+1))
def ju (tag ty:Int) (ks:List It) (Q:AExit→St→Prop):Prop:=match ag (bE tag ty ks) 0 with
 |true=>Q (.exit 0) (yn tag ty ks ks.length).st
 |false=>Q .ret (cE (bE tag ty ks)).st
theorem yp {Q:AExit→St→Prop} (hb:ks.length≤90000) (hok:∀x∈ks,aX aD x) (hq:ju tag ty ks Q):∀m i:Nat,i+m=ks.length→bE tag ty (ks.drop i)=bE tag ty ks→ALp Tryz.prog opts0.glob 0 (aq Tryz.prog 69 7) (yn tag ty ks i).st Q:=by
 have hK:ae (ab ks)=true:=bA ks
 have hlen:=ia ks
 have hL:ad (.fsl true [bQ tag ty])=true:=rfl
 intro m
 induction m with
 | zero=>
  intro i hi hp
  rw[Nat.add_zero] at hi
  subst hi
  rw[List.drop_length] at hp
  have h0:ag (bE tag ty ks) 0=true:=by rw[←hp];rfl
  unfold ju at hq
  rw[h0] at hq
  have hf:an Tryz.prog .lss 3 (.tmp 21) (.tmp 20) (I (.ofNat ks.length)) (I (.ofNat (ac (ab ks))))=some (.bool false):=eI (by rw[hlen];omega)
  revert hq hf
  cases ks.length with
  |zero=>
   intro hq hf
   refine ALp.round (A:=ar [(6,0,.res (.bool false))] [] aI [] []) (V2:=cu tag ty (ab ks) 0) (F:=cu tag ty (ab ks) 0) (lk:=[(0,0)]) (lk':=[(0,0)]) base0 au (LsOk.no rfl) .refl ?_
   show al Tryz.prog opts0 40 _ _ (cu tag ty (ab ks) 0).st _
   rw[En]
   exact ⟨hf,⟨⟨⟨rfl,rfl⟩,⟨rfl,rfl⟩,⟨rfl,hK⟩,⟨rfl,rfl⟩,⟨rfl,rfl⟩,trivial⟩,⟨⟨rfl,rfl,rfl,rfl,rfl⟩,trivial⟩,⟨rfl,rfl⟩,trivial⟩,hq⟩
  |succ i=>
   intro hq hf
   have hE:ae (aR ks (i+1))=true:=gy
   refine ALp.round (A:=ar [(6,0,.res (.bool false))] [] aI [] []) (V2:=cu tag ty (ab ks) (i+1)) (F:=cZ tag ty (ab ks) (i+1) (i+1) (aR ks (i+1))) (lk:=[(0,0)]) (lk':=[(0,0),(1,1)]) base0 au (LsOk.no rfl) .refl ?_
   show al Tryz.prog opts0 40 _ _ (cZ tag ty (ab ks) (i+1) (i+1) (aR ks (i+1))).st _
   rw[Eo]
   exact ⟨hf,⟨⟨⟨rfl,rfl⟩,⟨rfl,rfl⟩,⟨rfl,hK⟩,⟨rfl,rfl⟩,⟨rfl,rfl⟩,trivial⟩,⟨⟨rfl,rfl,rfl,rfl,rfl⟩,trivial⟩,kI (.rsl _ _ _ _ _ _ rfl),⟨rfl,hE⟩,trivial⟩,hq⟩
 | succ m ih=>
  intro i hi hp
  have hlt:i<ks.length:=by omega
  have g:=List.getElem?_eq_getElem hlt
  have hx:=hok _ (List.getElem_mem hlt)
  have hs:=m6 g
  have ih:=ih (i+1) (by omega)
  rw[List.drop_eq_getElem_cons hlt] at hp
  revert g hx hs hp
  generalize ks[i]=x
  intro hp g hx hs
  have hc:=pv hx
  obtain ⟨t,y,n,d,l⟩:=x
  have hi0:=fg (f:=false) g
  rw[br] at hc
  have no {p:Prop} (h:am (.ofNat i) (.ofNat (ac (ab ks)))=false):p:=by
   have h:=ltInt_false.1 h
   rw[hlen] at h
   simp only[Int.ofNat_eq_natCast] at h
   omega
  have hw:af .i64 (Int.ofNat i+1)=Int.ofNat (i+1):=eK (by omega)
  simp only[bE,dQ,fl] at hp
  cases htag:ag tag t with
  | false=>
   rw[htag] at hp
   have hpl:=Ex (ty:=ty) htag
   unfold ju at hq
   rw[←hp] at hq
   cases i with
   |zero=>
    refine ALp.round (A:=ib t y n (aj d) (ab l) (-1)) (V2:=cu tag ty (ab ks) 0) (F:=cE 4) (lk:=[(0,0)]) (lk':=[]) base0 au (LsOk.no rfl) .refl ?_
    show al Tryz.prog opts0 40 _ _ (cu tag ty (ab ks) 0).st _
    rw[Ej]
    exact aw (fun _=>⟨hi0,hpl,⟨⟨⟨rfl,rfl⟩,⟨rfl,rfl⟩,trivial⟩,trivial,trivial⟩,hq⟩) no
   |succ i=>
    refine ALp.round (A:=ib t y n (aj d) (ab l) (-1)) (V2:=cu tag ty (ab ks) (i+1)) (F:=cE 4) (lk:=[(0,0)]) (lk':=[]) base0 au (LsOk.no rfl) .refl ?_
    show al Tryz.prog opts0 40 _ _ (cZ tag ty (ab ks) (i+1) (i+1) (aR ks (i+1))).st _
    rw[Ek]
    exact aw (fun _=>⟨hi0,hpl,⟨⟨⟨rfl,rfl⟩,⟨rfl,rfl⟩,trivial⟩,trivial,trivial⟩,hq⟩) no
  | true=>
   rw[htag] at hp
   have hpl:=Ew (ty:=ty) htag
   have hE:ae (aR ks (i+1))=true:=gy
   have hn:ag y ty=true→ALp Tryz.prog opts0.glob 0 (aq Tryz.prog 69 7) (cZ tag ty (ab ks) (i+1) (i+1) (aR ks (i+1))).st Q:=fun e=>by
    rw[e] at hp
    exact ih hp
   have hr:(!ag y ty)=true→Q .ret (cE 7).st:=fun e=>by
    rw[Bool.not_eq_true'] at e
    rw[e] at hp
    unfold ju at hq
    rw[←hp] at hq
    exact hq
   cases i with
   |zero=>
    refine ALp.round (A:=ib t y n (aj d) (ab l) 0) (V2:=cZ tag ty (ab ks) 1 1 (aR ks 1)) (F:=cE 7) (lk:=[(0,0),(1,50)]) (lk':=[]) base0 au (LsOk.no rfl) .refl ?_
    show al Tryz.prog opts0 40 _ _ (cu tag ty (ab ks) 0).st _
    rw[El,hw]
    exact aw (fun _=>⟨hi0,hpl,aw (fun e=>⟨⟨⟨⟨rfl,rfl⟩,⟨rfl,rfl⟩,trivial⟩,trivial,trivial⟩,hr e⟩) fun e=>⟨hc,⟨⟨⟨rfl,rfl⟩,⟨rfl,rfl⟩,⟨rfl,hK⟩,⟨rfl,rfl⟩,⟨rfl,rfl⟩,trivial⟩,⟨⟨rfl,rfl,rfl,rfl,rfl⟩,trivial⟩,kI (.rsl _ _ _ _ _ _ rfl),⟨hs,hE⟩,trivial⟩,hn (by simpa using e)⟩⟩) no
   | succ i=>
    have hel:(aR ks (i+1)).length=(i+1)*5:=tB (by omega)
    have he:=Eu (es:=aR ks (i+1)) (z:=[I 0,I 0,I 0,.nilsl,.nilsl]) (x:=ai t y n (aj d) (ab l)) (n:=0+(Int.ofNat (i+1)).toNat*5) (by rw[hel];simp) rfl
    refine ALp.round (A:=ib t y n (aj d) (ab l) 0) (V2:=cZ tag ty (ab ks) (i+1+1) (i+1+1) (aR ks (i+1+1))) (F:=cE 7) (lk:=[(0,0),(1,50)]) (lk':=[]) base0 au (LsOk.no rfl) .refl ?_
    show al Tryz.prog opts0 40 _ _ (cZ tag ty (ab ks) (i+1) (i+1) (aR ks (i+1))).st _
    rw[Em,hw]
    refine aw (fun _=>⟨hi0,hpl,aw (fun e=>⟨⟨⟨⟨rfl,rfl⟩,⟨rfl,rfl⟩,trivial⟩,trivial,trivial⟩,hr e⟩) fun e=>⟨hc,bD ?_ (bD ?_ (bD ?_ (bD ?_ ⟨⟨⟨⟨rfl,rfl⟩,⟨rfl,rfl⟩,⟨rfl,hK⟩,⟨rfl,rfl⟩,⟨rfl,rfl⟩,trivial⟩,⟨⟨rfl,rfl,rfl,rfl,rfl⟩,trivial⟩,kI (.rsl _ _ _ _ _ _ rfl),⟨he.trans ?_,hE⟩,trivial⟩,hn (by simpa using e)⟩)))⟩⟩) no
    ·rw[Nat.ble_eq_true_of_le (by omega)];rfl
    ·rw[beq_iff,ap,hel]
    ·exact Eh (by omega)
    ·refine Nat.ble_eq_true_of_le ?_
     rw[ap,List.length_append,hel]
     simp
    ·exact hs
theorem pw:bw (cN Tryz.prog 69) 7=[aq Tryz.prog 69 7]:=by kernel_rfl
end
theorem yq {x:It} {tag ty:Int}:ae [ao x,.fsl true [bQ tag ty]]=true:=by
 simp only[ae,cC x,Bool.true_and]
 rfl
theorem yr {H:aa} {id:Nat} (hg:hget H id=some (.cells [.nilsl])):kp (.tuple [.fsl false [.fsl false []],I 0]) (.tuple [.rsl true id 0 1 1,I 0]) H:=by
 refine ⟨_,(Frz.tuple (.cons (Frz.row (es:=[.nilsl]) rfl hg rfl rfl (fun e he=>by rw[List.mem_singleton] at he;subst he;exact ⟨rfl,rfl⟩) rfl) (.closed [I 0] rfl))).out,rfl,.tuple (.cons (.rows (.cons ?_ .nil)) (.refl _))⟩
 simp only[AV.cells]
 (repeat (first|exact Wk.refl _|exact WkL.refl _|exact Wk.nil|exact Wk.row|exact WkE.refl _|exact WkL.nil|exact WkE.nil|apply Wk.agg|apply Wk.tuple|apply WkL.cons|apply Wk.rows|apply WkE.consA))
theorem yt {H:aa} {ks:List It} {id jd:Nat} {cs:List AV} (hg:hget H id=some (.cells [.rsl true jd 0 ks.length 5])) (hh:hget H jd=some (.cells cs)) (hc:cs=flat (ab ks)):kp (.tuple [.fsl false [.fsl false (ab ks)],I 0]) (.tuple [.rsl true id 0 1 1,I 0]) H:=by
 have hK:=bA ks
 refine ⟨_,(Frz.tuple (.cons (Frz.rsl (es:=[.rsl true jd 0 ks.length 5]) rfl hg rfl (.cons (Frz.row (es:=ab ks) rfl hh hc (dc ks).symm g8 hK) .nil)) (.closed [I 0] rfl))).out, ?_,.refl _⟩
 simp only[ad,ae,hK,Bool.and_self]
theorem tO (ks:List It):aR ks ks.length=flat (ab ks):=by rw[aR,List.take_length]
set_option maxRecDepth 20000 in
theorem px {tag ty:Int} {x:It} (h:aX aD x) (hl:(dd x).length≤90000):SC 69 [ao x,.fsl true [bQ tag ty]] (eM tag ty x):=by
 have hcl:=yq (x:=x) (tag:=tag) (ty:=ty)
 obtain ⟨t,y,n,d,ks⟩:=x
 have hok:=Ef h
 have hK:=bA ks
 simp only[dd] at hl
 simp only[eM,dR,fl,dd]
 have hs:(I 0=I 0∧ad (I 0)=true)∧True:=⟨⟨rfl,rfl⟩,trivial⟩
 cases hy:ag y 1 with
 |false=>
  refine dx (A:=ar [] [(7,fun _ _=>False)] aI [] []) base0 au (aF (LsOk.at1 rfl pw fun st Q hs=>hs.elim)) hcl ?_
  rw[br,Ep]
  exact aw (fun _=>eH rfl) fun e=>by rw[hy] at e;cases e
 | true=>
  have ny {p:Prop} (e:(!ag y 1)=true):p:=by rw[hy] at e;cases e
  cases h0:ag (bE tag ty ks) 0 with
  | false=>
   refine dx (A:=ar [] [(7,kH tag ty (ab ks) .ret (cE (bE tag ty ks)))] aI [] []) base0 au
    (aF (LsOk.at1 rfl pw fun st Q hs=> .seen base0.glob hs.1 (yp (tag:=tag) (ty:=ty) (ks:=ks) hl hok (by unfold ju;rw[h0];exact hs.2) ks.length 0 (Nat.zero_add _) rfl))) hcl ?_
   rw[br,Er]
   exact aw ny fun _=>⟨⟨⟨⟨rfl,rfl⟩,⟨rfl,rfl⟩,⟨rfl,hK⟩,⟨rfl,rfl⟩,⟨rfl,rfl⟩,trivial⟩,⟨⟨rfl,rfl,rfl,rfl,rfl⟩,trivial⟩,⟨rfl,rfl⟩,trivial⟩,eH rfl⟩
  | true=>
   have hlp:= @yp tag ty ks
   cases ks with
   | nil=>
    refine fG (A:=ar [] [(7,kH tag ty (ab []) (.exit 0) (cu tag ty (ab []) 0))] aI [] []) base0 au
     (aF (LsOk.at1 rfl pw fun st Q hs=> .seen base0.glob hs.1 (hlp hl hok (by unfold ju;rw[h0];exact hs.2) 0 0 rfl rfl))) hcl ?_
    rw[br,Es]
    exact aw ny fun _=>⟨⟨⟨⟨rfl,rfl⟩,⟨rfl,rfl⟩,⟨rfl,hK⟩,⟨rfl,rfl⟩,⟨rfl,rfl⟩,trivial⟩,⟨⟨rfl,rfl,rfl,rfl,rfl⟩,trivial⟩,⟨rfl,rfl⟩,trivial⟩,yr rfl⟩
   | cons a r=>
    refine fG (A:=ar [] [(7,kH tag ty (ab (a::r)) (.exit 0) (cZ tag ty (ab (a::r)) (r.length+1) (r.length+1) (aR (a::r) (r.length+1))))] aI [] []) base0 au
     (aF (LsOk.at1 rfl pw fun st Q hs=> .seen base0.glob hs.1 (hlp hl hok (by unfold ju;rw[h0];exact hs.2) (r.length+1) 0 (Nat.zero_add _) rfl))) hcl ?_
    rw[br,Et]
    exact aw ny fun _=>⟨⟨⟨⟨rfl,rfl⟩,⟨rfl,rfl⟩,⟨rfl,hK⟩,⟨rfl,rfl⟩,⟨rfl,rfl⟩,trivial⟩,⟨⟨rfl,rfl,rfl,rfl,rfl⟩,trivial⟩,⟨rfl,rfl⟩,trivial⟩,yt rfl rfl (tO (a::r))⟩
noncomputable section
def nj (tag:Int) (r:AV):List AV:=[I tag,I 1,I 0,.nilsl,r]
def yu (K:List AV) (i:Nat):List (Nat × AV):=[(10,.fsl false K),(11,I (.ofNat (ac K))),(12,I (.ofNat i))]
def cF (tag:Int) (K:List AV) (i:Nat):View:=⟨yu K i,[(4,.ptr 1 0),(5,.ptr 0 0)],[(0,.cells (nj tag .nilsl),.whole),(1,.cells [I 0,I 0,I 0,.nilsl,.nilsl],.whole)],3,25⟩
def dS (tag:Int) (K:List AV) (i k:Nat) (es:List AV):View:=⟨yu K i,[(4,.ptr 1 0),(5,.ptr 0 0)],[(0,.cells (nj tag (.rsl true 2 0 k 5)),.rel),(1,.cells [I 0,I 0,I 0,.nilsl,.nilsl],.whole),(2,.cells es,.whole)],3,25⟩
def py (t y n:Int) (D L:List AV):aN:=ar [(3,0,.res (.bool true)),(4,0,.res (.fptr (ai t y n D L) 0))] [] (bT [(160,fun _=>some (.agg (ai t y n D L)))]) [] []
abbrev dB (D L:List AV) (n t y:Int):=[I t,I y,I n,AV.fsl false D,AV.fsl false L]
abbrev tP:=[I 0,I 0,I 0,AV.nilsl,AV.nilsl]
@[simp] abbrev nk:=(tP=tP∧true=true)
@[simp] abbrev pz (K:List AV):=(I (Int.ofNat (ac K))=I (Int.ofNat (ac K))∧ad (I (Int.ofNat (ac K)))=true)
@[simp] abbrev pA (K:List AV):=(AV.fsl false K=AV.fsl false K∧ad (AV.fsl false K)=true)
@[simp] abbrev pB:=((some 1=some 1∧0=0)∧(some 0=some 0∧0=0)∧True)
theorem Ey (tag:Int) (K:List AV) (i j:Nat) (es:List AV) (t y n:Int) (D L:List AV) (Nx:Prop) (Q:AExit→St→Prop):al Tryz.prog opts0 40 (py t y n D L) (aq Tryz.prog 174 4) (cF tag K i).st (aO 0 [(0,0),(1,1),(2,13)] (dS tag K j 1 es) Nx [] (cF tag K i) Q)=
  (an Tryz.prog BinOp.lss 3 (Operand.tmp 12) (Operand.tmp 11) (I (Int.ofNat i)) (I (Int.ofNat (ac K)))=some (AV.bool true)∧aJ Tryz.prog 29 (AV.fsl false K) (I (Int.ofNat i))=some (AV.fptr (dB D L n t y) 0)∧SC 160 [AV.agg (dB D L n t y)] (AV.agg (dB D L n t y))∧(((pA K)∧(pz K)∧(I (af IntKind.i64 (Int.ofNat i+1))=I (Int.ofNat j)∧ad (I (Int.ofNat j))=true)∧True)∧pB∧bx [(0,0),(1,1),(2,13)] [I tag,I 1,I 0,AV.nilsl,AV.rsl true 2 0 1 5] [I tag,I 1,I 0,AV.nilsl,AV.rsl true 13 0 (ac [AV.agg (dB D L n t y)]) 5]∧nk∧(flat [AV.agg (dB D L n t y)]=es∧ae es=true)∧True)∧Nx):=by kernel_rfl
theorem Ez (tag:Int) (K:List AV) (i j k k':Nat) (es es':List AV) (t y n:Int) (D L:List AV) (Nx:Prop) (Q:AExit→St→Prop):al Tryz.prog opts0 40 (py t y n D L) (aq Tryz.prog 174 4) (dS tag K i (k+1) es).st (aO 0 [(0,0),(1,1),(2,13)] (dS tag K j k' es') Nx [] (cF tag K i) Q)=
  (an Tryz.prog BinOp.lss 3 (Operand.tmp 12) (Operand.tmp 11) (I (Int.ofNat i)) (I (Int.ofNat (ac K)))=some (AV.bool true)∧aJ Tryz.prog 29 (AV.fsl false K) (I (Int.ofNat i))=some (AV.fptr (dB D L n t y) 0)∧SC 160 [AV.agg (dB D L n t y)] (AV.agg (dB D L n t y))∧aE (bi 5 [AV.agg (dB D L n t y)]&&(((k+1+ac [AV.agg (dB D L n t y)])*72).ble 140737488355328&&(be (flat [AV.agg (dB D L n t y)])&&true))) (aE ((ac es).beq ((k+1)*5)) ((((pA K)∧(pz K)∧(I (af IntKind.i64 (Int.ofNat i+1))=I (Int.ofNat j)∧ad (I (Int.ofNat j))=true)∧True)∧pB∧bx [(0,0),(1,1),(2,13)] [I tag,I 1,I 0,AV.nilsl,AV.rsl true 2 0 k' 5] [I tag,I 1,I 0,AV.nilsl,AV.rsl true 13 0 (k+1+ac [AV.agg (dB D L n t y)]) 5]∧nk∧(es++flat [AV.agg (dB D L n t y)]=es'∧ae es'=true)∧True)∧Nx))):=by kernel_rfl
abbrev jv (tag:Int):=[I tag,I 1,I 0,AV.nilsl,AV.nilsl]
@[simp] abbrev yv (K:List AV) (i:Nat):=((pA K)∧(pz K)∧(I (Int.ofNat i)=I (Int.ofNat i)∧ad (I (Int.ofNat i))=true)∧True)
theorem EA (tag:Int) (K:List AV) (i:Nat) (Nx:Prop) (Q:AExit→St→Prop):al Tryz.prog opts0 40 (ar [(3,0,.res (.bool false))] [] aI [] []) (aq Tryz.prog 174 4) (cF tag K i).st (aO 0 [] (cF tag K i) Nx [(0,0),(1,1)] (cF tag K i) Q)=
  (an Tryz.prog BinOp.lss 3 (Operand.tmp 12) (Operand.tmp 11) (I (Int.ofNat i)) (I (Int.ofNat (ac K)))=some (AV.bool false)∧((yv K i)∧pB∧((jv tag)=(jv tag)∧ae (jv tag)=true)∧nk∧True)∧Q (AExit.exit 0) (cF tag K i).st):=by kernel_rfl
abbrev nl (k:Nat) (tag:Int):=[I tag,I 1,I 0,AV.nilsl,AV.rsl true 2 0 k 5]
theorem EB (tag:Int) (K:List AV) (i k:Nat) (es:List AV) (Nx:Prop) (Q:AExit→St→Prop):al Tryz.prog opts0 40 (ar [(3,0,.res (.bool false))] [] aI [] []) (aq Tryz.prog 174 4) (dS tag K i k es).st (aO 0 [] (cF tag K i) Nx [(0,0),(1,1),(2,2)] (dS tag K i k es) Q)=
  (an Tryz.prog BinOp.lss 3 (Operand.tmp 12) (Operand.tmp 11) (I (Int.ofNat i)) (I (Int.ofNat (ac K)))=some (AV.bool false)∧((yv K i)∧pB∧bx [(0,0),(1,1),(2,2)] (nl k tag) (nl k tag)∧nk∧(es=es∧ae es=true)∧True)∧Q (AExit.exit 0) (dS tag K i k es).st):=by kernel_rfl
def pC (tag:Int) (K:List AV) (F:View):a7:=fun st Q=>ck 0 [(0,3),(1,0)] (cF tag K 0) st∧Q (.exit 0) F.st
@[simp] abbrev yw (K:List AV) (tag:Int):=(((pA K)∧(pz K)∧(I 0=I 0∧true=true)∧True)∧((some 0=some 0∧0=0)∧(some 3=some 3∧0=0)∧True)∧((jv tag)=(jv tag)∧ae (jv tag)=true)∧nk∧True)
theorem EC (tag:Int) (K:List AV) (i:Nat) (Q:AV→Prop):aA Tryz.prog opts0 40 (ar [] [(4,pC tag K (cF tag K i))] aI [] []) 174 [I tag,.fsl false K] [] 0 (fun v _ _=>Q v)=
  ((yw K tag)∧Q (AV.agg (jv tag))):=by kernel_rfl
theorem ED (tag:Int) (K:List AV) (i k:Nat) (es:List AV) (Q:AV→aa→Prop):aA Tryz.prog opts0 40 (ar [] [(4,pC tag K (dS tag K i k es))] aI [] []) 174 [I tag,.fsl false K] [] 0 (fun v H _=>Q v H)=
  ((yw K tag)∧Q (AV.agg (nl k tag)) [(1,some (Blk.cells (nl k tag))),(0,some (Blk.cells (nl k tag))),(1,some (Blk.cells tP)),(2,some (Blk.cells es))]):=by kernel_rfl
theorem EE (K D L:List AV) (t y n:Int) (Q:AV→Prop):aA Tryz.prog opts0 40 (ar [] [] (bT [(174,fun _=>some (.agg (ai t y n D L)))]) [] []) 76 [.fsl false K] [] 0 (fun v _ _=>Q v)=
  (SC 174 [I 4325500,AV.fsl false K] (AV.agg (dB D L n t y))∧Q (AV.agg (dB D L n t y))):=by kernel_rfl
end
end Go.Proofs.YtjmnheinkchlfaaGreatDoor
namespace Go.Proofs.YtjmnheinkchlfaaGreatDoor
set_option maxRecDepth 20000
open Go Go.RowKit
open Go.Proofs.Abs
theorem tQ {lk:List (Nat × Nat)} {tag:Int} {a b:AV} (h:RenV lk a b):bx lk (nj tag a) (nj tag b):=⟨by simp only[nj,RenL];exact ⟨.same _ rfl,.same _ rfl,.same _ rfl,.same _ rfl,h,trivial⟩⟩
section
variable {tag:Int} {ks:List It}
noncomputable def yx (tag:Int) (ks:List It):Nat→View
 |0=>cF tag (ab ks) 0
 |i+1=>dS tag (ab ks) (i+1) (i+1) (aR ks (i+1))
theorem EF {Q:AExit→St→Prop} (hb:ks.length≤90000) (hok:∀x∈ks,aX aD x) (hq:Q (.exit 0) (yx tag ks ks.length).st):∀m i:Nat,i+m=ks.length→ALp Tryz.prog opts0.glob 0 (aq Tryz.prog 174 4) (yx tag ks i).st Q:=by
  have hK:ae (ab ks)=true:=bA ks
  have hlen:=ia ks
  intro m
  induction m with
  | zero=>
    intro i hi
    rw[Nat.add_zero] at hi
    subst hi
    have hf:an Tryz.prog .lss 3 (.tmp 12) (.tmp 11) (I (.ofNat ks.length)) (I (.ofNat (ac (ab ks))))=some (.bool false):=eI (by rw[hlen];exact Int.le_refl _)
    revert hq hf
    cases ks.length with
    | zero=>
      intro hq hf
      refine ALp.round (A:=ar [(3,0,.res (.bool false))] [] aI [] []) (V2:=cF tag (ab ks) 0) (F:=cF tag (ab ks) 0) (lk:=[]) (lk':=[(0,0),(1,1)]) base0 au (LsOk.no rfl) .refl ?_
      show al Tryz.prog opts0 40 _ _ (cF tag (ab ks) 0).st _
      rw[EA]
      exact ⟨hf,⟨⟨⟨rfl,hK⟩,⟨rfl,rfl⟩,⟨rfl,rfl⟩,trivial⟩,⟨⟨rfl,rfl⟩,⟨rfl,rfl⟩,trivial⟩,⟨rfl,rfl⟩,⟨rfl,rfl⟩,trivial⟩,hq⟩
    | succ i=>
      intro hq hf
      have hE:ae (aR ks (i+1))=true:=gy
      refine ALp.round (A:=ar [(3,0,.res (.bool false))] [] aI [] []) (V2:=cF tag (ab ks) (i+1)) (F:=dS tag (ab ks) (i+1) (i+1) (aR ks (i+1))) (lk:=[]) (lk':=[(0,0),(1,1),(2,2)]) base0 au (LsOk.no rfl) .refl ?_
      show al Tryz.prog opts0 40 _ _ (dS tag (ab ks) (i+1) (i+1) (aR ks (i+1))).st _
      rw[EB]
      exact ⟨hf,⟨⟨⟨rfl,hK⟩,⟨rfl,rfl⟩,⟨rfl,rfl⟩,trivial⟩,⟨⟨rfl,rfl⟩,⟨rfl,rfl⟩,trivial⟩,tQ (.rsl _ _ _ _ _ _ rfl),⟨rfl,rfl⟩,⟨rfl,hE⟩,trivial⟩,hq⟩
  | succ m ih=>
    intro i hi
    have hlt:i<ks.length:=by omega
    have g:=List.getElem?_eq_getElem hlt
    have hx:=hok _ (List.getElem_mem hlt)
    have hs:=m6 g
    have hn:=ih (i+1) (by omega)
    have ht:an Tryz.prog .lss 3 (.tmp 12) (.tmp 11) (I (.ofNat i)) (I (.ofNat (ac (ab ks))))=some (.bool true):=fh (by rw[hlen];simp only[Int.ofNat_eq_natCast];omega)
    revert g hx hs
    generalize ks[i]=x
    intro g hx hs
    have hc:=pv hx
    obtain ⟨t,y,n,d,l⟩:=x
    have hi0:=fg (f:=false) g
    rw[br] at hc
    have hw:af .i64 (Int.ofNat i+1)=Int.ofNat (i+1):=eK (by omega)
    have hE:ae (aR ks (i+1))=true:=gy
    cases i with
    | zero=>
      refine ALp.round (A:=py t y n (aj d) (ab l)) (V2:=dS tag (ab ks) 1 1 (aR ks 1)) (F:=cF tag (ab ks) 0) (lk:=[(0,0),(1,1),(2,13)]) (lk':=[]) base0 au (LsOk.no rfl) .refl ?_
      show al Tryz.prog opts0 40 _ _ (cF tag (ab ks) 0).st _
      rw[Ey,hw]
      exact ⟨ht,hi0,hc,⟨⟨⟨rfl,hK⟩,⟨rfl,rfl⟩,⟨rfl,rfl⟩,trivial⟩,⟨⟨rfl,rfl⟩,⟨rfl,rfl⟩,trivial⟩,tQ (.rsl _ _ _ _ _ _ rfl),⟨rfl,rfl⟩,⟨hs,hE⟩,trivial⟩,hn⟩
    | succ i=>
      have hel:(aR ks (i+1)).length=(i+1)*5:=tB (by omega)
      have h1:Nat.ble ((i+1+ac [AV.agg (ai t y n (aj d) (ab l))])*72) 140737488355328=true:=Nat.ble_eq_true_of_le (by rw[show ac [AV.agg (ai t y n (aj d) (ab l))]=1 from rfl];omega)
      refine ALp.round (A:=py t y n (aj d) (ab l)) (V2:=dS tag (ab ks) (i+1+1) (i+1+1) (aR ks (i+1+1))) (F:=cF tag (ab ks) (i+1)) (lk:=[(0,0),(1,1),(2,13)]) (lk':=[]) base0 au (LsOk.no rfl) .refl ?_
      show al Tryz.prog opts0 40 _ _ (dS tag (ab ks) (i+1) (i+1) (aR ks (i+1))).st _
      rw[Ez,hw]
      exact ⟨ht,hi0,hc,bD (and3 rfl h1 rfl) (bD (by rw[beq_iff,ap,hel]) ⟨⟨⟨⟨rfl,hK⟩,⟨rfl,rfl⟩,⟨rfl,rfl⟩,trivial⟩,⟨⟨rfl,rfl⟩,⟨rfl,rfl⟩,trivial⟩,tQ (.rsl _ _ _ _ _ _ rfl),⟨rfl,rfl⟩,⟨hs,hE⟩,trivial⟩,hn⟩)⟩
 where
  and3 {a b c:Bool} (ha:a=true) (hb:b=true) (hc:c=true):(a&&(b&&(c&&true)))=true:=by rw[ha,hb,hc];rfl
theorem yy:bw (cN Tryz.prog 174) 4=[aq Tryz.prog 174 4]:=by kernel_rfl
end
theorem EG (tag:Int) {ks:List It} (hb:ks.length≤90000) (hok:∀x∈ks,aX aD x):SC 174 [I tag,.fsl false (ab ks)] (ao (.mk tag 1 0 [] ks)):=by
 have hK:=bA ks
 have hcl:ae [I tag,.fsl false (ab ks)]=true:=by simp only[ae,ad,hK,Bool.and_self]
 have hlp:= @EF tag ks
 cases ks with
 | nil=>
  refine dx (A:=ar [] [(4,pC tag (ab []) (cF tag (ab []) 0))] aI [] []) base0 au
   (aF (LsOk.at1 rfl yy fun st Q hs=> .seen base0.glob hs.1 (hlp hb hok hs.2 0 0 rfl))) hcl ?_
  rw[EC]
  refine ⟨⟨⟨⟨rfl,hK⟩,⟨rfl,rfl⟩,⟨rfl,rfl⟩,trivial⟩,⟨⟨rfl,rfl⟩,⟨rfl,rfl⟩,trivial⟩,⟨rfl,rfl⟩,⟨rfl,rfl⟩,trivial⟩,rfl,.agg ?_⟩
  simp only[aj,ab]
  (repeat (first|exact Wk.refl _|exact WkL.refl _|exact Wk.nil|exact Wk.row|exact WkE.refl _|exact WkL.nil|exact WkE.nil|apply Wk.agg|apply Wk.tuple|apply WkL.cons|apply Wk.rows|apply WkE.consA))
 | cons a r=>
  refine fG (A:=ar [] [(4,pC tag (ab (a::r)) (dS tag (ab (a::r)) (r.length+1) (r.length+1) (aR (a::r) (r.length+1))))] aI [] []) base0 au
   (aF (LsOk.at1 rfl yy fun st Q hs=> .seen base0.glob hs.1 (hlp hb hok hs.2 (r.length+1) 0 (Nat.zero_add _)))) hcl ?_
  rw[ED]
  refine ⟨⟨⟨⟨rfl,hK⟩,⟨rfl,rfl⟩,⟨rfl,rfl⟩,trivial⟩,⟨⟨rfl,rfl⟩,⟨rfl,rfl⟩,trivial⟩,⟨rfl,rfl⟩,⟨rfl,rfl⟩,trivial⟩,_,(Frz.agg (.cons (.closed _ rfl) (.cons (.closed _ rfl) (.cons (.closed _ rfl) (.cons (.closed _ rfl) (.cons (Frz.row (es:=ab (a::r)) rfl rfl (tO (a::r)) (dc (a::r)).symm g8 hK) .nil)))))).out, ?_,.agg ?_⟩
  ·simp only[ad,ae,hK,Bool.and_self]
  ·simp only[aj]
   (repeat (first|exact Wk.refl _|exact WkL.refl _|exact Wk.nil|exact Wk.row|exact WkE.refl _|exact WkL.nil|exact WkE.nil|apply Wk.agg|apply Wk.tuple|apply WkL.cons|apply Wk.rows|apply WkE.consA))
theorem EH {ks:List It} (hb:ks.length≤90000) (hok:∀x∈ks,aX aD x):SC 76 [.fsl false (ab ks)] (ao (.mk 4325500 1 0 [] ks)):=by
 have hK:=bA ks
 have hp:=EG 4325500 hb hok
 have hv:=cC (.mk 4325500 1 0 [] ks)
 refine dx (A:=ar [] [] (bT [(174,fun _=>some (ao (.mk 4325500 1 0 [] ks)))]) [] []) base0 au (aF (LsOk.no rfl)) (by simp only[ae,ad,hK,Bool.and_self]) ?_
 rw[br] at hp hv⊢
 rw[EE]
 exact ⟨hp,eH hv⟩
end Go.Proofs.YtjmnheinkchlfaaGreatDoor
namespace Go.Proofs.YtjmnheinkchlfaaGreatDoor
open Go Go.RowKit
open Go.Proofs.Abs
noncomputable section
def tR (tag ty:Int) (i:Nat):List (Nat × AV):=[(1,.fsl true [bQ tag ty]),(7,I 0),(8,I (.ofNat i))]
def cw (tag ty:Int) (X:List AV) (i:Nat):View:=⟨tR tag ty i,[(2,.ptr 0 0),(6,.rsl true 1 0 1 1)],[(0,.cells X,.whole),(1,.cells [.nilsl],.whole)],3,105⟩
def ca (tag ty:Int) (X:List AV) (i k:Nat) (es:List AV):View:=⟨tR tag ty i,[(2,.ptr 0 0),(6,.rsl true 1 0 1 1)],[(0,.cells X,.whole),(1,.cells [.rsl true 2 0 k 5],.rel),(2,.cells es,.whole)],3,105⟩
def cG (r:Int):View:=⟨[(4,.nilsl),(5,I r)],[],[],3,105⟩
def ic (t y n:Int) (D L:List AV) (b:Bool):aN:=ar [(8,3,.res (.fptr (ai t y n D L) 0)),(9,12,.res (.bool b))] [] aI [] []
abbrev fN (D L:List AV) (n t y:Int):=[I t,I y,I n,AV.fsl false D,AV.fsl false L]
@[simp] abbrev yz (D K L:List AV) (Q:AExit→St→Prop) (i:Nat) (n t tag y:Int):=(aJ Tryz.prog 29 (AV.fsl false K) (I (Int.ofNat i))=some (AV.fptr (fN D L n t y) 0)∧an Tryz.prog BinOp.neq 3 (Operand.tmp 38) (Operand.tmp 40) (I tag) (I t)=some (AV.bool true)∧(((AV.nilsl=AV.nilsl∧true=true)∧(I 4=I 4∧true=true)∧True)∧True∧True)∧Q AExit.ret (cG 4).st)
theorem EI (tag ty:Int) (X0 X1 X2:Int) (XD K:List AV) (i:Nat) (t y n:Int) (D L:List AV) (Nx:Prop) (Q:AExit→St→Prop):al Tryz.prog opts0 40 (ic t y n D L true) (aq Tryz.prog 177 7) (cw tag ty (ai X0 X1 X2 XD K) i).st (aO 0 [(0,0)] (cw tag ty [] i) Nx [] (cG 4) Q)=
  (ah (am (Int.ofNat i) (Int.ofNat (ac K))) (yz D K L Q i n t tag y) (((False∧False∧True)∧True∧True)∧Q (AExit.exit 0) (cG 4).st)):=by kernel_rfl
theorem EJ (tag ty:Int) (X0 X1 X2:Int) (XD K:List AV) (i k:Nat) (es:List AV) (t y n:Int) (D L:List AV) (Nx:Prop) (Q:AExit→St→Prop):al Tryz.prog opts0 40 (ic t y n D L true) (aq Tryz.prog 177 7) (ca tag ty (ai X0 X1 X2 XD K) i (k+1) es).st (aO 0 [(0,0)] (cw tag ty [] i) Nx [] (cG 4) Q)=
  (ah (am (Int.ofNat i) (Int.ofNat (ac K))) (yz D K L Q i n t tag y) (((False∧False∧True)∧True∧True)∧Q (AExit.exit 0) (cG 4).st)):=by kernel_rfl
abbrev kJ (tag ty:Int):=[AV.agg [I tag,I ty,AV.bool false,AV.bool true]]
@[simp] abbrev pD (tag ty:Int):=(AV.fsl true (kJ tag ty)=AV.fsl true (kJ tag ty)∧ad (AV.fsl true (kJ tag ty))=true)
abbrev nm (K XD:List AV) (X0 X1 X2:Int):=[I X0,I X1,I X2,AV.fsl false XD,AV.fsl false K]
@[simp] abbrev pE (K XD:List AV) (X0 X1 X2:Int):=((nm K XD X0 X1 X2)=(nm K XD X0 X1 X2)∧ae (nm K XD X0 X1 X2)=true)
@[simp] abbrev pF:=((some 0=some 0∧0=0)∧(true=true∧some 1=some 1∧0=0∧1=1∧1=1)∧True)
@[simp] abbrev nn:=(I 0=I 0∧true=true)
@[simp] abbrev yA:=(((AV.nilsl=AV.nilsl∧true=true)∧(I 7=I 7∧true=true)∧True)∧True∧True)
theorem EK (tag ty:Int) (X0 X1 X2:Int) (XD K:List AV) (i j:Nat) (es:List AV) (t y n:Int) (D L:List AV) (Nx:Prop) (Q:AExit→St→Prop):al Tryz.prog opts0 40 (ic t y n D L false) (aq Tryz.prog 177 7) (cw tag ty (ai X0 X1 X2 XD K) i).st (aO 0 [(0,0),(1,1),(2,67)] (ca tag ty (ai X0 X1 X2 XD K) j 1 es) Nx [] (cG 7) Q)=
  (ah (am (Int.ofNat i) (Int.ofNat (ac K))) (aJ Tryz.prog 29 (AV.fsl false K) (I (Int.ofNat i))=some (AV.fptr (fN D L n t y) 0)∧an Tryz.prog BinOp.neq 3 (Operand.tmp 38) (Operand.tmp 40) (I tag) (I t)=some (AV.bool false)∧ah (!ag y ty) (yA∧Q AExit.ret (cG 7).st) ((((pD tag ty)∧nn∧(I (af IntKind.i64 (Int.ofNat i+1))=I (Int.ofNat j)∧ad (I (Int.ofNat j))=true)∧True)∧pF∧(pE K XD X0 X1 X2)∧bx [(0,0),(1,1),(2,67)] [AV.rsl true 2 0 1 5] [AV.rsl true 67 0 (0+ac [AV.agg (fN D L n t y)]) 5]∧(flat [AV.agg (fN D L n t y)]=es∧ae es=true)∧True)∧Nx)) (((False∧False∧True)∧True∧True)∧Q (AExit.exit 0) (cG 7).st)):=by kernel_rfl
def yB (tag ty:Int) (X:List AV) (i:Nat) (E:List AV):View:=⟨tR tag ty i,[(2,.ptr 0 0),(6,.rsl true 1 0 1 1)],[(0,.cells X,.whole),(1,.cells [.fsl false E],.whole)],3,105⟩
theorem EL (tag ty:Int) (X0 X1 X2:Int) (XD K:List AV) (i j k k':Nat) (a:AV) (E es es':List AV) (t y n:Int) (D L:List AV) (Nx:Prop) (Q:AExit→St→Prop):al Tryz.prog opts0 40 (gq (ic t y n D L false) 6 2 (yB tag ty (ai X0 X1 X2 XD K) i (a::E))) (aq Tryz.prog 177 7) (ca tag ty (ai X0 X1 X2 XD K) i k es).st (aO 0 [(0,0),(1,1),(2,67)] (ca tag ty (ai X0 X1 X2 XD K) j k' es') Nx [] (cG 7) Q)=
  (((Frz 2 (ca tag ty (ai X0 X1 X2 XD K) i k es).st.heap (AV.fsl true (kJ tag ty)) (AV.fsl true (kJ tag ty))∧Frz 2 (ca tag ty (ai X0 X1 X2 XD K) i k es).st.heap (I 0) (I 0)∧Frz 2 (ca tag ty (ai X0 X1 X2 XD K) i k es).st.heap (I (Int.ofNat i)) (I (Int.ofNat i))∧Frz 2 (ca tag ty (ai X0 X1 X2 XD K) i k es).st.heap (AV.ptr 0 0) (AV.ptr 0 0)∧Frz 2 (ca tag ty (ai X0 X1 X2 XD K) i k es).st.heap (AV.rsl true 1 0 1 1) (AV.rsl true 1 0 1 1)∧True)∧FrzL 2 (ca tag ty (ai X0 X1 X2 XD K) i k es).st.heap (nm K XD X0 X1 X2) (nm K XD X0 X1 X2)∧FrzL 2 (ca tag ty (ai X0 X1 X2 XD K) i k es).st.heap [AV.rsl true 2 0 k 5] [AV.fsl false (a::E)]∧True)∧ah (am (Int.ofNat i) (Int.ofNat (ac K))) (aJ Tryz.prog 29 (AV.fsl false K) (I (Int.ofNat i))=some (AV.fptr (fN D L n t y) 0)∧an Tryz.prog BinOp.neq 3 (Operand.tmp 38) (Operand.tmp 40) (I tag) (I t)=some (AV.bool false)∧ah (!ag y ty) (yA∧Q AExit.ret (cG 7).st) (aE (bi 5 (a::E)&&(((0+ac (a::E))*72).ble 140737488355328&&true)) (aE (bi 5 [AV.agg (fN D L n t y)]&&(((0+ac (a::E)+ac [AV.agg (fN D L n t y)])*72).ble 140737488355328&&(be (flat [AV.agg (fN D L n t y)])&&true))) (aE ((ac (flat (a::E))).beq ((0+ac (a::E))*5)) ((((pD tag ty)∧nn∧(I (af IntKind.i64 (Int.ofNat i+1))=I (Int.ofNat j)∧ad (I (Int.ofNat j))=true)∧True)∧pF∧(pE K XD X0 X1 X2)∧bx [(0,0),(1,1),(2,67)] [AV.rsl true 2 0 k' 5] [AV.rsl true 67 0 (0+ac (a::E)+ac [AV.agg (fN D L n t y)]) 5]∧(flat (a::E)++flat [AV.agg (fN D L n t y)]=es'∧ae es'=true)∧True)∧Nx))))) (((False∧False∧True)∧True∧True)∧Q (AExit.exit 0) (cG 7).st)):=by kernel_rfl
@[simp] abbrev yC (i:Nat) (tag ty:Int):=((pD tag ty)∧nn∧(I (Int.ofNat i)=I (Int.ofNat i)∧ad (I (Int.ofNat i))=true)∧True)
theorem EM (tag ty:Int) (X0 X1 X2:Int) (XD K:List AV) (i:Nat) (Nx:Prop) (Q:AExit→St→Prop):al Tryz.prog opts0 40 (ar [(6,4,.res (.bool false))] [] aI [] []) (aq Tryz.prog 177 7) (cw tag ty (ai X0 X1 X2 XD K) i).st (aO 0 [(0,0)] (cw tag ty [] i) Nx [(0,0),(1,1)] (cw tag ty (ai X0 X1 X2 XD K) i) Q)=
  (an Tryz.prog BinOp.lss 3 (Operand.tmp 17) (Operand.tmp 20) (I (Int.ofNat i)) (I (Int.ofNat (ac K)))=some (AV.bool false)∧((yC i tag ty)∧pF∧(pE K XD X0 X1 X2)∧([AV.nilsl]=[AV.nilsl]∧true=true)∧True)∧Q (AExit.exit 0) (cw tag ty (ai X0 X1 X2 XD K) i).st):=by kernel_rfl
theorem EN (tag ty:Int) (X0 X1 X2:Int) (XD K:List AV) (i k:Nat) (es:List AV) (Nx:Prop) (Q:AExit→St→Prop):al Tryz.prog opts0 40 (ar [(6,4,.res (.bool false))] [] aI [] []) (aq Tryz.prog 177 7) (ca tag ty (ai X0 X1 X2 XD K) i k es).st (aO 0 [(0,0)] (cw tag ty [] i) Nx [(0,0),(1,1),(2,2)] (ca tag ty (ai X0 X1 X2 XD K) i k es) Q)=
  (an Tryz.prog BinOp.lss 3 (Operand.tmp 17) (Operand.tmp 20) (I (Int.ofNat i)) (I (Int.ofNat (ac K)))=some (AV.bool false)∧((yC i tag ty)∧pF∧(pE K XD X0 X1 X2)∧bx [(0,0),(1,1),(2,2)] [AV.rsl true 2 0 k 5] [AV.rsl true 2 0 k 5]∧(es=es∧ae es=true)∧True)∧Q (AExit.exit 0) (ca tag ty (ai X0 X1 X2 XD K) i k es).st):=by kernel_rfl
def kK (tag ty:Int) (X:List AV) (e:AExit) (F:View):a7:=fun st Q=>ck 0 [(0,0),(1,8)] (cw tag ty X 0) st∧Q e F.st
abbrev pG:=(AV.tuple [AV.nilsl,I 4])
theorem EO (tag ty:Int) (t y n:Int) (D K:List AV) (Q:AV→Prop):aA Tryz.prog opts0 40 (ar [] [(7,fun _ _=>False)] aI [] []) 177 [.agg (ai t y n D K),.fsl true [bQ tag ty]] [] 0 (fun v _ _=>Q v)=
  (aE (!ag y 1) (Q pG)):=by kernel_rfl
abbrev jw (D K:List AV) (n t y:Int):=[I t,I y,I n,AV.fsl false D,AV.fsl false K]
@[simp] abbrev tS (D K:List AV) (n t tag ty y:Int):=(((pD tag ty)∧nn∧nn∧True)∧((some 0=some 0∧0=0)∧(true=true∧some 8=some 8∧0=0∧1=(Int.ofNat (ac (kJ tag ty))).toNat∧1=1)∧True)∧((jw D K n t y)=(jw D K n t y)∧ae (jw D K n t y)=true)∧([AV.nilsl]=[AV.nilsl]∧true=true)∧True)
theorem EP (tag ty:Int) (t y n r:Int) (D K:List AV) (Q:AV→Prop):aA Tryz.prog opts0 40 (ar [] [(7,kK tag ty (ai t y n D K) .ret (cG r))] aI [] []) 177 [.agg (ai t y n D K),.fsl true [bQ tag ty]] [] 0 (fun v _ _=>Q v)=
  (ah (!ag y 1) (Q pG) ((tS D K n t tag ty y)∧Q (AV.tuple [AV.nilsl,I r]))):=by kernel_rfl
theorem EQ (tag ty:Int) (t y n:Int) (D K:List AV) (i:Nat) (Q:AV→aa→Prop):aA Tryz.prog opts0 40 (ar [] [(7,kK tag ty (ai t y n D K) (.exit 0) (cw tag ty (ai t y n D K) i))] aI [] []) 177 [.agg (ai t y n D K),.fsl true [bQ tag ty]] [] 0 (fun v H _=>Q v H)=
  (ah (!ag y 1) (Q pG [(0,some (Blk.cells (jw D K n t y)))]) ((tS D K n t tag ty y)∧Q (AV.tuple [AV.rsl true 1 0 1 1,I 0]) [(0,some (Blk.cells (jw D K n t y))),(1,some (Blk.cells [AV.nilsl]))])):=by kernel_rfl
theorem ER (tag ty:Int) (t y n:Int) (D K:List AV) (i k:Nat) (es:List AV) (Q:AV→aa→Prop):aA Tryz.prog opts0 40 (ar [] [(7,kK tag ty (ai t y n D K) (.exit 0) (ca tag ty (ai t y n D K) i k es))] aI [] []) 177 [.agg (ai t y n D K),.fsl true [bQ tag ty]] [] 0 (fun v H _=>Q v H)=
  (ah (!ag y 1) (Q pG [(0,some (Blk.cells (jw D K n t y)))]) ((tS D K n t tag ty y)∧Q (AV.tuple [AV.rsl true 1 0 1 1,I 0]) [(0,some (Blk.cells (jw D K n t y))),(1,some (Blk.cells [AV.rsl true 2 0 k 5])),(2,some (Blk.cells es))])):=by kernel_rfl
end
theorem ig {a b c:Bool} (ha:a=true) (hb:b=true) (hc:c=true):(a&&(b&&(c&&true)))=true:=by rw[ha,hb,hc];rfl
theorem np (p q:Operand) (x y:Int):an Tryz.prog .neq 3 p q (I x) (I y)=some (.bool (!ag x y)):=by kernel_rfl
section
variable {tag ty t0 y0 n0:Int} {d0:List UInt8} {k0:It} {kr:List It}
noncomputable def yD (tag ty:Int) (X:List AV) (ks:List It):Nat→View
 |0=>cw tag ty X 0
 |i+1=>ca tag ty X (i+1) (i+1) (aR ks (i+1))
def kL (tag ty:Int) (X:List AV) (ks:List It) (Q:AExit→St→Prop):Prop:=match ag (bE tag ty ks) 0 with
 |true=>Q (.exit 0) (yD tag ty X ks ks.length).st
 |false=>Q .ret (cG (bE tag ty ks)).st
theorem yE {Q:AExit→St→Prop} (hb:(k0::kr).length≤90000) (hq:kL tag ty (ai t0 y0 n0 (aj d0) (ab (k0::kr))) (k0::kr) Q):∀m i:Nat,i+m=(k0::kr).length→bE tag ty ((k0::kr).drop i)=bE tag ty (k0::kr)→ALp Tryz.prog opts0.glob 0 (aq Tryz.prog 177 7) (yD tag ty (ai t0 y0 n0 (aj d0) (ab (k0::kr))) (k0::kr) i).st Q:=by
 have hX:ae (ai t0 y0 n0 (aj d0) (ab (k0::kr)))=true:=cC (.mk t0 y0 n0 d0 (k0::kr))
 have hlen:=ia (k0::kr)
 intro m
 induction m with
 |zero=>
  intro i hi hp
  rw[Nat.add_zero] at hi
  subst hi
  rw[List.drop_length] at hp
  have h0:ag (bE tag ty (k0::kr)) 0=true:=by rw[←hp];rfl
  unfold kL at hq
  rw[h0] at hq
  have hf:an Tryz.prog .lss 3 (.tmp 17) (.tmp 20) (I (.ofNat (k0::kr).length)) (I (.ofNat (ac (ab (k0::kr)))))=some (.bool false):=eI (by rw[hlen];omega)
  have hE:ae (aR (k0::kr) (kr.length+1))=true:=gy
  refine ALp.round (A:=ar [(6,4,.res (.bool false))] [] aI [] []) (V2:=cw tag ty [] (kr.length+1)) (F:=ca tag ty (ai t0 y0 n0 (aj d0) (ab (k0::kr))) (kr.length+1) (kr.length+1) (aR (k0::kr) (kr.length+1))) (lk:=[(0,0)]) (lk':=[(0,0),(1,1),(2,2)]) base0 au (LsOk.no rfl) .refl ?_
  show al Tryz.prog opts0 40 _ _ (ca tag ty (ai t0 y0 n0 (aj d0) (ab (k0::kr))) (kr.length+1) (kr.length+1) (aR (k0::kr) (kr.length+1))).st _
  rw[EN]
  exact ⟨hf,⟨⟨⟨rfl,rfl⟩,⟨rfl,rfl⟩,⟨rfl,rfl⟩,trivial⟩,⟨⟨rfl,rfl⟩,⟨rfl,rfl,rfl,rfl,rfl⟩,trivial⟩,⟨rfl,hX⟩,kI (.rsl _ _ _ _ _ _ rfl),⟨rfl,hE⟩,trivial⟩,hq⟩
 | succ m ih=>
  intro i hi hp
  have hlt:i<(k0::kr).length:=by omega
  have g:=List.getElem?_eq_getElem hlt
  have hs:=m6 g
  have ih:=ih (i+1) (by omega)
  rw[List.drop_eq_getElem_cons hlt] at hp
  revert g hs hp
  generalize (k0::kr)[i]=x
  intro hp g hs
  obtain ⟨t,y,n,d,l⟩:=x
  have hi0:=fg (f:=false) g
  have no {p:Prop} (h:am (.ofNat i) (.ofNat (ac (ab (k0::kr))))=false):p:=by
   have h:=ltInt_false.1 h
   rw[hlen] at h
   simp only[Int.ofNat_eq_natCast] at h
   omega
  have hw:af .i64 (Int.ofNat i+1)=Int.ofNat (i+1):=eK (by omega)
  simp only[bE,dQ,fl] at hp
  have hne:=np (.tmp 38) (.tmp 40) tag t
  cases htag:ag tag t with
  | false=>
   rw[htag] at hp hne
   unfold kL at hq
   simp only[bE,dQ,fl] at hq
   rw[←hp] at hq
   cases i with
   |zero=>
    refine ALp.round (A:=ic t y n (aj d) (ab l) true) (V2:=cw tag ty [] 0) (F:=cG 4) (lk:=[(0,0)]) (lk':=[]) base0 au (LsOk.no rfl) .refl ?_
    show al Tryz.prog opts0 40 _ _ (cw tag ty (ai t0 y0 n0 (aj d0) (ab (k0::kr))) 0).st _
    rw[EI]
    exact aw (fun _=>⟨hi0,hne,⟨⟨⟨rfl,rfl⟩,⟨rfl,rfl⟩,trivial⟩,trivial,trivial⟩,hq⟩) no
   |succ i=>
    refine ALp.round (A:=ic t y n (aj d) (ab l) true) (V2:=cw tag ty [] (i+1)) (F:=cG 4) (lk:=[(0,0)]) (lk':=[]) base0 au (LsOk.no rfl) .refl ?_
    show al Tryz.prog opts0 40 _ _ (ca tag ty (ai t0 y0 n0 (aj d0) (ab (k0::kr))) (i+1) (i+1) (aR (k0::kr) (i+1))).st _
    rw[EJ]
    exact aw (fun _=>⟨hi0,hne,⟨⟨⟨rfl,rfl⟩,⟨rfl,rfl⟩,trivial⟩,trivial,trivial⟩,hq⟩) no
  | true=>
   rw[htag] at hp hne
   have hE:ae (aR (k0::kr) (i+1))=true:=gy
   have hn:ag y ty=true→ALp Tryz.prog opts0.glob 0 (aq Tryz.prog 177 7) (ca tag ty (ai t0 y0 n0 (aj d0) (ab (k0::kr))) (i+1) (i+1) (aR (k0::kr) (i+1))).st Q:=fun e=>by
    rw[e] at hp
    refine ih ?_
    simp only[bE,dQ,fl]
    exact hp
   have hr:(!ag y ty)=true→Q .ret (cG 7).st:=fun e=>by
    rw[Bool.not_eq_true'] at e
    rw[e] at hp
    unfold kL at hq
    simp only[bE,dQ,fl] at hq
    rw[←hp] at hq
    exact hq
   cases i with
   |zero=>
    refine ALp.round (A:=ic t y n (aj d) (ab l) false) (V2:=ca tag ty (ai t0 y0 n0 (aj d0) (ab (k0::kr))) 1 1 (aR (k0::kr) 1)) (F:=cG 7) (lk:=[(0,0),(1,1),(2,67)]) (lk':=[]) base0 au (LsOk.no rfl) .refl ?_
    show al Tryz.prog opts0 40 _ _ (cw tag ty (ai t0 y0 n0 (aj d0) (ab (k0::kr))) 0).st _
    rw[EK,hw]
    exact aw (fun _=>⟨hi0,hne,aw (fun e=>⟨⟨⟨⟨rfl,rfl⟩,⟨rfl,rfl⟩,trivial⟩,trivial,trivial⟩,hr e⟩) fun e=>⟨⟨⟨⟨rfl,rfl⟩,⟨rfl,rfl⟩,⟨rfl,rfl⟩,trivial⟩,⟨⟨rfl,rfl⟩,⟨rfl,rfl,rfl,rfl,rfl⟩,trivial⟩,⟨rfl,hX⟩,kI (.rsl _ _ _ _ _ _ rfl),⟨hs,hE⟩,trivial⟩,hn (by simpa using e)⟩⟩) no
   | succ i=>
    have hEE:ae (ab (k0::kr.take i))=true:=bA _
    have hll:ac (ao k0::ab (kr.take i))=i+1:=by
     have:=ia (k0::kr.take i)
     rw[List.length_cons,List.length_take,Nat.min_eq_left (by simp only[List.length_cons] at hlt;omega)] at this
     exact this
    have hfl:ac (flat (ao k0::ab (kr.take i)))=(i+1)*5:=by
     have:=kx (k0::kr.take i)
     rw[List.length_cons,List.length_take,Nat.min_eq_left (by simp only[List.length_cons] at hlt;omega)] at this
     rw[ap]
     exact this
    have has:bi 5 (ao k0::ab (kr.take i))=true:=rv fun e he=>(g8 (ks:=k0::kr.take i) e he).1
    have hb':i+1+1≤90000:=by omega
    refine ALp.round (A:=gq (ic t y n (aj d) (ab l) false) 6 2 (yB tag ty (ai t0 y0 n0 (aj d0) (ab (k0::kr))) (i+1) (ao k0::ab (kr.take i)))) (V2:=ca tag ty (ai t0 y0 n0 (aj d0) (ab (k0::kr))) (i+1+1) (i+1+1) (aR (k0::kr) (i+1+1))) (F:=cG 7) (lk:=[(0,0),(1,1),(2,67)]) (lk':=[]) base0 (fc au) (LsOk.no rfl) .refl ?_
    show al Tryz.prog opts0 40 _ _ (ca tag ty (ai t0 y0 n0 (aj d0) (ab (k0::kr))) (i+1) (i+1) (aR (k0::kr) (i+1))).st _
    rw[EL,hw]
    refine ⟨⟨⟨.closed _ rfl,.closed _ rfl,.closed _ rfl,.keepP rfl,.keepR rfl,trivial⟩,.closed _ hX,.cons (Frz.row (es:=ao k0::ab (kr.take i)) rfl rfl rfl (by rw[←ap,hll]) (g8 (ks:=k0::kr.take i)) hEE) .nil,trivial⟩,aw (fun _=>⟨hi0,hne,aw (fun e=>⟨⟨⟨⟨rfl,rfl⟩,⟨rfl,rfl⟩,trivial⟩,trivial,trivial⟩,hr e⟩) fun e=>bD ?_ (bD ?_ (bD ?_ ⟨⟨⟨⟨rfl,rfl⟩,⟨rfl,rfl⟩,⟨rfl,rfl⟩,trivial⟩,⟨⟨rfl,rfl⟩,⟨rfl,rfl,rfl,rfl,rfl⟩,trivial⟩,⟨rfl,hX⟩, ?_,⟨hs,hE⟩,trivial⟩,hn (by simpa using e)⟩))⟩) no⟩
    ·rw[has,hll,Nat.ble_eq_true_of_le (by omega)];rfl
    ·have h1:Nat.ble ((0+(i+1)+ac [AV.agg (ai t y n (aj d) (ab l))])*72) 140737488355328=true:=Nat.ble_eq_true_of_le (by rw[show ac [AV.agg (ai t y n (aj d) (ab l))]=1 from rfl];omega)
     rw[hll];exact ig rfl h1 rfl
    ·rw[beq_iff,hfl,hll,Nat.zero_add]
    ·rw[hll,Nat.zero_add]
     exact kI (.rsl _ _ _ _ _ _ rfl)
theorem pH:bw (cN Tryz.prog 177) 7=[aq Tryz.prog 177 7]:=by kernel_rfl
end
set_option maxRecDepth 20000 in
theorem pI {tag ty:Int} {x:It} (hl:(dd x).length≤90000):SC 177 [ao x,.fsl true [bQ tag ty]] (eM tag ty x):=by
 have hcl:=yq (x:=x) (tag:=tag) (ty:=ty)
 have hX:=cC x
 obtain ⟨t,y,n,d,ks⟩:=x
 simp only[dd] at hl
 simp only[eM,dR,fl,dd]
 cases hy:ag y 1 with
 |false=>
  refine dx (A:=ar [] [(7,fun _ _=>False)] aI [] []) base0 au (aF (LsOk.at1 rfl pH fun st Q hs=>hs.elim)) hcl ?_
  rw[br,EO]
  exact aw (fun _=>eH rfl) fun e=>by rw[hy] at e;cases e
 | true=>
  have ny {p:Prop} (e:(!ag y 1)=true):p:=by rw[hy] at e;cases e
  cases ks with
  | nil=>
   refine fG (A:=ar [] [(7,kK tag ty (ai t y n (aj d) (ab [])) (.exit 0) (cw tag ty (ai t y n (aj d) (ab [])) 0))] aI [] []) base0 au
    (aF (LsOk.at1 rfl pH fun st Q hs=> .seen base0.glob hs.1 ?_)) hcl ?_
   ·refine ALp.round (A:=ar [(6,4,.res (.bool false))] [] aI [] []) (V2:=cw tag ty [] 0) (F:=cw tag ty (ai t y n (aj d) (ab [])) 0) (lk:=[(0,0)]) (lk':=[(0,0),(1,1)]) base0 au (LsOk.no rfl) .refl ?_
    rw[EM]
    exact ⟨eI (by simp[ab,ac]),⟨⟨⟨rfl,rfl⟩,⟨rfl,rfl⟩,⟨rfl,rfl⟩,trivial⟩,⟨⟨rfl,rfl⟩,⟨rfl,rfl,rfl,rfl,rfl⟩,trivial⟩,⟨rfl,hX⟩,⟨rfl,rfl⟩,trivial⟩,hs.2⟩
   ·rw[br,EQ]
    exact aw ny fun _=>⟨⟨⟨⟨rfl,rfl⟩,⟨rfl,rfl⟩,⟨rfl,rfl⟩,trivial⟩,⟨⟨rfl,rfl⟩,⟨rfl,rfl,rfl,rfl,rfl⟩,trivial⟩,⟨rfl,hX⟩,⟨rfl,rfl⟩,trivial⟩,yr rfl⟩
  | cons a r=>
   cases h0:ag (bE tag ty (a::r)) 0 with
   | false=>
    refine dx (A:=ar [] [(7,kK tag ty (ai t y n (aj d) (ab (a::r))) .ret (cG (bE tag ty (a::r))))] aI [] []) base0 au
     (aF (LsOk.at1 rfl pH fun st Q hs=> .seen base0.glob hs.1 (yE (tag:=tag) (ty:=ty) (t0:=t) (y0:=y) (n0:=n) (d0:=d) (k0:=a) (kr:=r) hl (by unfold kL;rw[h0];exact hs.2) (r.length+1) 0 (Nat.zero_add _) rfl))) hcl ?_
    rw[br,EP]
    exact aw ny fun _=>⟨⟨⟨⟨rfl,rfl⟩,⟨rfl,rfl⟩,⟨rfl,rfl⟩,trivial⟩,⟨⟨rfl,rfl⟩,⟨rfl,rfl,rfl,rfl,rfl⟩,trivial⟩,⟨rfl,hX⟩,⟨rfl,rfl⟩,trivial⟩,eH rfl⟩
   | true=>
    refine fG (A:=ar [] [(7,kK tag ty (ai t y n (aj d) (ab (a::r))) (.exit 0) (ca tag ty (ai t y n (aj d) (ab (a::r))) (r.length+1) (r.length+1) (aR (a::r) (r.length+1))))] aI [] []) base0 au
     (aF (LsOk.at1 rfl pH fun st Q hs=> .seen base0.glob hs.1 (yE (tag:=tag) (ty:=ty) (t0:=t) (y0:=y) (n0:=n) (d0:=d) (k0:=a) (kr:=r) hl (by unfold kL;rw[h0];exact hs.2) (r.length+1) 0 (Nat.zero_add _) rfl))) hcl ?_
    rw[br,ER]
    exact aw ny fun _=>⟨⟨⟨⟨rfl,rfl⟩,⟨rfl,rfl⟩,⟨rfl,rfl⟩,trivial⟩,⟨⟨rfl,rfl⟩,⟨rfl,rfl,rfl,rfl,rfl⟩,trivial⟩,⟨rfl,hX⟩,⟨rfl,rfl⟩,trivial⟩,yt rfl rfl (tO (a::r))⟩
noncomputable section
def cH:List AV:=[I 0,I 0,I 0,.nilsl,.nilsl]
def eA:AV:= .agg [I 0,.nilsl,.str []]
def yF (L:List AV) (i:Nat):List (Nat × AV):=[(38,.fsl false L),(39,I (.ofNat (ac L))),(40,I (.ofNat i))]
def em (L:List AV) (i:Nat):View:=⟨(11,.nilsl)::yF L i,[(6,.ptr 1 0)],[(1,.cells cH,.whole)],3,75⟩
def cI (L:List AV) (i k:Nat) (es:List AV):View:=⟨yF L i,[(6,.ptr 1 0),(11,.rsl true 2 0 k 1)],[(1,.cells cH,.whole),(2,.cells es,.whole)],3,75⟩
def aqR:View:=⟨[(7,I 7),(8,.str [])],[(6,.ptr 1 0)],[(1,.cells cH,.whole)],3,75⟩
def pJ (t y n:Int) (D G:List AV):aN:=ar [(8,0,.res (.bool true)),(9,0,.res (.fptr (ai t y n D G) 0))] [] aI [68] []
abbrev jx:=[I 0,I 0,I 0,AV.nilsl,AV.nilsl]
@[simp] abbrev kM:=(jx=jx∧true=true)
@[simp] abbrev nq:=(some 1=some 1∧0=0)
@[simp] abbrev pK (Q:AExit→St→Prop):=((((I 7=I 7∧true=true)∧(AV.str []=AV.str []∧true=true)∧True)∧(nq∧True)∧kM∧True)∧Q AExit.ret aqR.st)
@[simp] abbrev nr (L:List AV):=(I (Int.ofNat (ac L))=I (Int.ofNat (ac L))∧ad (I (Int.ofNat (ac L)))=true)
@[simp] abbrev nt (L:List AV):=(AV.fsl false L=AV.fsl false L∧ad (AV.fsl false L)=true)
theorem ET (L:List AV) (i j:Nat) (es:List AV) (t y n:Int) (D G:List AV) (Nx:Prop) (Q:AExit→St→Prop):al Tryz.prog opts0 40 (pJ t y n D G) (aq Tryz.prog 34 9) (em L i).st (aO 1 [(0,0),(1,1),(2,20)] (cI L j 1 es) Nx [(0,0),(1,1)] aqR Q)=
  (an Tryz.prog BinOp.lss 3 (Operand.tmp 40) (Operand.tmp 39) (I (Int.ofNat i)) (I (Int.ofNat (ac L)))=some (AV.bool true)∧aJ Tryz.prog 29 (AV.fsl false L) (I (Int.ofNat i))=some (AV.fptr [I t,I y,I n,AV.fsl false D,AV.fsl false G] 0)∧ah (am n 1) (pK Q) (ah (am 3 n) (pK Q) ((((nt L)∧(nr L)∧(I (af IntKind.i64 (Int.ofNat i+1))=I (Int.ofNat j)∧ad (I (Int.ofNat j))=true)∧True)∧(nq∧(true=true∧some 20=some 20∧0=0∧1=ac [I n]∧1=1)∧True)∧kM∧(flat [I n]=es∧ae es=true)∧True)∧Nx))):=by kernel_rfl
theorem EU (L:List AV) (i j k k':Nat) (es es':List AV) (t y n:Int) (D G:List AV) (Nx:Prop) (Q:AExit→St→Prop):al Tryz.prog opts0 40 (pJ t y n D G) (aq Tryz.prog 34 9) (cI L i (k+1) es).st (aO 1 [(0,0),(1,1),(2,20)] (cI L j k' es') Nx [(0,0),(1,1)] aqR Q)=
  (an Tryz.prog BinOp.lss 3 (Operand.tmp 40) (Operand.tmp 39) (I (Int.ofNat i)) (I (Int.ofNat (ac L)))=some (AV.bool true)∧aJ Tryz.prog 29 (AV.fsl false L) (I (Int.ofNat i))=some (AV.fptr [I t,I y,I n,AV.fsl false D,AV.fsl false G] 0)∧ah (am n 1) (pK Q) (ah (am 3 n) (pK Q) (aE (bi 1 [I n]&&(((k+1+ac [I n])*8).ble 140737488355328&&(be (flat [I n])&&true))) (aE ((ac es).beq ((k+1)*1)) ((((nt L)∧(nr L)∧(I (af IntKind.i64 (Int.ofNat i+1))=I (Int.ofNat j)∧ad (I (Int.ofNat j))=true)∧True)∧(nq∧(true=true∧some 20=some 20∧0=0∧k'=k+1+ac [I n]∧1=1)∧True)∧kM∧(es++flat [I n]=es'∧ae es'=true)∧True)∧Nx))))):=by kernel_rfl
theorem EV (L:List AV) (i:Nat) (Nx:Prop) (Q:AExit→St→Prop):al Tryz.prog opts0 40 (ar [(8,0,.res (.bool false))] [] aI [] []) (aq Tryz.prog 34 9) (em L i).st (aO 1 [(0,0)] (em L i) Nx [(0,0),(1,1)] (em L i) Q)=
  (an Tryz.prog BinOp.lss 3 (Operand.tmp 40) (Operand.tmp 39) (I (Int.ofNat i)) (I (Int.ofNat (ac L)))=some (AV.bool false)∧(((AV.nilsl=AV.nilsl∧true=true)∧(nt L)∧(nr L)∧(I (Int.ofNat i)=I (Int.ofNat i)∧ad (I (Int.ofNat i))=true)∧True)∧(nq∧True)∧kM∧True)∧Q (AExit.exit 0) (em L i).st):=by kernel_rfl
theorem EW (L:List AV) (i k:Nat) (es:List AV) (Nx:Prop) (Q:AExit→St→Prop):al Tryz.prog opts0 40 (ar [(8,0,.res (.bool false))] [] aI [] []) (aq Tryz.prog 34 9) (cI L i k es).st (aO 1 [(0,0)] (cI L i k es) Nx [(0,0),(1,1),(2,2)] (cI L i k es) Q)=
  (an Tryz.prog BinOp.lss 3 (Operand.tmp 40) (Operand.tmp 39) (I (Int.ofNat i)) (I (Int.ofNat (ac L)))=some (AV.bool false)∧(((nt L)∧(nr L)∧(I (Int.ofNat i)=I (Int.ofNat i)∧ad (I (Int.ofNat i))=true)∧True)∧(nq∧(true=true∧some 2=some 2∧0=0∧k=k∧1=1)∧True)∧kM∧(es=es∧ae es=true)∧True)∧Q (AExit.exit 0) (cI L i k es).st):=by kernel_rfl
def kN (L:List AV) (e:AExit) (F:View):a7:=fun st Q=>ck 1 [(0,0),(1,3)] (em L 0) st∧Q e F.st
def EX (b1 b2 b3:Bool):List AV→Option AV
 | [_,.int .i64 (.ofNat n)]=>match Nat.beq n 1 with
  |true=>some (.bool b1)
  |false=>match Nat.beq n 2 with
   |true=>some (.bool b2)
   |false=>some (.bool b3)
 |_=>none
def kO (l:List (Nat × a7)) (v:AV) (b1 b2 b3:Bool):aN:=ar [] l (bT [(69,fun _=>some v),(78,EX b1 b2 b3)]) [70,68] []
def yG (N:List AV):View:=⟨[(11,.fsl false N)],[(6,.ptr 1 0)],[(1,.cells cH,.whole)],3,75⟩
abbrev bM (L:List AV):AV:= .tuple [.fsl false [.fsl false L],I 0]
abbrev tT (D K:List AV) (n t y:Int):=[AV.agg [I t,I y,I n,AV.fsl false D,AV.fsl false K],AV.fsl true [AV.agg [I 4325492,I 5,AV.bool false,AV.bool true]]]
theorem EY (t y n r:Int) (D K:List AV) (Q:AV→aa→Nat→Prop):aA Tryz.prog opts0 40 (ar [(4,1,.res (.bool true))] [(9,fun _ _=>False)] (bT [(69,fun _=>some (.tuple [.nilsl,I r]))]) [70,68] []) 34 [.ptr 0 0,.agg (ai t y n D K),eA] [] 1 Q=
  (SC 69 (tT D K n t y) (AV.tuple [AV.nilsl,I r])∧an Tryz.prog BinOp.neq 3 (Operand.tmp 29) (Operand.const (Value.int IntKind.i64 0)) (I r) (I 0)=some (AV.bool true)∧Q (AV.tuple [AV.agg jx,I r,AV.str []]) [(32,some (Blk.cells jx)),(17,some (Blk.cells [I 4325492,I 5,AV.bool false,AV.bool true])),(3,some (Blk.cells jx)),(2,some (Blk.cells [I 0,AV.nilsl,AV.str []])),(1,some (Blk.cells [I t,I y,I n,AV.fsl false D,AV.fsl false K]))] 40):=by kernel_rfl
@[simp] abbrev yH (L:List AV):=(((AV.nilsl=AV.nilsl∧true=true)∧(nt L)∧(nr L)∧(I 0=I 0∧true=true)∧True)∧((some 3=some 3∧0=0)∧True)∧kM∧True)
theorem EZ (t y n:Int) (D K L:List AV) (Q:AV→aa→Nat→Prop):aA Tryz.prog opts0 40 (kO [(9,kN L .ret aqR)] (bM L) false false false) 34 [.ptr 0 0,.agg (ai t y n D K),eA] [] 1 Q=
  (SC 69 (tT D K n t y) (AV.tuple [AV.fsl false [AV.fsl false L],I 0])∧(yH L)∧Q (AV.tuple [AV.agg jx,I 7,AV.str []]) [(1,some (Blk.cells jx))] 3):=by kernel_rfl
theorem E0 (t y n:Int) (D K L:List AV) (i:Nat) (Q:AV→aa→Nat→Prop):aA Tryz.prog opts0 40 (kO [(9,kN L (.exit 0) (em L i))] (bM L) false false false) 34 [.ptr 0 0,.agg (ai t y n D K),eA] [] 1 Q=
  (SC 69 (tT D K n t y) (AV.tuple [AV.fsl false [AV.fsl false L],I 0])∧(yH L)∧SC 78 [AV.nilsl,I 1] (AV.bool false)∧SC 78 [AV.nilsl,I 2] (AV.bool false)∧SC 78 [AV.nilsl,I 3] (AV.bool false)∧Q (AV.tuple [AV.agg [I 4325500,I 1,I 0,AV.nilsl,AV.nilsl],I 0,AV.str []]) [(1,some (Blk.cells [I 4325500,I 1,I 0,AV.nilsl,AV.nilsl]))] 36):=by kernel_rfl
end
noncomputable section
def dT (N:List AV) (v:Int) (i:Nat):View:=⟨[(0,.fsl false N),(1,I v),(7,I (.ofNat (ac N))),(8,I (.ofNat i))],[],[],0,19⟩
def kP (i:Nat):View:=⟨[(4,I (.ofNat i))],[],[],0,19⟩
@[simp] abbrev tU (N:List AV):=(I (Int.ofNat (ac N))=I (Int.ofNat (ac N))∧ad (I (Int.ofNat (ac N)))=true)
@[simp] abbrev tV (N:List AV):=(AV.fsl false N=AV.fsl false N∧ad (AV.fsl false N)=true)
theorem E1 (N:List AV) (v n:Int) (i j:Nat) (Nx:Prop) (Q:AExit→St→Prop):al Tryz.prog opts0 40 (ar [(2,0,.res (.bool true)),(4,3,.res (.fptr [I n] 0))] [] aI [] []) (aq Tryz.prog 175 3) (dT N v i).st (aO 0 [] (dT N v j) Nx [] (kP i) Q)=
  (an Tryz.prog BinOp.lss 3 (Operand.tmp 8) (Operand.tmp 7) (I (Int.ofNat i)) (I (Int.ofNat (ac N)))=some (AV.bool true)∧aJ Tryz.prog 154 (AV.fsl false N) (I (Int.ofNat i))=some (AV.fptr [I n] 0)∧ah (ag v n) ((((I (Int.ofNat i)=I (Int.ofNat i)∧ad (I (Int.ofNat i))=true)∧True)∧True∧True)∧Q AExit.ret (kP i).st) ((((tV N)∧(I v=I v∧ad (I v)=true)∧(tU N)∧(I (af IntKind.i64 (Int.ofNat i+1))=I (Int.ofNat j)∧ad (I (Int.ofNat j))=true)∧True)∧True∧True)∧Nx)):=by kernel_rfl
theorem E2 (N:List AV) (v:Int) (i:Nat) (Nx:Prop) (Q:AExit→St→Prop):al Tryz.prog opts0 40 (ar [(2,0,.res (.bool false))] [] aI [] []) (aq Tryz.prog 175 3) (dT N v i).st (aO 0 [] (dT N v i) Nx [] (dT N v i) Q)=
  (an Tryz.prog BinOp.lss 3 (Operand.tmp 8) (Operand.tmp 7) (I (Int.ofNat i)) (I (Int.ofNat (ac N)))=some (AV.bool false)∧(((tV N)∧(I v=I v∧ad (I v)=true)∧(tU N)∧(I (Int.ofNat i)=I (Int.ofNat i)∧ad (I (Int.ofNat i))=true)∧True)∧True∧True)∧Q (AExit.exit 0) (dT N v i).st):=by kernel_rfl
def pL (N:List AV) (v:Int) (e:AExit) (F:View):a7:=fun st Q=>ck 0 [] (dT N v 0) st∧Q e F.st
@[simp] abbrev yI (N:List AV) (v:Int):=(((tV N)∧(I v=I v∧ad (I v)=true)∧(tU N)∧(I 0=I 0∧true=true)∧True)∧True∧True)
theorem E3 (N:List AV) (v:Int) (i:Nat) (Q:AV→Prop):aA Tryz.prog opts0 40 (ar [] [(3,pL N v .ret (kP i))] aI [] []) 175 [.fsl false N,I v] [] 0 (fun u _ _=>Q u)=
  ((yI N v)∧Q (I (Int.ofNat i))):=by kernel_rfl
theorem E4 (N:List AV) (v:Int) (i:Nat) (Q:AV→Prop):aA Tryz.prog opts0 40 (ar [] [(3,pL N v (.exit 0) (dT N v i))] aI [] []) 175 [.fsl false N,I v] [] 0 (fun u _ _=>Q u)=
  ((yI N v)∧Q (I (Int.negSucc 0))):=by kernel_rfl
theorem E5 (N:List AV) (v r:Int) (Q:AV→Prop):aA Tryz.prog opts0 40 (ar [] [] (ed [(175,I r)]) [] []) 78 [.fsl false N,I v] [] 0 (fun u _ _=>Q u)=
  (SC 175 [AV.fsl false N,I v] (I r)∧Q (AV.bool !am r 0)):=by kernel_rfl
theorem E6 {N:List Int} {i:Nat} {n:Int} (h:N[i]? =some n):aJ Tryz.prog 154 (.fsl false (N.map I)) (I (.ofNat i))=some (.fptr [I n] 0):=
 tg (v:=I n) (e:=2) (sz:=1) (by kernel_rfl) (by kernel_rfl) (by rw[List.getElem?_map,h];rfl) rfl
theorem kQ:∀N:List Int,ae (N.map I)=true
 |[]=>rfl
 |_::t=>by simp only[List.map_cons,ae,kQ t,ad,Bool.and_self]
def fO (v:Int):List Int→Nat→Option Nat
 |[],_=>none
 |a::t,i=>match ag v a with
  |true=>some i
  |false=>fO v t (i+1)
theorem yJ:bw (cN Tryz.prog 175) 3=[aq Tryz.prog 175 3]:=by kernel_rfl
theorem E7 {N:List Int} {v:Int} {Q:AExit→St→Prop} (hb:N.length≤90000) (hq:match fO v N 0 with|some i=>Q .ret (kP i).st|none=>Q (.exit 0) (dT (N.map I) v N.length).st):∀m i,i+m=N.length→fO v (N.drop i) i=fO v N 0→ALp Tryz.prog opts0.glob 0 (aq Tryz.prog 175 3) (dT (N.map I) v i).st Q:=by
 have hN:=kQ N
 have hlen:ac (N.map I)=N.length:=by rw[ap,List.length_map]
 intro m
 induction m with
 |zero=>
  intro i hi hp
  rw[Nat.add_zero] at hi
  subst hi
  rw[List.drop_length] at hp
  rw[←hp] at hq
  refine ALp.round (A:=ar [(2,0,.res (.bool false))] [] aI [] []) (V2:=dT (N.map I) v N.length) (F:=dT (N.map I) v N.length) (lk:=[]) (lk':=[]) base0 au (LsOk.no rfl) .refl ?_
  rw[E2]
  exact ⟨eI (by rw[hlen];exact Int.le_refl _),⟨⟨⟨rfl,hN⟩,⟨rfl,rfl⟩,⟨rfl,rfl⟩,⟨rfl,rfl⟩,trivial⟩,trivial,trivial⟩,hq⟩
 | succ m ih=>
  intro i hi hp
  have hlt:i<N.length:=by omega
  have g:=List.getElem?_eq_getElem hlt
  have hd:N.drop i=N[i]::N.drop (i+1):=List.drop_eq_getElem_cons hlt
  rw[hd] at hp
  revert g hp
  generalize N[i]=n
  intro hp g
  replace hp:(match ag v n with|true=>some i|false=>fO v (N.drop (i+1)) (i+1))=fO v N 0:=hp
  refine ALp.round (A:=ar [(2,0,.res (.bool true)),(4,3,.res (.fptr [I n] 0))] [] aI [] []) (V2:=dT (N.map I) v (i+1)) (F:=kP i) (lk:=[]) (lk':=[]) base0 au (LsOk.no rfl) .refl ?_
  have hw:af .i64 (Int.ofNat i+1)=Int.ofNat (i+1):=eK (by omega)
  rw[E1,hw]
  refine ⟨fh (by rw[hlen];simp only[Int.ofNat_eq_natCast];omega),E6 g,aw (fun h=> ?_) (fun h=> ?_)⟩
  ·rw[h] at hp
   rw[←hp] at hq
   exact ⟨⟨⟨⟨rfl,rfl⟩,trivial⟩,trivial,trivial⟩,hq⟩
  ·rw[h] at hp
   exact ⟨⟨⟨⟨rfl,hN⟩,⟨rfl,rfl⟩,⟨rfl,rfl⟩,⟨rfl,rfl⟩,trivial⟩,trivial,trivial⟩,ih (i+1) (by omega) hp⟩
def bf (v:Int) (N:List Int):Bool:=(fO v N 0).isSome
set_option maxRecDepth 20000 in
theorem kR {N:List Int} (v:Int) (hb:N.length≤90000):SC 78 [.fsl false (N.map I),I v] (.bool (bf v N)):=by
 have hN:=kQ N
 have hcl:ae [.fsl false (N.map I),I v]=true:=by simp only[ae,ad,hN,Bool.and_self]
 have hl:=fun Q h=> @E7 N v Q hb h N.length 0 (Nat.zero_add _) rfl
 have hi:∃r:Int,SC 175 [.fsl false (N.map I),I v] (I r)∧am r 0= !(bf v N):=by
  unfold bf
  cases hp:fO v N 0 with
  |some i=>
   rw[hp] at hl
   refine ⟨.ofNat i, ?_,rfl⟩
   refine dx (A:=ar [] [(3,pL (N.map I) v .ret (kP i))] aI [] []) base0 au (aF (LsOk.at1 rfl yJ fun st Q hs=> .seen base0.glob hs.1 (hl Q hs.2))) hcl ?_
   rw[E3]
   exact ⟨⟨⟨⟨rfl,hN⟩,⟨rfl,rfl⟩,⟨rfl,rfl⟩,⟨rfl,rfl⟩,trivial⟩,trivial,trivial⟩,eH rfl⟩
  |none=>
   rw[hp] at hl
   refine ⟨-1, ?_,rfl⟩
   refine dx (A:=ar [] [(3,pL (N.map I) v (.exit 0) (dT (N.map I) v N.length))] aI [] []) base0 au (aF (LsOk.at1 rfl yJ fun st Q hs=> .seen base0.glob hs.1 (hl Q hs.2))) hcl ?_
   rw[E4]
   exact ⟨⟨⟨⟨rfl,hN⟩,⟨rfl,rfl⟩,⟨rfl,rfl⟩,⟨rfl,rfl⟩,trivial⟩,trivial,trivial⟩,eH rfl⟩
 obtain ⟨r,h1,h2⟩:=hi
 refine dx (A:=ar [] [] (ed [(175,I r)]) [] []) base0 au (aF (LsOk.no rfl)) hcl ?_
 rw[E5]
 refine ⟨h1, ?_⟩
 rw[h2,Bool.not_not]
 exact eH rfl
end
end Go.Proofs.YtjmnheinkchlfaaGreatDoor
namespace Go.Proofs.YtjmnheinkchlfaaGreatDoor
set_option maxRecDepth 20000
open Go Go.RowKit
open Go.Proofs.Abs
def ep (t y n:Int):AV:= .agg [I t,I y,I n,.nilsl,.nilsl]
def opL:List Int:=[1,2,3,4,8,9,10,11,12,13,14,15,17,18,19,20,21,22,24,30,31,32,35,36]
def tW:List UInt8:=[108,111,99,107,115,109,105,116,104]
def pM {α:Type} (a b c:List α) (b1 b2 b3:Bool):List α:=(match b1 with|true=>a|false=>[])++((match b2 with|true=>b|false=>[])++(match b3 with|true=>c|false=>[]))
def ii (b1 b2 b3:Bool):List It:=pM (opL.map fun n=> .mk 4325468 5 n [] []) ([2,3,4,7].map fun n=> .mk 4325463 5 n [] []) [.mk 4325533 7 0 tW []] b1 b2 b3
def nu (b1 b2 b3:Bool):List AV:=pM (opL.map fun n=>ep 4325468 5 n) ([2,3,4,7].map fun n=>ep 4325463 5 n) [.agg [I 4325533,I 7,I 0,.fsl false (aj tW),.nilsl]] b1 b2 b3
def yK:List AV→AV
 |[]=> .nilsl
 |l=> .fsl false l
def ij (b1 b2 b3:Bool):AV:= .tuple [.agg [I 4325500,I 1,I 0,.nilsl,yK (nu b1 b2 b3)],I 0,.str []]
def yL (b1 b2 b3:Bool):AV:= .tuple [ao (.mk 4325500 1 0 [] (ii b1 b2 b3)),I 0,.str []]
def fP (r:Int):AV:= .tuple [.agg cH,I r,.str []]
def df (x:It) (r:Int):AV:= .tuple [ao x,I r,.str []]
def zI:It:= .mk 0 0 0 [] []
theorem kS (r:Int):Wk (fP r) (df zI r):=by
 simp only[fP,df,zI,cH,ao,ab,aj]
 (repeat (first|exact Wk.refl _|exact WkL.refl _|exact Wk.nil|exact Wk.row|exact WkE.refl _|exact WkL.nil|exact WkE.nil|apply Wk.agg|apply Wk.tuple|apply WkL.cons|apply Wk.rows|apply WkE.consA))
theorem E8:∀b1 b2 b3,WkE (nu b1 b2 b3) (ab (ii b1 b2 b3)):=by
 intro b1 b2 b3
 cases b1<;>cases b2<;>cases b3<;> · simp only[nu,ii,pM,opL,List.map_cons,List.map_nil,List.cons_append,List.nil_append,List.append_nil,ab,ao,ep,aj];(repeat (first|exact Wk.refl _|exact WkL.refl _|exact Wk.nil|exact Wk.row|exact WkE.refl _|exact WkL.nil|exact WkE.nil|apply Wk.agg|apply Wk.tuple|apply WkL.cons|apply Wk.rows|apply WkE.consA))
theorem yM:∀b1 b2 b3,ad (ij b1 b2 b3)=true:=by
 intro b1 b2 b3
 cases b1<;>cases b2<;>cases b3<;>kernel_rfl
theorem tX (b1 b2 b3:Bool):Wk (ij b1 b2 b3) (yL b1 b2 b3):=by
 have h:=E8 b1 b2 b3
 have hr:Wk (yK (nu b1 b2 b3)) (.fsl false (ab (ii b1 b2 b3))):=by
  revert h
  generalize nu b1 b2 b3=l
  intro h
  cases l with
  |nil=>
   have:ab (ii b1 b2 b3)=[]:=List.eq_nil_of_length_eq_zero h.len.symm
   rw[this]
   exact Wk.nil
  |cons a t=>exact Wk.rows h
 exact .tuple (.cons (.agg (.cons (.refl _) (.cons (.refl _) (.cons (.refl _) (.cons .nil (.cons hr .nil)))))) (.refl _))
def qI (n:Int):It:= .mk 4325492 5 n [] []
def cm (n:Int):Bool:=am n 1||am 3 n
noncomputable def yN (N:List Int):Nat→View
 |0=>em (ab (N.map qI)) 0
 |i+1=>cI (ab (N.map qI)) (i+1) (i+1) ((N.take (i+1)).map I)
def pN (N:List Int) (Q:AExit→St→Prop):Prop:=match N.any cm with
 |false=>Q (.exit 0) (yN N N.length).st
 |true=>Q .ret aqR.st
theorem yO:∀N:List Int,flat (N.map I)=N.map I
 |[]=>rfl
 |a::t=>by
  show I a::flat (t.map I)=_
  rw[yO t];rfl
theorem yP {N:List Int} {i:Nat} {n:Int} (g:N[i]? =some n) (h:cm n=true):N.any cm=true:=List.any_eq_true.2 ⟨n,List.mem_of_getElem? g,h⟩
theorem E9 {N:List Int} {Q:AExit→St→Prop} (hb:N.length≤90000) (hq:pN N Q):∀m i,i+m=N.length→((N.take i).any cm=false)→ALp Tryz.prog opts0.glob 1 (aq Tryz.prog 34 9) (yN N i).st Q:=by
 have hK:ae (ab (N.map qI))=true:=bA _
 have hlen:ac (ab (N.map qI))=N.length:=by rw[ia,List.length_map]
 intro m
 induction m with
 | zero=>
  intro i hi hp
  rw[Nat.add_zero] at hi
  subst hi
  rw[List.take_length] at hp
  unfold pN at hq
  rw[hp] at hq
  have hf:an Tryz.prog .lss 3 (.tmp 40) (.tmp 39) (I (.ofNat N.length)) (I (.ofNat (ac (ab (N.map qI)))))=some (.bool false):=eI (by rw[hlen];exact Int.le_refl _)
  revert hq hf
  cases N.length with
  |zero=>
   intro hq hf
   refine ALp.round (A:=ar [(8,0,.res (.bool false))] [] aI [] []) (V2:=em (ab (N.map qI)) 0) (F:=em (ab (N.map qI)) 0) (lk:=[(0,0)]) (lk':=[(0,0),(1,1)]) base0 au (LsOk.no rfl) .refl ?_
   show al Tryz.prog opts0 40 _ _ (em (ab (N.map qI)) 0).st _
   rw[EV]
   exact ⟨hf,⟨⟨⟨rfl,rfl⟩,⟨rfl,hK⟩,⟨rfl,rfl⟩,⟨rfl,rfl⟩,trivial⟩,⟨⟨rfl,rfl⟩,trivial⟩,⟨rfl,rfl⟩,trivial⟩,hq⟩
  |succ i=>
   intro hq hf
   have hE:=kQ (N.take (i+1))
   refine ALp.round (A:=ar [(8,0,.res (.bool false))] [] aI [] []) (V2:=cI (ab (N.map qI)) (i+1) (i+1) ((N.take (i+1)).map I)) (F:=cI (ab (N.map qI)) (i+1) (i+1) ((N.take (i+1)).map I)) (lk:=[(0,0)]) (lk':=[(0,0),(1,1),(2,2)]) base0 au (LsOk.no rfl) .refl ?_
   show al Tryz.prog opts0 40 _ _ (cI (ab (N.map qI)) (i+1) (i+1) ((N.take (i+1)).map I)).st _
   rw[EW]
   exact ⟨hf,⟨⟨⟨rfl,hK⟩,⟨rfl,rfl⟩,⟨rfl,rfl⟩,trivial⟩,⟨⟨rfl,rfl⟩,⟨rfl,rfl,rfl,rfl,rfl⟩,trivial⟩,⟨rfl,rfl⟩,⟨rfl,hE⟩,trivial⟩,hq⟩
 | succ m ih=>
  intro i hi hp
  have hlt:i<N.length:=by omega
  have g:=List.getElem?_eq_getElem hlt
  have hn:=ih (i+1) (by omega)
  have ht:an Tryz.prog .lss 3 (.tmp 40) (.tmp 39) (I (.ofNat i)) (I (.ofNat (ac (ab (N.map qI)))))=some (.bool true):=fh (by rw[hlen];simp only[Int.ofNat_eq_natCast];omega)
  revert g
  generalize N[i]=n
  intro g
  have gk:(N.map qI)[i]? =some (.mk 4325492 5 n [] []):=by rw[List.getElem?_map,g];rfl
  have hi0:=fg (f:=false) gk
  have htk:(N.take (i+1)).map I=(N.take i).map I++[I n]:=by rw[List.take_add_one,g,List.map_append];rfl
  have hE:=kQ (N.take (i+1))
  have hw:af .i64 (Int.ofNat i+1)=Int.ofNat (i+1):=eK (by omega)
  have hnx:cm n=false→((N.take (i+1)).any cm=false):=fun h=>by rw[List.take_add_one,g,List.any_append,hp];simp[h]
  have hbad:cm n=true→Q .ret aqR.st:=fun h=>by
   unfold pN at hq
   rw[yP g h] at hq
   exact hq
  cases i with
  |zero=>
   refine ALp.round (A:=pJ 4325492 5 n (aj []) (ab [])) (V2:=cI (ab (N.map qI)) 1 1 ((N.take 1).map I)) (F:=aqR) (lk:=[(0,0),(1,1),(2,20)]) (lk':=[(0,0),(1,1)]) base0 au (LsOk.no rfl) .refl ?_
   show al Tryz.prog opts0 40 _ _ (em (ab (N.map qI)) 0).st _
   rw[ET,hw]
   refine ⟨ht,hi0,aw (fun h=>⟨⟨⟨⟨rfl,rfl⟩,⟨rfl,rfl⟩,trivial⟩,⟨⟨rfl,rfl⟩,trivial⟩,⟨rfl,rfl⟩,trivial⟩,hbad (by simp[cm,h])⟩) fun h1=>aw (fun h=>⟨⟨⟨⟨rfl,rfl⟩,⟨rfl,rfl⟩,trivial⟩,⟨⟨rfl,rfl⟩,trivial⟩,⟨rfl,rfl⟩,trivial⟩,hbad (by simp[cm,h])⟩) fun h2=> ?_⟩
   exact ⟨⟨⟨⟨rfl,hK⟩,⟨rfl,rfl⟩,⟨rfl,rfl⟩,trivial⟩,⟨⟨rfl,rfl⟩,⟨rfl,rfl,rfl,rfl,rfl⟩,trivial⟩,⟨rfl,rfl⟩,⟨by rw[htk];rfl,hE⟩,trivial⟩,hn (hnx (by simp[cm,h1,h2]))⟩
  |succ i=>
   refine ALp.round (A:=pJ 4325492 5 n (aj []) (ab [])) (V2:=cI (ab (N.map qI)) (i+1+1) (i+1+1) ((N.take (i+1+1)).map I)) (F:=aqR) (lk:=[(0,0),(1,1),(2,20)]) (lk':=[(0,0),(1,1)]) base0 au (LsOk.no rfl) .refl ?_
   show al Tryz.prog opts0 40 _ _ (cI (ab (N.map qI)) (i+1) (i+1) ((N.take (i+1)).map I)).st _
   rw[EU,hw]
   refine ⟨ht,hi0,aw (fun h=>⟨⟨⟨⟨rfl,rfl⟩,⟨rfl,rfl⟩,trivial⟩,⟨⟨rfl,rfl⟩,trivial⟩,⟨rfl,rfl⟩,trivial⟩,hbad (by simp[cm,h])⟩) fun h1=>aw (fun h=>⟨⟨⟨⟨rfl,rfl⟩,⟨rfl,rfl⟩,trivial⟩,⟨⟨rfl,rfl⟩,trivial⟩,⟨rfl,rfl⟩,trivial⟩,hbad (by simp[cm,h])⟩) fun h2=> ?_⟩
   have h3:Nat.ble ((i+1+ac [I n])*8) 140737488355328=true:=Nat.ble_eq_true_of_le (by rw[show ac [I n]=1 from rfl];omega)
   have hel:((N.take (i+1)).map I).length=i+1:=by rw[List.length_map,List.length_take];omega
   refine bD (ig rfl h3 rfl) (bD (by rw[beq_iff,ap,hel];omega) ?_)
   exact ⟨⟨⟨⟨rfl,hK⟩,⟨rfl,rfl⟩,⟨rfl,rfl⟩,trivial⟩,⟨⟨rfl,rfl⟩,⟨rfl,rfl,rfl,rfl,rfl⟩,trivial⟩,⟨rfl,rfl⟩,⟨by rw[htk];rfl,hE⟩,trivial⟩,hn (hnx (by simp[cm,h1,h2]))⟩
theorem pO:bw (cN Tryz.prog 34) 9=[aq Tryz.prog 34 9]:=by kernel_rfl
theorem Fa (b1 b2 b3:Bool) (t y n:Int) (D K L N:List AV) (i k:Nat) (es:List AV):aA Tryz.prog opts0 40 (gq (kO [(9,kN L (.exit 0) (cI L i k es))] (bM L) b1 b2 b3) 14 2 (yG N)) 34 [.ptr 0 0,.agg (ai t y n D K),eA] [] 1 (EndC (ij b1 b2 b3) 1000)=
  (SC 69 [.agg (ai t y n D K),.fsl true [bQ 4325492 5]] (bM L)∧
   (((AV.nilsl=AV.nilsl∧true=true)∧(AV.fsl false L=AV.fsl false L∧ad (AV.fsl false L)=true)∧(I (.ofNat (ac L))=I (.ofNat (ac L))∧ad (I (.ofNat (ac L)))=true)∧(I 0=I 0∧true=true)∧True)∧((some 3=some 3∧0=0)∧True)∧(cH=cH∧true=true)∧True)∧
   ((Frz 2 (cI L i k es).st.heap (AV.rsl true 2 0 k 1) (AV.fsl false N)∧Frz 2 (cI L i k es).st.heap (AV.ptr 1 0) (AV.ptr 1 0)∧True)∧FrzL 2 (cI L i k es).st.heap cH cH∧True)∧
   SC 78 [AV.fsl false N,I 1] (AV.bool b1)∧SC 78 [AV.fsl false N,I 2] (AV.bool b2)∧SC 78 [AV.fsl false N,I 3] (AV.bool b3)∧
   (true=true∧ij b1 b2 b3=ij b1 b2 b3)):=by
 cases b1<;>cases b2<;>cases b3<;>kernel_rfl
def nv (N:List Int):AV:=match N.any cm with
 |false=>yL (bf 1 N) (bf 2 N) (bf 3 N)
 |true=>df zI 7
theorem Fb {N:List Int} {x:It} (h:aX aD x) (hx:dd x=N.map qI) (hp:dR 4325492 5 x=0) (hb:N.length≤90000):BodySem Tryz.prog opts0.glob 34 [.ptr 0 0,ao x,eA] [] 1 (nv N) [] 1000:=by
 have hpar:=px (tag:=4325492) (ty:=5) h (by rw[hx,List.length_map];exact hb)
 have hK:=bA (N.map qI)
 have hlp:= @E9 N
 unfold eM at hpar
 rw[hp,hx] at hpar
 replace hpar:SC 69 [ao x,.fsl true [bQ 4325492 5]] (bM (ab (N.map qI))):=hpar
 obtain ⟨t,y,n,d,ks⟩:=x
 rw[br] at hpar⊢
 unfold nv
 unfold pN at hlp
 cases hbad:N.any cm with
 | true=>
  rw[hbad] at hlp
  refine dM (k:=0) (A:=kO [(9,kN (ab (N.map qI)) .ret aqR)] (bM (ab (N.map qI))) false false false) base0 au
   (aF (LsOk.at1 rfl pO fun st Q hs=> .seen base0.glob hs.1 (hlp hb hs.2 N.length 0 (Nat.zero_add _) rfl))) (EndC.b (r:=fP 7) rfl (kS 7)) ?_
  rw[EZ]
  exact ⟨hpar,⟨⟨⟨rfl,rfl⟩,⟨rfl,hK⟩,⟨rfl,rfl⟩,⟨rfl,rfl⟩,trivial⟩,⟨⟨rfl,rfl⟩,trivial⟩,⟨rfl,rfl⟩,trivial⟩,rfl,rfl⟩
 | false=>
  rw[hbad] at hlp
  cases N with
  | nil=>
   have h1:=(kR (N:=[]) 1 hb).wkA (.cons Wk.nil (.refl _))
   have h2:=(kR (N:=[]) 2 hb).wkA (.cons Wk.nil (.refl _))
   have h3:=(kR (N:=[]) 3 hb).wkA (.cons Wk.nil (.refl _))
   refine dM (k:=0) (A:=kO [(9,kN (ab ([].map qI)) (.exit 0) (em (ab ([].map qI)) 0))] (bM (ab ([].map qI))) false false false) base0 au
    (aF (LsOk.at1 rfl pO fun st Q hs=> .seen base0.glob hs.1 (hlp hb hs.2 0 0 rfl rfl))) (EndC.b (yM false false false) (tX false false false)) ?_
   rw[E0]
   exact ⟨hpar,⟨⟨⟨rfl,rfl⟩,⟨rfl,hK⟩,⟨rfl,rfl⟩,⟨rfl,rfl⟩,trivial⟩,⟨⟨rfl,rfl⟩,trivial⟩,⟨rfl,rfl⟩,trivial⟩,h1,h2,h3,rfl,rfl⟩
  | cons a r=>
   have hN:=kQ (a::r)
   refine dM (k:=0) (A:=gq (kO [(9,kN (ab ((a::r).map qI)) (.exit 0) (cI (ab ((a::r).map qI)) (r.length+1) (r.length+1) (((a::r).take (r.length+1)).map I)))] (bM (ab ((a::r).map qI))) (bf 1 (a::r)) (bf 2 (a::r)) (bf 3 (a::r))) 14 2 (yG ((a::r).map I))) base0 (fc au)
    (aF (LsOk.at1 rfl pO fun st Q hs=> .seen base0.glob hs.1 (hlp hb hs.2 (r.length+1) 0 (Nat.zero_add _) rfl))) (EndC.b (yM _ _ _) (tX _ _ _)) ?_
   rw[Fa]
   have hT:(a::r).take (r.length+1)=a::r:=List.take_length (l:=a::r)
   rw[hT]
   refine ⟨hpar,⟨⟨⟨rfl,rfl⟩,⟨rfl,hK⟩,⟨rfl,rfl⟩,⟨rfl,rfl⟩,trivial⟩,⟨⟨rfl,rfl⟩,trivial⟩,⟨rfl,rfl⟩,trivial⟩,⟨⟨.row (es:=(a::r).map I) rfl rfl (yO _).symm (by rw[List.length_map];rfl) ?_ hN,⟨1,rfl⟩,trivial⟩,.closed _ rfl,trivial⟩,kR 1 hb,kR 2 hb,kR 3 hb,rfl,rfl⟩
   intro e he
   obtain ⟨v,_,rfl⟩:=List.mem_map.1 he
   exact ⟨rfl,rfl⟩
theorem Fd {x:It} {r:Int} (h:aX aD x) (hl:(dd x).length≤90000) (hp:dR 4325492 5 x=r) (hr:r≠0):BodySem Tryz.prog opts0.glob 34 [.ptr 0 0,ao x,eA] [] 1 (df zI r) [] 1000:=by
 have hpar:=px (tag:=4325492) (ty:=5) h hl
 unfold eM at hpar
 rw[hp,beqInt_false.2 hr] at hpar
 replace hpar:SC 69 [ao x,.fsl true [bQ 4325492 5]] (.tuple [.nilsl,I r]):=hpar
 obtain ⟨t,y,n,d,ks⟩:=x
 rw[br] at hpar⊢
 refine dM (k:=0) (A:=ar [(4,1,.res (.bool true))] [(9,fun _ _=>False)] (bT [(69,fun _=>some (.tuple [.nilsl,I r]))]) [70,68] []) base0 au
  (aF (LsOk.at1 rfl pO fun st Q hs=>hs.elim)) (EndC.b (r:=fP r) rfl (kS r)) ?_
 rw[EY]
 refine ⟨hpar, ?_,rfl,rfl⟩
 rw[np,beqInt_false.2 hr]
 rfl
end Go.Proofs.YtjmnheinkchlfaaGreatDoor
namespace Go.Proofs.YtjmnheinkchlfaaGreatDoor
open Go Go.RowKit
open Go.Proofs.Abs
noncomputable section
def cy (L:List AV) (b1 b2 b3:Bool) (i:Nat):View:=⟨[(9,.fsl false [.fsl false L]),(12,I (.ofNat i))],[(6,.ptr 1 0),(11,.ptr 2 0)],[(1,.cells cH,.whole),(2,.cells [.bool false,.bool b1,.bool b2,.bool b3],.whole)],3,103⟩
def rqR:View:=⟨[(7,I 7),(8,.str [])],[(6,.ptr 1 0)],[(1,.cells cH,.whole)],3,103⟩
def nw (t y n:Int) (D G:List AV):aN:=ar [(6,5,.res (.bool true)),(8,4,.res (.fptr (ai t y n D G) 0))] [] aI [38] []
abbrev c6:=[I 0,I 0,I 0,AV.nilsl,AV.nilsl]
@[simp] abbrev nz (L:List AV):=(AV.fsl false [AV.fsl false L]=AV.fsl false [AV.fsl false L]∧ad (AV.fsl false [AV.fsl false L])=true)
@[simp] abbrev pP:=((some 1=some 1∧0=0)∧(some 2=some 2∧0=0)∧True)
abbrev kT (c1 c2 c3:Bool):=[AV.bool false,AV.bool c1,AV.bool c2,AV.bool c3]
theorem Fe (L:List AV) (b1 b2 b3 c1 c2 c3:Bool) (i j:Nat) (t y:Int) (D G:List AV) (Nx:Prop) (Q:AExit→St→Prop):al Tryz.prog opts0 40 (nw t y 1 D G) (aq Tryz.prog 94 7) (cy L b1 b2 b3 i).st (aO 1 [(0,0),(1,1),(2,2)] (cy L c1 c2 c3 j) Nx [(0,0),(1,1)] rqR Q)=
  (an Tryz.prog BinOp.lss 3 (Operand.tmp 33) (Operand.tmp 37) (I (Int.ofNat i)) (I (Int.ofNat (ac L)))=some (AV.bool true)∧aJ Tryz.prog 29 (AV.fsl false L) (I (Int.ofNat i))=some (AV.fptr [I t,I y,I 1,AV.fsl false D,AV.fsl false G] 0)∧(((nz L)∧(I (af IntKind.i64 (Int.ofNat i+1))=I (Int.ofNat j)∧ad (I (Int.ofNat j))=true)∧True)∧pP∧(c6=c6∧true=true)∧([AV.bool false,AV.bool true,AV.bool b2,AV.bool b3]=(kT c1 c2 c3)∧ae (kT c1 c2 c3)=true)∧True)∧Nx):=by kernel_rfl
theorem Ff (L:List AV) (b1 b2 b3 c1 c2 c3:Bool) (i j:Nat) (t y:Int) (D G:List AV) (Nx:Prop) (Q:AExit→St→Prop):al Tryz.prog opts0 40 (nw t y 2 D G) (aq Tryz.prog 94 7) (cy L b1 b2 b3 i).st (aO 1 [(0,0),(1,1),(2,2)] (cy L c1 c2 c3 j) Nx [(0,0),(1,1)] rqR Q)=
  (an Tryz.prog BinOp.lss 3 (Operand.tmp 33) (Operand.tmp 37) (I (Int.ofNat i)) (I (Int.ofNat (ac L)))=some (AV.bool true)∧aJ Tryz.prog 29 (AV.fsl false L) (I (Int.ofNat i))=some (AV.fptr [I t,I y,I 2,AV.fsl false D,AV.fsl false G] 0)∧(((nz L)∧(I (af IntKind.i64 (Int.ofNat i+1))=I (Int.ofNat j)∧ad (I (Int.ofNat j))=true)∧True)∧pP∧(c6=c6∧true=true)∧([AV.bool false,AV.bool b1,AV.bool true,AV.bool b3]=(kT c1 c2 c3)∧ae (kT c1 c2 c3)=true)∧True)∧Nx):=by kernel_rfl
theorem Fg (L:List AV) (b1 b2 b3 c1 c2 c3:Bool) (i j:Nat) (t y:Int) (D G:List AV) (Nx:Prop) (Q:AExit→St→Prop):al Tryz.prog opts0 40 (nw t y 3 D G) (aq Tryz.prog 94 7) (cy L b1 b2 b3 i).st (aO 1 [(0,0),(1,1),(2,2)] (cy L c1 c2 c3 j) Nx [(0,0),(1,1)] rqR Q)=
  (an Tryz.prog BinOp.lss 3 (Operand.tmp 33) (Operand.tmp 37) (I (Int.ofNat i)) (I (Int.ofNat (ac L)))=some (AV.bool true)∧aJ Tryz.prog 29 (AV.fsl false L) (I (Int.ofNat i))=some (AV.fptr [I t,I y,I 3,AV.fsl false D,AV.fsl false G] 0)∧(((nz L)∧(I (af IntKind.i64 (Int.ofNat i+1))=I (Int.ofNat j)∧ad (I (Int.ofNat j))=true)∧True)∧pP∧(c6=c6∧true=true)∧([AV.bool false,AV.bool b1,AV.bool b2,AV.bool true]=(kT c1 c2 c3)∧ae (kT c1 c2 c3)=true)∧True)∧Nx):=by kernel_rfl
theorem Fh (L:List AV) (b1 b2 b3 c1 c2 c3:Bool) (i j:Nat) (t y:Int) (D G:List AV) (Nx:Prop) (Q:AExit→St→Prop):al Tryz.prog opts0 40 (nw t y 4 D G) (aq Tryz.prog 94 7) (cy L b1 b2 b3 i).st (aO 1 [(0,0),(1,1),(2,2)] (cy L c1 c2 c3 j) Nx [(0,0),(1,1)] rqR Q)=
  (an Tryz.prog BinOp.lss 3 (Operand.tmp 33) (Operand.tmp 37) (I (Int.ofNat i)) (I (Int.ofNat (ac L)))=some (AV.bool true)∧aJ Tryz.prog 29 (AV.fsl false L) (I (Int.ofNat i))=some (AV.fptr [I t,I y,I 4,AV.fsl false D,AV.fsl false G] 0)∧(((I 7=I 7∧true=true)∧(AV.str []=AV.str []∧true=true)∧True)∧((some 1=some 1∧0=0)∧True)∧(c6=c6∧true=true)∧True)∧Q AExit.ret rqR.st):=by kernel_rfl
theorem Fi (L:List AV) (b1 b2 b3:Bool) (i:Nat) (Nx:Prop) (Q:AExit→St→Prop):al Tryz.prog opts0 40 (ar [(6,5,.res (.bool false))] [] aI [] []) (aq Tryz.prog 94 7) (cy L b1 b2 b3 i).st (aO 1 [(0,0)] (cy L b1 b2 b3 i) Nx [(0,0),(1,1),(2,2)] (cy L b1 b2 b3 i) Q)=
  (an Tryz.prog BinOp.lss 3 (Operand.tmp 33) (Operand.tmp 37) (I (Int.ofNat i)) (I (Int.ofNat (ac L)))=some (AV.bool false)∧(((nz L)∧(I (Int.ofNat i)=I (Int.ofNat i)∧ad (I (Int.ofNat i))=true)∧True)∧pP∧(c6=c6∧true=true)∧([AV.bool false,AV.bool b1,AV.bool b2,AV.bool b3]=[AV.bool false,AV.bool b1,AV.bool b2,AV.bool b3]∧ae [AV.bool false,AV.bool b1,AV.bool b2,AV.bool b3]=true)∧True)∧Q (AExit.exit 0) (cy L b1 b2 b3 i).st):=by kernel_rfl
def pQ (L:List AV) (e:AExit) (F:View):a7:=fun st Q=>ck 1 [(0,0),(1,3),(2,22)] (cy L false false false 0) st∧Q e F.st
def pR (l:List (Nat × a7)) (v:AV):aN:=ar [] l (bT [(177,fun _=>some v)]) [195,38] []
abbrev tY:=[I 4325492,I 5,AV.bool false,AV.bool true]
theorem Fj (t y n r:Int) (D K:List AV) (Q:AV→aa→Nat→Prop):aA Tryz.prog opts0 40 (ar [(2,1,.res (.bool true))] [(7,fun _ _=>False)] (bT [(177,fun _=>some (.tuple [.nilsl,I r]))]) [195,38] []) 94 [.ptr 0 0,.agg (ai t y n D K),eA] [] 1 Q=
  (SC 177 [AV.agg [I t,I y,I n,AV.fsl false D,AV.fsl false K],AV.fsl true [AV.agg tY]] (AV.tuple [AV.nilsl,I r])∧an Tryz.prog BinOp.neq 3 (Operand.tmp 26) (Operand.const (Value.int IntKind.i64 0)) (I r) (I 0)=some (AV.bool true)∧Q (AV.tuple [AV.agg c6,I r,AV.str []]) [(30,some (Blk.cells c6)),(15,some (Blk.cells tY)),(3,some (Blk.cells c6)),(2,some (Blk.cells [I 0,AV.nilsl,AV.str []])),(1,some (Blk.cells [I t,I y,I n,AV.fsl false D,AV.fsl false K]))] 38):=by kernel_rfl
abbrev yQ:=[AV.bool false,AV.bool false,AV.bool false,AV.bool false]
theorem Fk (t y n:Int) (D K L:List AV) (Q:AV→aa→Nat→Prop):aA Tryz.prog opts0 40 (pR [(7,pQ L .ret rqR)] (bM L)) 94 [.ptr 0 0,.agg (ai t y n D K),eA] [] 1 Q=
  (SC 177 [AV.agg [I t,I y,I n,AV.fsl false D,AV.fsl false K],AV.fsl true [AV.agg tY]] (AV.tuple [AV.fsl false [AV.fsl false L],I 0])∧(((nz L)∧(I 0=I 0∧true=true)∧True)∧((some 3=some 3∧0=0)∧(some 22=some 22∧0=0)∧True)∧(c6=c6∧true=true)∧(yQ=yQ∧true=true)∧True)∧Q (AV.tuple [AV.agg c6,I 7,AV.str []]) [(1,some (Blk.cells c6))] 3):=by kernel_rfl
end
end Go.Proofs.YtjmnheinkchlfaaGreatDoor
namespace Go.Proofs.YtjmnheinkchlfaaGreatDoor
set_option maxRecDepth 20000
open Go Go.RowKit
open Go.Proofs.Abs
theorem yR (v:Int):∀ (N:List Int) (i:Nat),(fO v N i).isSome=N.any (ag v)
 |[],_=>rfl
 |a::t,i=>by
  unfold fO
  cases h:ag v a with
  |true=>simp[h]
  |false=>simp[h,yR v t (i+1)]
theorem yS (v:Int) (N:List Int):bf v N=N.any (ag v):=yR v N 0
theorem tZ {v n:Int} {N:List Int} {i:Nat} (g:N[i]? =some n):bf v (N.take (i+1))=(bf v (N.take i)||ag v n):=by
 rw[yS,yS,List.take_add_one,g,List.any_append]
 simp
noncomputable def pS (N:List Int) (i:Nat):View:=cy (ab (N.map qI)) (bf 1 (N.take i)) (bf 2 (N.take i)) (bf 3 (N.take i)) i
def pT (N:List Int) (Q:AExit→St→Prop):Prop:=match N.any cm with
 |false=>Q (.exit 0) (cy (ab (N.map qI)) (bf 1 N) (bf 2 N) (bf 3 N) N.length).st
 |true=>Q .ret rqR.st
theorem Fl {N:List Int} {Q:AExit→St→Prop} (hb:N.length≤90000) (hN:∀n∈N,n=1∨n=2∨n=3∨n=4) (hq:pT N Q):∀m i,i+m=N.length→((N.take i).any cm=false)→ALp Tryz.prog opts0.glob 1 (aq Tryz.prog 94 7) (pS N i).st Q:=by
 have hK:ad (.fsl false [.fsl false (ab (N.map qI))])=true:=by
  have:=bA (N.map qI)
  simp only[ad,ae,this,Bool.and_self]
 have hlen:ac (ab (N.map qI))=N.length:=by rw[ia,List.length_map]
 intro m
 induction m with
 |zero=>
  intro i hi hp
  rw[Nat.add_zero] at hi
  subst hi
  rw[List.take_length] at hp
  unfold pT at hq
  rw[hp] at hq
  unfold pS
  rw[List.take_length]
  refine ALp.round (A:=ar [(6,5,.res (.bool false))] [] aI [] []) (V2:=cy (ab (N.map qI)) (bf 1 N) (bf 2 N) (bf 3 N) N.length) (V1:=cy (ab (N.map qI)) (bf 1 N) (bf 2 N) (bf 3 N) N.length) (F:=cy (ab (N.map qI)) (bf 1 N) (bf 2 N) (bf 3 N) N.length) (lk:=[(0,0)]) (lk':=[(0,0),(1,1),(2,2)]) base0 au (LsOk.no rfl) .refl ?_
  rw[Fi]
  exact ⟨eI (by rw[hlen];exact Int.le_refl _),⟨⟨⟨rfl,hK⟩,⟨rfl,rfl⟩,trivial⟩,⟨⟨rfl,rfl⟩,⟨rfl,rfl⟩,trivial⟩,⟨rfl,rfl⟩,⟨rfl,rfl⟩,trivial⟩,hq⟩
 | succ m ih=>
  intro i hi hp
  have hlt:i<N.length:=by omega
  have g:=List.getElem?_eq_getElem hlt
  have hn4:=hN _ (List.getElem_mem hlt)
  have hn:=ih (i+1) (by omega)
  revert hn4 g
  generalize N[i]=n
  intro g hn4
  have gk:(N.map qI)[i]? =some (.mk 4325492 5 n [] []):=by rw[List.getElem?_map,g];rfl
  have hi0:=fg (f:=false) gk
  have hw:af .i64 (Int.ofNat i+1)=Int.ofNat (i+1):=eK (by omega)
  have hnx:cm n=false→((N.take (i+1)).any cm=false):=fun h=>by rw[List.take_add_one,g,List.any_append,hp];simp[h]
  have hbad:cm n=true→Q .ret rqR.st:=fun h=>by
   unfold pT at hq
   rw[yP g h] at hq
   exact hq
  have s1:=tZ (v:=1) g
  have s2:=tZ (v:=2) g
  have s3:=tZ (v:=3) g
  have ht:an Tryz.prog .lss 3 (.tmp 33) (.tmp 37) (I (.ofNat i)) (I (.ofNat (ac (ab (N.map qI)))))=some (.bool true):=fh (by rw[hlen];simp only[Int.ofNat_eq_natCast];omega)
  refine ALp.round (A:=nw 4325492 5 n (aj []) (ab [])) (V2:=pS N (i+1)) (F:=rqR) (lk:=[(0,0),(1,1),(2,2)]) (lk':=[(0,0),(1,1)]) base0 au (LsOk.no rfl) .refl ?_
  unfold pS at hn⊢
  revert hn s1 s2 s3
  generalize bf 1 (N.take (i+1))=c1
  generalize bf 2 (N.take (i+1))=c2
  generalize bf 3 (N.take (i+1))=c3
  generalize bf 1 (N.take i)=b1
  generalize bf 2 (N.take i)=b2
  generalize bf 3 (N.take i)=b3
  intro hn s1 s2 s3
  rcases hn4 with rfl|rfl|rfl|rfl
  ·have e1:c1=true:=by rw[s1];exact Bool.or_true _
   have e2:c2=b2:=by rw[s2];exact Bool.or_false _
   have e3:c3=b3:=by rw[s3];exact Bool.or_false _
   subst e1 e2 e3
   rw[Fe,hw]
   exact ⟨ht,hi0,⟨⟨⟨rfl,hK⟩,⟨rfl,rfl⟩,trivial⟩,⟨⟨rfl,rfl⟩,⟨rfl,rfl⟩,trivial⟩,⟨rfl,rfl⟩,⟨rfl,rfl⟩,trivial⟩,hn (hnx rfl)⟩
  ·have e1:c1=b1:=by rw[s1];exact Bool.or_false _
   have e2:c2=true:=by rw[s2];exact Bool.or_true _
   have e3:c3=b3:=by rw[s3];exact Bool.or_false _
   subst e1 e2 e3
   rw[Ff,hw]
   exact ⟨ht,hi0,⟨⟨⟨rfl,hK⟩,⟨rfl,rfl⟩,trivial⟩,⟨⟨rfl,rfl⟩,⟨rfl,rfl⟩,trivial⟩,⟨rfl,rfl⟩,⟨rfl,rfl⟩,trivial⟩,hn (hnx rfl)⟩
  ·have e1:c1=b1:=by rw[s1];exact Bool.or_false _
   have e2:c2=b2:=by rw[s2];exact Bool.or_false _
   have e3:c3=true:=by rw[s3];exact Bool.or_true _
   subst e1 e2 e3
   rw[Fg,hw]
   exact ⟨ht,hi0,⟨⟨⟨rfl,hK⟩,⟨rfl,rfl⟩,trivial⟩,⟨⟨rfl,rfl⟩,⟨rfl,rfl⟩,trivial⟩,⟨rfl,rfl⟩,⟨rfl,rfl⟩,trivial⟩,hn (hnx rfl)⟩
  ·rw[Fh (c1:=c1) (c2:=c2) (c3:=c3) (j:=i+1)]
   exact ⟨ht,hi0,⟨⟨⟨rfl,rfl⟩,⟨rfl,rfl⟩,trivial⟩,⟨⟨rfl,rfl⟩,trivial⟩,⟨rfl,rfl⟩,trivial⟩,hbad rfl⟩
theorem t1:bw (cN Tryz.prog 94) 7=[aq Tryz.prog 94 7]:=by kernel_rfl
theorem Fm (b1 b2 b3:Bool) (t y n:Int) (D K L:List AV) (i:Nat):aA Tryz.prog opts0 40 (pR [(7,pQ L (.exit 0) (cy L b1 b2 b3 i))] (bM L)) 94 [.ptr 0 0,.agg (ai t y n D K),eA] [] 1 (EndF (ij b1 b2 b3) 0 5000)=
  (SC 177 [.agg (ai t y n D K),.fsl true [bQ 4325492 5]] (bM L)∧
   (((AV.fsl false [AV.fsl false L]=AV.fsl false [AV.fsl false L]∧ad (AV.fsl false [AV.fsl false L])=true)∧(I 0=I 0∧true=true)∧True)∧((some 3=some 3∧0=0)∧(some 22=some 22∧0=0)∧True)∧(cH=cH∧true=true)∧([AV.bool false,AV.bool false,AV.bool false,AV.bool false]=[AV.bool false,AV.bool false,AV.bool false,AV.bool false]∧true=true)∧True)∧
   (true=true∧some (ij b1 b2 b3)=some (ij b1 b2 b3))):=by
 cases b1<;>cases b2<;>cases b3<;>kernel_rfl
theorem Fo {N:List Int} {x:It} (hN:∀n∈N,n=1∨n=2∨n=3∨n=4) (hx:dd x=N.map qI) (hp:dR 4325492 5 x=0) (hb:N.length≤90000):BodySem Tryz.prog opts0.glob 94 [.ptr 0 0,ao x,eA] [] 1 (nv N) [] 5000:=by
 have hpar:=pI (tag:=4325492) (ty:=5) (x:=x) (by rw[hx,List.length_map];exact hb)
 have hK:ad (.fsl false [.fsl false (ab (N.map qI))])=true:=by
  have:=bA (N.map qI)
  simp only[ad,ae,this,Bool.and_self]
 have hlp:= @Fl N
 unfold eM at hpar
 rw[hp,hx] at hpar
 replace hpar:SC 177 [ao x,.fsl true [bQ 4325492 5]] (bM (ab (N.map qI))):=hpar
 obtain ⟨t,y,n,d,ks⟩:=x
 rw[br] at hpar⊢
 unfold nv
 unfold pT at hlp
 cases hbad:N.any cm with
 | true=>
  rw[hbad] at hlp
  refine dM (k:=0) (A:=pR [(7,pQ (ab (N.map qI)) .ret rqR)] (bM (ab (N.map qI)))) base0 au
   (aF (LsOk.at1 rfl t1 fun st Q hs=> .seen base0.glob hs.1 (hlp hb hN hs.2 N.length 0 (Nat.zero_add _) rfl))) (EndC.b (r:=fP 7) rfl (kS 7)) ?_
  rw[Fk]
  exact ⟨hpar,⟨⟨⟨rfl,hK⟩,⟨rfl,rfl⟩,trivial⟩,⟨⟨rfl,rfl⟩,⟨rfl,rfl⟩,trivial⟩,⟨rfl,rfl⟩,⟨rfl,rfl⟩,trivial⟩,rfl,rfl⟩
 | false=>
  rw[hbad] at hlp
  refine dM (k:=0) (A:=pR [(7,pQ (ab (N.map qI)) (.exit 0) (cy (ab (N.map qI)) (bf 1 N) (bf 2 N) (bf 3 N) N.length))] (bM (ab (N.map qI)))) base0 au
   (aF (LsOk.at1 rfl t1 fun st Q hs=> .seen base0.glob hs.1 (hlp hb hN hs.2 N.length 0 (Nat.zero_add _) rfl))) (EndF.b (tX _ _ _)) ?_
  rw[Fm]
  exact ⟨hpar,⟨⟨⟨rfl,hK⟩,⟨rfl,rfl⟩,trivial⟩,⟨⟨rfl,rfl⟩,⟨rfl,rfl⟩,trivial⟩,⟨rfl,rfl⟩,⟨rfl,rfl⟩,trivial⟩,rfl,rfl⟩
theorem Fp {x:It} {r:Int} (hl:(dd x).length≤90000) (hp:dR 4325492 5 x=r) (hr:r≠0):BodySem Tryz.prog opts0.glob 94 [.ptr 0 0,ao x,eA] [] 1 (df zI r) [] 1000:=by
 have hpar:=pI (tag:=4325492) (ty:=5) (x:=x) hl
 unfold eM at hpar
 rw[hp,beqInt_false.2 hr] at hpar
 replace hpar:SC 177 [ao x,.fsl true [bQ 4325492 5]] (.tuple [.nilsl,I r]):=hpar
 obtain ⟨t,y,n,d,ks⟩:=x
 rw[br] at hpar⊢
 refine dM (k:=0) (A:=ar [(2,1,.res (.bool true))] [(7,fun _ _=>False)] (bT [(177,fun _=>some (.tuple [.nilsl,I r]))]) [195,38] []) base0 au
  (aF (LsOk.at1 rfl t1 fun st Q hs=>hs.elim)) (EndC.b (r:=fP r) rfl (kS r)) ?_
 rw[Fj]
 refine ⟨hpar, ?_,rfl,rfl⟩
 rw[np,beqInt_false.2 hr]
 rfl
end Go.Proofs.YtjmnheinkchlfaaGreatDoor
