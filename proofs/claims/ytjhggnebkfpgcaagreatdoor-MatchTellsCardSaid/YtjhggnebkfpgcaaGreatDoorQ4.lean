/- Cus, Puts, Sems, Doer, Set, Obj3, ListW. -/
import Derived.Test.YtjhggnebkfpgcaaGreatDoorQ3
import Derived.KernelRfl
import Derived.Test.YtjhggnebkfpgcaaGreatDoorQ2
import Derived.Test.YtjhggnebkfpgcaaGreatDoorG5
import Derived.Test.YtjhggnebkfpgcaaGreatDoorQ1
namespace Go.Proofs.YtjhggnebkfpgcaaGreatDoor
set_option maxRecDepth 20000
open Go Go.RowKit
open Go.Proofs.Abs
noncomputable section
def cgV0 (O P:List AV) (i:Nat):View:=⟨[(4,.nilsl),(9,.fsl false P),(10,I (.ofNat (lenN P))),(11,I (.ofNat i))],[(2,.ptr 0 0)],[(0,.cells O,.whole)],2,27⟩
def cgV1 (O P:List AV) (i:Nat) (es:List AV):View:=⟨[(9,.fsl false P),(10,I (.ofNat (lenN P))),(11,I (.ofNat i))],[(2,.ptr 0 0),(4,.rsl true 1 0 i 5)],[(0,.cells O,.whole),(1,.cells es,.whole)],2,27⟩
def cgA (p:Nat) (n t:List UInt8):Aid:=aidJ [(4,0,.res (.fptr [nI p] 0)),(5,4,.res (.fptr [.str n,.str t] 0))] [] noSem [92] []
@[simp] abbrev yx3 (P:List AV):=(I (Int.ofNat (lenN P))=I (Int.ofNat (lenN P))∧closedA (I (Int.ofNat (lenN P)))=true)
@[simp] abbrev yx4 (P:List AV):=(AV.fsl false P=AV.fsl false P∧closedA (AV.fsl false P)=true)
@[simp] abbrev yx5 (C L M N:AV) (o:Ob):=((obF o M N L C)=(obF o M N L C)∧closedAll (obF o M N L C)=true)
@[simp] abbrev yx6:=(some 0=some 0∧0=0)
@[simp] abbrev yx1 (C L M N:AV) (P:List AV) (o:Ob):=(((AV.nilsl=AV.nilsl∧true=true)∧(yx4 P)∧(yx3 P)∧(I 0=I 0∧true=true)∧True)∧(yx6∧True)∧(yx5 C L M N o)∧True)
abbrev yx2 (t:List UInt8):=[AV.agg [I 4325387,I 7,I 0,AV.fsl false (toBytes t),AV.nilsl]]
theorem cg_0 (o:Ob) (M N L C:AV) (P:List AV) (p:Nat) (n t:List UInt8) (es:List AV) (Nx:Prop) (Q:AExit→St→Prop):wpK Tryz.prog opts0 40 (cgA p n t) (lpCode Tryz.prog 150 4) (cgV0 (obF o M N L C) P 0).st (roundP 0 [(0,0),(1,15)] (cgV1 (obF o M N L C) P 1 es) Nx [(0,0)] (cgV0 (obF o M N L C) P 0) Q)=
  (mtB (ltInt 0 (Int.ofNat (lenN P))) (indexAddrA Tryz.prog 190 (AV.fsl false P) (I 0)=some (AV.fptr [I (Int.ofNat p)] 0)∧indexAddrA Tryz.prog 29 C (I (Int.ofNat p))=some (AV.fptr [AV.str n,AV.str t] 0)∧(((yx4 P)∧(yx3 P)∧(I 1=I 1∧true=true)∧True)∧(yx6∧(true=true∧some 15=some 15∧0=0∧1=lenN (yx2 t)∧5=5)∧True)∧(yx5 C L M N o)∧(flat (yx2 t)=es∧closedAll es=true)∧True)∧Nx) ((yx1 C L M N P o)∧Q (AExit.exit 0) (cgV0 (obF o M N L C) P 0).st)):=by kernel_rfl
theorem cg_1 (o:Ob) (M N L C:AV) (P:List AV) (p i j:Nat) (n t:List UInt8) (es es':List AV) (Nx:Prop) (Q:AExit→St→Prop):wpK Tryz.prog opts0 40 (cgA p n t) (lpCode Tryz.prog 150 4) (cgV1 (obF o M N L C) P i es).st (roundP 0 [(0,0),(1,15)] (cgV1 (obF o M N L C) P j es') Nx [(0,0),(1,1)] (cgV1 (obF o M N L C) P i es) Q)=
  (mtB (ltInt (Int.ofNat i) (Int.ofNat (lenN P))) (indexAddrA Tryz.prog 190 (AV.fsl false P) (I (Int.ofNat i))=some (AV.fptr [I (Int.ofNat p)] 0)∧indexAddrA Tryz.prog 29 C (I (Int.ofNat p))=some (AV.fptr [AV.str n,AV.str t] 0)∧oblB (allSize 5 (yx2 t)&&(((i+lenN (yx2 t))*72).ble 140737488355328&&(allOne (flat (yx2 t))&&true))) (oblB ((lenN es).beq (i*5)) ((((yx4 P)∧(yx3 P)∧(I (wrapA IntKind.i64 (Int.ofNat i+1))=I (Int.ofNat j)∧closedA (I (Int.ofNat j))=true)∧True)∧(yx6∧(true=true∧some 15=some 15∧0=0∧j=i+lenN (yx2 t)∧5=5)∧True)∧(yx5 C L M N o)∧(es++flat (yx2 t)=es'∧closedAll es'=true)∧True)∧Nx))) ((((yx4 P)∧(yx3 P)∧(I (Int.ofNat i)=I (Int.ofNat i)∧closedA (I (Int.ofNat i))=true)∧True)∧(yx6∧(true=true∧some 1=some 1∧0=0∧i=i∧5=5)∧True)∧(yx5 C L M N o)∧(es=es∧closedAll es=true)∧True)∧Q (AExit.exit 0) (cgV1 (obF o M N L C) P i es).st)):=by kernel_rfl
def cgL (O P:List AV) (F:View):LoopS:=fun st Q=>seesK 0 [(0,0)] (cgV0 O P 0) st∧Q (.exit 0) F.st
theorem cg_fn0 (o:Ob) (M N L C:AV) (s:List UInt8) (P:List AV) (Q:AV→Heap→Prop):fnK Tryz.prog opts0 40 (aidJ [] [(4,cgL (obF o M N L C) P (cgV0 (obF o M N L C) P 0))] (manyS [(151,.fsl false P)]) [] []) 150 [.agg (obF o M N L C),.fptr [.str s] 0] [] 0 (fun v H _=>Q v H)=
  (SC 151 [AV.agg (obF o M N L C),AV.str s] (AV.fsl false P)∧(yx1 C L M N P o)∧Q AV.nilsl [(0,some (Blk.cells (obF o M N L C)))]):=by kernel_rfl
theorem cg_fn1 (o:Ob) (M N L C:AV) (s:List UInt8) (P:List AV) (es:List AV) (Q:AV→Heap→Prop):fnK Tryz.prog opts0 40 (aidJ [] [(4,cgL (obF o M N L C) P (cgV1 (obF o M N L C) P (lenN P) es))] (manyS [(151,.fsl false P)]) [] []) 150 [.agg (obF o M N L C),.fptr [.str s] 0] [] 0 (fun v H _=>Q v H)=
  (SC 151 [AV.agg (obF o M N L C),AV.str s] (AV.fsl false P)∧(yx1 C L M N P o)∧Q (AV.rsl true 1 0 (lenN P) 5) [(0,some (Blk.cells (obF o M N L C))),(1,some (Blk.cells es))]):=by kernel_rfl
theorem good_nIs:∀p:List Nat,∀e∈p.map nI,goodEl 1 e:=fun p e he=>by
 obtain ⟨x,_,rfl⟩:=List.mem_map.1 he
 exact ⟨rfl,rfl⟩
theorem places_sem (o:Ob) {M N L:AV} (s:List UInt8) (hM:closedA M=true) (hN:closedA N=true) (hL:closedA L=true) (hb:o.cust.length≤big):SC 151 [.agg (obF o M N L (cusA o)),.str s] (.fsl false ((placesL s o.cust 0).map nI)):=by
 have h0:=places_body0 o s hM hN hL hb
 revert h0
 generalize placesL s o.cust 0=p
 intro h0
 have hcl:closedAll [.agg (obF o M N L (cusA o)),.str s]=true:=by simp only[closedAll,closedA,closed_obF o hM hN hL (closed_cusA o),Bool.and_self]
 refine bodySem_sem base0.glob hcl h0 ?_
 cases p with
 |nil=>exact ⟨.nilsl,⟨1,rfl⟩,rfl,.nil⟩
 |cons a r=>exact ⟨.fsl false ((a::r).map nI),Frz.out (Frz.row (es:=(a::r).map nI) rfl rfl (flat_nIs _).symm (by simp) (good_nIs _) (closed_nIs _)),closed_fslA (closed_nIs _),.refl _⟩
def textAt (l:List Cu) (p:Nat):List UInt8:=match l[p]? with
 |some c=>c.text
 |none=>[]
theorem texts_at (s:List UInt8):∀ (l pre:List Cu),(placesL s l pre.length).map (textAt (pre++l))=(l.filter fun c=>beqBytes c.name s).map Cu.text
 |[],_=>rfl
 | c::r,pre=>by
  have ih:=texts_at s r (pre++[c])
  simp only[List.length_append,List.length_cons,List.length_nil,Nat.zero_add,List.append_assoc,List.cons_append,List.nil_append] at ih
  simp only[placesL]
  cases hc:beqBytes c.name s with
  |false=>simp only[List.filter_cons,hc,Bool.false_eq_true,if_false,ih]
  |true=>
   have:textAt (pre++c::r) pre.length=c.text:=by simp[textAt]
   simp only[List.filter_cons,hc,if_true,List.map_cons,ih,this]
theorem rawN_length (l:List (List UInt8)):(flat (l.map rawN)).length=l.length*5:=by
 induction l with
 |nil=>rfl
 |cons x r ih=>simp only[List.map_cons,flat,List.length_append,ih,rawN,AV.cells,List.length_cons,List.length_nil];omega
theorem closed_flatN (l:List (List UInt8)):closedAll (flat (l.map rawN))=true:=closed_flat (closed_rawN l) fun e he=>by
 obtain ⟨x,_,rfl⟩:=List.mem_map.1 he
 simp[rawN,AV.cells,closedAll,closedA]
theorem idxP {f:Bool} {l:List Nat} {i p:Nat} (hx:l[i]? =some p):indexAddrA Tryz.prog 190 (.fsl f (l.map nI)) (.int .i64 (.ofNat i))=some (.fptr [nI p] 0):=
 fsl_index (v:=nI p) (e:=3) (sz:=1) (by kernel_rfl) (by kernel_rfl) (by rw[List.getElem?_map,hx];rfl) rfl
def cgE (T:List (List UInt8)) (i:Nat):List AV:=flat ((T.take i).map rawN)
theorem cgE_succ {T:List (List UInt8)} {i:Nat} {x:List UInt8} (h:T[i]? =some x):cgE T i++flat [rawN x]=cgE T (i+1):=by
 rw[cgE,cgE,take_snoc h,List.map_append,flat_append]
 rfl
theorem cgE_len {T:List (List UInt8)} {i:Nat} (h:i≤T.length):(cgE T i).length=i*5:=by rw[cgE,rawN_length,List.length_take,Nat.min_eq_left h]
theorem cg_loop {o:Ob} {M N L:AV} {ps:List Nat} {Q:AExit→St→Prop} (hM:closedA M=true) (hN:closedA N=true) (hL:closedA L=true) (hps:∀p∈ps,p<o.cust.length) (hb:ps.length≤big)
  (hq:Q (.exit 0) (cgV1 (obF o M N L (cusA o)) (ps.map nI) ps.length (cgE (ps.map (textAt o.cust)) ps.length)).st):
  ∀i,i≤ps.length→(0<i→ALp Tryz.prog opts0.glob 0 (lpCode Tryz.prog 150 4) (cgV1 (obF o M N L (cusA o)) (ps.map nI) i (cgE (ps.map (textAt o.cust)) i)).st Q):=by
 have hO:=closed_obF o hM hN hL (closed_cusA o)
 have hP:=closed_nIs ps
 have hlen:lenN (ps.map nI)=ps.length:=by rw[lenN_eq,List.length_map]
 have hb:ps.length≤1099511627776:=hb
 have hE:∀i,closedAll (cgE (ps.map (textAt o.cust)) i)=true:=fun i=>closed_flatN _
 refine count_up _ (fun _=> ?_) (fun i hi ih h0=> ?_)
 ·refine ALp.round (A:=cgA 0 [] []) (V1:=cgV1 (obF o M N L (cusA o)) (ps.map nI) 0 []) (V2:=cgV1 (obF o M N L (cusA o)) (ps.map nI) 0 []) (F:=cgV1 (obF o M N L (cusA o)) (ps.map nI) ps.length (cgE (ps.map (textAt o.cust)) ps.length)) (lk:=[(0,0),(1,15)]) (lk':=[(0,0),(1,1)]) base0 aidJ_ok (LsOk.no rfl) .refl ?_
  rw[cg_1]
  refine mtB_of (fun h=> ?_) (fun _=>⟨⟨⟨⟨rfl,closed_fslA hP⟩,⟨rfl,rfl⟩,⟨rfl,rfl⟩,trivial⟩,⟨⟨rfl,rfl⟩,⟨rfl,rfl,rfl,rfl,rfl⟩,trivial⟩,⟨rfl,hO⟩,⟨rfl,hE _⟩,trivial⟩,hq⟩)
  have h:=ltInt_iff.1 h
  simp only[hlen,Int.ofNat_eq_natCast] at h
  omega
 ·have g1:=List.getElem?_eq_getElem hi
  have hp:=hps _ (List.getElem_mem hi)
  have hT:(ps.map (textAt o.cust))[i]? =some (textAt o.cust ps[i]):=by rw[List.getElem?_map,g1];rfl
  have hs:=cgE_succ hT
  revert g1 hp hs
  generalize ps[i]=p
  intro g1 hp hs
  have g2:=List.getElem?_eq_getElem hp
  have htx:textAt o.cust p=(o.cust[p]).text:=by simp[textAt,hp]
  rw[htx] at hs
  revert g2 hs
  generalize o.cust[p]=c
  intro hs g2
  have ih:=ih (by omega)
  refine ALp.round (A:=cgA p c.name c.text) (V1:=cgV1 (obF o M N L (cusA o)) (ps.map nI) (i+1) (cgE (ps.map (textAt o.cust)) (i+1))) (V2:=cgV1 (obF o M N L (cusA o)) (ps.map nI) (i+1) (cgE (ps.map (textAt o.cust)) (i+1))) (F:=cgV1 (obF o M N L (cusA o)) (ps.map nI) i (cgE (ps.map (textAt o.cust)) i)) (lk:=[(0,0),(1,15)]) (lk':=[(0,0),(1,1)]) base0 aidJ_ok (LsOk.no rfl) .refl ?_
  rw[cg_1]
  refine mtB_of (fun _=>⟨idxP g1,idxC g2,oblB_of ?_ (oblB_of ?_ ⟨⟨⟨⟨rfl,closed_fslA hP⟩,⟨rfl,rfl⟩,⟨?_,rfl⟩,trivial⟩,⟨⟨rfl,rfl⟩,⟨rfl,rfl,rfl,rfl,rfl⟩,trivial⟩,⟨rfl,hO⟩,⟨hs,hE _⟩,trivial⟩,ih⟩)⟩) (fun h=> ?_)
  ·have hi2:(i+1)*72≤140737488355328:=by omega
   simp only[Bool.and_eq_true,Nat.ble_eq]
   exact ⟨rfl,hi2,rfl,trivial⟩
  ·rw[beq_iff,lenN_eq,cgE_len (by rw[List.length_map];omega)]
  ·rw[wrapA_i64 (by simp;omega) (by simp;omega)];rfl
  ·have h:=ltInt_false.1 h
   simp only[hlen,Int.ofNat_eq_natCast] at h
   omega
theorem cg_at:loopsAt (fnCode Tryz.prog 150) 4=[lpCode Tryz.prog 150 4]:=by kernel_rfl
theorem g_cus_sem (o:Ob) (s:List UInt8) (hb:o.cust.length≤big):SC 150 [obA o,.fptr [.str s] 0] (.fsl false (itAs (getK o (.cus s)))):=by
 have hpl:=places_sem o s (closed_mat o) (closed_nam o) (closed_lnk o) hb
 have htx:=texts_at s o.cust []
 have hlt:=placesL_lt s o.cust 0
 have hln:=placesL_len s o.cust 0
 simp only[List.length_nil,List.nil_append] at htx
 have hget:itAs (getK o (.cus s))=itAs (((o.cust.filter fun c=>beqBytes c.name s).map Cu.text).map txt):=by rw[List.map_map];rfl
 rw[hget,←htx]
 clear hget htx
 revert hpl hlt hln
 generalize placesL s o.cust 0=ps
 intro hpl hlt hln
 have hps:∀p∈ps,p<o.cust.length:=fun p hp=>by have:=hlt p hp;omega
 have hO:=closed_obC o
 have hcl:closedAll [obA o,.fptr [.str s] 0]=true:=by simp only[closedAll,obA,closedA,hO,Bool.and_self]
 cases ps with
 | nil=>
  refine fnK_semX (A:=aidJ [] [(4,cgL (obC o) [] (cgV0 (obC o) [] 0))] (manyS [(151,.fsl false [])]) [] []) base0 aidJ_ok
   (fnLs_of (LsOk.at1 rfl cg_at fun st Q hs=> .seen base0.glob hs.1 ?_)) hcl ?_
  ·refine ALp.round (A:=cgA 0 [] []) (V1:=cgV1 (obC o) [] 1 []) (V2:=cgV1 (obC o) [] 1 []) (F:=cgV0 (obC o) [] 0) (lk:=[(0,0),(1,15)]) (lk':=[(0,0)]) base0 aidJ_ok (LsOk.no rfl) .refl ?_
   simp only[obC]
   rw[cg_0]
   refine mtB_of (fun h=>by cases h) (fun _=>⟨⟨⟨⟨rfl,rfl⟩,⟨rfl,rfl⟩,⟨rfl,rfl⟩,⟨rfl,rfl⟩,trivial⟩,⟨⟨rfl,rfl⟩,trivial⟩,⟨rfl,hO⟩,trivial⟩,hs.2⟩)
  ·simp only[obA,obC]
   rw[cg_fn0]
   exact ⟨hpl,⟨⟨⟨rfl,rfl⟩,⟨rfl,rfl⟩,⟨rfl,rfl⟩,⟨rfl,rfl⟩,trivial⟩,⟨⟨rfl,rfl⟩,trivial⟩,⟨rfl,hO⟩,trivial⟩,.nilsl,⟨1,rfl⟩,rfl,.nil⟩
 | cons p r=>
  have hlen:lenN ((p::r).map nI)=(p::r).length:=by rw[lenN_eq,List.length_map]
  have hP:=closed_nIs (p::r)
  have hb':(p::r).length≤big:=Nat.le_trans hln hb
  refine fnK_semX (A:=aidJ [] [(4,cgL (obC o) ((p::r).map nI) (cgV1 (obC o) ((p::r).map nI) (lenN ((p::r).map nI)) (cgE ((p::r).map (textAt o.cust)) (p::r).length)))] (manyS [(151,.fsl false ((p::r).map nI))]) [] []) base0 aidJ_ok
   (fnLs_of (LsOk.at1 rfl cg_at fun st Q hs=> .seen base0.glob hs.1 ?_)) hcl ?_
  ·have hp:=hps p (by simp)
   have g2:=List.getElem?_eq_getElem hp
   have htx:textAt o.cust p=(o.cust[p]).text:=by simp[textAt,hp]
   have hT:((p::r).map (textAt o.cust))[0]? =some (textAt o.cust p):=rfl
   have hs1:=cgE_succ hT
   rw[htx] at hs1
   revert g2 hs1
   generalize o.cust[p]=c
   intro g2 hs1
   have hs1:flat [rawN c.text]=cgE ((p::r).map (textAt o.cust)) 1:=hs1
   have hq:=hs.2
   rw[hlen] at hq
   refine ALp.round (A:=cgA p c.name c.text) (V1:=cgV1 (obC o) ((p::r).map nI) 1 (cgE ((p::r).map (textAt o.cust)) 1)) (V2:=cgV1 (obC o) ((p::r).map nI) 1 (cgE ((p::r).map (textAt o.cust)) 1)) (F:=cgV0 (obC o) ((p::r).map nI) 0) (lk:=[(0,0),(1,15)]) (lk':=[(0,0)]) base0 aidJ_ok (LsOk.no rfl) .refl ?_
   have hnext:=cg_loop (closed_mat o) (closed_nam o) (closed_lnk o) hps hb' hq 1 (by simp) (by omega)
   simp only[obC]
   rw[cg_0]
   refine mtB_of (fun _=>⟨idxP (i:=0) rfl,idxC g2,⟨⟨⟨rfl,closed_fslA hP⟩,⟨rfl,rfl⟩,⟨rfl,rfl⟩,trivial⟩,⟨⟨rfl,rfl⟩,⟨rfl,rfl,rfl,rfl,rfl⟩,trivial⟩,⟨rfl,hO⟩,⟨hs1,closed_flatN _⟩,trivial⟩,hnext⟩) (fun h=> ?_)
   have h:=ltInt_false.1 h
   simp only[hlen,Int.ofNat_eq_natCast,List.length_cons] at h
   omega
  ·simp only[obA,obC]
   rw[cg_fn1]
   refine ⟨hpl,⟨⟨⟨rfl,rfl⟩,⟨rfl,closed_fslA hP⟩,⟨rfl,rfl⟩,⟨rfl,rfl⟩,trivial⟩,⟨⟨rfl,rfl⟩,trivial⟩,⟨rfl,hO⟩,trivial⟩,.fsl false (((p::r).map (textAt o.cust)).map rawN),Frz.out (Frz.row (c:=cgE ((p::r).map (textAt o.cust)) (p::r).length) (es:=((p::r).map (textAt o.cust)).map rawN) rfl rfl ?_ ?_ (good_rawN _) (closed_rawN _)),closed_fslA (closed_rawN _),wk_rawN _⟩
   ·rw[cgE,List.take_of_length_le (by simp)]
   ·rw[hlen,List.length_map,List.length_map]
end
end Go.Proofs.YtjhggnebkfpgcaaGreatDoor
namespace Go.Proofs.YtjhggnebkfpgcaaGreatDoor
open Go Go.RowKit
open Go.Proofs.Abs
structure FitO (o:Ob):Prop where
 n:o.names.length≤6
 l:o.links.length≤8
 c:o.cust.length≤6
 m:o.mat.length≤big
def kdB:Kd→Bool
 | .dat k=>Nat.blt k 10
 |_=>true
theorem closed_o (o:Ob):closedAll [obA o]=true:=closed_one (closed_obC o)
theorem closed_oc (o:Ob) {c:List AV} (h:closedAll c=true):closedAll (obA o::c)=true:=by
 have:=closed_obC o
 simp only[closedAll,obA,closedA,this,h,Bool.and_self]
theorem g_uid_sem (o:Ob):SC 127 [obA o] (.fsl false (itAs (getK o .uid))):=by
 refine fnK_semE (A:=aidJ [] [] noSem inlG []) base0 aidJ_ok (fnLs_of (LsOk.no rfl)) (closed_o o) ?_
 simp only[obA,obC]
 rw[g_uid]
 refine ⟨by simp[closedAll,closedA], ?_⟩
 simp only[getK,txt,vlV,itAs,itA]
 (repeat (first|exact Wk.refl _|exact WkL.refl _|exact Wk.nil|exact Wk.row|exact WkE.refl _|exact WkL.nil|exact WkE.nil|apply Wk.agg|apply Wk.tuple|apply WkL.cons|apply Wk.rows|apply WkE.consA))
theorem g_typ_sem (o:Ob):SC 130 [obA o] (.fsl false (itAs (getK o .typ))):=by
 refine fnK_semE (A:=aidJ [] [] noSem inlG []) base0 aidJ_ok (fnLs_of (LsOk.no rfl)) (closed_o o) ?_
 simp only[obA,obC]
 rw[g_typ]
 refine ⟨by simp[closedAll,closedA], ?_⟩
 simp only[getK,numI,vlV,itAs,itA,toBytes]
 (repeat (first|exact Wk.refl _|exact WkL.refl _|exact Wk.nil|exact Wk.row|exact WkE.refl _|exact WkL.nil|exact WkE.nil|apply Wk.agg|apply Wk.tuple|apply WkL.cons|apply Wk.rows|apply WkE.consA))
theorem g_sta_sem (o:Ob):SC 134 [obA o] (.fsl false (itAs (getK o .sta))):=by
 refine fnK_semE (A:=aidJ [] [] noSem inlG []) base0 aidJ_ok (fnLs_of (LsOk.no rfl)) (closed_o o) ?_
 simp only[obA,obC]
 rw[g_sta]
 refine ⟨by simp[closedAll,closedA], ?_⟩
 simp only[getK,numI,vlV,itAs,itA,toBytes]
 (repeat (first|exact Wk.refl _|exact WkL.refl _|exact Wk.nil|exact Wk.row|exact WkE.refl _|exact WkL.nil|exact WkE.nil|apply Wk.agg|apply Wk.tuple|apply WkL.cons|apply Wk.rows|apply WkE.consA))
theorem g_alg_sem (o:Ob):SC 161 [obA o,.fptr [atF .alg] 0,.fptr [I 1] 0,.fptr [I 5] 0] (.fsl false (itAs (getK o .alg))):=by
 refine fnK_semE (A:=aidJ [] [] noSem inlG inlA) base0 aidJ_ok (fnLs_of (LsOk.no rfl)) (closed_oc o rfl) ?_
 simp only[obA,obC,atF]
 rw[g_alg]
 refine mtB_of (fun e=> ?_) (fun e=> ?_)
 all_goals
  refine ⟨by simp[closedAll,closedA], ?_⟩
  simp only[getK,oneL,numI,vlV,itAs,itA,toBytes,e]
  (repeat (first|exact Wk.refl _|exact WkL.refl _|exact Wk.nil|exact Wk.row|exact WkE.refl _|exact WkL.nil|exact WkE.nil|apply Wk.agg|apply Wk.tuple|apply WkL.cons|apply Wk.rows|apply WkE.consA))
theorem g_len_sem (o:Ob):SC 161 [obA o,.fptr [atF .len] 0,.fptr [I 1] 0,.fptr [I 2] 0] (.fsl false (itAs (getK o .len))):=by
 refine fnK_semE (A:=aidJ [] [] noSem inlG inlA) base0 aidJ_ok (fnLs_of (LsOk.no rfl)) (closed_oc o rfl) ?_
 simp only[obA,obC,atF]
 rw[g_len]
 refine mtB_of (fun e=> ?_) (fun e=> ?_)
 all_goals
  refine ⟨by simp[closedAll,closedA], ?_⟩
  simp only[getK,oneL,numI,vlV,itAs,itA,toBytes,e]
  (repeat (first|exact Wk.refl _|exact WkL.refl _|exact Wk.nil|exact Wk.row|exact WkE.refl _|exact WkL.nil|exact WkE.nil|apply Wk.agg|apply Wk.tuple|apply WkL.cons|apply Wk.rows|apply WkE.consA))
theorem g_mask_sem (o:Ob):SC 161 [obA o,.fptr [atF .mask] 0,.fptr [I 0] 0,.fptr [I 2] 0] (.fsl false (itAs (getK o .mask))):=by
 refine fnK_semE (A:=aidJ [] [] noSem inlG inlA) base0 aidJ_ok (fnLs_of (LsOk.no rfl)) (closed_oc o rfl) ?_
 simp only[obA,obC,atF]
 rw[g_mask]
 refine mtB_of (fun e=> ?_) (fun e=> ?_)
 all_goals
  refine ⟨by simp[closedAll,closedA], ?_⟩
  simp only[getK,numI,vlV,itAs,itA,toBytes]
  (repeat (first|exact Wk.refl _|exact WkL.refl _|exact Wk.nil|exact Wk.row|exact WkE.refl _|exact WkL.nil|exact WkE.nil|apply Wk.agg|apply Wk.tuple|apply WkL.cons|apply Wk.rows|apply WkE.consA))
theorem g_dat0_sem (o:Ob):SC 172 [obA o,.fptr [nI 0] 0] (.fsl false (itAs (getK o (.dat 0)))):=by
 refine fnK_semE (A:=aidJ [] [] noSem inlG []) base0 aidJ_ok (fnLs_of (LsOk.no rfl)) (closed_oc o rfl) ?_
 have h:=g_dat0 o (matA o) (namA o) (lnkA o) (cusA o) (endV (.fsl false (itAs (getK o (.dat 0)))))
 simp only[obA,obC]
 rw[show (nI 0:AV)=I 0 from rfl,h]
 refine mtB_of (fun e=> ?_) (fun e=> ?_)
 all_goals
  refine ⟨by simp[closedAll,closedA], ?_⟩
  first|rw[Bool.not_eq_true'] at e|rw[Bool.not_eq_false'] at e
  simp only[getK,oneL,dateAt,numI,vlV,itAs,itA,toBytes,e]
  (repeat (first|exact Wk.refl _|exact WkL.refl _|exact Wk.nil|exact Wk.row|exact WkE.refl _|exact WkL.nil|exact WkE.nil|apply Wk.agg|apply Wk.tuple|apply WkL.cons|apply Wk.rows|apply WkE.consA))
theorem g_dat1_sem (o:Ob):SC 172 [obA o,.fptr [nI 1] 0] (.fsl false (itAs (getK o (.dat 1)))):=by
 refine fnK_semE (A:=aidJ [] [] noSem inlG []) base0 aidJ_ok (fnLs_of (LsOk.no rfl)) (closed_oc o rfl) ?_
 have h:=g_dat1 o (matA o) (namA o) (lnkA o) (cusA o) (endV (.fsl false (itAs (getK o (.dat 1)))))
 simp only[obA,obC]
 rw[show (nI 1:AV)=I 1 from rfl,h]
 refine mtB_of (fun e=> ?_) (fun e=> ?_)
 all_goals
  refine ⟨by simp[closedAll,closedA], ?_⟩
  first|rw[Bool.not_eq_true'] at e|rw[Bool.not_eq_false'] at e
  simp only[getK,oneL,dateAt,numI,vlV,itAs,itA,toBytes,e]
  (repeat (first|exact Wk.refl _|exact WkL.refl _|exact Wk.nil|exact Wk.row|exact WkE.refl _|exact WkL.nil|exact WkE.nil|apply Wk.agg|apply Wk.tuple|apply WkL.cons|apply Wk.rows|apply WkE.consA))
theorem g_dat2_sem (o:Ob):SC 172 [obA o,.fptr [nI 2] 0] (.fsl false (itAs (getK o (.dat 2)))):=by
 refine fnK_semE (A:=aidJ [] [] noSem inlG []) base0 aidJ_ok (fnLs_of (LsOk.no rfl)) (closed_oc o rfl) ?_
 have h:=g_dat2 o (matA o) (namA o) (lnkA o) (cusA o) (endV (.fsl false (itAs (getK o (.dat 2)))))
 simp only[obA,obC]
 rw[show (nI 2:AV)=I 2 from rfl,h]
 refine mtB_of (fun e=> ?_) (fun e=> ?_)
 all_goals
  refine ⟨by simp[closedAll,closedA], ?_⟩
  first|rw[Bool.not_eq_true'] at e|rw[Bool.not_eq_false'] at e
  simp only[getK,oneL,dateAt,numI,vlV,itAs,itA,toBytes,e]
  (repeat (first|exact Wk.refl _|exact WkL.refl _|exact Wk.nil|exact Wk.row|exact WkE.refl _|exact WkL.nil|exact WkE.nil|apply Wk.agg|apply Wk.tuple|apply WkL.cons|apply Wk.rows|apply WkE.consA))
theorem g_dat3_sem (o:Ob):SC 172 [obA o,.fptr [nI 3] 0] (.fsl false (itAs (getK o (.dat 3)))):=by
 refine fnK_semE (A:=aidJ [] [] noSem inlG []) base0 aidJ_ok (fnLs_of (LsOk.no rfl)) (closed_oc o rfl) ?_
 have h:=g_dat3 o (matA o) (namA o) (lnkA o) (cusA o) (endV (.fsl false (itAs (getK o (.dat 3)))))
 simp only[obA,obC]
 rw[show (nI 3:AV)=I 3 from rfl,h]
 refine mtB_of (fun e=> ?_) (fun e=> ?_)
 all_goals
  refine ⟨by simp[closedAll,closedA], ?_⟩
  first|rw[Bool.not_eq_true'] at e|rw[Bool.not_eq_false'] at e
  simp only[getK,oneL,dateAt,numI,vlV,itAs,itA,toBytes,e]
  (repeat (first|exact Wk.refl _|exact WkL.refl _|exact Wk.nil|exact Wk.row|exact WkE.refl _|exact WkL.nil|exact WkE.nil|apply Wk.agg|apply Wk.tuple|apply WkL.cons|apply Wk.rows|apply WkE.consA))
theorem g_dat4_sem (o:Ob):SC 172 [obA o,.fptr [nI 4] 0] (.fsl false (itAs (getK o (.dat 4)))):=by
 refine fnK_semE (A:=aidJ [] [] noSem inlG []) base0 aidJ_ok (fnLs_of (LsOk.no rfl)) (closed_oc o rfl) ?_
 have h:=g_dat4 o (matA o) (namA o) (lnkA o) (cusA o) (endV (.fsl false (itAs (getK o (.dat 4)))))
 simp only[obA,obC]
 rw[show (nI 4:AV)=I 4 from rfl,h]
 refine mtB_of (fun e=> ?_) (fun e=> ?_)
 all_goals
  refine ⟨by simp[closedAll,closedA], ?_⟩
  first|rw[Bool.not_eq_true'] at e|rw[Bool.not_eq_false'] at e
  simp only[getK,oneL,dateAt,numI,vlV,itAs,itA,toBytes,e]
  (repeat (first|exact Wk.refl _|exact WkL.refl _|exact Wk.nil|exact Wk.row|exact WkE.refl _|exact WkL.nil|exact WkE.nil|apply Wk.agg|apply Wk.tuple|apply WkL.cons|apply Wk.rows|apply WkE.consA))
theorem g_dat5_sem (o:Ob):SC 172 [obA o,.fptr [nI 5] 0] (.fsl false (itAs (getK o (.dat 5)))):=by
 refine fnK_semE (A:=aidJ [] [] noSem inlG []) base0 aidJ_ok (fnLs_of (LsOk.no rfl)) (closed_oc o rfl) ?_
 have h:=g_dat5 o (matA o) (namA o) (lnkA o) (cusA o) (endV (.fsl false (itAs (getK o (.dat 5)))))
 simp only[obA,obC]
 rw[show (nI 5:AV)=I 5 from rfl,h]
 refine mtB_of (fun e=> ?_) (fun e=> ?_)
 all_goals
  refine ⟨by simp[closedAll,closedA], ?_⟩
  first|rw[Bool.not_eq_true'] at e|rw[Bool.not_eq_false'] at e
  simp only[getK,oneL,dateAt,numI,vlV,itAs,itA,toBytes,e]
  (repeat (first|exact Wk.refl _|exact WkL.refl _|exact Wk.nil|exact Wk.row|exact WkE.refl _|exact WkL.nil|exact WkE.nil|apply Wk.agg|apply Wk.tuple|apply WkL.cons|apply Wk.rows|apply WkE.consA))
theorem g_dat6_sem (o:Ob):SC 172 [obA o,.fptr [nI 6] 0] (.fsl false (itAs (getK o (.dat 6)))):=by
 refine fnK_semE (A:=aidJ [] [] noSem inlG []) base0 aidJ_ok (fnLs_of (LsOk.no rfl)) (closed_oc o rfl) ?_
 have h:=g_dat6 o (matA o) (namA o) (lnkA o) (cusA o) (endV (.fsl false (itAs (getK o (.dat 6)))))
 simp only[obA,obC]
 rw[show (nI 6:AV)=I 6 from rfl,h]
 refine mtB_of (fun e=> ?_) (fun e=> ?_)
 all_goals
  refine ⟨by simp[closedAll,closedA], ?_⟩
  first|rw[Bool.not_eq_true'] at e|rw[Bool.not_eq_false'] at e
  simp only[getK,oneL,dateAt,numI,vlV,itAs,itA,toBytes,e]
  (repeat (first|exact Wk.refl _|exact WkL.refl _|exact Wk.nil|exact Wk.row|exact WkE.refl _|exact WkL.nil|exact WkE.nil|apply Wk.agg|apply Wk.tuple|apply WkL.cons|apply Wk.rows|apply WkE.consA))
theorem g_dat7_sem (o:Ob):SC 172 [obA o,.fptr [nI 7] 0] (.fsl false (itAs (getK o (.dat 7)))):=by
 refine fnK_semE (A:=aidJ [] [] noSem inlG []) base0 aidJ_ok (fnLs_of (LsOk.no rfl)) (closed_oc o rfl) ?_
 have h:=g_dat7 o (matA o) (namA o) (lnkA o) (cusA o) (endV (.fsl false (itAs (getK o (.dat 7)))))
 simp only[obA,obC]
 rw[show (nI 7:AV)=I 7 from rfl,h]
 refine mtB_of (fun e=> ?_) (fun e=> ?_)
 all_goals
  refine ⟨by simp[closedAll,closedA], ?_⟩
  first|rw[Bool.not_eq_true'] at e|rw[Bool.not_eq_false'] at e
  simp only[getK,oneL,dateAt,numI,vlV,itAs,itA,toBytes,e]
  (repeat (first|exact Wk.refl _|exact WkL.refl _|exact Wk.nil|exact Wk.row|exact WkE.refl _|exact WkL.nil|exact WkE.nil|apply Wk.agg|apply Wk.tuple|apply WkL.cons|apply Wk.rows|apply WkE.consA))
theorem g_dat8_sem (o:Ob):SC 172 [obA o,.fptr [nI 8] 0] (.fsl false (itAs (getK o (.dat 8)))):=by
 refine fnK_semE (A:=aidJ [] [] noSem inlG []) base0 aidJ_ok (fnLs_of (LsOk.no rfl)) (closed_oc o rfl) ?_
 have h:=g_dat8 o (matA o) (namA o) (lnkA o) (cusA o) (endV (.fsl false (itAs (getK o (.dat 8)))))
 simp only[obA,obC]
 rw[show (nI 8:AV)=I 8 from rfl,h]
 refine mtB_of (fun e=> ?_) (fun e=> ?_)
 all_goals
  refine ⟨by simp[closedAll,closedA], ?_⟩
  first|rw[Bool.not_eq_true'] at e|rw[Bool.not_eq_false'] at e
  simp only[getK,oneL,dateAt,numI,vlV,itAs,itA,toBytes,e]
  (repeat (first|exact Wk.refl _|exact WkL.refl _|exact Wk.nil|exact Wk.row|exact WkE.refl _|exact WkL.nil|exact WkE.nil|apply Wk.agg|apply Wk.tuple|apply WkL.cons|apply Wk.rows|apply WkE.consA))
theorem g_dat9_sem (o:Ob):SC 172 [obA o,.fptr [nI 9] 0] (.fsl false (itAs (getK o (.dat 9)))):=by
 refine fnK_semE (A:=aidJ [] [] noSem inlG []) base0 aidJ_ok (fnLs_of (LsOk.no rfl)) (closed_oc o rfl) ?_
 have h:=g_dat9 o (matA o) (namA o) (lnkA o) (cusA o) (endV (.fsl false (itAs (getK o (.dat 9)))))
 simp only[obA,obC]
 rw[show (nI 9:AV)=I 9 from rfl,h]
 refine mtB_of (fun e=> ?_) (fun e=> ?_)
 all_goals
  refine ⟨by simp[closedAll,closedA], ?_⟩
  first|rw[Bool.not_eq_true'] at e|rw[Bool.not_eq_false'] at e
  simp only[getK,oneL,dateAt,numI,vlV,itAs,itA,toBytes,e]
  (repeat (first|exact Wk.refl _|exact WkL.refl _|exact Wk.nil|exact Wk.row|exact WkE.refl _|exact WkL.nil|exact WkE.nil|apply Wk.agg|apply Wk.tuple|apply WkL.cons|apply Wk.rows|apply WkE.consA))
theorem g_lim_sem (o:Ob):SC 184 [obA o] (.fsl false (itAs (getK o .lim))):=by
 refine fnK_semE (A:=aidJ [] [] noSem inlG []) base0 aidJ_ok (fnLs_of (LsOk.no rfl)) (closed_o o) ?_
 simp only[obA,obC]
 rw[g_lim]
 refine mtB_of (fun e=> ?_) (fun e=> ?_)
 all_goals
  refine ⟨by simp[closedAll,closedA], ?_⟩
  first|rw[Bool.not_eq_true'] at e|rw[Bool.not_eq_false'] at e
  simp only[getK,oneL,limI,whl,prt,vlV,itAs,itA,toBytes,e]
  (repeat (first|exact Wk.refl _|exact WkL.refl _|exact Wk.nil|exact Wk.row|exact WkE.refl _|exact WkL.nil|exact WkE.nil|apply Wk.agg|apply Wk.tuple|apply WkL.cons|apply Wk.rows|apply WkE.consA))
theorem g_why_sem (o:Ob):SC 138 [obA o] (.fsl false (itAs (getK o .why))):=by
 refine fnK_semX (A:=aidJ [] [] noSem inlG []) base0 aidJ_ok (fnLs_of (LsOk.no rfl)) (closed_o o) ?_
 simp only[obA,obC]
 rw[g_why]
 refine mtB_of (fun e=>mtB_of (fun e2=> ?_) (fun e2=> ?_)) (fun e=>mtB_of (fun e2=> ?_) (fun e2=> ?_))
 ·refine ⟨.nilsl,⟨1,rfl⟩,rfl, ?_⟩
  rw[Bool.not_eq_true'] at e2
  simp only[getK,oneL,e2,itAs]
  exact .nil
 ·rw[Bool.not_eq_false'] at e2
  have hm:msgI o.msg=[.mk 4325504 7 0 o.msg []]:=by
   cases hm:o.msg with
   |nil=>rw[hm] at e;cases e
   |cons a r=>rfl
  refine ⟨.fsl true [.agg [I 4325387,I 1,I 0,.nilsl,.fsl false [.agg [I 4325506,I 5,I o.why,.nilsl,.nilsl],.agg [I 4325504,I 7,I 0,.fsl false (toBytes o.msg),.nilsl]]]],Frz.out (Frz.fsl (FrzL.cons (Frz.agg (FrzL.cons (Frz.closed _ rfl) (FrzL.cons (Frz.closed _ rfl) (FrzL.cons (Frz.closed _ rfl) (FrzL.cons (Frz.closed _ rfl) (FrzL.cons (Frz.row (es:=[.agg [I 4325506,I 5,I o.why,.nilsl,.nilsl],.agg [I 4325504,I 7,I 0,.fsl false (toBytes o.msg),.nilsl]]) rfl rfl rfl rfl ?_ ?_) FrzL.nil)))))) FrzL.nil)), ?_, ?_⟩
  ·simp only[List.forall_mem_cons];exact ⟨⟨rfl,rfl⟩,⟨rfl,rfl⟩,fun _ h=>by cases h⟩
  ·simp[closedAll,closedA]
  ·simp[closedAll,closedA]
  ·simp only[getK,oneL,e2,whyI,hm,whl,prt,vlV,itAs,itA,toBytes]
   (repeat (first|exact Wk.refl _|exact WkL.refl _|exact Wk.nil|exact Wk.row|exact WkE.refl _|exact WkL.nil|exact WkE.nil|apply Wk.agg|apply Wk.tuple|apply WkL.cons|apply Wk.rows|apply WkE.consA))
 ·refine ⟨.nilsl,⟨1,rfl⟩,rfl, ?_⟩
  rw[Bool.not_eq_true'] at e2
  simp only[getK,oneL,e2,itAs]
  exact .nil
 ·rw[Bool.not_eq_false'] at e2
  have hm:msgI o.msg=[]:=by
   cases hm:o.msg with
   |nil=>rfl
   |cons a r=>rw[hm] at e;cases e
  refine ⟨_,Frz.out (Frz.closed _ ?_), ?_, ?_⟩
  ·simp[closedAll,closedA]
  ·simp[closedAll,closedA]
  ·simp only[getK,oneL,e2,whyI,hm,whl,prt,vlV,itAs,itA,toBytes]
   (repeat (first|exact Wk.refl _|exact WkL.refl _|exact Wk.nil|exact Wk.row|exact WkE.refl _|exact WkL.nil|exact WkE.nil|apply Wk.agg|apply Wk.tuple|apply WkL.cons|apply Wk.rows|apply WkE.consA))
theorem get_sem {k:Kd} (hk:kdB k=true) {o:Ob} (ho:FitO o):SC (gfn k) (obA o::gcp k) (.fsl false (itAs (getK o k))):=by
 cases k with
 |uid=>exact g_uid_sem o
 |nam=>exact gN_sem o (closed_mat o) (closed_lnk o) (closed_cusA o) o.names ho.n
 |typ=>exact g_typ_sem o
 |alg=>exact g_alg_sem o
 |len=>exact g_len_sem o
 |mask=>exact g_mask_sem o
 |sta=>exact g_sta_sem o
 |why=>exact g_why_sem o
 |lnk=>exact gL_sem o (closed_mat o) (closed_nam o) (closed_cusA o) o.links ho.l
 |lim=>exact g_lim_sem o
 |cus s=>exact g_cus_sem o s (by have:=ho.c;show _≤1099511627776;omega)
 |dat k=>
  match k,hk with
  |0,_=>exact g_dat0_sem o
  |1,_=>exact g_dat1_sem o
  |2,_=>exact g_dat2_sem o
  |3,_=>exact g_dat3_sem o
  |4,_=>exact g_dat4_sem o
  |5,_=>exact g_dat5_sem o
  |6,_=>exact g_dat6_sem o
  |7,_=>exact g_dat7_sem o
  |8,_=>exact g_dat8_sem o
  |9,_=>exact g_dat9_sem o
  |k+10,hk=>exact absurd (blt_iff.1 hk) (by omega)
def placeAt (o:Ob) (s:List UInt8) (i:Nat):Nat:=((placesL s o.cust 0++[o.cust.length])[i]?).getD 0
def kid (v:It) (i:Nat):It:=((itK v)[i]?).getD v
def putK (o:Ob) (i:Nat) (v:It):Kd→Ob
 | .nam=>{o with names:=putL o.names i (itD v)}
 | .alg=>{o with alg:=itN v}
 | .len=>{o with len:=itN v}
 | .mask=>{o with mask:=itN v}
 | .dat k=>setDate o ⟨true,itN v⟩ k
 | .lnk=>{o with links:=putL o.links i ⟨itN (kid v 0),itD (kid v 1)⟩}
 | .lim=>{o with lh:=true,lt:=itN (kid v 0),lc:=itN (kid v 1),lu:=itN (kid v 2)}
 | .cus s=>{o with cust:=putL o.cust (placeAt o s i) ⟨s,itD v⟩}
 |_=>o
def idxOk (o:Ob) (j:Nat):Kd→Prop
 | .nam=>j≤o.names.length∧j<6
 | .lnk=>j≤o.links.length∧j<8
 | .cus s=>j<(placesL s o.cust 0).length∨j=(placesL s o.cust 0).length∧o.cust.length<6
 |_=>True
theorem place_le {o:Ob} {s:List UInt8} {j:Nat} (h:j≤(placesL s o.cust 0).length):(placesL s o.cust 0++[o.cust.length])[j]? =some (placeAt o s j)∧placeAt o s j≤o.cust.length∧(j<(placesL s o.cust 0).length→placeAt o s j<o.cust.length):=by
 have hj:j<(placesL s o.cust 0++[o.cust.length]).length:=by simp;omega
 have e:=List.getElem?_eq_getElem hj
 have e2:(placesL s o.cust 0++[o.cust.length])[j]? =some (placeAt o s j):=by rw[e,placeAt,e];rfl
 refine ⟨e2, ?_,fun hlt=> ?_⟩
 ·have hm:=List.mem_of_getElem? e2
  rcases List.mem_append.1 hm with hm|hm
  ·have:=placesL_lt s o.cust 0 _ hm;omega
  ·simp at hm;omega
 ·rw[List.getElem?_append_left hlt] at e2
  have:=placesL_lt s o.cust 0 _ (List.mem_of_getElem? e2)
  omega
theorem objT:isAggA Tryz.prog 33=some true:=by kernel_rfl
theorem rowT:isAggA Tryz.prog 89=some true:=by kernel_rfl
theorem fits_ob (o:Ob):fitsT Tryz.prog 33 (.agg (obC o)) 37=true:=fits_agg objT (len_obC o) (one_obC o)
def hdK (k:Kd):RowH:=⟨nameK k,typeK k,manyK k,setK k⟩
theorem rowC_eq (k:Kd):rowC k=rowW (hdK k) (addK k) (modK k) (remK k) (getF k) (rightF k) (putF k) (dropF k) (roomF k):=rfl
theorem rowC_get (k:Kd):rowC k=rowW (hdK k) (addK k) (modK k) (remK k) (fnC (gfn k) (gcp k)) (rightF k) (putF k) (dropF k) (roomF k):=by rw[rowC_eq,getF_eq]
theorem closed_rowC (k:Kd):closedAll (rowC k)=true:=closed_row k
theorem closed_roc (k:Kd) (o:Ob) {c:List AV} (h:closedAll c=true):closedAll (.agg (rowC k)::obA o::c)=true:=by
 have h1:=closed_rowC k
 have h2:=closed_oc o h
 rw[closedAll,closedA,h1,h2];rfl
structure OkG (o:Ob) (k:Kd):Prop where
 n:(getK o k).length≤1000
 i:∀x∈getK o k,okI big x
def dt0:Dt:=⟨false,0⟩
def zO:Ob:=⟨[],0,0,0,0,[],0,dt0,dt0,dt0,dt0,dt0,dt0,dt0,dt0,dt0,dt0,0,[],[],[],[],false,0,0,0,false⟩
theorem atA_F (s:List UInt8) (i t y n:Int) (d:List UInt8) (ks:List It):atA ⟨s,i,.mk t y n d ks⟩= .agg (.str s::I i::itF t y n (toBytes d) (itAs ks)):=rfl
theorem rowO_some (k:Kd):rowO (some k)=fiT (rowC k):=rfl
theorem fits_row (k:Kd):fitsT Tryz.prog 89 (.agg (rowC k)) 12=true:=by
 have h:allOne (rowC k)=true:=by
  cases k with
  |dat k=>
   have h1:(addD k).one=true:=by unfold addD;split<;>rfl
   have h2:(remD k).one=true:=by unfold remD;split<;>rfl
   simp only[rowC,allOne,addK,modK,remK,h1,h2,getF,rightF,putF,dropF,roomF,fnA,fnC,one_str,one_int,one_bool,Bool.true_and,Bool.and_true]
   rfl
  |_=>rfl
 exact fits_agg rowT rfl h
inductive Wh where
 |nil|alw|young|used|full
theorem lss_eq (x y:Operand) (a b:Int):binA Tryz.prog .lss 3 x y (I a) (I b)=some (.bool (ltInt a b)):=by kernel_rfl
theorem lss_t {x y:Operand} {a b:Int} (h:a<b):binA Tryz.prog .lss 3 x y (I a) (I b)=some (.bool true):=by rw[lss_eq,ltInt_iff.2 h]
theorem lss_f {x y:Operand} {a b:Int} (h:b≤a):binA Tryz.prog .lss 3 x y (I a) (I b)=some (.bool false):=by rw[lss_eq,ltInt_false.2 h]
theorem pk {n m v:Int} (h:n%m=v) (h0:0<m) (h1:m≤4611686018427387904):SC 23 [I n,I m] (I v):=h▸pick_sem n h0 h1
structure Go1 (i:Nat) (Rs:List AV) (y:Rw):Prop where
 c:closedAll Rs=true
 a:binA Tryz.prog .lss 3 (.tmp 55) (.tmp 57) (I (.ofNat i)) (I (.ofNat (lenN Rs)))=some (.bool true)
 b:binA Tryz.prog .lss 3 (.tmp 60) (.const (.int .i64 10)) (I (.ofNat i)) (I 10)=some (.bool true)
 x:indexAddrA Tryz.prog 22 (.fsl false Rs) (I (.ofNat i))=some (.fptr (rwC y) 0)
 w:wrapA .i64 (Int.ofNat i+1)=Int.ofNat (i+1)
theorem closed_rws:∀l:List Rw,closedAll (l.map rwA)=true
 |[]=>rfl
 |_::r=>closed_rws r
theorem go_of {l:List Rw} {i:Nat} {y:Rw} (h:l[i]? =some y) (hi:i<10):Go1 i (l.map rwA) y:=by
 refine ⟨closed_rws l,lss_t ?_,lss_t ?_, ?_,wrapA_i64 (by simp;omega) (by simp;omega)⟩
 ·obtain ⟨h1,_⟩:=List.getElem?_eq_some_iff.1 h
  simp only[lenN_eq,List.length_map,Int.ofNat_eq_natCast]
  omega
 ·simp only[Int.ofNat_eq_natCast];omega
 ·exact fsl_index (v:=rwA y) (e:=42) (sz:=4) (by kernel_rfl) (by kernel_rfl) (by rw[List.getElem?_map,h];rfl) rfl
abbrev Step (S S':St):Prop:=∀Q,ALp Tryz.prog opts0.glob 0 (lpCode Tryz.prog 22 5) S' Q→ALp Tryz.prog opts0.glob 0 (lpCode Tryz.prog 22 5) S Q
def Rv (k:Nat) (A:AV):Prop:=∀lk,lookN lk k=some k→RenV lk A A
theorem idx_pick {α:Type} {T:Nat} {l:List α} {d:α} {f:α→AV} {n:Int} (hl:l≠[]) (h:∀ (k:Nat) x,l[k]? =some x→indexA Tryz.prog T (.agg (l.map f)) (I (k:Int))=some (f x)):indexA Tryz.prog T (.agg (l.map f)) (I (n%(l.length:Int)))=some (f (ofL l d n)):=by
 have hp:0<l.length:=List.length_pos_iff.2 hl
 obtain ⟨k,h1,h2⟩:=mod_nat (n:=n) (m:=(l.length:Int)) (by omega)
 have hk:k<l.length:=by omega
 have e:=List.getElem?_eq_getElem hk
 unfold ofL
 rw[h1,Int.toNat_natCast,e]
 exact h k _ e
theorem st_dat00 {y:Rw} {i:Nat} {Rs:List AV} {M N L C:AV} {BN BL BC:Option Blk} (o:Ob) (g:Go1 i Rs y) (hM:closedA M=true) (rN:Rv 1 N) (rL:Rv 2 L) (rC:Rv 3 C) (bn:ClosedOB BN) (bl:ClosedOB BL) (bc:ClosedOB BC) (hk:y.k%9=0) (ha:y.a%10=0):Step (stO (oW (.ofNat i) Rs (obF o M N L C) []) [(1,BN),(2,BL),(3,BC)]) (stO (oW (.ofNat (i+1)) Rs (obF (setDate o ⟨true,y.b%60⟩ 0) M N L C) []) [(1,BN),(2,BL),(3,BC)]):=by
 intro Q hq
 refine ALp.roundO (A:=oA 0 0 y [] [] none []) (V1:=oW (.ofNat (i+1)) Rs (obF (setDate o ⟨true,y.b%60⟩ 0) M N L C) []) (F:=oW (.ofNat i) Rs [] []) (opt:=[(1,BN),(2,BL),(3,BC)]) (opt':=[]) (lk:=[(0,0),(1,1),(2,2),(3,3),(4,4)]) (lk':=[]) base0 aidJ_ok (LsOk.no rfl) .refl ?_
 rw[ob_dat00,g.w]
 exact ⟨g.a,g.b,g.x,pk hk (by decide) (by decide),pk ha (by decide) (by decide),pick_sem _ (by decide) (by decide),⟨⟨⟨⟨⟨rfl,g.c⟩,⟨rfl,rfl⟩,trivial⟩,⟨⟨rfl,rfl⟩,⟨rfl,rfl⟩,trivial⟩,renR_ob (o:=(setDate o ⟨true,y.b%60⟩ 0)) hM (rN _ rfl) (rL _ rfl) (rC _ rfl),⟨rfl,rfl⟩,trivial⟩,⟨rfl,bn⟩,⟨rfl,bl⟩,⟨rfl,bc⟩,trivial⟩,hq⟩⟩
theorem st_dat01 {y:Rw} {i:Nat} {Rs:List AV} {M N L C:AV} {BN BL BC:Option Blk} (o:Ob) (g:Go1 i Rs y) (hM:closedA M=true) (rN:Rv 1 N) (rL:Rv 2 L) (rC:Rv 3 C) (bn:ClosedOB BN) (bl:ClosedOB BL) (bc:ClosedOB BC) (hk:y.k%9=0) (ha:y.a%10=1):Step (stO (oW (.ofNat i) Rs (obF o M N L C) []) [(1,BN),(2,BL),(3,BC)]) (stO (oW (.ofNat (i+1)) Rs (obF (setDate o ⟨true,y.b%60⟩ 1) M N L C) []) [(1,BN),(2,BL),(3,BC)]):=by
 intro Q hq
 refine ALp.roundO (A:=oA 0 1 y [] [] none []) (V1:=oW (.ofNat (i+1)) Rs (obF (setDate o ⟨true,y.b%60⟩ 1) M N L C) []) (F:=oW (.ofNat i) Rs [] []) (opt:=[(1,BN),(2,BL),(3,BC)]) (opt':=[]) (lk:=[(0,0),(1,1),(2,2),(3,3),(4,4)]) (lk':=[]) base0 aidJ_ok (LsOk.no rfl) .refl ?_
 rw[ob_dat01,g.w]
 exact ⟨g.a,g.b,g.x,pk hk (by decide) (by decide),pk ha (by decide) (by decide),pick_sem _ (by decide) (by decide),⟨⟨⟨⟨⟨rfl,g.c⟩,⟨rfl,rfl⟩,trivial⟩,⟨⟨rfl,rfl⟩,⟨rfl,rfl⟩,trivial⟩,renR_ob (o:=(setDate o ⟨true,y.b%60⟩ 1)) hM (rN _ rfl) (rL _ rfl) (rC _ rfl),⟨rfl,rfl⟩,trivial⟩,⟨rfl,bn⟩,⟨rfl,bl⟩,⟨rfl,bc⟩,trivial⟩,hq⟩⟩
theorem st_dat02 {y:Rw} {i:Nat} {Rs:List AV} {M N L C:AV} {BN BL BC:Option Blk} (o:Ob) (g:Go1 i Rs y) (hM:closedA M=true) (rN:Rv 1 N) (rL:Rv 2 L) (rC:Rv 3 C) (bn:ClosedOB BN) (bl:ClosedOB BL) (bc:ClosedOB BC) (hk:y.k%9=0) (ha:y.a%10=2):Step (stO (oW (.ofNat i) Rs (obF o M N L C) []) [(1,BN),(2,BL),(3,BC)]) (stO (oW (.ofNat (i+1)) Rs (obF (setDate o ⟨true,y.b%60⟩ 2) M N L C) []) [(1,BN),(2,BL),(3,BC)]):=by
 intro Q hq
 refine ALp.roundO (A:=oA 0 2 y [] [] none []) (V1:=oW (.ofNat (i+1)) Rs (obF (setDate o ⟨true,y.b%60⟩ 2) M N L C) []) (F:=oW (.ofNat i) Rs [] []) (opt:=[(1,BN),(2,BL),(3,BC)]) (opt':=[]) (lk:=[(0,0),(1,1),(2,2),(3,3),(4,4)]) (lk':=[]) base0 aidJ_ok (LsOk.no rfl) .refl ?_
 rw[ob_dat02,g.w]
 exact ⟨g.a,g.b,g.x,pk hk (by decide) (by decide),pk ha (by decide) (by decide),pick_sem _ (by decide) (by decide),⟨⟨⟨⟨⟨rfl,g.c⟩,⟨rfl,rfl⟩,trivial⟩,⟨⟨rfl,rfl⟩,⟨rfl,rfl⟩,trivial⟩,renR_ob (o:=(setDate o ⟨true,y.b%60⟩ 2)) hM (rN _ rfl) (rL _ rfl) (rC _ rfl),⟨rfl,rfl⟩,trivial⟩,⟨rfl,bn⟩,⟨rfl,bl⟩,⟨rfl,bc⟩,trivial⟩,hq⟩⟩
theorem st_dat03 {y:Rw} {i:Nat} {Rs:List AV} {M N L C:AV} {BN BL BC:Option Blk} (o:Ob) (g:Go1 i Rs y) (hM:closedA M=true) (rN:Rv 1 N) (rL:Rv 2 L) (rC:Rv 3 C) (bn:ClosedOB BN) (bl:ClosedOB BL) (bc:ClosedOB BC) (hk:y.k%9=0) (ha:y.a%10=3):Step (stO (oW (.ofNat i) Rs (obF o M N L C) []) [(1,BN),(2,BL),(3,BC)]) (stO (oW (.ofNat (i+1)) Rs (obF (setDate o ⟨true,y.b%60⟩ 3) M N L C) []) [(1,BN),(2,BL),(3,BC)]):=by
 intro Q hq
 refine ALp.roundO (A:=oA 0 3 y [] [] none []) (V1:=oW (.ofNat (i+1)) Rs (obF (setDate o ⟨true,y.b%60⟩ 3) M N L C) []) (F:=oW (.ofNat i) Rs [] []) (opt:=[(1,BN),(2,BL),(3,BC)]) (opt':=[]) (lk:=[(0,0),(1,1),(2,2),(3,3),(4,4)]) (lk':=[]) base0 aidJ_ok (LsOk.no rfl) .refl ?_
 rw[ob_dat03,g.w]
 exact ⟨g.a,g.b,g.x,pk hk (by decide) (by decide),pk ha (by decide) (by decide),pick_sem _ (by decide) (by decide),⟨⟨⟨⟨⟨rfl,g.c⟩,⟨rfl,rfl⟩,trivial⟩,⟨⟨rfl,rfl⟩,⟨rfl,rfl⟩,trivial⟩,renR_ob (o:=(setDate o ⟨true,y.b%60⟩ 3)) hM (rN _ rfl) (rL _ rfl) (rC _ rfl),⟨rfl,rfl⟩,trivial⟩,⟨rfl,bn⟩,⟨rfl,bl⟩,⟨rfl,bc⟩,trivial⟩,hq⟩⟩
theorem st_dat04 {y:Rw} {i:Nat} {Rs:List AV} {M N L C:AV} {BN BL BC:Option Blk} (o:Ob) (g:Go1 i Rs y) (hM:closedA M=true) (rN:Rv 1 N) (rL:Rv 2 L) (rC:Rv 3 C) (bn:ClosedOB BN) (bl:ClosedOB BL) (bc:ClosedOB BC) (hk:y.k%9=0) (ha:y.a%10=4):Step (stO (oW (.ofNat i) Rs (obF o M N L C) []) [(1,BN),(2,BL),(3,BC)]) (stO (oW (.ofNat (i+1)) Rs (obF (setDate o ⟨true,y.b%60⟩ 4) M N L C) []) [(1,BN),(2,BL),(3,BC)]):=by
 intro Q hq
 refine ALp.roundO (A:=oA 0 4 y [] [] none []) (V1:=oW (.ofNat (i+1)) Rs (obF (setDate o ⟨true,y.b%60⟩ 4) M N L C) []) (F:=oW (.ofNat i) Rs [] []) (opt:=[(1,BN),(2,BL),(3,BC)]) (opt':=[]) (lk:=[(0,0),(1,1),(2,2),(3,3),(4,4)]) (lk':=[]) base0 aidJ_ok (LsOk.no rfl) .refl ?_
 rw[ob_dat04,g.w]
 exact ⟨g.a,g.b,g.x,pk hk (by decide) (by decide),pk ha (by decide) (by decide),pick_sem _ (by decide) (by decide),⟨⟨⟨⟨⟨rfl,g.c⟩,⟨rfl,rfl⟩,trivial⟩,⟨⟨rfl,rfl⟩,⟨rfl,rfl⟩,trivial⟩,renR_ob (o:=(setDate o ⟨true,y.b%60⟩ 4)) hM (rN _ rfl) (rL _ rfl) (rC _ rfl),⟨rfl,rfl⟩,trivial⟩,⟨rfl,bn⟩,⟨rfl,bl⟩,⟨rfl,bc⟩,trivial⟩,hq⟩⟩
theorem st_dat05 {y:Rw} {i:Nat} {Rs:List AV} {M N L C:AV} {BN BL BC:Option Blk} (o:Ob) (g:Go1 i Rs y) (hM:closedA M=true) (rN:Rv 1 N) (rL:Rv 2 L) (rC:Rv 3 C) (bn:ClosedOB BN) (bl:ClosedOB BL) (bc:ClosedOB BC) (hk:y.k%9=0) (ha:y.a%10=5):Step (stO (oW (.ofNat i) Rs (obF o M N L C) []) [(1,BN),(2,BL),(3,BC)]) (stO (oW (.ofNat (i+1)) Rs (obF (setDate o ⟨true,y.b%60⟩ 5) M N L C) []) [(1,BN),(2,BL),(3,BC)]):=by
 intro Q hq
 refine ALp.roundO (A:=oA 0 5 y [] [] none []) (V1:=oW (.ofNat (i+1)) Rs (obF (setDate o ⟨true,y.b%60⟩ 5) M N L C) []) (F:=oW (.ofNat i) Rs [] []) (opt:=[(1,BN),(2,BL),(3,BC)]) (opt':=[]) (lk:=[(0,0),(1,1),(2,2),(3,3),(4,4)]) (lk':=[]) base0 aidJ_ok (LsOk.no rfl) .refl ?_
 rw[ob_dat05,g.w]
 exact ⟨g.a,g.b,g.x,pk hk (by decide) (by decide),pk ha (by decide) (by decide),pick_sem _ (by decide) (by decide),⟨⟨⟨⟨⟨rfl,g.c⟩,⟨rfl,rfl⟩,trivial⟩,⟨⟨rfl,rfl⟩,⟨rfl,rfl⟩,trivial⟩,renR_ob (o:=(setDate o ⟨true,y.b%60⟩ 5)) hM (rN _ rfl) (rL _ rfl) (rC _ rfl),⟨rfl,rfl⟩,trivial⟩,⟨rfl,bn⟩,⟨rfl,bl⟩,⟨rfl,bc⟩,trivial⟩,hq⟩⟩
theorem st_dat06 {y:Rw} {i:Nat} {Rs:List AV} {M N L C:AV} {BN BL BC:Option Blk} (o:Ob) (g:Go1 i Rs y) (hM:closedA M=true) (rN:Rv 1 N) (rL:Rv 2 L) (rC:Rv 3 C) (bn:ClosedOB BN) (bl:ClosedOB BL) (bc:ClosedOB BC) (hk:y.k%9=0) (ha:y.a%10=6):Step (stO (oW (.ofNat i) Rs (obF o M N L C) []) [(1,BN),(2,BL),(3,BC)]) (stO (oW (.ofNat (i+1)) Rs (obF (setDate o ⟨true,y.b%60⟩ 6) M N L C) []) [(1,BN),(2,BL),(3,BC)]):=by
 intro Q hq
 refine ALp.roundO (A:=oA 0 6 y [] [] none []) (V1:=oW (.ofNat (i+1)) Rs (obF (setDate o ⟨true,y.b%60⟩ 6) M N L C) []) (F:=oW (.ofNat i) Rs [] []) (opt:=[(1,BN),(2,BL),(3,BC)]) (opt':=[]) (lk:=[(0,0),(1,1),(2,2),(3,3),(4,4)]) (lk':=[]) base0 aidJ_ok (LsOk.no rfl) .refl ?_
 rw[ob_dat06,g.w]
 exact ⟨g.a,g.b,g.x,pk hk (by decide) (by decide),pk ha (by decide) (by decide),pick_sem _ (by decide) (by decide),⟨⟨⟨⟨⟨rfl,g.c⟩,⟨rfl,rfl⟩,trivial⟩,⟨⟨rfl,rfl⟩,⟨rfl,rfl⟩,trivial⟩,renR_ob (o:=(setDate o ⟨true,y.b%60⟩ 6)) hM (rN _ rfl) (rL _ rfl) (rC _ rfl),⟨rfl,rfl⟩,trivial⟩,⟨rfl,bn⟩,⟨rfl,bl⟩,⟨rfl,bc⟩,trivial⟩,hq⟩⟩
theorem st_dat07 {y:Rw} {i:Nat} {Rs:List AV} {M N L C:AV} {BN BL BC:Option Blk} (o:Ob) (g:Go1 i Rs y) (hM:closedA M=true) (rN:Rv 1 N) (rL:Rv 2 L) (rC:Rv 3 C) (bn:ClosedOB BN) (bl:ClosedOB BL) (bc:ClosedOB BC) (hk:y.k%9=0) (ha:y.a%10=7):Step (stO (oW (.ofNat i) Rs (obF o M N L C) []) [(1,BN),(2,BL),(3,BC)]) (stO (oW (.ofNat (i+1)) Rs (obF (setDate o ⟨true,y.b%60⟩ 7) M N L C) []) [(1,BN),(2,BL),(3,BC)]):=by
 intro Q hq
 refine ALp.roundO (A:=oA 0 7 y [] [] none []) (V1:=oW (.ofNat (i+1)) Rs (obF (setDate o ⟨true,y.b%60⟩ 7) M N L C) []) (F:=oW (.ofNat i) Rs [] []) (opt:=[(1,BN),(2,BL),(3,BC)]) (opt':=[]) (lk:=[(0,0),(1,1),(2,2),(3,3),(4,4)]) (lk':=[]) base0 aidJ_ok (LsOk.no rfl) .refl ?_
 rw[ob_dat07,g.w]
 exact ⟨g.a,g.b,g.x,pk hk (by decide) (by decide),pk ha (by decide) (by decide),pick_sem _ (by decide) (by decide),⟨⟨⟨⟨⟨rfl,g.c⟩,⟨rfl,rfl⟩,trivial⟩,⟨⟨rfl,rfl⟩,⟨rfl,rfl⟩,trivial⟩,renR_ob (o:=(setDate o ⟨true,y.b%60⟩ 7)) hM (rN _ rfl) (rL _ rfl) (rC _ rfl),⟨rfl,rfl⟩,trivial⟩,⟨rfl,bn⟩,⟨rfl,bl⟩,⟨rfl,bc⟩,trivial⟩,hq⟩⟩
theorem st_dat08 {y:Rw} {i:Nat} {Rs:List AV} {M N L C:AV} {BN BL BC:Option Blk} (o:Ob) (g:Go1 i Rs y) (hM:closedA M=true) (rN:Rv 1 N) (rL:Rv 2 L) (rC:Rv 3 C) (bn:ClosedOB BN) (bl:ClosedOB BL) (bc:ClosedOB BC) (hk:y.k%9=0) (ha:y.a%10=8):Step (stO (oW (.ofNat i) Rs (obF o M N L C) []) [(1,BN),(2,BL),(3,BC)]) (stO (oW (.ofNat (i+1)) Rs (obF (setDate o ⟨true,y.b%60⟩ 8) M N L C) []) [(1,BN),(2,BL),(3,BC)]):=by
 intro Q hq
 refine ALp.roundO (A:=oA 0 8 y [] [] none []) (V1:=oW (.ofNat (i+1)) Rs (obF (setDate o ⟨true,y.b%60⟩ 8) M N L C) []) (F:=oW (.ofNat i) Rs [] []) (opt:=[(1,BN),(2,BL),(3,BC)]) (opt':=[]) (lk:=[(0,0),(1,1),(2,2),(3,3),(4,4)]) (lk':=[]) base0 aidJ_ok (LsOk.no rfl) .refl ?_
 rw[ob_dat08,g.w]
 exact ⟨g.a,g.b,g.x,pk hk (by decide) (by decide),pk ha (by decide) (by decide),pick_sem _ (by decide) (by decide),⟨⟨⟨⟨⟨rfl,g.c⟩,⟨rfl,rfl⟩,trivial⟩,⟨⟨rfl,rfl⟩,⟨rfl,rfl⟩,trivial⟩,renR_ob (o:=(setDate o ⟨true,y.b%60⟩ 8)) hM (rN _ rfl) (rL _ rfl) (rC _ rfl),⟨rfl,rfl⟩,trivial⟩,⟨rfl,bn⟩,⟨rfl,bl⟩,⟨rfl,bc⟩,trivial⟩,hq⟩⟩
theorem st_dat09 {y:Rw} {i:Nat} {Rs:List AV} {M N L C:AV} {BN BL BC:Option Blk} (o:Ob) (g:Go1 i Rs y) (hM:closedA M=true) (rN:Rv 1 N) (rL:Rv 2 L) (rC:Rv 3 C) (bn:ClosedOB BN) (bl:ClosedOB BL) (bc:ClosedOB BC) (hk:y.k%9=0) (ha:y.a%10=9):Step (stO (oW (.ofNat i) Rs (obF o M N L C) []) [(1,BN),(2,BL),(3,BC)]) (stO (oW (.ofNat (i+1)) Rs (obF (setDate o ⟨true,y.b%60⟩ 9) M N L C) []) [(1,BN),(2,BL),(3,BC)]):=by
 intro Q hq
 refine ALp.roundO (A:=oA 0 9 y [] [] none []) (V1:=oW (.ofNat (i+1)) Rs (obF (setDate o ⟨true,y.b%60⟩ 9) M N L C) []) (F:=oW (.ofNat i) Rs [] []) (opt:=[(1,BN),(2,BL),(3,BC)]) (opt':=[]) (lk:=[(0,0),(1,1),(2,2),(3,3),(4,4)]) (lk':=[]) base0 aidJ_ok (LsOk.no rfl) .refl ?_
 rw[ob_dat09,g.w]
 exact ⟨g.a,g.b,g.x,pk hk (by decide) (by decide),pk ha (by decide) (by decide),pick_sem _ (by decide) (by decide),⟨⟨⟨⟨⟨rfl,g.c⟩,⟨rfl,rfl⟩,trivial⟩,⟨⟨rfl,rfl⟩,⟨rfl,rfl⟩,trivial⟩,renR_ob (o:=(setDate o ⟨true,y.b%60⟩ 9)) hM (rN _ rfl) (rL _ rfl) (rC _ rfl),⟨rfl,rfl⟩,trivial⟩,⟨rfl,bn⟩,⟨rfl,bl⟩,⟨rfl,bc⟩,trivial⟩,hq⟩⟩
theorem st_dat10 {y:Rw} {i:Nat} {Rs:List AV} {M N L C:AV} {BN BL BC:Option Blk} (o:Ob) (g:Go1 i Rs y) (hM:closedA M=true) (rN:Rv 1 N) (rL:Rv 2 L) (rC:Rv 3 C) (bn:ClosedOB BN) (bl:ClosedOB BL) (bc:ClosedOB BC) (hk:y.k%9=1) (ha:y.a%10=0):Step (stO (oW (.ofNat i) Rs (obF o M N L C) []) [(1,BN),(2,BL),(3,BC)]) (stO (oW (.ofNat (i+1)) Rs (obF (setDate o ⟨true,y.b%60⟩ 0) M N L C) []) [(1,BN),(2,BL),(3,BC)]):=by
 intro Q hq
 refine ALp.roundO (A:=oA 1 0 y [] [] none []) (V1:=oW (.ofNat (i+1)) Rs (obF (setDate o ⟨true,y.b%60⟩ 0) M N L C) []) (F:=oW (.ofNat i) Rs [] []) (opt:=[(1,BN),(2,BL),(3,BC)]) (opt':=[]) (lk:=[(0,0),(1,1),(2,2),(3,3),(4,4)]) (lk':=[]) base0 aidJ_ok (LsOk.no rfl) .refl ?_
 rw[ob_dat10,g.w]
 exact ⟨g.a,g.b,g.x,pk hk (by decide) (by decide),pk ha (by decide) (by decide),pick_sem _ (by decide) (by decide),⟨⟨⟨⟨⟨rfl,g.c⟩,⟨rfl,rfl⟩,trivial⟩,⟨⟨rfl,rfl⟩,⟨rfl,rfl⟩,trivial⟩,renR_ob (o:=(setDate o ⟨true,y.b%60⟩ 0)) hM (rN _ rfl) (rL _ rfl) (rC _ rfl),⟨rfl,rfl⟩,trivial⟩,⟨rfl,bn⟩,⟨rfl,bl⟩,⟨rfl,bc⟩,trivial⟩,hq⟩⟩
theorem st_dat11 {y:Rw} {i:Nat} {Rs:List AV} {M N L C:AV} {BN BL BC:Option Blk} (o:Ob) (g:Go1 i Rs y) (hM:closedA M=true) (rN:Rv 1 N) (rL:Rv 2 L) (rC:Rv 3 C) (bn:ClosedOB BN) (bl:ClosedOB BL) (bc:ClosedOB BC) (hk:y.k%9=1) (ha:y.a%10=1):Step (stO (oW (.ofNat i) Rs (obF o M N L C) []) [(1,BN),(2,BL),(3,BC)]) (stO (oW (.ofNat (i+1)) Rs (obF (setDate o ⟨true,y.b%60⟩ 1) M N L C) []) [(1,BN),(2,BL),(3,BC)]):=by
 intro Q hq
 refine ALp.roundO (A:=oA 1 1 y [] [] none []) (V1:=oW (.ofNat (i+1)) Rs (obF (setDate o ⟨true,y.b%60⟩ 1) M N L C) []) (F:=oW (.ofNat i) Rs [] []) (opt:=[(1,BN),(2,BL),(3,BC)]) (opt':=[]) (lk:=[(0,0),(1,1),(2,2),(3,3),(4,4)]) (lk':=[]) base0 aidJ_ok (LsOk.no rfl) .refl ?_
 rw[ob_dat11,g.w]
 exact ⟨g.a,g.b,g.x,pk hk (by decide) (by decide),pk ha (by decide) (by decide),pick_sem _ (by decide) (by decide),⟨⟨⟨⟨⟨rfl,g.c⟩,⟨rfl,rfl⟩,trivial⟩,⟨⟨rfl,rfl⟩,⟨rfl,rfl⟩,trivial⟩,renR_ob (o:=(setDate o ⟨true,y.b%60⟩ 1)) hM (rN _ rfl) (rL _ rfl) (rC _ rfl),⟨rfl,rfl⟩,trivial⟩,⟨rfl,bn⟩,⟨rfl,bl⟩,⟨rfl,bc⟩,trivial⟩,hq⟩⟩
theorem st_dat12 {y:Rw} {i:Nat} {Rs:List AV} {M N L C:AV} {BN BL BC:Option Blk} (o:Ob) (g:Go1 i Rs y) (hM:closedA M=true) (rN:Rv 1 N) (rL:Rv 2 L) (rC:Rv 3 C) (bn:ClosedOB BN) (bl:ClosedOB BL) (bc:ClosedOB BC) (hk:y.k%9=1) (ha:y.a%10=2):Step (stO (oW (.ofNat i) Rs (obF o M N L C) []) [(1,BN),(2,BL),(3,BC)]) (stO (oW (.ofNat (i+1)) Rs (obF (setDate o ⟨true,y.b%60⟩ 2) M N L C) []) [(1,BN),(2,BL),(3,BC)]):=by
 intro Q hq
 refine ALp.roundO (A:=oA 1 2 y [] [] none []) (V1:=oW (.ofNat (i+1)) Rs (obF (setDate o ⟨true,y.b%60⟩ 2) M N L C) []) (F:=oW (.ofNat i) Rs [] []) (opt:=[(1,BN),(2,BL),(3,BC)]) (opt':=[]) (lk:=[(0,0),(1,1),(2,2),(3,3),(4,4)]) (lk':=[]) base0 aidJ_ok (LsOk.no rfl) .refl ?_
 rw[ob_dat12,g.w]
 exact ⟨g.a,g.b,g.x,pk hk (by decide) (by decide),pk ha (by decide) (by decide),pick_sem _ (by decide) (by decide),⟨⟨⟨⟨⟨rfl,g.c⟩,⟨rfl,rfl⟩,trivial⟩,⟨⟨rfl,rfl⟩,⟨rfl,rfl⟩,trivial⟩,renR_ob (o:=(setDate o ⟨true,y.b%60⟩ 2)) hM (rN _ rfl) (rL _ rfl) (rC _ rfl),⟨rfl,rfl⟩,trivial⟩,⟨rfl,bn⟩,⟨rfl,bl⟩,⟨rfl,bc⟩,trivial⟩,hq⟩⟩
theorem st_dat13 {y:Rw} {i:Nat} {Rs:List AV} {M N L C:AV} {BN BL BC:Option Blk} (o:Ob) (g:Go1 i Rs y) (hM:closedA M=true) (rN:Rv 1 N) (rL:Rv 2 L) (rC:Rv 3 C) (bn:ClosedOB BN) (bl:ClosedOB BL) (bc:ClosedOB BC) (hk:y.k%9=1) (ha:y.a%10=3):Step (stO (oW (.ofNat i) Rs (obF o M N L C) []) [(1,BN),(2,BL),(3,BC)]) (stO (oW (.ofNat (i+1)) Rs (obF (setDate o ⟨true,y.b%60⟩ 3) M N L C) []) [(1,BN),(2,BL),(3,BC)]):=by
 intro Q hq
 refine ALp.roundO (A:=oA 1 3 y [] [] none []) (V1:=oW (.ofNat (i+1)) Rs (obF (setDate o ⟨true,y.b%60⟩ 3) M N L C) []) (F:=oW (.ofNat i) Rs [] []) (opt:=[(1,BN),(2,BL),(3,BC)]) (opt':=[]) (lk:=[(0,0),(1,1),(2,2),(3,3),(4,4)]) (lk':=[]) base0 aidJ_ok (LsOk.no rfl) .refl ?_
 rw[ob_dat13,g.w]
 exact ⟨g.a,g.b,g.x,pk hk (by decide) (by decide),pk ha (by decide) (by decide),pick_sem _ (by decide) (by decide),⟨⟨⟨⟨⟨rfl,g.c⟩,⟨rfl,rfl⟩,trivial⟩,⟨⟨rfl,rfl⟩,⟨rfl,rfl⟩,trivial⟩,renR_ob (o:=(setDate o ⟨true,y.b%60⟩ 3)) hM (rN _ rfl) (rL _ rfl) (rC _ rfl),⟨rfl,rfl⟩,trivial⟩,⟨rfl,bn⟩,⟨rfl,bl⟩,⟨rfl,bc⟩,trivial⟩,hq⟩⟩
theorem st_dat14 {y:Rw} {i:Nat} {Rs:List AV} {M N L C:AV} {BN BL BC:Option Blk} (o:Ob) (g:Go1 i Rs y) (hM:closedA M=true) (rN:Rv 1 N) (rL:Rv 2 L) (rC:Rv 3 C) (bn:ClosedOB BN) (bl:ClosedOB BL) (bc:ClosedOB BC) (hk:y.k%9=1) (ha:y.a%10=4):Step (stO (oW (.ofNat i) Rs (obF o M N L C) []) [(1,BN),(2,BL),(3,BC)]) (stO (oW (.ofNat (i+1)) Rs (obF (setDate o ⟨true,y.b%60⟩ 4) M N L C) []) [(1,BN),(2,BL),(3,BC)]):=by
 intro Q hq
 refine ALp.roundO (A:=oA 1 4 y [] [] none []) (V1:=oW (.ofNat (i+1)) Rs (obF (setDate o ⟨true,y.b%60⟩ 4) M N L C) []) (F:=oW (.ofNat i) Rs [] []) (opt:=[(1,BN),(2,BL),(3,BC)]) (opt':=[]) (lk:=[(0,0),(1,1),(2,2),(3,3),(4,4)]) (lk':=[]) base0 aidJ_ok (LsOk.no rfl) .refl ?_
 rw[ob_dat14,g.w]
 exact ⟨g.a,g.b,g.x,pk hk (by decide) (by decide),pk ha (by decide) (by decide),pick_sem _ (by decide) (by decide),⟨⟨⟨⟨⟨rfl,g.c⟩,⟨rfl,rfl⟩,trivial⟩,⟨⟨rfl,rfl⟩,⟨rfl,rfl⟩,trivial⟩,renR_ob (o:=(setDate o ⟨true,y.b%60⟩ 4)) hM (rN _ rfl) (rL _ rfl) (rC _ rfl),⟨rfl,rfl⟩,trivial⟩,⟨rfl,bn⟩,⟨rfl,bl⟩,⟨rfl,bc⟩,trivial⟩,hq⟩⟩
theorem st_dat15 {y:Rw} {i:Nat} {Rs:List AV} {M N L C:AV} {BN BL BC:Option Blk} (o:Ob) (g:Go1 i Rs y) (hM:closedA M=true) (rN:Rv 1 N) (rL:Rv 2 L) (rC:Rv 3 C) (bn:ClosedOB BN) (bl:ClosedOB BL) (bc:ClosedOB BC) (hk:y.k%9=1) (ha:y.a%10=5):Step (stO (oW (.ofNat i) Rs (obF o M N L C) []) [(1,BN),(2,BL),(3,BC)]) (stO (oW (.ofNat (i+1)) Rs (obF (setDate o ⟨true,y.b%60⟩ 5) M N L C) []) [(1,BN),(2,BL),(3,BC)]):=by
 intro Q hq
 refine ALp.roundO (A:=oA 1 5 y [] [] none []) (V1:=oW (.ofNat (i+1)) Rs (obF (setDate o ⟨true,y.b%60⟩ 5) M N L C) []) (F:=oW (.ofNat i) Rs [] []) (opt:=[(1,BN),(2,BL),(3,BC)]) (opt':=[]) (lk:=[(0,0),(1,1),(2,2),(3,3),(4,4)]) (lk':=[]) base0 aidJ_ok (LsOk.no rfl) .refl ?_
 rw[ob_dat15,g.w]
 exact ⟨g.a,g.b,g.x,pk hk (by decide) (by decide),pk ha (by decide) (by decide),pick_sem _ (by decide) (by decide),⟨⟨⟨⟨⟨rfl,g.c⟩,⟨rfl,rfl⟩,trivial⟩,⟨⟨rfl,rfl⟩,⟨rfl,rfl⟩,trivial⟩,renR_ob (o:=(setDate o ⟨true,y.b%60⟩ 5)) hM (rN _ rfl) (rL _ rfl) (rC _ rfl),⟨rfl,rfl⟩,trivial⟩,⟨rfl,bn⟩,⟨rfl,bl⟩,⟨rfl,bc⟩,trivial⟩,hq⟩⟩
theorem st_dat16 {y:Rw} {i:Nat} {Rs:List AV} {M N L C:AV} {BN BL BC:Option Blk} (o:Ob) (g:Go1 i Rs y) (hM:closedA M=true) (rN:Rv 1 N) (rL:Rv 2 L) (rC:Rv 3 C) (bn:ClosedOB BN) (bl:ClosedOB BL) (bc:ClosedOB BC) (hk:y.k%9=1) (ha:y.a%10=6):Step (stO (oW (.ofNat i) Rs (obF o M N L C) []) [(1,BN),(2,BL),(3,BC)]) (stO (oW (.ofNat (i+1)) Rs (obF (setDate o ⟨true,y.b%60⟩ 6) M N L C) []) [(1,BN),(2,BL),(3,BC)]):=by
 intro Q hq
 refine ALp.roundO (A:=oA 1 6 y [] [] none []) (V1:=oW (.ofNat (i+1)) Rs (obF (setDate o ⟨true,y.b%60⟩ 6) M N L C) []) (F:=oW (.ofNat i) Rs [] []) (opt:=[(1,BN),(2,BL),(3,BC)]) (opt':=[]) (lk:=[(0,0),(1,1),(2,2),(3,3),(4,4)]) (lk':=[]) base0 aidJ_ok (LsOk.no rfl) .refl ?_
 rw[ob_dat16,g.w]
 exact ⟨g.a,g.b,g.x,pk hk (by decide) (by decide),pk ha (by decide) (by decide),pick_sem _ (by decide) (by decide),⟨⟨⟨⟨⟨rfl,g.c⟩,⟨rfl,rfl⟩,trivial⟩,⟨⟨rfl,rfl⟩,⟨rfl,rfl⟩,trivial⟩,renR_ob (o:=(setDate o ⟨true,y.b%60⟩ 6)) hM (rN _ rfl) (rL _ rfl) (rC _ rfl),⟨rfl,rfl⟩,trivial⟩,⟨rfl,bn⟩,⟨rfl,bl⟩,⟨rfl,bc⟩,trivial⟩,hq⟩⟩
theorem st_dat17 {y:Rw} {i:Nat} {Rs:List AV} {M N L C:AV} {BN BL BC:Option Blk} (o:Ob) (g:Go1 i Rs y) (hM:closedA M=true) (rN:Rv 1 N) (rL:Rv 2 L) (rC:Rv 3 C) (bn:ClosedOB BN) (bl:ClosedOB BL) (bc:ClosedOB BC) (hk:y.k%9=1) (ha:y.a%10=7):Step (stO (oW (.ofNat i) Rs (obF o M N L C) []) [(1,BN),(2,BL),(3,BC)]) (stO (oW (.ofNat (i+1)) Rs (obF (setDate o ⟨true,y.b%60⟩ 7) M N L C) []) [(1,BN),(2,BL),(3,BC)]):=by
 intro Q hq
 refine ALp.roundO (A:=oA 1 7 y [] [] none []) (V1:=oW (.ofNat (i+1)) Rs (obF (setDate o ⟨true,y.b%60⟩ 7) M N L C) []) (F:=oW (.ofNat i) Rs [] []) (opt:=[(1,BN),(2,BL),(3,BC)]) (opt':=[]) (lk:=[(0,0),(1,1),(2,2),(3,3),(4,4)]) (lk':=[]) base0 aidJ_ok (LsOk.no rfl) .refl ?_
 rw[ob_dat17,g.w]
 exact ⟨g.a,g.b,g.x,pk hk (by decide) (by decide),pk ha (by decide) (by decide),pick_sem _ (by decide) (by decide),⟨⟨⟨⟨⟨rfl,g.c⟩,⟨rfl,rfl⟩,trivial⟩,⟨⟨rfl,rfl⟩,⟨rfl,rfl⟩,trivial⟩,renR_ob (o:=(setDate o ⟨true,y.b%60⟩ 7)) hM (rN _ rfl) (rL _ rfl) (rC _ rfl),⟨rfl,rfl⟩,trivial⟩,⟨rfl,bn⟩,⟨rfl,bl⟩,⟨rfl,bc⟩,trivial⟩,hq⟩⟩
theorem st_dat18 {y:Rw} {i:Nat} {Rs:List AV} {M N L C:AV} {BN BL BC:Option Blk} (o:Ob) (g:Go1 i Rs y) (hM:closedA M=true) (rN:Rv 1 N) (rL:Rv 2 L) (rC:Rv 3 C) (bn:ClosedOB BN) (bl:ClosedOB BL) (bc:ClosedOB BC) (hk:y.k%9=1) (ha:y.a%10=8):Step (stO (oW (.ofNat i) Rs (obF o M N L C) []) [(1,BN),(2,BL),(3,BC)]) (stO (oW (.ofNat (i+1)) Rs (obF (setDate o ⟨true,y.b%60⟩ 8) M N L C) []) [(1,BN),(2,BL),(3,BC)]):=by
 intro Q hq
 refine ALp.roundO (A:=oA 1 8 y [] [] none []) (V1:=oW (.ofNat (i+1)) Rs (obF (setDate o ⟨true,y.b%60⟩ 8) M N L C) []) (F:=oW (.ofNat i) Rs [] []) (opt:=[(1,BN),(2,BL),(3,BC)]) (opt':=[]) (lk:=[(0,0),(1,1),(2,2),(3,3),(4,4)]) (lk':=[]) base0 aidJ_ok (LsOk.no rfl) .refl ?_
 rw[ob_dat18,g.w]
 exact ⟨g.a,g.b,g.x,pk hk (by decide) (by decide),pk ha (by decide) (by decide),pick_sem _ (by decide) (by decide),⟨⟨⟨⟨⟨rfl,g.c⟩,⟨rfl,rfl⟩,trivial⟩,⟨⟨rfl,rfl⟩,⟨rfl,rfl⟩,trivial⟩,renR_ob (o:=(setDate o ⟨true,y.b%60⟩ 8)) hM (rN _ rfl) (rL _ rfl) (rC _ rfl),⟨rfl,rfl⟩,trivial⟩,⟨rfl,bn⟩,⟨rfl,bl⟩,⟨rfl,bc⟩,trivial⟩,hq⟩⟩
theorem st_dat19 {y:Rw} {i:Nat} {Rs:List AV} {M N L C:AV} {BN BL BC:Option Blk} (o:Ob) (g:Go1 i Rs y) (hM:closedA M=true) (rN:Rv 1 N) (rL:Rv 2 L) (rC:Rv 3 C) (bn:ClosedOB BN) (bl:ClosedOB BL) (bc:ClosedOB BC) (hk:y.k%9=1) (ha:y.a%10=9):Step (stO (oW (.ofNat i) Rs (obF o M N L C) []) [(1,BN),(2,BL),(3,BC)]) (stO (oW (.ofNat (i+1)) Rs (obF (setDate o ⟨true,y.b%60⟩ 9) M N L C) []) [(1,BN),(2,BL),(3,BC)]):=by
 intro Q hq
 refine ALp.roundO (A:=oA 1 9 y [] [] none []) (V1:=oW (.ofNat (i+1)) Rs (obF (setDate o ⟨true,y.b%60⟩ 9) M N L C) []) (F:=oW (.ofNat i) Rs [] []) (opt:=[(1,BN),(2,BL),(3,BC)]) (opt':=[]) (lk:=[(0,0),(1,1),(2,2),(3,3),(4,4)]) (lk':=[]) base0 aidJ_ok (LsOk.no rfl) .refl ?_
 rw[ob_dat19,g.w]
 exact ⟨g.a,g.b,g.x,pk hk (by decide) (by decide),pk ha (by decide) (by decide),pick_sem _ (by decide) (by decide),⟨⟨⟨⟨⟨rfl,g.c⟩,⟨rfl,rfl⟩,trivial⟩,⟨⟨rfl,rfl⟩,⟨rfl,rfl⟩,trivial⟩,renR_ob (o:=(setDate o ⟨true,y.b%60⟩ 9)) hM (rN _ rfl) (rL _ rfl) (rC _ rfl),⟨rfl,rfl⟩,trivial⟩,⟨rfl,bn⟩,⟨rfl,bl⟩,⟨rfl,bc⟩,trivial⟩,hq⟩⟩
theorem st_dat20 {y:Rw} {i:Nat} {Rs:List AV} {M N L C:AV} {BN BL BC:Option Blk} (o:Ob) (g:Go1 i Rs y) (hM:closedA M=true) (rN:Rv 1 N) (rL:Rv 2 L) (rC:Rv 3 C) (bn:ClosedOB BN) (bl:ClosedOB BL) (bc:ClosedOB BC) (hk:y.k%9=2) (ha:y.a%10=0):Step (stO (oW (.ofNat i) Rs (obF o M N L C) []) [(1,BN),(2,BL),(3,BC)]) (stO (oW (.ofNat (i+1)) Rs (obF (setDate o ⟨true,y.b%60⟩ 0) M N L C) []) [(1,BN),(2,BL),(3,BC)]):=by
 intro Q hq
 refine ALp.roundO (A:=oA 2 0 y [] [] none []) (V1:=oW (.ofNat (i+1)) Rs (obF (setDate o ⟨true,y.b%60⟩ 0) M N L C) []) (F:=oW (.ofNat i) Rs [] []) (opt:=[(1,BN),(2,BL),(3,BC)]) (opt':=[]) (lk:=[(0,0),(1,1),(2,2),(3,3),(4,4)]) (lk':=[]) base0 aidJ_ok (LsOk.no rfl) .refl ?_
 rw[ob_dat20,g.w]
 exact ⟨g.a,g.b,g.x,pk hk (by decide) (by decide),pk ha (by decide) (by decide),pick_sem _ (by decide) (by decide),⟨⟨⟨⟨⟨rfl,g.c⟩,⟨rfl,rfl⟩,trivial⟩,⟨⟨rfl,rfl⟩,⟨rfl,rfl⟩,trivial⟩,renR_ob (o:=(setDate o ⟨true,y.b%60⟩ 0)) hM (rN _ rfl) (rL _ rfl) (rC _ rfl),⟨rfl,rfl⟩,trivial⟩,⟨rfl,bn⟩,⟨rfl,bl⟩,⟨rfl,bc⟩,trivial⟩,hq⟩⟩
theorem st_dat21 {y:Rw} {i:Nat} {Rs:List AV} {M N L C:AV} {BN BL BC:Option Blk} (o:Ob) (g:Go1 i Rs y) (hM:closedA M=true) (rN:Rv 1 N) (rL:Rv 2 L) (rC:Rv 3 C) (bn:ClosedOB BN) (bl:ClosedOB BL) (bc:ClosedOB BC) (hk:y.k%9=2) (ha:y.a%10=1):Step (stO (oW (.ofNat i) Rs (obF o M N L C) []) [(1,BN),(2,BL),(3,BC)]) (stO (oW (.ofNat (i+1)) Rs (obF (setDate o ⟨true,y.b%60⟩ 1) M N L C) []) [(1,BN),(2,BL),(3,BC)]):=by
 intro Q hq
 refine ALp.roundO (A:=oA 2 1 y [] [] none []) (V1:=oW (.ofNat (i+1)) Rs (obF (setDate o ⟨true,y.b%60⟩ 1) M N L C) []) (F:=oW (.ofNat i) Rs [] []) (opt:=[(1,BN),(2,BL),(3,BC)]) (opt':=[]) (lk:=[(0,0),(1,1),(2,2),(3,3),(4,4)]) (lk':=[]) base0 aidJ_ok (LsOk.no rfl) .refl ?_
 rw[ob_dat21,g.w]
 exact ⟨g.a,g.b,g.x,pk hk (by decide) (by decide),pk ha (by decide) (by decide),pick_sem _ (by decide) (by decide),⟨⟨⟨⟨⟨rfl,g.c⟩,⟨rfl,rfl⟩,trivial⟩,⟨⟨rfl,rfl⟩,⟨rfl,rfl⟩,trivial⟩,renR_ob (o:=(setDate o ⟨true,y.b%60⟩ 1)) hM (rN _ rfl) (rL _ rfl) (rC _ rfl),⟨rfl,rfl⟩,trivial⟩,⟨rfl,bn⟩,⟨rfl,bl⟩,⟨rfl,bc⟩,trivial⟩,hq⟩⟩
theorem st_dat22 {y:Rw} {i:Nat} {Rs:List AV} {M N L C:AV} {BN BL BC:Option Blk} (o:Ob) (g:Go1 i Rs y) (hM:closedA M=true) (rN:Rv 1 N) (rL:Rv 2 L) (rC:Rv 3 C) (bn:ClosedOB BN) (bl:ClosedOB BL) (bc:ClosedOB BC) (hk:y.k%9=2) (ha:y.a%10=2):Step (stO (oW (.ofNat i) Rs (obF o M N L C) []) [(1,BN),(2,BL),(3,BC)]) (stO (oW (.ofNat (i+1)) Rs (obF (setDate o ⟨true,y.b%60⟩ 2) M N L C) []) [(1,BN),(2,BL),(3,BC)]):=by
 intro Q hq
 refine ALp.roundO (A:=oA 2 2 y [] [] none []) (V1:=oW (.ofNat (i+1)) Rs (obF (setDate o ⟨true,y.b%60⟩ 2) M N L C) []) (F:=oW (.ofNat i) Rs [] []) (opt:=[(1,BN),(2,BL),(3,BC)]) (opt':=[]) (lk:=[(0,0),(1,1),(2,2),(3,3),(4,4)]) (lk':=[]) base0 aidJ_ok (LsOk.no rfl) .refl ?_
 rw[ob_dat22,g.w]
 exact ⟨g.a,g.b,g.x,pk hk (by decide) (by decide),pk ha (by decide) (by decide),pick_sem _ (by decide) (by decide),⟨⟨⟨⟨⟨rfl,g.c⟩,⟨rfl,rfl⟩,trivial⟩,⟨⟨rfl,rfl⟩,⟨rfl,rfl⟩,trivial⟩,renR_ob (o:=(setDate o ⟨true,y.b%60⟩ 2)) hM (rN _ rfl) (rL _ rfl) (rC _ rfl),⟨rfl,rfl⟩,trivial⟩,⟨rfl,bn⟩,⟨rfl,bl⟩,⟨rfl,bc⟩,trivial⟩,hq⟩⟩
theorem st_dat23 {y:Rw} {i:Nat} {Rs:List AV} {M N L C:AV} {BN BL BC:Option Blk} (o:Ob) (g:Go1 i Rs y) (hM:closedA M=true) (rN:Rv 1 N) (rL:Rv 2 L) (rC:Rv 3 C) (bn:ClosedOB BN) (bl:ClosedOB BL) (bc:ClosedOB BC) (hk:y.k%9=2) (ha:y.a%10=3):Step (stO (oW (.ofNat i) Rs (obF o M N L C) []) [(1,BN),(2,BL),(3,BC)]) (stO (oW (.ofNat (i+1)) Rs (obF (setDate o ⟨true,y.b%60⟩ 3) M N L C) []) [(1,BN),(2,BL),(3,BC)]):=by
 intro Q hq
 refine ALp.roundO (A:=oA 2 3 y [] [] none []) (V1:=oW (.ofNat (i+1)) Rs (obF (setDate o ⟨true,y.b%60⟩ 3) M N L C) []) (F:=oW (.ofNat i) Rs [] []) (opt:=[(1,BN),(2,BL),(3,BC)]) (opt':=[]) (lk:=[(0,0),(1,1),(2,2),(3,3),(4,4)]) (lk':=[]) base0 aidJ_ok (LsOk.no rfl) .refl ?_
 rw[ob_dat23,g.w]
 exact ⟨g.a,g.b,g.x,pk hk (by decide) (by decide),pk ha (by decide) (by decide),pick_sem _ (by decide) (by decide),⟨⟨⟨⟨⟨rfl,g.c⟩,⟨rfl,rfl⟩,trivial⟩,⟨⟨rfl,rfl⟩,⟨rfl,rfl⟩,trivial⟩,renR_ob (o:=(setDate o ⟨true,y.b%60⟩ 3)) hM (rN _ rfl) (rL _ rfl) (rC _ rfl),⟨rfl,rfl⟩,trivial⟩,⟨rfl,bn⟩,⟨rfl,bl⟩,⟨rfl,bc⟩,trivial⟩,hq⟩⟩
theorem st_dat24 {y:Rw} {i:Nat} {Rs:List AV} {M N L C:AV} {BN BL BC:Option Blk} (o:Ob) (g:Go1 i Rs y) (hM:closedA M=true) (rN:Rv 1 N) (rL:Rv 2 L) (rC:Rv 3 C) (bn:ClosedOB BN) (bl:ClosedOB BL) (bc:ClosedOB BC) (hk:y.k%9=2) (ha:y.a%10=4):Step (stO (oW (.ofNat i) Rs (obF o M N L C) []) [(1,BN),(2,BL),(3,BC)]) (stO (oW (.ofNat (i+1)) Rs (obF (setDate o ⟨true,y.b%60⟩ 4) M N L C) []) [(1,BN),(2,BL),(3,BC)]):=by
 intro Q hq
 refine ALp.roundO (A:=oA 2 4 y [] [] none []) (V1:=oW (.ofNat (i+1)) Rs (obF (setDate o ⟨true,y.b%60⟩ 4) M N L C) []) (F:=oW (.ofNat i) Rs [] []) (opt:=[(1,BN),(2,BL),(3,BC)]) (opt':=[]) (lk:=[(0,0),(1,1),(2,2),(3,3),(4,4)]) (lk':=[]) base0 aidJ_ok (LsOk.no rfl) .refl ?_
 rw[ob_dat24,g.w]
 exact ⟨g.a,g.b,g.x,pk hk (by decide) (by decide),pk ha (by decide) (by decide),pick_sem _ (by decide) (by decide),⟨⟨⟨⟨⟨rfl,g.c⟩,⟨rfl,rfl⟩,trivial⟩,⟨⟨rfl,rfl⟩,⟨rfl,rfl⟩,trivial⟩,renR_ob (o:=(setDate o ⟨true,y.b%60⟩ 4)) hM (rN _ rfl) (rL _ rfl) (rC _ rfl),⟨rfl,rfl⟩,trivial⟩,⟨rfl,bn⟩,⟨rfl,bl⟩,⟨rfl,bc⟩,trivial⟩,hq⟩⟩
theorem st_dat25 {y:Rw} {i:Nat} {Rs:List AV} {M N L C:AV} {BN BL BC:Option Blk} (o:Ob) (g:Go1 i Rs y) (hM:closedA M=true) (rN:Rv 1 N) (rL:Rv 2 L) (rC:Rv 3 C) (bn:ClosedOB BN) (bl:ClosedOB BL) (bc:ClosedOB BC) (hk:y.k%9=2) (ha:y.a%10=5):Step (stO (oW (.ofNat i) Rs (obF o M N L C) []) [(1,BN),(2,BL),(3,BC)]) (stO (oW (.ofNat (i+1)) Rs (obF (setDate o ⟨true,y.b%60⟩ 5) M N L C) []) [(1,BN),(2,BL),(3,BC)]):=by
 intro Q hq
 refine ALp.roundO (A:=oA 2 5 y [] [] none []) (V1:=oW (.ofNat (i+1)) Rs (obF (setDate o ⟨true,y.b%60⟩ 5) M N L C) []) (F:=oW (.ofNat i) Rs [] []) (opt:=[(1,BN),(2,BL),(3,BC)]) (opt':=[]) (lk:=[(0,0),(1,1),(2,2),(3,3),(4,4)]) (lk':=[]) base0 aidJ_ok (LsOk.no rfl) .refl ?_
 rw[ob_dat25,g.w]
 exact ⟨g.a,g.b,g.x,pk hk (by decide) (by decide),pk ha (by decide) (by decide),pick_sem _ (by decide) (by decide),⟨⟨⟨⟨⟨rfl,g.c⟩,⟨rfl,rfl⟩,trivial⟩,⟨⟨rfl,rfl⟩,⟨rfl,rfl⟩,trivial⟩,renR_ob (o:=(setDate o ⟨true,y.b%60⟩ 5)) hM (rN _ rfl) (rL _ rfl) (rC _ rfl),⟨rfl,rfl⟩,trivial⟩,⟨rfl,bn⟩,⟨rfl,bl⟩,⟨rfl,bc⟩,trivial⟩,hq⟩⟩
theorem st_dat26 {y:Rw} {i:Nat} {Rs:List AV} {M N L C:AV} {BN BL BC:Option Blk} (o:Ob) (g:Go1 i Rs y) (hM:closedA M=true) (rN:Rv 1 N) (rL:Rv 2 L) (rC:Rv 3 C) (bn:ClosedOB BN) (bl:ClosedOB BL) (bc:ClosedOB BC) (hk:y.k%9=2) (ha:y.a%10=6):Step (stO (oW (.ofNat i) Rs (obF o M N L C) []) [(1,BN),(2,BL),(3,BC)]) (stO (oW (.ofNat (i+1)) Rs (obF (setDate o ⟨true,y.b%60⟩ 6) M N L C) []) [(1,BN),(2,BL),(3,BC)]):=by
 intro Q hq
 refine ALp.roundO (A:=oA 2 6 y [] [] none []) (V1:=oW (.ofNat (i+1)) Rs (obF (setDate o ⟨true,y.b%60⟩ 6) M N L C) []) (F:=oW (.ofNat i) Rs [] []) (opt:=[(1,BN),(2,BL),(3,BC)]) (opt':=[]) (lk:=[(0,0),(1,1),(2,2),(3,3),(4,4)]) (lk':=[]) base0 aidJ_ok (LsOk.no rfl) .refl ?_
 rw[ob_dat26,g.w]
 exact ⟨g.a,g.b,g.x,pk hk (by decide) (by decide),pk ha (by decide) (by decide),pick_sem _ (by decide) (by decide),⟨⟨⟨⟨⟨rfl,g.c⟩,⟨rfl,rfl⟩,trivial⟩,⟨⟨rfl,rfl⟩,⟨rfl,rfl⟩,trivial⟩,renR_ob (o:=(setDate o ⟨true,y.b%60⟩ 6)) hM (rN _ rfl) (rL _ rfl) (rC _ rfl),⟨rfl,rfl⟩,trivial⟩,⟨rfl,bn⟩,⟨rfl,bl⟩,⟨rfl,bc⟩,trivial⟩,hq⟩⟩
theorem st_dat27 {y:Rw} {i:Nat} {Rs:List AV} {M N L C:AV} {BN BL BC:Option Blk} (o:Ob) (g:Go1 i Rs y) (hM:closedA M=true) (rN:Rv 1 N) (rL:Rv 2 L) (rC:Rv 3 C) (bn:ClosedOB BN) (bl:ClosedOB BL) (bc:ClosedOB BC) (hk:y.k%9=2) (ha:y.a%10=7):Step (stO (oW (.ofNat i) Rs (obF o M N L C) []) [(1,BN),(2,BL),(3,BC)]) (stO (oW (.ofNat (i+1)) Rs (obF (setDate o ⟨true,y.b%60⟩ 7) M N L C) []) [(1,BN),(2,BL),(3,BC)]):=by
 intro Q hq
 refine ALp.roundO (A:=oA 2 7 y [] [] none []) (V1:=oW (.ofNat (i+1)) Rs (obF (setDate o ⟨true,y.b%60⟩ 7) M N L C) []) (F:=oW (.ofNat i) Rs [] []) (opt:=[(1,BN),(2,BL),(3,BC)]) (opt':=[]) (lk:=[(0,0),(1,1),(2,2),(3,3),(4,4)]) (lk':=[]) base0 aidJ_ok (LsOk.no rfl) .refl ?_
 rw[ob_dat27,g.w]
 exact ⟨g.a,g.b,g.x,pk hk (by decide) (by decide),pk ha (by decide) (by decide),pick_sem _ (by decide) (by decide),⟨⟨⟨⟨⟨rfl,g.c⟩,⟨rfl,rfl⟩,trivial⟩,⟨⟨rfl,rfl⟩,⟨rfl,rfl⟩,trivial⟩,renR_ob (o:=(setDate o ⟨true,y.b%60⟩ 7)) hM (rN _ rfl) (rL _ rfl) (rC _ rfl),⟨rfl,rfl⟩,trivial⟩,⟨rfl,bn⟩,⟨rfl,bl⟩,⟨rfl,bc⟩,trivial⟩,hq⟩⟩
theorem st_dat28 {y:Rw} {i:Nat} {Rs:List AV} {M N L C:AV} {BN BL BC:Option Blk} (o:Ob) (g:Go1 i Rs y) (hM:closedA M=true) (rN:Rv 1 N) (rL:Rv 2 L) (rC:Rv 3 C) (bn:ClosedOB BN) (bl:ClosedOB BL) (bc:ClosedOB BC) (hk:y.k%9=2) (ha:y.a%10=8):Step (stO (oW (.ofNat i) Rs (obF o M N L C) []) [(1,BN),(2,BL),(3,BC)]) (stO (oW (.ofNat (i+1)) Rs (obF (setDate o ⟨true,y.b%60⟩ 8) M N L C) []) [(1,BN),(2,BL),(3,BC)]):=by
 intro Q hq
 refine ALp.roundO (A:=oA 2 8 y [] [] none []) (V1:=oW (.ofNat (i+1)) Rs (obF (setDate o ⟨true,y.b%60⟩ 8) M N L C) []) (F:=oW (.ofNat i) Rs [] []) (opt:=[(1,BN),(2,BL),(3,BC)]) (opt':=[]) (lk:=[(0,0),(1,1),(2,2),(3,3),(4,4)]) (lk':=[]) base0 aidJ_ok (LsOk.no rfl) .refl ?_
 rw[ob_dat28,g.w]
 exact ⟨g.a,g.b,g.x,pk hk (by decide) (by decide),pk ha (by decide) (by decide),pick_sem _ (by decide) (by decide),⟨⟨⟨⟨⟨rfl,g.c⟩,⟨rfl,rfl⟩,trivial⟩,⟨⟨rfl,rfl⟩,⟨rfl,rfl⟩,trivial⟩,renR_ob (o:=(setDate o ⟨true,y.b%60⟩ 8)) hM (rN _ rfl) (rL _ rfl) (rC _ rfl),⟨rfl,rfl⟩,trivial⟩,⟨rfl,bn⟩,⟨rfl,bl⟩,⟨rfl,bc⟩,trivial⟩,hq⟩⟩
theorem st_dat29 {y:Rw} {i:Nat} {Rs:List AV} {M N L C:AV} {BN BL BC:Option Blk} (o:Ob) (g:Go1 i Rs y) (hM:closedA M=true) (rN:Rv 1 N) (rL:Rv 2 L) (rC:Rv 3 C) (bn:ClosedOB BN) (bl:ClosedOB BL) (bc:ClosedOB BC) (hk:y.k%9=2) (ha:y.a%10=9):Step (stO (oW (.ofNat i) Rs (obF o M N L C) []) [(1,BN),(2,BL),(3,BC)]) (stO (oW (.ofNat (i+1)) Rs (obF (setDate o ⟨true,y.b%60⟩ 9) M N L C) []) [(1,BN),(2,BL),(3,BC)]):=by
 intro Q hq
 refine ALp.roundO (A:=oA 2 9 y [] [] none []) (V1:=oW (.ofNat (i+1)) Rs (obF (setDate o ⟨true,y.b%60⟩ 9) M N L C) []) (F:=oW (.ofNat i) Rs [] []) (opt:=[(1,BN),(2,BL),(3,BC)]) (opt':=[]) (lk:=[(0,0),(1,1),(2,2),(3,3),(4,4)]) (lk':=[]) base0 aidJ_ok (LsOk.no rfl) .refl ?_
 rw[ob_dat29,g.w]
 exact ⟨g.a,g.b,g.x,pk hk (by decide) (by decide),pk ha (by decide) (by decide),pick_sem _ (by decide) (by decide),⟨⟨⟨⟨⟨rfl,g.c⟩,⟨rfl,rfl⟩,trivial⟩,⟨⟨rfl,rfl⟩,⟨rfl,rfl⟩,trivial⟩,renR_ob (o:=(setDate o ⟨true,y.b%60⟩ 9)) hM (rN _ rfl) (rL _ rfl) (rC _ rfl),⟨rfl,rfl⟩,trivial⟩,⟨rfl,bn⟩,⟨rfl,bl⟩,⟨rfl,bc⟩,trivial⟩,hq⟩⟩
def limOb (o:Ob) (y:Rw):Ob:={o with lh:=true,lt:=1+y.a%50,lc:=1+y.a%50-y.b%(1+y.a%50+1),lu:=1+y.c%2}
theorem st_lim {y:Rw} {i:Nat} {Rs:List AV} {M N L C:AV} {BN BL BC:Option Blk} (o:Ob) (g:Go1 i Rs y) (hM:closedA M=true) (rN:Rv 1 N) (rL:Rv 2 L) (rC:Rv 3 C) (bn:ClosedOB BN) (bl:ClosedOB BL) (bc:ClosedOB BC) (hk:y.k%9=5):Step (stO (oW (.ofNat i) Rs (obF o M N L C) []) [(1,BN),(2,BL),(3,BC)]) (stO (oW (.ofNat (i+1)) Rs (obF (limOb o y) M N L C) []) [(1,BN),(2,BL),(3,BC)]):=by
 intro Q hq
 refine ALp.roundO (A:=oA 5 0 y [] [] none []) (V1:=oW (.ofNat (i+1)) Rs (obF (limOb o y) M N L C) []) (F:=oW (.ofNat i) Rs [] []) (opt:=[(1,BN),(2,BL),(3,BC)]) (opt':=[]) (lk:=[(0,0),(1,1),(2,2),(3,3),(4,4)]) (lk':=[]) base0 aidJ_ok (LsOk.no rfl) .refl ?_
 have q1:=Int.emod_nonneg y.a (b:=50) (by decide)
 have q2:=Int.emod_lt_of_pos y.a (b:=50) (by decide)
 have q3:=Int.emod_nonneg y.b (b:=1+y.a%50+1) (by omega)
 have q4:=Int.emod_lt_of_pos y.b (b:=1+y.a%50+1) (by omega)
 have q5:=Int.emod_nonneg y.c (b:=2) (by decide)
 have q6:=Int.emod_lt_of_pos y.c (b:=2) (by decide)
 have w1:wrapA .i64 (1+y.a%50)=1+y.a%50:=wrapA_i64 (by omega) (by omega)
 have w2:wrapA .i64 (1+y.a%50+1)=1+y.a%50+1:=wrapA_i64 (by omega) (by omega)
 have w3:wrapA .i64 (1+y.a%50-y.b%(1+y.a%50+1))=1+y.a%50-y.b%(1+y.a%50+1):=wrapA_i64 (by omega) (by omega)
 have w4:wrapA .i64 (1+y.c%2)=1+y.c%2:=wrapA_i64 (by omega) (by omega)
 rw[ob_lim,g.w,w1,w2,w3,w4]
 exact ⟨g.a,g.b,g.x,pk hk (by decide) (by decide),pick_sem _ (by decide) (by decide),pick_sem _ (by omega) (by omega),pick_sem _ (by decide) (by decide),⟨⟨⟨⟨⟨rfl,g.c⟩,⟨rfl,rfl⟩,trivial⟩,⟨⟨rfl,rfl⟩,⟨rfl,rfl⟩,trivial⟩,renR_ob (o:=(limOb o y)) hM (rN _ rfl) (rL _ rfl) (rC _ rfl),⟨rfl,rfl⟩,trivial⟩,⟨rfl,bn⟩,⟨rfl,bl⟩,⟨rfl,bc⟩,trivial⟩,hq⟩⟩
def msL:List (List UInt8):=[[],[109],[108,111,115,116]]
def whyOb (o:Ob) (y:Rw):Ob:={o with why:=1+y.a%7,msg:=ofL msL [] y.b}
theorem idx_ms (n:Int):indexA Tryz.prog 110 (.agg (msL.map .str)) (I (n%3))=some (.str (ofL msL [] n)):=
 idx_pick (T:=110) (d:=[]) (l:=msL) (f:= .str) (by decide) fun k x h=>by
  match k,h with
  |0,h=>obtain rfl:_=x:=Option.some.inj h;show indexA _ _ _ _=_;kernel_rfl
  |1,h=>obtain rfl:_=x:=Option.some.inj h;show indexA _ _ _ _=_;kernel_rfl
  |2,h=>obtain rfl:_=x:=Option.some.inj h;show indexA _ _ _ _=_;kernel_rfl
theorem st_why {y:Rw} {i:Nat} {Rs:List AV} {M N L C:AV} {BN BL BC:Option Blk} (o:Ob) (g:Go1 i Rs y) (hM:closedA M=true) (rN:Rv 1 N) (rL:Rv 2 L) (rC:Rv 3 C) (bn:ClosedOB BN) (bl:ClosedOB BL) (bc:ClosedOB BC) (hk:y.k%9=7):Step (stO (oW (.ofNat i) Rs (obF o M N L C) []) [(1,BN),(2,BL),(3,BC)]) (stO (oW (.ofNat (i+1)) Rs (obF (whyOb o y) M N L C) []) [(1,BN),(2,BL),(3,BC)]):=by
 intro Q hq
 refine ALp.roundO (A:=oA 7 0 y [(40,4,.res (.str (ofL msL [] y.b)))] [] none []) (V1:=oW (.ofNat (i+1)) Rs (obF (whyOb o y) M N L C) []) (F:=oW (.ofNat i) Rs [] []) (opt:=[(1,BN),(2,BL),(3,BC)]) (opt':=[]) (lk:=[(0,0),(1,1),(2,2),(3,3),(4,4)]) (lk':=[]) base0 aidJ_ok (LsOk.no rfl) .refl ?_
 have q1:=Int.emod_nonneg y.a (b:=7) (by decide)
 have q2:=Int.emod_lt_of_pos y.a (b:=7) (by decide)
 have w1:wrapA .i64 (1+y.a%7)=1+y.a%7:=wrapA_i64 (by omega) (by omega)
 rw[ob_why,g.w,w1]
 exact ⟨g.a,g.b,g.x,pk hk (by decide) (by decide),pick_sem _ (by decide) (by decide),pick_sem _ (by decide) (by decide),idx_ms _,⟨⟨⟨⟨⟨rfl,g.c⟩,⟨rfl,rfl⟩,trivial⟩,⟨⟨rfl,rfl⟩,⟨rfl,rfl⟩,trivial⟩,renR_ob (o:=(whyOb o y)) hM (rN _ rfl) (rL _ rfl) (rC _ rfl),⟨rfl,rfl⟩,trivial⟩,⟨rfl,bn⟩,⟨rfl,bl⟩,⟨rfl,bc⟩,trivial⟩,hq⟩⟩
def arcOb (o:Ob) (y:Rw):Ob:={o with arch:=beqInt (y.a.tmod 3) 0}
theorem st_arc {y:Rw} {i:Nat} {Rs:List AV} {M N L C:AV} {BN BL BC:Option Blk} (o:Ob) (g:Go1 i Rs y) (hM:closedA M=true) (rN:Rv 1 N) (rL:Rv 2 L) (rC:Rv 3 C) (bn:ClosedOB BN) (bl:ClosedOB BL) (bc:ClosedOB BC) (hk:y.k%9=8):Step (stO (oW (.ofNat i) Rs (obF o M N L C) []) [(1,BN),(2,BL),(3,BC)]) (stO (oW (.ofNat (i+1)) Rs (obF (arcOb o y) M N L C) []) [(1,BN),(2,BL),(3,BC)]):=by
 intro Q hq
 refine ALp.roundO (A:=oA 8 0 y [] [] none []) (V1:=oW (.ofNat (i+1)) Rs (obF (arcOb o y) M N L C) []) (F:=oW (.ofNat i) Rs [] []) (opt:=[(1,BN),(2,BL),(3,BC)]) (opt':=[]) (lk:=[(0,0),(1,1),(2,2),(3,3),(4,4)]) (lk':=[]) base0 aidJ_ok (LsOk.no rfl) .refl ?_
 rw[ob_arc,g.w]
 exact ⟨g.a,g.b,g.x,pk hk (by decide) (by decide),⟨⟨⟨⟨⟨rfl,g.c⟩,⟨rfl,rfl⟩,trivial⟩,⟨⟨rfl,rfl⟩,⟨rfl,rfl⟩,trivial⟩,renR_ob (o:=(arcOb o y)) hM (rN _ rfl) (rL _ rfl) (rC _ rfl),⟨rfl,rfl⟩,trivial⟩,⟨rfl,bn⟩,⟨rfl,bl⟩,⟨rfl,bc⟩,trivial⟩,hq⟩⟩
def nmL:List (List UInt8):=[[111,110,101],[116,119,111],[116,104,114,101,101],[102,111,117,114],[102,105,118,101]]
theorem idx_nm (n:Int):indexA Tryz.prog 106 (.agg (nmL.map .str)) (I (n%5))=some (.str (ofL nmL [] n)):=
 idx_pick (T:=106) (d:=[]) (l:=nmL) (f:= .str) (by decide) fun k x h=>by
  match k,h with
  |0,h=>obtain rfl:_=x:=Option.some.inj h;show indexA _ _ _ _=_;kernel_rfl
  |1,h=>obtain rfl:_=x:=Option.some.inj h;show indexA _ _ _ _=_;kernel_rfl
  |2,h=>obtain rfl:_=x:=Option.some.inj h;show indexA _ _ _ _=_;kernel_rfl
  |3,h=>obtain rfl:_=x:=Option.some.inj h;show indexA _ _ _ _=_;kernel_rfl
  |4,h=>obtain rfl:_=x:=Option.some.inj h;show indexA _ _ _ _=_;kernel_rfl
theorem st_nam0 {y:Rw} {i:Nat} {Rs:List AV} {M L C:AV} {BL BC:Option Blk} (o:Ob) (g:Go1 i Rs y) (hM:closedA M=true) (rL:Rv 2 L) (rC:Rv 3 C) (bl:ClosedOB BL) (bc:ClosedOB BC) (hk:y.k%9=3):Step (stO (oW (.ofNat i) Rs (obF o M .nilsl L C) []) [(2,BL),(3,BC)]) (stO (oW (.ofNat (i+1)) Rs (obF o M (.rsl true 1 0 1 1) L C) [(1,.cells [.str (ofL nmL [] y.a)],.whole)]) [(2,BL),(3,BC)]):=by
 intro Q hq
 refine ALp.roundO (A:=oA 3 0 y [(14,4,.res (.str (ofL nmL [] y.a)))] [] (some (.val (.bool false))) []) (V1:=oW (.ofNat (i+1)) Rs (obF o M (.rsl true 1 0 1 1) L C) [(1,.cells [.str (ofL nmL [] y.a)],.whole)]) (F:=oW (.ofNat i) Rs [] []) (opt:=[(2,BL),(3,BC)]) (opt':=[]) (lk:=[(0,0),(1,46),(2,2),(3,3),(4,4)]) (lk':=[]) base0 aidJ_ok (LsOk.no rfl) .refl ?_
 rw[ob_nam0,g.w]
 exact ⟨g.a,g.b,g.x,pk hk (by decide) (by decide),pick_sem _ (by decide) (by decide),idx_nm _,in_none _,⟨⟨⟨⟨⟨rfl,g.c⟩,⟨rfl,rfl⟩,trivial⟩,⟨⟨rfl,rfl⟩,⟨rfl,rfl⟩,trivial⟩,renR_ob (o:=o) hM (.rsl _ _ _ _ _ _ rfl) (rL _ rfl) (rC _ rfl),⟨rfl,rfl⟩,⟨rfl,rfl⟩,trivial⟩,⟨rfl,bl⟩,⟨rfl,bc⟩,trivial⟩,hq⟩⟩
theorem st_nam1t {y:Rw} {i:Nat} {Rs:List AV} {M L C:AV} {BL BC:Option Blk} (o:Ob) (g:Go1 i Rs y) (hM:closedA M=true) (rL:Rv 2 L) (rC:Rv 3 C) (bl:ClosedOB BL) (bc:ClosedOB BC) (hk:y.k%9=3) {l:List (List UInt8)} (hl:l.length≤1000) (hin:inL' l (ofL nmL [] y.a)=true):Step (stO (oW (.ofNat i) Rs (obF o M (.rsl true 1 0 l.length 1) L C) [(1,.cells (l.map .str),.whole)]) [(2,BL),(3,BC)]) (stO (oW (.ofNat (i+1)) Rs (obF o M (.rsl true 1 0 l.length 1) L C) [(1,.cells (l.map .str),.whole)]) [(2,BL),(3,BC)]):=by
 intro Q hq
 refine ALp.roundO (A:=oA 3 0 y [(14,4,.res (.str (ofL nmL [] y.a)))] [] (some (.part [1] (.bool true) [(1,some (.cells (l.map .str)))] 20)) []) (V1:=oW (.ofNat (i+1)) Rs (obF o M (.rsl true 1 0 l.length 1) L C) [(1,.cells (l.map .str),.whole)]) (F:=oW (.ofNat i) Rs [] []) (opt:=[(2,BL),(3,BC)]) (opt':=[]) (lk:=[(0,0),(1,1),(2,2),(3,3),(4,4)]) (lk':=[]) base0 aidJ_ok (LsOk.no rfl) .refl ?_
 rw[ob_nam1t,g.w]
 exact ⟨g.a,g.b,g.x,pk hk (by decide) (by decide),pick_sem _ (by decide) (by decide),idx_nm _,hin▸in_body l _ hl,⟨⟨⟨⟨⟨rfl,g.c⟩,⟨rfl,rfl⟩,trivial⟩,⟨⟨rfl,rfl⟩,⟨rfl,rfl⟩,trivial⟩,renR_ob (o:=o) hM (.rsl _ _ _ _ _ _ rfl) (rL _ rfl) (rC _ rfl),⟨rfl,rfl⟩,⟨rfl,closed_strs l⟩,trivial⟩,⟨rfl,bl⟩,⟨rfl,bc⟩,trivial⟩,hq⟩⟩
theorem st_nam1f {y:Rw} {i:Nat} {Rs:List AV} {M L C:AV} {BL BC:Option Blk} (o:Ob) (g:Go1 i Rs y) (hM:closedA M=true) (rL:Rv 2 L) (rC:Rv 3 C) (bl:ClosedOB BL) (bc:ClosedOB BC) (hk:y.k%9=3) {l:List (List UInt8)} (hl:l.length≤1000) (hin:inL' l (ofL nmL [] y.a)=false):Step (stO (oW (.ofNat i) Rs (obF o M (.rsl true 1 0 l.length 1) L C) [(1,.cells (l.map .str),.whole)]) [(2,BL),(3,BC)]) (stO (oW (.ofNat (i+1)) Rs (obF o M (.rsl true 1 0 (l.length+1) 1) L C) [(1,.cells (l.map .str++[.str (ofL nmL [] y.a)]),.whole)]) [(2,BL),(3,BC)]):=by
 intro Q hq
 refine ALp.roundO (A:=oA 3 0 y [(14,4,.res (.str (ofL nmL [] y.a)))] [] (some (.part [1] (.bool false) [(1,some (.cells (l.map .str)))] 20)) []) (V1:=oW (.ofNat (i+1)) Rs (obF o M (.rsl true 1 0 (l.length+1) 1) L C) [(1,.cells (l.map .str++[.str (ofL nmL [] y.a)]),.whole)]) (F:=oW (.ofNat i) Rs [] []) (opt:=[(2,BL),(3,BC)]) (opt':=[]) (lk:=[(0,0),(1,66),(2,2),(3,3),(4,4)]) (lk':=[]) base0 aidJ_ok (LsOk.no rfl) .refl ?_
 rw[ob_nam1f,g.w]
 exact ⟨g.a,g.b,g.x,pk hk (by decide) (by decide),pick_sem _ (by decide) (by decide),idx_nm _,hin▸in_body l _ hl,oblB_of (by simp[allSize,allOne,flat,AV.cells,lenN];omega) (oblB_of (by simp[lenN_eq]) ⟨⟨⟨⟨⟨rfl,g.c⟩,⟨rfl,rfl⟩,trivial⟩,⟨⟨rfl,rfl⟩,⟨rfl,rfl⟩,trivial⟩,renR_ob (o:=o) hM (.rsl _ _ _ _ _ _ rfl) (rL _ rfl) (rC _ rfl),⟨rfl,rfl⟩,⟨rfl,by simp[closedAll_append,closed_strs];rfl⟩,trivial⟩,⟨rfl,bl⟩,⟨rfl,bc⟩,trivial⟩,hq⟩)⟩
noncomputable section
def lsV0 (i:Int) (Ls Ps:List AV):View:=⟨[(0,.fsl false Ls),(1,.fsl false Ps),(5,.nilsl),(6,I i)],[],[],0,48⟩
def lsV1 (i:Int) (Ls Ps:List AV) (k:Nat) (es:List AV):View:=⟨[(0,.fsl false Ls),(1,.fsl false Ps),(6,I i)],[(5,.rsl true 0 0 k 37)],[(0,.cells es,.whole)],1,48⟩
def lsA (y:Rw) (p:Int) (Ws O:List AV) (s:List UInt8):Aid:=aidJ [(5,2,.res (.fptr (rwC y) 0)),(6,2,.res (.fptr (rwC y) 0)),(6,6,.res (.fsl false Ws)),(7,4,.res (.str s))] [] (manyS [(23,I p),(22,.agg O)]) [] []
@[simp] abbrev zd1 (Ls:List AV):=(AV.fsl false Ls=AV.fsl false Ls∧closedA (AV.fsl false Ls)=true)
@[simp] abbrev zd2 (Ps:List AV):=(AV.fsl false Ps=AV.fsl false Ps∧closedA (AV.fsl false Ps)=true)
@[simp] abbrev zd4:=(AV.nilsl=AV.nilsl∧true=true)
abbrev zd5 (y:Rw):=[I y.1,I y.2,I y.3,I y.4]
@[simp] abbrev zd6 (Ls Ps:List AV) (Q:AExit→St→Prop) (i:Int):=((((zd1 Ls)∧(zd2 Ps)∧zd4∧(I i=I i∧closedA (I i)=true)∧True)∧True∧True)∧Q (AExit.exit 0) (lsV0 i Ls Ps).st)
theorem ls_0 (y:Rw) (i j p:Int) (Ls Ps Ws es':List AV) (o:Ob) (M N L C:AV) (s:List UInt8) (Nx:Prop) (Q:AExit→St→Prop):wpK Tryz.prog opts0 40 (lsA y p Ws (obF o M N L C) s) (lpCode Tryz.prog 50 4) (lsV0 i Ls Ps).st (roundP 0 [(0,39)] (lsV1 j Ls Ps 1 es') Nx [] (lsV0 i Ls Ps) Q)=
  (mtB (ltInt i (Int.ofNat (lenN Ls))) (mtB (ltInt i 12) (indexAddrA Tryz.prog 22 (AV.fsl false Ls) (I i)=some (AV.fptr (zd5 y) 0)∧SC 23 [I y.2,I (wrapA IntKind.i64 (Int.ofNat (lenN Ps)+1))] (I p)∧indexAddrA Tryz.prog 22 (AV.fsl false Ls) (I i)=some (AV.fptr (zd5 y) 0)∧sliceA Tryz.prog 22 (AV.fsl false Ps) none (some (I p)) none=some (Eff.val (AV.fsl false Ws))∧SC 22 [AV.agg (zd5 y),AV.fsl false Ws] (AV.agg (obF o M N L C))∧oblB (fitsT Tryz.prog 33 (AV.agg (obF o M N L C)) 37) (convA Tryz.prog 23 9 (AV.fsl true [AV.int IntKind.u8 (wrapA IntKind.u8 (wrapA IntKind.i64 (97+i)))])=some (Eff.val (AV.str s))∧oblB ((1+lenN s).ble 9223372036854775807) ((((zd1 Ls)∧(zd2 Ps)∧(I (wrapA IntKind.i64 (i+1))=I j∧closedA (I j)=true)∧True)∧((true=true∧some 39=some 39∧0=0∧1=lenN [AV.agg (obF {o with id:=([107]++s)} M N L C)]∧37=37)∧True)∧(flat [AV.agg (obF {o with id:=([107]++s)} M N L C)]=es'∧closedAll es'=true)∧True)∧Nx))) (zd6 Ls Ps Q i)) (zd6 Ls Ps Q i)):=by kernel_rfl
@[simp] abbrev zd3 (Ls Ps es:List AV) (Q:AExit→St→Prop) (i:Int) (k:Nat):=((((zd1 Ls)∧(zd2 Ps)∧(I i=I i∧closedA (I i)=true)∧True)∧((true=true∧some 0=some 0∧0=0∧k=k∧37=37)∧True)∧(es=es∧closedAll es=true)∧True)∧Q (AExit.exit 0) (lsV1 i Ls Ps k es).st)
theorem ls_1 (y:Rw) (i j p:Int) (k:Nat) (Ls Ps Ws es es':List AV) (o:Ob) (M N L C:AV) (s:List UInt8) (Nx:Prop) (Q:AExit→St→Prop):wpK Tryz.prog opts0 40 (lsA y p Ws (obF o M N L C) s) (lpCode Tryz.prog 50 4) (lsV1 i Ls Ps k es).st (roundP 0 [(0,40)] (lsV1 j Ls Ps (k+1) es') Nx [(0,0)] (lsV1 i Ls Ps k es) Q)=
  (mtB (ltInt i (Int.ofNat (lenN Ls))) (mtB (ltInt i 12) (indexAddrA Tryz.prog 22 (AV.fsl false Ls) (I i)=some (AV.fptr (zd5 y) 0)∧SC 23 [I y.2,I (wrapA IntKind.i64 (Int.ofNat (lenN Ps)+1))] (I p)∧indexAddrA Tryz.prog 22 (AV.fsl false Ls) (I i)=some (AV.fptr (zd5 y) 0)∧sliceA Tryz.prog 22 (AV.fsl false Ps) none (some (I p)) none=some (Eff.val (AV.fsl false Ws))∧SC 22 [AV.agg (zd5 y),AV.fsl false Ws] (AV.agg (obF o M N L C))∧oblB (fitsT Tryz.prog 33 (AV.agg (obF o M N L C)) 37) (convA Tryz.prog 23 9 (AV.fsl true [AV.int IntKind.u8 (wrapA IntKind.u8 (wrapA IntKind.i64 (97+i)))])=some (Eff.val (AV.str s))∧oblB ((1+lenN s).ble 9223372036854775807) (oblB (allSize 37 [AV.agg (obF {o with id:=([107]++s)} M N L C)]&&(((k+lenN [AV.agg (obF {o with id:=([107]++s)} M N L C)])*376).ble 140737488355328&&(allOne (flat [AV.agg (obF {o with id:=([107]++s)} M N L C)])&&true))) (oblB ((lenN es).beq (k*37)) ((((zd1 Ls)∧(zd2 Ps)∧(I (wrapA IntKind.i64 (i+1))=I j∧closedA (I j)=true)∧True)∧((true=true∧some 40=some 40∧0=0∧k+1=k+lenN [AV.agg (obF {o with id:=([107]++s)} M N L C)]∧37=37)∧True)∧(es++flat [AV.agg (obF {o with id:=([107]++s)} M N L C)]=es'∧closedAll es'=true)∧True)∧Nx))))) (zd3 Ls Ps es Q i k)) (zd3 Ls Ps es Q i k)):=by kernel_rfl
def lsL (V W:View):LoopS:=fun st Q=>seesK 0 [] V st∧Q (.exit 0) W.st
@[simp] abbrev zd7 (Ls Ps:List AV):=(((zd1 Ls)∧(zd2 Ps)∧zd4∧(I 0=I 0∧true=true)∧True)∧True∧True)
theorem ls_fn0 (i:Int) (Ls Ps:List AV) (Q:AV→Heap→Prop):fnK Tryz.prog opts0 40 (aidJ [] [(4,lsL (lsV0 0 Ls Ps) (lsV0 i Ls Ps))] noSem [] []) 50 [.fsl false Ls,.fsl false Ps] [] 0 (fun v H _=>Q v H)=
  ((zd7 Ls Ps)∧Q AV.nilsl []):=by kernel_rfl
theorem ls_fn1 (i:Int) (Ls Ps:List AV) (k:Nat) (es:List AV) (Q:AV→Heap→Prop):fnK Tryz.prog opts0 40 (aidJ [] [(4,lsL (lsV0 0 Ls Ps) (lsV1 i Ls Ps k es))] noSem [] []) 50 [.fsl false Ls,.fsl false Ps] [] 0 (fun v H _=>Q v H)=
  ((zd7 Ls Ps)∧Q (AV.rsl true 0 0 k 37) [(0,some (Blk.cells es))]):=by kernel_rfl
end
end Go.Proofs.YtjhggnebkfpgcaaGreatDoor
