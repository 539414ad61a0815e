/- Of, Of2, OSame, Obj4, Bytes, Obj5. -/
import Derived.Test.YtjhggnebkfpgcaaGreatDoorQ4
import Derived.Test.YtjhggnebkfpgcaaGreatDoorG5
import Derived.KernelRfl
import Derived.Test.YtjhggnebkfpgcaaGreatDoorQ2
import Derived.Test.YtjhggnebkfpgcaaGreatDoorQ1
namespace Go.Proofs.YtjhggnebkfpgcaaGreatDoor
set_option maxRecDepth 20000
open Go Go.RowKit
open Go.Proofs.Abs
noncomputable section
def ofV0 (i n:Int) (Ls W:List AV):View:=⟨[(11,.fsl false Ls),(12,I n),(13,I i),(5,.nilsl)],[(2,.ptr 0 0)],[(0,.cells W,.whole)],1,28⟩
def ofV1 (i n:Int) (k:Nat) (Ls W es:List AV):View:=⟨[(11,.fsl false Ls),(12,I n),(13,I i)],[(2,.ptr 0 0),(5,.rsl true 1 0 k 7)],[(0,.cells W,.whole),(1,.cells es,.whole)],2,28⟩
def ofA (x:List AV) (ls:List (Nat × LoopS)):Aid:=aidJ [(4,1,.res (.fptr x 0))] ls noSem [] []
@[simp] abbrev ze1 (a d g m p r re ro:AV) (h:RowH):=([AV.str h.1,I h.2,AV.bool h.3,AV.bool h.4,a,m,re,g,r,p,d,ro]=[AV.str h.1,I h.2,AV.bool h.3,AV.bool h.4,a,m,re,g,r,p,d,ro]∧closedAll [AV.str h.1,I h.2,AV.bool h.3,AV.bool h.4,a,m,re,g,r,p,d,ro]=true)
abbrev ze3 (D K:List AV) (h:RowH) (i q t y:Int):=[AV.agg [AV.str h.1,I i,I t,I y,I q,AV.fsl false D,AV.fsl false K]]
@[simp] abbrev ze4 (Ls:List AV):=(AV.fsl false Ls=AV.fsl false Ls∧closedA (AV.fsl false Ls)=true)
@[simp] abbrev ze6:=(some 0=some 0∧0=0)
@[simp] abbrev ze7 (n:Int):=(I n=I n∧closedA (I n)=true)
theorem of_r0 (h:RowH) (a m re g r p d ro:AV) (i n j:Int) (Ls D K:List AV) (t y q:Int) (es:List AV) (N:Prop) (Q:AExit→St→Prop):wpK Tryz.prog opts0 40 (ofA (itF t y q D K) []) (lpCode Tryz.prog 83 4) (ofV0 i n Ls (rowW h a m re g r p d ro)).st (roundP 0 [(0,0),(1,15)] (ofV1 j n 1 Ls (rowW h a m re g r p d ro) es) N [(0,0)] (ofV0 i n Ls (rowW h a m re g r p d ro)) Q)=
  (mtB (ltInt i n) (indexAddrA Tryz.prog 35 (AV.fsl false Ls) (I i)=some (AV.fptr [I t,I y,I q,AV.fsl false D,AV.fsl false K] 0)∧(((ze4 Ls)∧(ze7 n)∧(I (wrapA IntKind.i64 (i+1))=I j∧closedA (I j)=true)∧True)∧(ze6∧(true=true∧some 15=some 15∧0=0∧1=lenN (ze3 D K h i q t y)∧7=7)∧True)∧(ze1 a d g m p r re ro h)∧(flat (ze3 D K h i q t y)=es∧closedAll es=true)∧True)∧N) ((((ze4 Ls)∧(ze7 n)∧(I i=I i∧closedA (I i)=true)∧(AV.nilsl=AV.nilsl∧true=true)∧True)∧(ze6∧True)∧(ze1 a d g m p r re ro h)∧True)∧Q (AExit.exit 0) (ofV0 i n Ls (rowW h a m re g r p d ro)).st)):=by kernel_rfl
theorem of_r1 (h:RowH) (a m re g r p d ro:AV) (i n j:Int) (k k':Nat) (Ls D K:List AV) (t y q:Int) (es es':List AV) (N:Prop) (Q:AExit→St→Prop):wpK Tryz.prog opts0 40 (ofA (itF t y q D K) []) (lpCode Tryz.prog 83 4) (ofV1 i n k Ls (rowW h a m re g r p d ro) es).st (roundP 0 [(0,0),(1,16)] (ofV1 j n k' Ls (rowW h a m re g r p d ro) es') N [(0,0),(1,1)] (ofV1 i n k Ls (rowW h a m re g r p d ro) es) Q)=
  (mtB (ltInt i n) (indexAddrA Tryz.prog 35 (AV.fsl false Ls) (I i)=some (AV.fptr [I t,I y,I q,AV.fsl false D,AV.fsl false K] 0)∧oblB (allSize 7 (ze3 D K h i q t y)&&(((k+lenN (ze3 D K h i q t y))*96).ble 140737488355328&&(allOne (flat (ze3 D K h i q t y))&&true))) (oblB ((lenN es).beq (k*7)) ((((ze4 Ls)∧(ze7 n)∧(I (wrapA IntKind.i64 (i+1))=I j∧closedA (I j)=true)∧True)∧(ze6∧(true=true∧some 16=some 16∧0=0∧k'=k+lenN (ze3 D K h i q t y)∧7=7)∧True)∧(ze1 a d g m p r re ro h)∧(es++flat (ze3 D K h i q t y)=es'∧closedAll es'=true)∧True)∧N))) ((((ze4 Ls)∧(ze7 n)∧(I i=I i∧closedA (I i)=true)∧True)∧(ze6∧(true=true∧some 1=some 1∧0=0∧k=k∧7=7)∧True)∧(ze1 a d g m p r re ro h)∧(es=es∧closedAll es=true)∧True)∧Q (AExit.exit 0) (ofV1 i n k Ls (rowW h a m re g r p d ro) es).st)):=by kernel_rfl
def ofL0 (i n:Int) (Ls W:List AV):LoopS:=fun st Q=>seesK 0 [(0,0)] (ofV0 0 n Ls W) st∧Q (.exit 0) (ofV0 i n Ls W).st
def ofL1 (i n:Int) (k:Nat) (Ls W es:List AV):LoopS:=fun st Q=>seesK 0 [(0,0)] (ofV0 0 n Ls W) st∧Q (.exit 0) (ofV1 i n k Ls W es).st
def ofG (Ls:List AV) (ls:List (Nat × LoopS)):Aid:=aidJ [] ls (fun _ args _ _=>match args with| .agg _::_=>some (.val (.fsl false Ls))|_=>none) [] []
abbrev ze5 (a d m p r re ro:AV) (c:List AV) (g:Nat) (h:RowH):=[AV.str h.1,I h.2,AV.bool h.3,AV.bool h.4,a,m,re,AV.func (Fn.func g) [] c,r,p,d,ro]
@[simp] abbrev ze2 (Ls c:List AV) (a d m p r re ro:AV) (g:Nat) (h:RowH):=(((ze4 Ls)∧(I (Int.ofNat (lenN Ls))=I (Int.ofNat (lenN Ls))∧closedA (I (Int.ofNat (lenN Ls)))=true)∧(I 0=I 0∧true=true)∧(AV.nilsl=AV.nilsl∧true=true)∧True)∧(ze6∧True)∧((ze5 a d m p r re ro c g h)=(ze5 a d m p r re ro c g h)∧closedAll (ze5 a d m p r re ro c g h)=true)∧True)
theorem of_fn0 (h:RowH) (a m re r p d ro:AV) (g:Nat) (c:List AV) (i:Int) (Ls:List AV) (o:Ob) (M N L C:AV) (Q:AV→Heap→Prop):fnK Tryz.prog opts0 40 (ofG Ls [(4,ofL0 i (.ofNat (lenN Ls)) Ls (rowW h a m re (fnC g c) r p d ro))]) 83 [.agg (rowW h a m re (fnC g c) r p d ro),.agg (obF o M N L C)] [] 0 (fun v H _=>Q v H)=
  (SC g (AV.agg (obF o M N L C)::c) (AV.fsl false Ls)∧(ze2 Ls c a d m p r re ro g h)∧Q AV.nilsl [(0,some (Blk.cells (ze5 a d m p r re ro c g h)))]):=by kernel_rfl
theorem of_fn1 (h:RowH) (a m re r p d ro:AV) (g:Nat) (c:List AV) (i:Int) (k:Nat) (Ls es:List AV) (o:Ob) (M N L C:AV) (Q:AV→Heap→Prop):fnK Tryz.prog opts0 40 (ofG Ls [(4,ofL1 i (.ofNat (lenN Ls)) k Ls (rowW h a m re (fnC g c) r p d ro) es)]) 83 [.agg (rowW h a m re (fnC g c) r p d ro),.agg (obF o M N L C)] [] 0 (fun v H _=>Q v H)=
  (SC g (AV.agg (obF o M N L C)::c) (AV.fsl false Ls)∧(ze2 Ls c a d m p r re ro g h)∧Q (AV.rsl true 1 0 k 7) [(0,some (Blk.cells (ze5 a d m p r re ro c g h))),(1,some (Blk.cells es))]):=by kernel_rfl
def tellL (s:List UInt8):List It→Nat→List At
 |[],_=>[]
 |v::r,i=>⟨s,.ofNat i,v⟩::tellL s r (i+1)
theorem tell_length (s:List UInt8):∀ (l:List It) (i:Nat),(tellL s l i).length=l.length
 |[],_=>rfl
 |_::r,i=>congrArg (· +1) (tell_length s r (i+1))
theorem flat_at:∀l:List At,(flat (l.map atA)).length=l.length*7
 |[]=>rfl
 |⟨_,_,⟨_,_,_,_,_⟩⟩::r=>by
  have ih:=flat_at r
  rw[List.length_cons,Nat.succ_mul,←ih]
  rfl
theorem closed_ats:∀l:List At,closedAll (l.map atA)=true
 |[]=>rfl
 |a::r=>by rw[List.map_cons,closedAll,closed_atA,closed_ats r];rfl
theorem closed_fat:∀l:List At,closedAll (flat (l.map atA))=true
 |[]=>rfl
 |a::r=>by
  have h:=closed_atA a
  rw[List.map_cons,flat,closedAll_append,closed_fat r,Bool.and_true]
  exact h
theorem good_at (a:At):goodEl 7 (atA a):=by
 obtain ⟨s,i,⟨t,y,n,d,ks⟩⟩:=a
 exact ⟨rfl,rfl⟩
section
variable {h:RowH} {a m re g r p d ro:AV} {l:List It}
theorem of_loop1 (hW:closedAll (rowW h a m re g r p d ro)=true) (hb:l.length≤1000) {Q:AExit→St→Prop}:∀ (z:Nat) (pre:List At),pre.length+z=l.length→Q (.exit 0) (ofV1 (.ofNat l.length) (.ofNat l.length) l.length (itAs l) (rowW h a m re g r p d ro) (flat ((pre++tellL h.nm (l.drop pre.length) pre.length).map atA))).st→ALp Tryz.prog opts0.glob 0 (lpCode Tryz.prog 83 4) (ofV1 (.ofNat pre.length) (.ofNat l.length) pre.length (itAs l) (rowW h a m re g r p d ro) (flat (pre.map atA))).st Q:=by
 have hL:closedA (.fsl false (itAs l))=true:=closed_its l
 intro z
 induction z with
 | zero=>
  intro pre hz hq
  rw[Nat.add_zero] at hz
  rw[List.drop_of_length_le (by omega),show tellL h.nm [] pre.length=[] from rfl,List.append_nil] at hq
  have hz':Int.ofNat pre.length=Int.ofNat l.length:=by rw[hz]
  refine ALp.round (A:=ofA (itF 0 0 0 [] []) []) (V1:=ofV1 (.ofNat pre.length) (.ofNat l.length) pre.length (itAs l) (rowW h a m re g r p d ro) (flat (pre.map atA))) (V2:=ofV1 (.ofNat pre.length) (.ofNat l.length) pre.length (itAs l) (rowW h a m re g r p d ro) (flat (pre.map atA))) (F:=ofV1 (.ofNat pre.length) (.ofNat l.length) pre.length (itAs l) (rowW h a m re g r p d ro) (flat (pre.map atA))) (lk:=[(0,0),(1,16)]) (lk':=[(0,0),(1,1)]) base0 aidJ_ok (LsOk.no rfl) .refl ?_
  rw[of_r1]
  refine mtB_of (fun e=> ?_) (fun _=>⟨⟨⟨⟨rfl,hL⟩,⟨rfl,rfl⟩,⟨rfl,rfl⟩,trivial⟩,⟨⟨rfl,rfl⟩,⟨rfl,rfl,rfl,rfl,rfl⟩,trivial⟩,⟨rfl,hW⟩,⟨rfl,closed_fat pre⟩,trivial⟩, ?_⟩)
  ·have e:=ltInt_iff.1 e
   omega
  ·rw[←hz] at hq
   rw[←hz']
   exact hq
 | succ z ih=>
  intro pre hz hq
  have hi:pre.length<l.length:=by omega
  have g1:=List.getElem?_eq_getElem hi
  rw[List.drop_eq_getElem_cons hi] at hq
  revert g1 hq
  generalize l[pre.length]=x
  obtain ⟨t,y,q,dd,ks⟩:=x
  intro hq g1
  have hn:=ih (pre++[⟨h.nm,.ofNat pre.length,.mk t y q dd ks⟩]) (by simp;omega) (by
   rw[List.append_assoc,List.length_append]
   exact hq)
  have e1:(pre++[(⟨h.nm,.ofNat pre.length,.mk t y q dd ks⟩:At)]).length=pre.length+1:=by simp
  have e2:flat ((pre++[(⟨h.nm,.ofNat pre.length,.mk t y q dd ks⟩:At)]).map atA)=flat (pre.map atA)++flat [.agg [.str h.nm,I (.ofNat pre.length),I t,I y,I q,.fsl false (toBytes dd),.fsl false (itAs ks)]]:=by rw[List.map_append,flat_append];rfl
  rw[e1] at hn
  have hw:wrapA .i64 (Int.ofNat pre.length+1)=Int.ofNat (pre.length+1):=wrapA_i64 (by simp;omega) (by simp;omega)
  refine ALp.round (A:=ofA (itF t y q (toBytes dd) (itAs ks)) []) (V1:=ofV1 (.ofNat (pre.length+1)) (.ofNat l.length) (pre.length+1) (itAs l) (rowW h a m re g r p d ro) (flat ((pre++[(⟨h.nm,.ofNat pre.length,.mk t y q dd ks⟩:At)]).map atA))) (V2:=ofV1 (.ofNat (pre.length+1)) (.ofNat l.length) (pre.length+1) (itAs l) (rowW h a m re g r p d ro) (flat ((pre++[(⟨h.nm,.ofNat pre.length,.mk t y q dd ks⟩:At)]).map atA))) (F:=ofV1 (.ofNat pre.length) (.ofNat l.length) pre.length (itAs l) (rowW h a m re g r p d ro) (flat (pre.map atA))) (lk:=[(0,0),(1,16)]) (lk':=[(0,0),(1,1)]) base0 aidJ_ok (LsOk.no rfl) .refl ?_
  rw[of_r1,hw]
  refine mtB_of (fun _=>⟨idxI g1,oblB_of ?_ (oblB_of ?_ ⟨⟨⟨⟨rfl,hL⟩,⟨rfl,rfl⟩,⟨rfl,rfl⟩,trivial⟩,⟨⟨rfl,rfl⟩,⟨rfl,rfl,rfl,rfl,rfl⟩,trivial⟩,⟨rfl,hW⟩,⟨e2.symm,closed_fat _⟩,trivial⟩,hn⟩)⟩) (fun e=> ?_)
  ·simp[allSize,allOne,flat,AV.cells,lenN];omega
  ·simp[lenN_eq,flat_at]
  ·have e:=ltInt_false.1 e
   simp only[Int.ofNat_eq_natCast] at e
   omega
theorem of_loop0 (hW:closedAll (rowW h a m re g r p d ro)=true) (hl:l=[]) {Q:AExit→St→Prop} (hq:Q (.exit 0) (ofV0 0 (.ofNat l.length) (itAs l) (rowW h a m re g r p d ro)).st):ALp Tryz.prog opts0.glob 0 (lpCode Tryz.prog 83 4) (ofV0 0 (.ofNat l.length) (itAs l) (rowW h a m re g r p d ro)).st Q:=by
 have hL:closedA (.fsl false (itAs l))=true:=closed_its l
 refine ALp.round (A:=ofA (itF 0 0 0 [] []) []) (V1:=ofV1 0 (.ofNat l.length) 1 (itAs l) (rowW h a m re g r p d ro) []) (V2:=ofV1 0 (.ofNat l.length) 1 (itAs l) (rowW h a m re g r p d ro) []) (F:=ofV0 0 (.ofNat l.length) (itAs l) (rowW h a m re g r p d ro)) (lk:=[(0,0),(1,15)]) (lk':=[(0,0)]) base0 aidJ_ok (LsOk.no rfl) .refl ?_
 rw[of_r0]
 refine mtB_of (fun e=> ?_) (fun _=>⟨⟨⟨⟨rfl,hL⟩,⟨rfl,rfl⟩,⟨rfl,rfl⟩,⟨rfl,rfl⟩,trivial⟩,⟨⟨rfl,rfl⟩,trivial⟩,⟨rfl,hW⟩,trivial⟩,hq⟩)
 have e:=ltInt_iff.1 e
 subst hl
 simp at e
theorem of_loopN (hW:closedAll (rowW h a m re g r p d ro)=true) (hb:l.length≤1000) (hl:0<l.length) {Q:AExit→St→Prop} (hq:Q (.exit 0) (ofV1 (.ofNat l.length) (.ofNat l.length) l.length (itAs l) (rowW h a m re g r p d ro) (flat ((tellL h.nm l 0).map atA))).st):ALp Tryz.prog opts0.glob 0 (lpCode Tryz.prog 83 4) (ofV0 0 (.ofNat l.length) (itAs l) (rowW h a m re g r p d ro)).st Q:=by
 have hL:closedA (.fsl false (itAs l))=true:=closed_its l
 match l,hb,hl,hL,hq with
 |⟨t,y,q,dd,ks⟩::rs,hb,hl,hL,hq=>
  have hn:=of_loop1 (l:=⟨t,y,q,dd,ks⟩::rs) hW hb (Q:=Q) rs.length [⟨h.nm,.ofNat 0,.mk t y q dd ks⟩] (by simp;omega) hq
  refine ALp.round (A:=ofA (itF t y q (toBytes dd) (itAs ks)) []) (V1:=ofV1 (.ofNat 1) (.ofNat (rs.length+1)) 1 (itAs (⟨t,y,q,dd,ks⟩::rs)) (rowW h a m re g r p d ro) (flat ([(⟨h.nm,.ofNat 0,.mk t y q dd ks⟩:At)].map atA))) (V2:=ofV1 (.ofNat 1) (.ofNat (rs.length+1)) 1 (itAs (⟨t,y,q,dd,ks⟩::rs)) (rowW h a m re g r p d ro) (flat ([(⟨h.nm,.ofNat 0,.mk t y q dd ks⟩:At)].map atA))) (F:=ofV0 0 (.ofNat (rs.length+1)) (itAs (⟨t,y,q,dd,ks⟩::rs)) (rowW h a m re g r p d ro)) (lk:=[(0,0),(1,15)]) (lk':=[(0,0)]) base0 aidJ_ok (LsOk.no rfl) .refl ?_
  have hw:wrapA .i64 (0+1)=Int.ofNat 1:=rfl
  show wpK Tryz.prog opts0 40 _ _ (ofV0 0 (.ofNat (rs.length+1)) (itAs (⟨t,y,q,dd,ks⟩::rs)) (rowW h a m re g r p d ro)).st _
  rw[of_r0,hw]
  refine mtB_of (fun _=>⟨idxI (i:=0) rfl,⟨⟨⟨rfl,hL⟩,⟨rfl,rfl⟩,⟨rfl,rfl⟩,trivial⟩,⟨⟨rfl,rfl⟩,⟨rfl,rfl,rfl,rfl,rfl⟩,trivial⟩,⟨rfl,hW⟩,⟨rfl,closed_fat _⟩,trivial⟩,hn⟩) (fun e=> ?_)
  have e:=ltInt_false.1 e
  simp only[Int.ofNat_eq_natCast] at e
  omega
end
theorem of_at:loopsAt (fnCode Tryz.prog 83) 4=[lpCode Tryz.prog 83 4]:=by kernel_rfl
theorem of_sem {k:Kd} (hk:kdB k=true) {o:Ob} (ho:FitO o) (hg:OkG o k):SC 83 [.agg (rowC k),obA o] (.fsl false ((tellL (nameK k) (getK o k) 0).map atA)):=by
 have hget:=get_sem hk ho
 have hcl:=closed_roc k o (c:=[]) rfl
 have hW:=closed_rowC k
 have hb:=hg.n
 rw[rowC_get] at hcl hW⊢
 have hnm:nameK k=(hdK k).nm:=rfl
 rw[hnm]
 revert hget hb
 generalize getK o k=l
 intro hget hb
 simp only[obA,obC] at hget hcl⊢
 match l,hget,hb with
 | [],hget,hb=>
  refine fnK_semX (A:=ofG (itAs []) [(4,ofL0 0 (.ofNat (lenN (itAs []))) (itAs []) (rowW (hdK k) (addK k) (modK k) (remK k) (fnC (gfn k) (gcp k)) (rightF k) (putF k) (dropF k) (roomF k)))]) base0 aidJ_ok
   (fnLs_of (LsOk.at1 rfl of_at fun st Q hs=> .seen base0.glob hs.1 (of_loop0 (l:=[]) hW rfl hs.2))) hcl ?_
  rw[of_fn0]
  exact ⟨hget,⟨⟨⟨rfl,rfl⟩,⟨rfl,rfl⟩,⟨rfl,rfl⟩,⟨rfl,rfl⟩,trivial⟩,⟨⟨rfl,rfl⟩,trivial⟩,⟨rfl,hW⟩,trivial⟩,.nilsl,(Frz.closed _ rfl).out,rfl,.nil⟩
 | x::r,hget,hb=>
  have hlen:lenN (itAs (x::r))=(x::r).length:=by rw[lenN_eq,its_length]
  have ht:=tell_length (hdK k).nm (x::r) 0
  have hln:closedAll (itAs (x::r))=true:=closed_its _
  refine fnK_semX (A:=ofG (itAs (x::r)) [(4,ofL1 (.ofNat (x::r).length) (.ofNat (lenN (itAs (x::r)))) (x::r).length (itAs (x::r)) (rowW (hdK k) (addK k) (modK k) (remK k) (fnC (gfn k) (gcp k)) (rightF k) (putF k) (dropF k) (roomF k)) (flat ((tellL (hdK k).nm (x::r) 0).map atA)))]) base0 aidJ_ok
   (fnLs_of (LsOk.at1 rfl of_at fun st Q hs=> .seen base0.glob hs.1 (by
    have h2:=hs.2
    have h1:=of_loopN (l:=x::r) hW hb (by simp) (Q:=Q)
    rw[hlen] at h2⊢
    exact h1 h2))) hcl ?_
  rw[of_fn1]
  refine ⟨hget,⟨⟨⟨rfl,hln⟩,⟨rfl,rfl⟩,⟨rfl,rfl⟩,⟨rfl,rfl⟩,trivial⟩,⟨⟨rfl,rfl⟩,trivial⟩,⟨rfl,hW⟩,trivial⟩,.fsl false ((tellL (hdK k).nm (x::r) 0).map atA),(Frz.row rfl rfl rfl (by rw[List.length_map,ht]) (fun e he=>by obtain ⟨a,_,rfl⟩:=List.mem_map.1 he;exact good_at a) (closed_ats _)).out,closed_ats _,.refl _⟩
end
end Go.Proofs.YtjhggnebkfpgcaaGreatDoor
namespace Go.Proofs.YtjhggnebkfpgcaaGreatDoor
open Go Go.RowKit
open Go.Proofs.Abs
noncomputable section
def ofQ (row:AV) (f:Bool) (Ls:List AV):Aid:=aidJ [] [] (manyF [(61,fun _=>some (.tuple [row,.bool f])),(83,fun _=>some (.fsl false Ls))]) [] []
abbrev zf1 (a d g m p r re ro:AV) (h:RowH):=[AV.str h.1,I h.2,AV.bool h.3,AV.bool h.4,a,m,re,g,r,p,d,ro]
theorem ofn_some (h:RowH) (a m re g r p d ro:AV) (Ls:List AV) (s:List UInt8) (o:Ob) (M N L C:AV) (Q:AV→Prop):fnK Tryz.prog opts0 40 (ofQ (.agg (rowW h a m re g r p d ro)) true Ls) 32 [.agg (obF o M N L C),.str s] [] 0 (fun v _ _=>Q v)=
  (SC 61 [AV.str s] (AV.tuple [AV.agg (zf1 a d g m p r re ro h),AV.bool true])∧oblB (fitsT Tryz.prog 89 (AV.agg (zf1 a d g m p r re ro h)) 12) (SC 83 [AV.agg (zf1 a d g m p r re ro h),AV.agg (obF o M N L C)] (AV.fsl false Ls)∧Q (AV.fsl false Ls))):=by kernel_rfl
theorem ofn_none (h:RowH) (a m re g r p d ro:AV) (Ls:List AV) (s:List UInt8) (o:Ob) (M N L C:AV) (Q:AV→Prop):fnK Tryz.prog opts0 40 (ofQ (.agg (rowW h a m re g r p d ro)) false Ls) 32 [.agg (obF o M N L C),.str s] [] 0 (fun v _ _=>Q v)=
  (SC 61 [AV.str s] (AV.tuple [AV.agg (zf1 a d g m p r re ro h),AV.bool false])∧oblB (fitsT Tryz.prog 89 (AV.agg (zf1 a d g m p r re ro h)) 12) (Q AV.nilsl)):=by kernel_rfl
theorem findL_mem {s:List UInt8}:∀ {l:List Kd} {k:Kd},findL s l=some k→k∈l∧nameK k=s
 |[],_,h=>by cases h
 | a::r,k,h=>by
  simp only[findL] at h
  split at h
  ·rename_i e
   cases h
   exact ⟨by simp,beqBytes_iff.1 e⟩
  ·obtain ⟨h1,h2⟩:=findL_mem h
   exact ⟨by simp[h1],h2⟩
theorem find_kd {c:Bool} {s:List UInt8} {k:Kd} (h:findK c s=some k):kdB k=true∧nameK k=s:=by
 unfold findK at h
 split at h
 ·cases h;exact ⟨rfl,rfl⟩
 ·obtain ⟨h1,h2⟩:=findL_mem h
  exact ⟨(by decide:∀k∈kinds,kdB k=true) k h1,h2⟩
def ofS (c:Bool) (o:Ob) (s:List UInt8):List At:=match findK c s with
 |none=>[]
 |some k=>tellL s (getK o k) 0
theorem fits_rowZ:fitsT Tryz.prog 89 rowZ 12=true:=by kernel_rfl
set_option maxRecDepth 20000 in
theorem ofn_sem {c:Bool} {o:Ob} (ho:FitO o) {s:List UInt8} (hc:SC 111 [.str s] (.bool c)) (hg:∀k,OkG o k):SC 32 [obA o,.str s] (.fsl false ((ofS c o s).map atA)):=by
 have hf:=find_sem hc
 have hcl:=closed_oc o (c:=[.str s]) rfl
 unfold ofS
 cases hk:findK c s with
 |none=>
  dsimp only
  rw[hk] at hf
  refine fnK_semE (A:=ofQ rowZ false []) base0 aidJ_ok (fnLs_of (LsOk.no rfl)) hcl ?_
  have e:rowZ= .agg (rowW ⟨[],0,false,false⟩ .nilFunc .nilFunc .nilFunc .nilFunc .nilFunc .nilFunc .nilFunc .nilFunc):=rfl
  rw[rowO,e] at hf
  have hz:=fits_rowZ
  rw[e] at hz⊢
  simp only[obA,obC]
  rw[ofn_none]
  exact ⟨hf,oblB_of hz ⟨rfl,.nil⟩⟩
 |some k=>
  dsimp only
  rw[hk] at hf
  obtain ⟨h1,h2⟩:=find_kd hk
  have hof:=of_sem h1 ho (hg k)
  have hfit:=fits_row k
  rw[h2] at hof
  refine fnK_semE (A:=ofQ (.agg (rowC k)) true ((tellL s (getK o k) 0).map atA)) base0 aidJ_ok (fnLs_of (LsOk.no rfl)) hcl ?_
  rw[rowO_some,fiT] at hf
  rw[rowC_eq] at hf hof hfit⊢
  simp only[obA,obC] at hof⊢
  rw[ofn_some]
  exact ⟨hf,oblB_of hfit ⟨hof,end_self (closed_ats _)⟩⟩
end
end Go.Proofs.YtjhggnebkfpgcaaGreatDoor
namespace Go.Proofs.YtjhggnebkfpgcaaGreatDoor
set_option maxRecDepth 20000
open Go Go.RowKit
open Go.Proofs.Abs
def lkEq (z x:Lk):Bool:=beqInt z.ty x.ty&&(beqBytes z.id x.id&&true)
def cuEq (z x:Cu):Bool:=beqBytes z.name x.name&&(beqBytes z.text x.text&&true)
def hasLk (x:Lk) (l:List Lk):Bool:=l.any fun z=>lkEq z x
theorem lnk_none {i:Nat} {Rs:List AV} {o:Ob} {M N C:AV} {BN BC:Option Blk} {x:Lk} {b:Bool} (hR:closedAll Rs=true) (hM:closedA M=true) (rN:Rv 1 N) (rX:Rv 3 C) (bn:ClosedOB BN) (bx:ClosedOB BC) {Q:AExit→St→Prop} (hq:Q (.exit 3) (stO (ilnkV (.ofNat i) Rs (obF o M N .nilsl C) [I x.ty,.str x.id] b 0 []) [(1,BN),(3,BC)])):ALp Tryz.prog opts0.glob 0 (lpCode Tryz.prog 22 22) (stO (ilnkV (.ofNat i) Rs (obF o M N .nilsl C) [I x.ty,.str x.id] b 0 []) [(1,BN),(3,BC)]) Q:=by
 refine ALp.roundO (A:=aidJ [] [] noSem [] []) (V1:=ilnkV (.ofNat i) Rs [] [] b 0 []) (F:=ilnkV (.ofNat i) Rs (obF o M N .nilsl C) [I x.ty,.str x.id] b 0 []) (opt:=[]) (opt':=[(1,BN),(3,BC)]) (lk:=[]) (lk':=[(0,0),(1,1),(3,3),(4,4),(5,5)]) base0 aidJ_ok (LsOk.no rfl) .refl ?_
 rw[ilnk_nil]
 exact ⟨⟨⟨⟨⟨rfl,hR⟩,⟨rfl,rfl⟩,⟨rfl,rfl⟩,⟨rfl,rfl⟩,trivial⟩,⟨⟨rfl,rfl⟩,⟨rfl,rfl⟩,⟨rfl,rfl⟩,trivial⟩,renR_ob (o:=o) hM (rN _ rfl) (.same _ rfl) (rX _ rfl),⟨rfl,rfl⟩,⟨rfl,rfl⟩,trivial⟩,⟨rfl,bn⟩,⟨rfl,bx⟩,trivial⟩,hq⟩
theorem lnk_loop {i:Nat} {Rs:List AV} {o:Ob} {M N C:AV} {BN BC:Option Blk} {x:Lk} (hR:closedAll Rs=true) (hM:closedA M=true) (rN:Rv 1 N) (rX:Rv 3 C) (bn:ClosedOB BN) (bx:ClosedOB BC) {l:List Lk} (hl:l.length≤1000) {Q:AExit→St→Prop}:∀ (m t:Nat) (b:Bool),t+m=l.length→Q (.exit 3) (stO (ilnkV (.ofNat i) Rs (obF o M N (.rsl true 2 0 l.length 2) C) [I x.ty,.str x.id] (b||hasLk x (l.drop t)) (.ofNat l.length) [(2,.cells (flat (l.map lkA)),.whole)]) [(1,BN),(3,BC)])→ALp Tryz.prog opts0.glob 0 (lpCode Tryz.prog 22 22) (stO (ilnkV (.ofNat i) Rs (obF o M N (.rsl true 2 0 l.length 2) C) [I x.ty,.str x.id] b (.ofNat t) [(2,.cells (flat (l.map lkA)),.whole)]) [(1,BN),(3,BC)]) Q:=by
 have hc:=closed_flk l
 intro m
 induction m with
 |zero=>
  intro t b ht hq
  rw[Nat.add_zero] at ht
  subst ht
  rw[List.drop_of_length_le (Nat.le_refl _),show hasLk x []=false from rfl,Bool.or_false] at hq
  refine ALp.roundO (A:=aidJ [(23,5,.res .nilp),(35,5,.res .nilp)] [] noSem [] []) (V1:=ilnkV (.ofNat i) Rs [] [] b 0 []) (F:=ilnkV (.ofNat i) Rs (obF o M N (.rsl true 2 0 l.length 2) C) [I x.ty,.str x.id] b (.ofNat l.length) [(2,.cells (flat (l.map lkA)),.whole)]) (opt:=[]) (opt':=[(1,BN),(3,BC)]) (lk:=[]) (lk':=[(0,0),(1,1),(2,2),(3,3),(4,4),(5,5)]) base0 aidJ_ok (LsOk.no rfl) .refl ?_
  rw[ilnk_end]
  refine mtB_of (fun e=> ?_) (fun _=>⟨⟨⟨⟨⟨rfl,hR⟩,⟨rfl,rfl⟩,⟨rfl,rfl⟩,⟨rfl,rfl⟩,trivial⟩,⟨⟨rfl,rfl⟩,⟨rfl,rfl⟩,⟨rfl,rfl⟩,trivial⟩,renR_ob (o:=o) hM (rN _ rfl) (.rsl _ _ _ _ _ _ rfl) (rX _ rfl),⟨rfl,rfl⟩,⟨rfl,rfl⟩,⟨rfl,hc⟩,trivial⟩,⟨rfl,bn⟩,⟨rfl,bx⟩,trivial⟩,hq⟩)
  have e:=ltInt_iff.1 e
  omega
 | succ m ih=>
  intro t b ht hq
  have hi:t<l.length:=by omega
  have g1:=List.getElem?_eq_getElem hi
  rw[List.drop_eq_getElem_cons hi] at hq
  revert g1 hq
  generalize l[t]=z
  intro hq g1
  have hw:wrapA .i64 (Int.ofNat t+1)=Int.ofNat (t+1):=wrapA_i64 (by simp;omega) (by simp;omega)
  have hob:(nonneg (Int.ofNat t)&&((Int.ofNat t).toNat.blt l.length&&true))=true:=by
   simp only[nonneg,Bool.true_and,Bool.and_true]
   exact blt_iff.2 hi
  have hn:=ih (t+1) (b||lkEq z x) (by omega) (by
   simpa only[hasLk,List.any_cons,Bool.or_assoc] using hq)
  refine ALp.roundO (A:=aidJ [(21,4,.res (.bool true)),(23,6,.ld (.agg [I z.ty,.str z.id]))] [] noSem [] []) (V1:=ilnkV (.ofNat i) Rs (obF o M N (.rsl true 2 0 l.length 2) C) [I x.ty,.str x.id] (b||lkEq z x) (.ofNat (t+1)) [(2,.cells (flat (l.map lkA)),.whole)]) (F:=ilnkV (.ofNat i) Rs [] [] b 0 []) (opt:=[(1,BN),(3,BC)]) (opt':=[]) (lk:=[(0,0),(1,1),(2,2),(3,3),(4,4),(5,5)]) (lk':=[]) base0 aidJ_ok (LsOk.no rfl) .refl ?_
  rw[ilnk_go,hw]
  refine ⟨lss_t (by simp;omega),mtB_of (fun e=>⟨⟨⟨⟨⟨rfl,hR⟩,⟨rfl,rfl⟩,⟨by rw[e];rfl,rfl⟩,⟨rfl,rfl⟩,trivial⟩,⟨⟨rfl,rfl⟩,⟨rfl,rfl⟩,⟨rfl,rfl⟩,trivial⟩,renR_ob (o:=o) hM (rN _ rfl) (.rsl _ _ _ _ _ _ rfl) (rX _ rfl),⟨rfl,rfl⟩,⟨rfl,rfl⟩,⟨rfl,hc⟩,trivial⟩,⟨rfl,bn⟩,⟨rfl,bx⟩,trivial⟩,hn⟩)
   (fun e=>oblB_of hob ⟨part_lk g1,⟨⟨⟨⟨rfl,hR⟩,⟨rfl,rfl⟩,⟨by rw[e];rfl,rfl⟩,⟨rfl,rfl⟩,trivial⟩,⟨⟨rfl,rfl⟩,⟨rfl,rfl⟩,⟨rfl,rfl⟩,trivial⟩,renR_ob (o:=o) hM (rN _ rfl) (.rsl _ _ _ _ _ _ rfl) (rX _ rfl),⟨rfl,rfl⟩,⟨rfl,rfl⟩,⟨rfl,hc⟩,trivial⟩,⟨rfl,bn⟩,⟨rfl,bx⟩,trivial⟩,hn⟩)⟩
theorem lnk_at:loopsAt (lpCode Tryz.prog 22 5) 22=[lpCode Tryz.prog 22 22]:=by kernel_rfl
def lkOf (y:Rw):Lk:=⟨wrapA .i64 (101+y.a%5),ofL idL [] y.b⟩
theorem st_lnk0 {y:Rw} {i:Nat} {Rs:List AV} {M N C:AV} {BN BC:Option Blk} (o:Ob) (g:Go1 i Rs y) (hM:closedA M=true) (rN:Rv 1 N) (rX:Rv 3 C) (bn:ClosedOB BN) (bx:ClosedOB BC) (hk:y.k%9=4):Step (stO (oW (.ofNat i) Rs (obF o M N .nilsl C) []) [(1,BN),(3,BC)]) (stO (oW (.ofNat (i+1)) Rs (obF o M N (.rsl true 2 0 1 2) C) [(2,.cells [I (wrapA .i64 (101+y.a%5)),.str (ofL idL [] y.b)],.whole)]) [(1,BN),(3,BC)]):=by
 intro Q hq
 have hR:=g.c
 refine ALp.roundO (A:=oA 4 0 y [] [(22,fun s Q=>seesO 0 [(0,0),(1,1),(3,3),(4,4),(5,41)] (ilnkV (.ofNat i) Rs (obF o M N .nilsl C) [I (wrapA .i64 (101+y.a%5)),.str (ofL idL [] y.b)] false 0 []) [(1,BN),(3,BC)] s∧Q (.exit 3) (stO (ilnkV (.ofNat i) Rs (obF o M N .nilsl C) [I (wrapA .i64 (101+y.a%5)),.str (ofL idL [] y.b)] false 0 []) [(1,BN),(3,BC)]))] none (ofL idL [] y.b)) (V1:=oW (.ofNat (i+1)) Rs (obF o M N (.rsl true 2 0 1 2) C) [(2,.cells [I (wrapA .i64 (101+y.a%5)),.str (ofL idL [] y.b)],.whole)]) (F:=oW (.ofNat i) Rs [] []) (opt:=[(1,BN),(3,BC)]) (opt':=[]) (lk:=[(0,0),(1,1),(2,13),(3,3),(4,4)]) (lk':=[]) base0 aidJ_ok (LsOk.at1 rfl lnk_at fun st Q hs=> .seenO base0.glob hs.1 (lnk_none (x:=lkOf y) g.c hM rN rX bn bx hs.2)) .refl ?_
 rw[ob_lnk0,g.w]
 exact ⟨g.a,g.b,g.x,pk hk (by decide) (by decide),pick_sem _ (by decide) (by decide),id_sem _,⟨⟨⟨⟨rfl,hR⟩,⟨rfl,rfl⟩,⟨rfl,rfl⟩,⟨rfl,rfl⟩,trivial⟩,⟨⟨rfl,rfl⟩,⟨rfl,rfl⟩,⟨rfl,rfl⟩,trivial⟩,renR_ob (o:=o) hM (rN _ rfl) (.same _ rfl) (rX _ rfl),⟨rfl,rfl⟩,⟨rfl,rfl⟩,trivial⟩,⟨rfl,bn⟩,⟨rfl,bx⟩,trivial⟩,⟨⟨⟨⟨⟨rfl,g.c⟩,⟨rfl,rfl⟩,trivial⟩,⟨⟨rfl,rfl⟩,⟨rfl,rfl⟩,trivial⟩,renR_ob (o:=o) hM (rN _ rfl) (.rsl _ _ _ _ _ _ rfl) (rX _ rfl),⟨rfl,rfl⟩,⟨rfl,rfl⟩,trivial⟩,⟨rfl,bn⟩,⟨rfl,bx⟩,trivial⟩,hq⟩⟩
theorem st_lnk1t {y:Rw} {i:Nat} {Rs:List AV} {M N C:AV} {BN BC:Option Blk} (o:Ob) (g:Go1 i Rs y) (hM:closedA M=true) (rN:Rv 1 N) (rX:Rv 3 C) (bn:ClosedOB BN) (bx:ClosedOB BC) (hk:y.k%9=4) {l:List Lk} (hl:l.length≤1000) (hin:hasLk (lkOf y) l=true):Step (stO (oW (.ofNat i) Rs (obF o M N (.rsl true 2 0 l.length 2) C) [(2,.cells (flat (l.map lkA)),.whole)]) [(1,BN),(3,BC)]) (stO (oW (.ofNat (i+1)) Rs (obF o M N (.rsl true 2 0 l.length 2) C) [(2,.cells (flat (l.map lkA)),.whole)]) [(1,BN),(3,BC)]):=by
 intro Q hq
 have hR:=g.c
 refine ALp.roundO (A:=oA 4 0 y [] [(22,fun s Q=>seesO 0 [(0,0),(1,1),(2,2),(3,3),(4,4),(5,41)] (ilnkV (.ofNat i) Rs (obF o M N (.rsl true 2 0 l.length 2) C) [I (wrapA .i64 (101+y.a%5)),.str (ofL idL [] y.b)] false 0 [(2,.cells (flat (l.map lkA)),.whole)]) [(1,BN),(3,BC)] s∧Q (.exit 3) (stO (ilnkV (.ofNat i) Rs (obF o M N (.rsl true 2 0 l.length 2) C) [I (wrapA .i64 (101+y.a%5)),.str (ofL idL [] y.b)] true (.ofNat l.length) [(2,.cells (flat (l.map lkA)),.whole)]) [(1,BN),(3,BC)]))] none (ofL idL [] y.b)) (V1:=oW (.ofNat (i+1)) Rs (obF o M N (.rsl true 2 0 l.length 2) C) [(2,.cells (flat (l.map lkA)),.whole)]) (F:=oW (.ofNat i) Rs [] []) (opt:=[(1,BN),(3,BC)]) (opt':=[]) (lk:=[(0,0),(1,1),(2,2),(3,3),(4,4)]) (lk':=[]) base0 aidJ_ok (LsOk.at1 rfl lnk_at fun st Q hs=> .seenO base0.glob hs.1 (lnk_loop (x:=lkOf y) g.c hM rN rX bn bx hl l.length 0 false (by omega) (by rw[List.drop_zero,hin];exact hs.2))) .refl ?_
 rw[ob_lnk1t,g.w]
 exact ⟨g.a,g.b,g.x,pk hk (by decide) (by decide),pick_sem _ (by decide) (by decide),id_sem _,⟨⟨⟨⟨rfl,hR⟩,⟨rfl,rfl⟩,⟨rfl,rfl⟩,⟨rfl,rfl⟩,trivial⟩,⟨⟨rfl,rfl⟩,⟨rfl,rfl⟩,⟨rfl,rfl⟩,trivial⟩,renR_ob (o:=o) hM (rN _ rfl) (.rsl _ _ _ _ _ _ rfl) (rX _ rfl),⟨rfl,rfl⟩,⟨rfl,rfl⟩,⟨rfl,closed_flk l⟩,trivial⟩,⟨rfl,bn⟩,⟨rfl,bx⟩,trivial⟩,⟨⟨⟨⟨⟨rfl,g.c⟩,⟨rfl,rfl⟩,trivial⟩,⟨⟨rfl,rfl⟩,⟨rfl,rfl⟩,trivial⟩,renR_ob (o:=o) hM (rN _ rfl) (.rsl _ _ _ _ _ _ rfl) (rX _ rfl),⟨rfl,rfl⟩,⟨rfl,closed_flk l⟩,trivial⟩,⟨rfl,bn⟩,⟨rfl,bx⟩,trivial⟩,hq⟩⟩
theorem flat_lnk:∀l:List Lk,(flat (l.map lkA)).length=l.length*2
 |[]=>rfl
 |_::r=>by
  have ih:=flat_lnk r
  rw[List.length_cons,Nat.succ_mul,←ih]
  rfl
theorem st_lnk1f {y:Rw} {i:Nat} {Rs:List AV} {M N C:AV} {BN BC:Option Blk} (o:Ob) (g:Go1 i Rs y) (hM:closedA M=true) (rN:Rv 1 N) (rX:Rv 3 C) (bn:ClosedOB BN) (bx:ClosedOB BC) (hk:y.k%9=4) {l:List Lk} (hl:l.length≤1000) (hin:hasLk (lkOf y) l=false):Step (stO (oW (.ofNat i) Rs (obF o M N (.rsl true 2 0 l.length 2) C) [(2,.cells (flat (l.map lkA)),.whole)]) [(1,BN),(3,BC)]) (stO (oW (.ofNat (i+1)) Rs (obF o M N (.rsl true 2 0 (l.length+1) 2) C) [(2,.cells (flat (l.map lkA)++[I (wrapA .i64 (101+y.a%5)),.str (ofL idL [] y.b)]),.whole)]) [(1,BN),(3,BC)]):=by
 intro Q hq
 have hR:=g.c
 refine ALp.roundO (A:=oA 4 0 y [] [(22,fun s Q=>seesO 0 [(0,0),(1,1),(2,2),(3,3),(4,4),(5,41)] (ilnkV (.ofNat i) Rs (obF o M N (.rsl true 2 0 l.length 2) C) [I (wrapA .i64 (101+y.a%5)),.str (ofL idL [] y.b)] false 0 [(2,.cells (flat (l.map lkA)),.whole)]) [(1,BN),(3,BC)] s∧Q (.exit 3) (stO (ilnkV (.ofNat i) Rs (obF o M N (.rsl true 2 0 l.length 2) C) [I (wrapA .i64 (101+y.a%5)),.str (ofL idL [] y.b)] false (.ofNat l.length) [(2,.cells (flat (l.map lkA)),.whole)]) [(1,BN),(3,BC)]))] none (ofL idL [] y.b)) (V1:=oW (.ofNat (i+1)) Rs (obF o M N (.rsl true 2 0 (l.length+1) 2) C) [(2,.cells (flat (l.map lkA)++[I (wrapA .i64 (101+y.a%5)),.str (ofL idL [] y.b)]),.whole)]) (F:=oW (.ofNat i) Rs [] []) (opt:=[(1,BN),(3,BC)]) (opt':=[]) (lk:=[(0,0),(1,1),(2,13),(3,3),(4,4)]) (lk':=[]) base0 aidJ_ok (LsOk.at1 rfl lnk_at fun st Q hs=> .seenO base0.glob hs.1 (lnk_loop (x:=lkOf y) g.c hM rN rX bn bx hl l.length 0 false (by omega) (by rw[List.drop_zero,hin];exact hs.2))) .refl ?_
 rw[ob_lnk1f,g.w]
 exact ⟨g.a,g.b,g.x,pk hk (by decide) (by decide),pick_sem _ (by decide) (by decide),id_sem _,⟨⟨⟨⟨rfl,hR⟩,⟨rfl,rfl⟩,⟨rfl,rfl⟩,⟨rfl,rfl⟩,trivial⟩,⟨⟨rfl,rfl⟩,⟨rfl,rfl⟩,⟨rfl,rfl⟩,trivial⟩,renR_ob (o:=o) hM (rN _ rfl) (.rsl _ _ _ _ _ _ rfl) (rX _ rfl),⟨rfl,rfl⟩,⟨rfl,rfl⟩,⟨rfl,closed_flk l⟩,trivial⟩,⟨rfl,bn⟩,⟨rfl,bx⟩,trivial⟩,oblB_of (by simp[allSize,allOne,flat,AV.cells,lenN];omega) (oblB_of (by simp[lenN_eq,flat_lnk]) ⟨⟨⟨⟨⟨rfl,g.c⟩,⟨rfl,rfl⟩,trivial⟩,⟨⟨rfl,rfl⟩,⟨rfl,rfl⟩,trivial⟩,renR_ob (o:=o) hM (rN _ rfl) (.rsl _ _ _ _ _ _ rfl) (rX _ rfl),⟨rfl,rfl⟩,⟨rfl,by simp[closedAll_append,closed_flk];rfl⟩,trivial⟩,⟨rfl,bn⟩,⟨rfl,bx⟩,trivial⟩,hq⟩)⟩
def hasCu (x:Cu) (l:List Cu):Bool:=l.any fun z=>cuEq z x
theorem cus_none {i:Nat} {Rs:List AV} {o:Ob} {M N L:AV} {BN BL:Option Blk} {x:Cu} {b:Bool} (hR:closedAll Rs=true) (hM:closedA M=true) (rN:Rv 1 N) (rX:Rv 2 L) (bn:ClosedOB BN) (bx:ClosedOB BL) {Q:AExit→St→Prop} (hq:Q (.exit 5) (stO (icusV (.ofNat i) Rs (obF o M N L .nilsl) [.str x.name,.str x.text] b 0 []) [(1,BN),(2,BL)])):ALp Tryz.prog opts0.glob 0 (lpCode Tryz.prog 22 34) (stO (icusV (.ofNat i) Rs (obF o M N L .nilsl) [.str x.name,.str x.text] b 0 []) [(1,BN),(2,BL)]) Q:=by
 refine ALp.roundO (A:=aidJ [] [] noSem [] []) (V1:=icusV (.ofNat i) Rs [] [] b 0 []) (F:=icusV (.ofNat i) Rs (obF o M N L .nilsl) [.str x.name,.str x.text] b 0 []) (opt:=[]) (opt':=[(1,BN),(2,BL)]) (lk:=[]) (lk':=[(0,0),(1,1),(2,2),(4,4),(5,5)]) base0 aidJ_ok (LsOk.no rfl) .refl ?_
 rw[icus_nil]
 exact ⟨⟨⟨⟨⟨rfl,hR⟩,⟨rfl,rfl⟩,⟨rfl,rfl⟩,⟨rfl,rfl⟩,trivial⟩,⟨⟨rfl,rfl⟩,⟨rfl,rfl⟩,⟨rfl,rfl⟩,trivial⟩,renR_ob (o:=o) hM (rN _ rfl) (rX _ rfl) (.same _ rfl),⟨rfl,rfl⟩,⟨rfl,rfl⟩,trivial⟩,⟨rfl,bn⟩,⟨rfl,bx⟩,trivial⟩,hq⟩
theorem cus_loop {i:Nat} {Rs:List AV} {o:Ob} {M N L:AV} {BN BL:Option Blk} {x:Cu} (hR:closedAll Rs=true) (hM:closedA M=true) (rN:Rv 1 N) (rX:Rv 2 L) (bn:ClosedOB BN) (bx:ClosedOB BL) {l:List Cu} (hl:l.length≤1000) {Q:AExit→St→Prop}:∀ (m t:Nat) (b:Bool),t+m=l.length→Q (.exit 5) (stO (icusV (.ofNat i) Rs (obF o M N L (.rsl true 3 0 l.length 2)) [.str x.name,.str x.text] (b||hasCu x (l.drop t)) (.ofNat l.length) [(3,.cells (flat (l.map cuA)),.whole)]) [(1,BN),(2,BL)])→ALp Tryz.prog opts0.glob 0 (lpCode Tryz.prog 22 34) (stO (icusV (.ofNat i) Rs (obF o M N L (.rsl true 3 0 l.length 2)) [.str x.name,.str x.text] b (.ofNat t) [(3,.cells (flat (l.map cuA)),.whole)]) [(1,BN),(2,BL)]) Q:=by
 have hc:=closed_fcu l
 intro m
 induction m with
 |zero=>
  intro t b ht hq
  rw[Nat.add_zero] at ht
  subst ht
  rw[List.drop_of_length_le (Nat.le_refl _),show hasCu x []=false from rfl,Bool.or_false] at hq
  refine ALp.roundO (A:=aidJ [(23,5,.res .nilp),(35,5,.res .nilp)] [] noSem [] []) (V1:=icusV (.ofNat i) Rs [] [] b 0 []) (F:=icusV (.ofNat i) Rs (obF o M N L (.rsl true 3 0 l.length 2)) [.str x.name,.str x.text] b (.ofNat l.length) [(3,.cells (flat (l.map cuA)),.whole)]) (opt:=[]) (opt':=[(1,BN),(2,BL)]) (lk:=[]) (lk':=[(0,0),(1,1),(2,2),(3,3),(4,4),(5,5)]) base0 aidJ_ok (LsOk.no rfl) .refl ?_
  rw[icus_end]
  refine mtB_of (fun e=> ?_) (fun _=>⟨⟨⟨⟨⟨rfl,hR⟩,⟨rfl,rfl⟩,⟨rfl,rfl⟩,⟨rfl,rfl⟩,trivial⟩,⟨⟨rfl,rfl⟩,⟨rfl,rfl⟩,⟨rfl,rfl⟩,trivial⟩,renR_ob (o:=o) hM (rN _ rfl) (rX _ rfl) (.rsl _ _ _ _ _ _ rfl),⟨rfl,rfl⟩,⟨rfl,rfl⟩,⟨rfl,hc⟩,trivial⟩,⟨rfl,bn⟩,⟨rfl,bx⟩,trivial⟩,hq⟩)
  have e:=ltInt_iff.1 e
  omega
 | succ m ih=>
  intro t b ht hq
  have hi:t<l.length:=by omega
  have g1:=List.getElem?_eq_getElem hi
  rw[List.drop_eq_getElem_cons hi] at hq
  revert g1 hq
  generalize l[t]=z
  intro hq g1
  have hw:wrapA .i64 (Int.ofNat t+1)=Int.ofNat (t+1):=wrapA_i64 (by simp;omega) (by simp;omega)
  have hob:(nonneg (Int.ofNat t)&&((Int.ofNat t).toNat.blt l.length&&true))=true:=by
   simp only[nonneg,Bool.true_and,Bool.and_true]
   exact blt_iff.2 hi
  have hn:=ih (t+1) (b||cuEq z x) (by omega) (by
   simpa only[hasCu,List.any_cons,Bool.or_assoc] using hq)
  refine ALp.roundO (A:=aidJ [(33,4,.res (.bool true)),(35,6,.ld (.agg [.str z.name,.str z.text]))] [] noSem [] []) (V1:=icusV (.ofNat i) Rs (obF o M N L (.rsl true 3 0 l.length 2)) [.str x.name,.str x.text] (b||cuEq z x) (.ofNat (t+1)) [(3,.cells (flat (l.map cuA)),.whole)]) (F:=icusV (.ofNat i) Rs [] [] b 0 []) (opt:=[(1,BN),(2,BL)]) (opt':=[]) (lk:=[(0,0),(1,1),(2,2),(3,3),(4,4),(5,5)]) (lk':=[]) base0 aidJ_ok (LsOk.no rfl) .refl ?_
  rw[icus_go,hw]
  refine ⟨lss_t (by simp;omega),mtB_of (fun e=>⟨⟨⟨⟨⟨rfl,hR⟩,⟨rfl,rfl⟩,⟨by rw[e];rfl,rfl⟩,⟨rfl,rfl⟩,trivial⟩,⟨⟨rfl,rfl⟩,⟨rfl,rfl⟩,⟨rfl,rfl⟩,trivial⟩,renR_ob (o:=o) hM (rN _ rfl) (rX _ rfl) (.rsl _ _ _ _ _ _ rfl),⟨rfl,rfl⟩,⟨rfl,rfl⟩,⟨rfl,hc⟩,trivial⟩,⟨rfl,bn⟩,⟨rfl,bx⟩,trivial⟩,hn⟩)
   (fun e=>oblB_of hob ⟨part_cu g1,⟨⟨⟨⟨rfl,hR⟩,⟨rfl,rfl⟩,⟨by rw[e];rfl,rfl⟩,⟨rfl,rfl⟩,trivial⟩,⟨⟨rfl,rfl⟩,⟨rfl,rfl⟩,⟨rfl,rfl⟩,trivial⟩,renR_ob (o:=o) hM (rN _ rfl) (rX _ rfl) (.rsl _ _ _ _ _ _ rfl),⟨rfl,rfl⟩,⟨rfl,rfl⟩,⟨rfl,hc⟩,trivial⟩,⟨rfl,bn⟩,⟨rfl,bx⟩,trivial⟩,hn⟩)⟩
theorem cus_at:loopsAt (lpCode Tryz.prog 22 5) 34=[lpCode Tryz.prog 22 34]:=by kernel_rfl
def cnL:List (List UInt8):=[[120,45,97],[120,45,98]]
def ctL:List (List UInt8):=[[111,110,101],[116,119,111],[116,104,114,101,101],[102,111,117,114]]
def cuOf (y:Rw):Cu:=⟨ofL cnL [] y.a,ofL ctL [] y.b⟩
theorem idx_cn (n:Int):indexA Tryz.prog 108 (.agg (cnL.map .str)) (I (n%2))=some (.str (ofL cnL [] n)):=
 idx_pick (T:=108) (d:=[]) (l:=cnL) (f:= .str) (by decide) fun k x h=>by
  match k,h with
  |0,h=>obtain rfl:_=x:=Option.some.inj h;show indexA _ _ _ _=_;kernel_rfl
  |1,h=>obtain rfl:_=x:=Option.some.inj h;show indexA _ _ _ _=_;kernel_rfl
theorem idx_ct (n:Int):indexA Tryz.prog 109 (.agg (ctL.map .str)) (I (n%4))=some (.str (ofL ctL [] n)):=
 idx_pick (T:=109) (d:=[]) (l:=ctL) (f:= .str) (by decide) fun k x h=>by
  match k,h with
  |0,h=>obtain rfl:_=x:=Option.some.inj h;show indexA _ _ _ _=_;kernel_rfl
  |1,h=>obtain rfl:_=x:=Option.some.inj h;show indexA _ _ _ _=_;kernel_rfl
  |2,h=>obtain rfl:_=x:=Option.some.inj h;show indexA _ _ _ _=_;kernel_rfl
  |3,h=>obtain rfl:_=x:=Option.some.inj h;show indexA _ _ _ _=_;kernel_rfl
theorem st_cus0 {y:Rw} {i:Nat} {Rs:List AV} {M N L:AV} {BN BL:Option Blk} (o:Ob) (g:Go1 i Rs y) (hM:closedA M=true) (rN:Rv 1 N) (rX:Rv 2 L) (bn:ClosedOB BN) (bx:ClosedOB BL) (hk:y.k%9=6):Step (stO (oW (.ofNat i) Rs (obF o M N L .nilsl) []) [(1,BN),(2,BL)]) (stO (oW (.ofNat (i+1)) Rs (obF o M N L (.rsl true 3 0 1 2)) [(3,.cells [.str (ofL cnL [] y.a),.str (ofL ctL [] y.b)],.whole)]) [(1,BN),(2,BL)]):=by
 intro Q hq
 have hR:=g.c
 refine ALp.roundO (A:=oA 6 0 y [(30,4,.res (.str (ofL cnL [] y.a))),(30,9,.res (.str (ofL ctL [] y.b)))] [(34,fun s Q=>seesO 0 [(0,0),(1,1),(2,2),(4,4),(5,48)] (icusV (.ofNat i) Rs (obF o M N L .nilsl) [.str (ofL cnL [] y.a),.str (ofL ctL [] y.b)] false 0 []) [(1,BN),(2,BL)] s∧Q (.exit 5) (stO (icusV (.ofNat i) Rs (obF o M N L .nilsl) [.str (ofL cnL [] y.a),.str (ofL ctL [] y.b)] false 0 []) [(1,BN),(2,BL)]))] none []) (V1:=oW (.ofNat (i+1)) Rs (obF o M N L (.rsl true 3 0 1 2)) [(3,.cells [.str (ofL cnL [] y.a),.str (ofL ctL [] y.b)],.whole)]) (F:=oW (.ofNat i) Rs [] []) (opt:=[(1,BN),(2,BL)]) (opt':=[]) (lk:=[(0,0),(1,1),(2,2),(3,19),(4,4)]) (lk':=[]) base0 aidJ_ok (LsOk.at1 rfl cus_at fun st Q hs=> .seenO base0.glob hs.1 (cus_none (x:=cuOf y) g.c hM rN rX bn bx hs.2)) .refl ?_
 rw[ob_cus0,g.w]
 exact ⟨g.a,g.b,g.x,pk hk (by decide) (by decide),pick_sem _ (by decide) (by decide),idx_cn _,pick_sem _ (by decide) (by decide),idx_ct _,⟨⟨⟨⟨rfl,hR⟩,⟨rfl,rfl⟩,⟨rfl,rfl⟩,⟨rfl,rfl⟩,trivial⟩,⟨⟨rfl,rfl⟩,⟨rfl,rfl⟩,⟨rfl,rfl⟩,trivial⟩,renR_ob (o:=o) hM (rN _ rfl) (rX _ rfl) (.same _ rfl),⟨rfl,rfl⟩,⟨rfl,rfl⟩,trivial⟩,⟨rfl,bn⟩,⟨rfl,bx⟩,trivial⟩,⟨⟨⟨⟨⟨rfl,g.c⟩,⟨rfl,rfl⟩,trivial⟩,⟨⟨rfl,rfl⟩,⟨rfl,rfl⟩,trivial⟩,renR_ob (o:=o) hM (rN _ rfl) (rX _ rfl) (.rsl _ _ _ _ _ _ rfl),⟨rfl,rfl⟩,⟨rfl,rfl⟩,trivial⟩,⟨rfl,bn⟩,⟨rfl,bx⟩,trivial⟩,hq⟩⟩
theorem st_cus1t {y:Rw} {i:Nat} {Rs:List AV} {M N L:AV} {BN BL:Option Blk} (o:Ob) (g:Go1 i Rs y) (hM:closedA M=true) (rN:Rv 1 N) (rX:Rv 2 L) (bn:ClosedOB BN) (bx:ClosedOB BL) (hk:y.k%9=6) {l:List Cu} (hl:l.length≤1000) (hin:hasCu (cuOf y) l=true):Step (stO (oW (.ofNat i) Rs (obF o M N L (.rsl true 3 0 l.length 2)) [(3,.cells (flat (l.map cuA)),.whole)]) [(1,BN),(2,BL)]) (stO (oW (.ofNat (i+1)) Rs (obF o M N L (.rsl true 3 0 l.length 2)) [(3,.cells (flat (l.map cuA)),.whole)]) [(1,BN),(2,BL)]):=by
 intro Q hq
 have hR:=g.c
 refine ALp.roundO (A:=oA 6 0 y [(30,4,.res (.str (ofL cnL [] y.a))),(30,9,.res (.str (ofL ctL [] y.b)))] [(34,fun s Q=>seesO 0 [(0,0),(1,1),(2,2),(3,3),(4,4),(5,48)] (icusV (.ofNat i) Rs (obF o M N L (.rsl true 3 0 l.length 2)) [.str (ofL cnL [] y.a),.str (ofL ctL [] y.b)] false 0 [(3,.cells (flat (l.map cuA)),.whole)]) [(1,BN),(2,BL)] s∧Q (.exit 5) (stO (icusV (.ofNat i) Rs (obF o M N L (.rsl true 3 0 l.length 2)) [.str (ofL cnL [] y.a),.str (ofL ctL [] y.b)] true (.ofNat l.length) [(3,.cells (flat (l.map cuA)),.whole)]) [(1,BN),(2,BL)]))] none []) (V1:=oW (.ofNat (i+1)) Rs (obF o M N L (.rsl true 3 0 l.length 2)) [(3,.cells (flat (l.map cuA)),.whole)]) (F:=oW (.ofNat i) Rs [] []) (opt:=[(1,BN),(2,BL)]) (opt':=[]) (lk:=[(0,0),(1,1),(2,2),(3,3),(4,4)]) (lk':=[]) base0 aidJ_ok (LsOk.at1 rfl cus_at fun st Q hs=> .seenO base0.glob hs.1 (cus_loop (x:=cuOf y) g.c hM rN rX bn bx hl l.length 0 false (by omega) (by rw[List.drop_zero,hin];exact hs.2))) .refl ?_
 rw[ob_cus1t,g.w]
 exact ⟨g.a,g.b,g.x,pk hk (by decide) (by decide),pick_sem _ (by decide) (by decide),idx_cn _,pick_sem _ (by decide) (by decide),idx_ct _,⟨⟨⟨⟨rfl,hR⟩,⟨rfl,rfl⟩,⟨rfl,rfl⟩,⟨rfl,rfl⟩,trivial⟩,⟨⟨rfl,rfl⟩,⟨rfl,rfl⟩,⟨rfl,rfl⟩,trivial⟩,renR_ob (o:=o) hM (rN _ rfl) (rX _ rfl) (.rsl _ _ _ _ _ _ rfl),⟨rfl,rfl⟩,⟨rfl,rfl⟩,⟨rfl,closed_fcu l⟩,trivial⟩,⟨rfl,bn⟩,⟨rfl,bx⟩,trivial⟩,⟨⟨⟨⟨⟨rfl,g.c⟩,⟨rfl,rfl⟩,trivial⟩,⟨⟨rfl,rfl⟩,⟨rfl,rfl⟩,trivial⟩,renR_ob (o:=o) hM (rN _ rfl) (rX _ rfl) (.rsl _ _ _ _ _ _ rfl),⟨rfl,rfl⟩,⟨rfl,closed_fcu l⟩,trivial⟩,⟨rfl,bn⟩,⟨rfl,bx⟩,trivial⟩,hq⟩⟩
theorem flat_cus:∀l:List Cu,(flat (l.map cuA)).length=l.length*2
 |[]=>rfl
 |_::r=>by
  have ih:=flat_cus r
  rw[List.length_cons,Nat.succ_mul,←ih]
  rfl
theorem st_cus1f {y:Rw} {i:Nat} {Rs:List AV} {M N L:AV} {BN BL:Option Blk} (o:Ob) (g:Go1 i Rs y) (hM:closedA M=true) (rN:Rv 1 N) (rX:Rv 2 L) (bn:ClosedOB BN) (bx:ClosedOB BL) (hk:y.k%9=6) {l:List Cu} (hl:l.length≤1000) (hin:hasCu (cuOf y) l=false) (h6:l.length<6):Step (stO (oW (.ofNat i) Rs (obF o M N L (.rsl true 3 0 l.length 2)) [(3,.cells (flat (l.map cuA)),.whole)]) [(1,BN),(2,BL)]) (stO (oW (.ofNat (i+1)) Rs (obF o M N L (.rsl true 3 0 (l.length+1) 2)) [(3,.cells (flat (l.map cuA)++[.str (ofL cnL [] y.a),.str (ofL ctL [] y.b)]),.whole)]) [(1,BN),(2,BL)]):=by
 intro Q hq
 have hR:=g.c
 refine ALp.roundO (A:=oA 6 0 y [(30,4,.res (.str (ofL cnL [] y.a))),(30,9,.res (.str (ofL ctL [] y.b))),(36,6,.res (.bool true))] [(34,fun s Q=>seesO 0 [(0,0),(1,1),(2,2),(3,3),(4,4),(5,48)] (icusV (.ofNat i) Rs (obF o M N L (.rsl true 3 0 l.length 2)) [.str (ofL cnL [] y.a),.str (ofL ctL [] y.b)] false 0 [(3,.cells (flat (l.map cuA)),.whole)]) [(1,BN),(2,BL)] s∧Q (.exit 5) (stO (icusV (.ofNat i) Rs (obF o M N L (.rsl true 3 0 l.length 2)) [.str (ofL cnL [] y.a),.str (ofL ctL [] y.b)] false (.ofNat l.length) [(3,.cells (flat (l.map cuA)),.whole)]) [(1,BN),(2,BL)]))] none []) (V1:=oW (.ofNat (i+1)) Rs (obF o M N L (.rsl true 3 0 (l.length+1) 2)) [(3,.cells (flat (l.map cuA)++[.str (ofL cnL [] y.a),.str (ofL ctL [] y.b)]),.whole)]) (F:=oW (.ofNat i) Rs [] []) (opt:=[(1,BN),(2,BL)]) (opt':=[]) (lk:=[(0,0),(1,1),(2,2),(3,19),(4,4)]) (lk':=[]) base0 aidJ_ok (LsOk.at1 rfl cus_at fun st Q hs=> .seenO base0.glob hs.1 (cus_loop (x:=cuOf y) g.c hM rN rX bn bx hl l.length 0 false (by omega) (by rw[List.drop_zero,hin];exact hs.2))) .refl ?_
 rw[ob_cus1f,g.w]
 exact ⟨g.a,g.b,g.x,pk hk (by decide) (by decide),pick_sem _ (by decide) (by decide),idx_cn _,pick_sem _ (by decide) (by decide),idx_ct _,⟨⟨⟨⟨rfl,hR⟩,⟨rfl,rfl⟩,⟨rfl,rfl⟩,⟨rfl,rfl⟩,trivial⟩,⟨⟨rfl,rfl⟩,⟨rfl,rfl⟩,⟨rfl,rfl⟩,trivial⟩,renR_ob (o:=o) hM (rN _ rfl) (rX _ rfl) (.rsl _ _ _ _ _ _ rfl),⟨rfl,rfl⟩,⟨rfl,rfl⟩,⟨rfl,closed_fcu l⟩,trivial⟩,⟨rfl,bn⟩,⟨rfl,bx⟩,trivial⟩,lss_t (by simp;omega),oblB_of (by simp[allSize,allOne,flat,AV.cells,lenN];omega) (oblB_of (by simp[lenN_eq,flat_cus]) ⟨⟨⟨⟨⟨rfl,g.c⟩,⟨rfl,rfl⟩,trivial⟩,⟨⟨rfl,rfl⟩,⟨rfl,rfl⟩,trivial⟩,renR_ob (o:=o) hM (rN _ rfl) (rX _ rfl) (.rsl _ _ _ _ _ _ rfl),⟨rfl,rfl⟩,⟨rfl,by simp[closedAll_append,closed_fcu];rfl⟩,trivial⟩,⟨rfl,bn⟩,⟨rfl,bx⟩,trivial⟩,hq⟩)⟩
theorem st_cus1s {y:Rw} {i:Nat} {Rs:List AV} {M N L:AV} {BN BL:Option Blk} (o:Ob) (g:Go1 i Rs y) (hM:closedA M=true) (rN:Rv 1 N) (rX:Rv 2 L) (bn:ClosedOB BN) (bx:ClosedOB BL) (hk:y.k%9=6) {l:List Cu} (hl:l.length≤1000) (hin:hasCu (cuOf y) l=false) (h6:6≤l.length):Step (stO (oW (.ofNat i) Rs (obF o M N L (.rsl true 3 0 l.length 2)) [(3,.cells (flat (l.map cuA)),.whole)]) [(1,BN),(2,BL)]) (stO (oW (.ofNat (i+1)) Rs (obF o M N L (.rsl true 3 0 l.length 2)) [(3,.cells (flat (l.map cuA)),.whole)]) [(1,BN),(2,BL)]):=by
 intro Q hq
 have hR:=g.c
 refine ALp.roundO (A:=oA 6 0 y [(30,4,.res (.str (ofL cnL [] y.a))),(30,9,.res (.str (ofL ctL [] y.b))),(36,6,.res (.bool false))] [(34,fun s Q=>seesO 0 [(0,0),(1,1),(2,2),(3,3),(4,4),(5,48)] (icusV (.ofNat i) Rs (obF o M N L (.rsl true 3 0 l.length 2)) [.str (ofL cnL [] y.a),.str (ofL ctL [] y.b)] false 0 [(3,.cells (flat (l.map cuA)),.whole)]) [(1,BN),(2,BL)] s∧Q (.exit 5) (stO (icusV (.ofNat i) Rs (obF o M N L (.rsl true 3 0 l.length 2)) [.str (ofL cnL [] y.a),.str (ofL ctL [] y.b)] false (.ofNat l.length) [(3,.cells (flat (l.map cuA)),.whole)]) [(1,BN),(2,BL)]))] none []) (V1:=oW (.ofNat (i+1)) Rs (obF o M N L (.rsl true 3 0 l.length 2)) [(3,.cells (flat (l.map cuA)),.whole)]) (F:=oW (.ofNat i) Rs [] []) (opt:=[(1,BN),(2,BL)]) (opt':=[]) (lk:=[(0,0),(1,1),(2,2),(3,3),(4,4)]) (lk':=[]) base0 aidJ_ok (LsOk.at1 rfl cus_at fun st Q hs=> .seenO base0.glob hs.1 (cus_loop (x:=cuOf y) g.c hM rN rX bn bx hl l.length 0 false (by omega) (by rw[List.drop_zero,hin];exact hs.2))) .refl ?_
 rw[ob_cus1s,g.w]
 exact ⟨g.a,g.b,g.x,pk hk (by decide) (by decide),pick_sem _ (by decide) (by decide),idx_cn _,pick_sem _ (by decide) (by decide),idx_ct _,⟨⟨⟨⟨rfl,hR⟩,⟨rfl,rfl⟩,⟨rfl,rfl⟩,⟨rfl,rfl⟩,trivial⟩,⟨⟨rfl,rfl⟩,⟨rfl,rfl⟩,⟨rfl,rfl⟩,trivial⟩,renR_ob (o:=o) hM (rN _ rfl) (rX _ rfl) (.rsl _ _ _ _ _ _ rfl),⟨rfl,rfl⟩,⟨rfl,rfl⟩,⟨rfl,closed_fcu l⟩,trivial⟩,⟨rfl,bn⟩,⟨rfl,bx⟩,trivial⟩,lss_f (by simp;omega),⟨⟨⟨⟨⟨rfl,g.c⟩,⟨rfl,rfl⟩,trivial⟩,⟨⟨rfl,rfl⟩,⟨rfl,rfl⟩,trivial⟩,renR_ob (o:=o) hM (rN _ rfl) (rX _ rfl) (.rsl _ _ _ _ _ _ rfl),⟨rfl,rfl⟩,⟨rfl,closed_fcu l⟩,trivial⟩,⟨rfl,bn⟩,⟨rfl,bx⟩,trivial⟩,hq⟩⟩
noncomputable section
def byV (n i:Nat) (x:Int) (es:List AV):View:=⟨[(0,I (.ofNat n)),(6,.int .u64 x),(7,I (.ofNat i))],[(5,.rsl true 0 0 n 1)],[(0,.cells es,.whole)],1,27⟩
@[simp] abbrev zi1 (n:Nat):=(I (Int.ofNat n)=I (Int.ofNat n)∧closedA (I (Int.ofNat n))=true)
theorem by_round (n i j:Nat) (x x':Int) (es es':List AV) (N:Prop) (Q:AExit→St→Prop):wpK Tryz.prog opts0 40 (aidJ [] [] noSem [] []) (lpCode Tryz.prog 68 5) (byV n i x es).st (roundP 0 [(0,0)] (byV n j x' es') N [(0,0)] (byV n i x es) Q)=
  (mtB (ltInt (Int.ofNat i) (Int.ofNat n)) (oblB (nonneg (Int.ofNat i)&&((Int.ofNat i).toNat.blt n&&true)) (oblB ((0+(Int.ofNat i).toNat*1+1).ble (lenN es)) ((((zi1 n)∧(AV.int IntKind.u64 (wrapA IntKind.u64 (wrapA IntKind.u64 (x*6364136223846793005)+1442695040888963407))=AV.int IntKind.u64 x'∧closedA (AV.int IntKind.u64 x')=true)∧(I (wrapA IntKind.i64 (Int.ofNat i+1))=I (Int.ofNat j)∧closedA (I (Int.ofNat j))=true)∧True)∧((true=true∧some 0=some 0∧0=0∧n=n∧1=1)∧True)∧(List.take (0+(Int.ofNat i).toNat*1) es++AV.int IntKind.u8 (wrapA IntKind.u8 ((wrapA IntKind.u64 (wrapA IntKind.u64 (x*6364136223846793005)+1442695040888963407)).fdiv 1099511627776))::List.drop (0+(Int.ofNat i).toNat*1+lenN [AV.int IntKind.u8 (wrapA IntKind.u8 ((wrapA IntKind.u64 (wrapA IntKind.u64 (x*6364136223846793005)+1442695040888963407)).fdiv 1099511627776))]) es=es'∧closedAll es'=true)∧True)∧N))) ((((zi1 n)∧(AV.int IntKind.u64 x=AV.int IntKind.u64 x∧closedA (AV.int IntKind.u64 x)=true)∧(I (Int.ofNat i)=I (Int.ofNat i)∧closedA (I (Int.ofNat i))=true)∧True)∧((true=true∧some 0=some 0∧0=0∧n=n∧1=1)∧True)∧(es=es∧closedAll es=true)∧True)∧Q (AExit.exit 0) (byV n i x es).st)):=by kernel_rfl
def byL (n:Nat) (s x:Int) (es es':List AV):LoopS:=fun st Q=>seesK 0 [(0,2)] (byV n 0 (wrapA .u64 s) es) st∧Q (.exit 0) (byV n n x es').st
theorem by_fn (n:Nat) (s x:Int) (es es':List AV) (Q:AV→Heap→Nat→Prop):fnK Tryz.prog opts0 40 (aidJ [] [(5,byL n s x es es')] noSem [] []) 68 [I (.ofNat n),I s] [] 0 Q=
  (oblB (nonneg (Int.ofNat n)&&(nonneg (Int.ofNat n)&&((Int.ofNat n).toNat.ble (Int.ofNat n).toNat&&(1*(Int.ofNat n).toNat).ble 281474976710656&&(Int.ofNat n).toNat.ble 9223372036854775807&&true&&true))) ((((zi1 n)∧(AV.int IntKind.u64 (wrapA IntKind.u64 s)=AV.int IntKind.u64 (wrapA IntKind.u64 s)∧closedA (AV.int IntKind.u64 (wrapA IntKind.u64 s))=true)∧(I 0=I 0∧true=true)∧True)∧((true=true∧some 2=some 2∧0=0∧n=(Int.ofNat n).toNat∧1=1)∧True)∧(flat (repE (AV.int IntKind.u8 0) (Int.ofNat n).toNat)=es∧closedAll es=true)∧True)∧Q (AV.rsl true 0 0 n 1) [(0,some (Blk.cells es'))] 3)):=by kernel_rfl
def byS (x:Int):Int:=wrapA .u64 (wrapA .u64 (x*6364136223846793005)+1442695040888963407)
def byB (x:Int):UInt8:=UInt8.ofNat (wrapA .u8 (x.fdiv 1099511627776)).toNat
def byR:Nat→Int→List UInt8
 |0,_=>[]
 |k+1,x=>byB (byS x)::byR k (byS x)
def byE:Nat→Int→Int
 |0,x=>x
 |k+1,x=>byE k (byS x)
theorem byR_length:∀k x,(byR k x).length=k
 |0,_=>rfl
 |k+1,_x=>congrArg (· +1) (byR_length k _)
theorem byB_eq (x:Int):AV.int .u8 (wrapA .u8 (x.fdiv 1099511627776))= .int .u8 (.ofNat (byB x).toNat):=by
 unfold byB
 rw[wrapA_eq]
 generalize x.fdiv 1099511627776=y
 have h0:0≤IntKind.wrap .u8 y∧IntKind.wrap .u8 y<256:=by simp[IntKind.wrap,IntKind.signed,IntKind.bits];omega
 obtain ⟨h0,h1⟩:=h0
 congr 1
 rw[UInt8.toNat_ofNat']
 simp only[Int.ofNat_eq_natCast]
 omega
theorem by_loop {n:Nat} {Q:AExit→St→Prop} (hn:n≤1000):∀ (k:Nat) (x:Int) (p:List UInt8),p.length+k=n→Q (.exit 0) (byV n n (byE k x) (toBytes (p++byR k x))).st→ALp Tryz.prog opts0.glob 0 (lpCode Tryz.prog 68 5) (byV n p.length x (toBytes (p++List.replicate k 0))).st Q:=by
 intro k
 induction k with
 |zero=>
  intro x p hp hq
  simp only[Nat.add_zero] at hp
  subst hp
  refine ALp.round (A:=aidJ [] [] noSem [] []) (V1:=byV p.length 0 x []) (V2:=byV p.length 0 x []) (F:=byV p.length p.length x (toBytes (p++List.replicate 0 0))) (lk:=[(0,0)]) (lk':=[(0,0)]) base0 aidJ_ok (LsOk.no rfl) .refl ?_
  rw[by_round]
  refine mtB_of (fun h=> ?_) (fun _=>⟨⟨⟨⟨rfl,rfl⟩,⟨rfl,rfl⟩,⟨rfl,rfl⟩,trivial⟩,⟨⟨rfl,rfl,rfl,rfl,rfl⟩,trivial⟩,⟨rfl,closedAll_toBytes _⟩,trivial⟩,hq⟩)
  have h:=ltInt_iff.1 h
  omega
 | succ k ih=>
  intro x p hp hq
  have h2:=ih (byS x) (p++[byB (byS x)]) (by simp;omega) (by simpa [byR,byE] using hq)
  have hl:(p++[byB (byS x)]).length=p.length+1:=by simp
  rw[hl,List.append_assoc,List.singleton_append] at h2
  have hw:wrapA .i64 (Int.ofNat p.length+1)=Int.ofNat (p.length+1):=wrapA_i64 (by simp;omega) (by simp;omega)
  refine ALp.round (A:=aidJ [] [] noSem [] []) (V1:=byV n (p.length+1) (byS x) (toBytes (p++byB (byS x)::List.replicate k 0))) (V2:=byV n (p.length+1) (byS x) (toBytes (p++byB (byS x)::List.replicate k 0))) (F:=byV n p.length x (toBytes (p++List.replicate (k+1) 0))) (lk:=[(0,0)]) (lk':=[(0,0)]) base0 aidJ_ok (LsOk.no rfl) .refl ?_
  rw[by_round,hw,show wrapA .u64 (wrapA .u64 (x*6364136223846793005)+1442695040888963407)=byS x from rfl,byB_eq]
  refine mtB_of (fun _=>oblB_of ?_ (oblB_of ?_ ⟨⟨⟨⟨rfl,rfl⟩,⟨rfl,rfl⟩,⟨rfl,rfl⟩,trivial⟩,⟨⟨rfl,rfl,rfl,rfl,rfl⟩,trivial⟩,⟨?_,closedAll_toBytes _⟩,trivial⟩,h2⟩)) (fun h=> ?_)
  ·simp only[nonneg,Bool.true_and,Bool.and_true]
   exact blt_iff.2 (by simp;omega)
  ·rw[lenN_toBytes]
   simp
  ·simp[toBytes_map,lenN,List.replicate_succ]
   rw[List.drop_append,List.drop_of_length_le (by simp),List.nil_append,List.length_map,Nat.add_sub_cancel_left]
   rfl
  ·have h:=ltInt_false.1 h
   simp only[Int.ofNat_eq_natCast] at h
   omega
theorem by_at:loopsAt (fnCode Tryz.prog 68) 5=[lpCode Tryz.prog 68 5]:=by kernel_rfl
theorem bytes_sem {n:Nat} (hn:n≤1000) (s:Int):SC 68 [I (.ofNat n),I s] (.fsl false (toBytes (byR n (wrapA .u64 s)))):=by
 refine fnK_semX (A:=aidJ [] [(5,byL n s (byE n (wrapA .u64 s)) (toBytes ([]++List.replicate n 0)) (toBytes ([]++byR n (wrapA .u64 s))))] noSem [] []) base0 aidJ_ok
  (fnLs_of (LsOk.at1 rfl by_at fun st Q hs=> .seen base0.glob hs.1 (by_loop hn n _ [] (by simp) hs.2))) rfl ?_
 rw[by_fn]
 refine oblB_of ?_ ⟨⟨⟨⟨rfl,rfl⟩,⟨rfl,rfl⟩,⟨rfl,rfl⟩,trivial⟩,⟨⟨rfl,rfl,rfl,rfl,rfl⟩,trivial⟩,⟨?_,closedAll_toBytes _⟩,trivial⟩, ?_⟩
 ·simp[nonneg];omega
 ·show flat (repE _ n)=_
  rw[repE_zero,flat_toBytes,List.nil_append]
 ·exact ⟨_,(Frz.bytes (s:=byR n (wrapA .u64 s)) rfl rfl rfl (byR_length _ _).symm).out,closedAll_toBytes _,.refl _⟩
end
end Go.Proofs.YtjhggnebkfpgcaaGreatDoor
namespace Go.Proofs.YtjhggnebkfpgcaaGreatDoor
open Go Go.RowKit
open Go.Proofs.Abs
noncomputable section
@[simp] abbrev zj2 (Rs:List AV):=(AV.fsl false Rs=AV.fsl false Rs∧closedA (AV.fsl false Rs)=true)
@[simp] abbrev zj1 (BC BL BN:Option Blk) (C L M N:AV) (Rs:List AV) (i:Int) (o:Ob):=((((zj2 Rs)∧(I i=I i∧closedA (I i)=true)∧True)∧((some 4=some 4∧0=0)∧(some 0=some 0∧0=0)∧True)∧RenR [(0,0),(1,1),(2,2),(3,3),(4,4)] (obF o M N L C) (obF o M N L C)∧(zL=zL∧true=true)∧True)∧(BN=BN∧ClosedOB BN)∧(BL=BL∧ClosedOB BL)∧(BC=BC∧ClosedOB BC)∧True)
theorem ob_endA (i:Int) (Rs:List AV) (o:Ob) (M N L C:AV) (BN BL BC:Option Blk) (Nx:Prop) (Q:AExit→St→Prop):wpK Tryz.prog opts0 40 (aidJ [(4,3,.res (.bool false))] [] noSem [] []) (lpCode Tryz.prog 22 5) (stO (oW i Rs (obF o M N L C) []) [(1,BN),(2,BL),(3,BC)]) (roundO 0 [] (oW i Rs [] []) [] Nx [(0,0),(1,1),(2,2),(3,3),(4,4)] (oW i Rs (obF o M N L C) []) [(1,BN),(2,BL),(3,BC)] Q)=
  (binA Tryz.prog BinOp.lss 3 (Operand.tmp 55) (Operand.tmp 57) (I i) (I (Int.ofNat (lenN Rs)))=some (AV.bool false)∧(zj1 BC BL BN C L M N Rs i o)∧Q (AExit.exit 0) (stO (oW i Rs (obF o M N L C) []) [(1,BN),(2,BL),(3,BC)])):=by kernel_rfl
theorem ob_endB (i:Int) (Rs:List AV) (o:Ob) (M N L C:AV) (BN BL BC:Option Blk) (Nx:Prop) (Q:AExit→St→Prop):wpK Tryz.prog opts0 40 (aidJ [(4,3,.res (.bool true)),(4,6,.res (.bool false))] [] noSem [] []) (lpCode Tryz.prog 22 5) (stO (oW i Rs (obF o M N L C) []) [(1,BN),(2,BL),(3,BC)]) (roundO 0 [] (oW i Rs [] []) [] Nx [(0,0),(1,1),(2,2),(3,3),(4,4)] (oW i Rs (obF o M N L C) []) [(1,BN),(2,BL),(3,BC)] Q)=
  (binA Tryz.prog BinOp.lss 3 (Operand.tmp 55) (Operand.tmp 57) (I i) (I (Int.ofNat (lenN Rs)))=some (AV.bool true)∧binA Tryz.prog BinOp.lss 3 (Operand.tmp 60) (Operand.const (Value.int IntKind.i64 10)) (I i) (I 10)=some (AV.bool false)∧(zj1 BC BL BN C L M N Rs i o)∧Q (AExit.exit 0) (stO (oW i Rs (obF o M N L C) []) [(1,BN),(2,BL),(3,BC)])):=by kernel_rfl
def obA0 (id:List UInt8) (ty alg mask n:Int) (m:List AV) (ls:LoopS):Aid:=aidJ [(1,7,.res (I ty)),(1,12,.res (I alg)),(1,18,.res (I mask)),(1,24,.res (I n))] [(5,ls)] (manyF [(23,pkF),(67,fun _=>some (.str id)),(68,fun _=>some (.fsl false m))]) [] []
def ob0 (x:Rw) (id:List UInt8) (ty alg mask:Int) (mat:List UInt8):Ob:=⟨id,ty,alg,128,mask,mat,wrapA .i64 (1+x.k%6),⟨true,x.c%20⟩,⟨false,0⟩,⟨false,0⟩,⟨false,0⟩,⟨false,0⟩,⟨false,0⟩,⟨false,0⟩,⟨false,0⟩,⟨false,0⟩,⟨false,0⟩,0,[],[],[],[],false,0,0,0,false⟩
def obL (Rs:List AV) (o0 o:Ob) (m:List AV) (j:Int) (N L C:AV) (BN BL BC:Option Blk):LoopS:=fun st Q=>seesO 0 [(0,35),(4,1)] (oW 0 Rs (obF o0 (.fsl false m) .nilsl .nilsl .nilsl) []) [] st∧Q (.exit 0) (stO (oW j Rs (obF o (.fsl false m) N L C) []) [(1,BN),(2,BL),(3,BC)])
@[simp] abbrev zj3:=((some 1=some 1∧0=0)∧(some 35=some 35∧0=0)∧True)
theorem ob_fn0 (x:Rw) (Rs:List AV) (id:List UInt8) (ty alg mask n:Int) (mat:List UInt8) (m:List AV) (o:Ob) (j:Int) (N C:AV) (BN BL BC:Option Blk) (Q:AV→Heap→Prop):fnK Tryz.prog opts0 40 (obA0 id ty alg mask n m (obL Rs (ob0 x id ty alg mask mat) o m j N .nilsl C BN BL BC)) 22 [rwA x,.fsl false Rs] [] 0 (fun v H _=>Q v H)=
  (SC 67 [I x.2] (AV.str id)∧SC 23 [I x.3,I 5] (I (x.3%5))∧indexA Tryz.prog 103 (AV.agg [I 2,I 2,I 3,I 4,I 7]) (I (x.3%5))=some (I ty)∧SC 23 [I x.4,I 4] (I (x.4%4))∧indexA Tryz.prog 104 (AV.agg [I 3,I 3,I 0,I 4]) (I (x.4%4))=some (I alg)∧SC 23 [I (wrapA IntKind.i64 (x.2.tdiv 12)),I 5] (I (wrapA IntKind.i64 (x.2.tdiv 12)%5))∧indexA Tryz.prog 103 (AV.agg [I 396,I 12,I 4,I 384,I 0]) (I (wrapA IntKind.i64 (x.2.tdiv 12)%5))=some (I mask)∧SC 23 [I (wrapA IntKind.i64 (x.3.tdiv 5)),I 5] (I (wrapA IntKind.i64 (x.3.tdiv 5)%5))∧indexA Tryz.prog 103 (AV.agg [I 16,I 16,I 32,I 0,I 24]) (I (wrapA IntKind.i64 (x.3.tdiv 5)%5))=some (I n)∧SC 68 [I n,I x.4] (AV.fsl false m)∧SC 23 [I x.1,I 6] (I (x.1%6))∧SC 23 [I x.4,I 20] (I (x.4%20))∧((((zj2 Rs)∧(I 0=I 0∧true=true)∧True)∧zj3∧RenR [(0,35),(4,1)] [AV.str id,I ty,I alg,I 128,I mask,AV.fsl false m,I (wrapA IntKind.i64 (1+x.1%6)),AV.bool true,I (x.4%20),AV.bool false,I 0,AV.bool false,I 0,AV.bool false,I 0,AV.bool false,I 0,AV.bool false,I 0,AV.bool false,I 0,AV.bool false,I 0,AV.bool false,I 0,AV.bool false,I 0,I 0,AV.str [],AV.nilsl,AV.nilsl,AV.nilsl,AV.bool false,I 0,I 0,I 0,AV.bool false] [AV.str id,I ty,I alg,I 128,I mask,AV.fsl false m,I (wrapA IntKind.i64 (1+x.1%6)),AV.bool true,I (x.4%20),AV.bool false,I 0,AV.bool false,I 0,AV.bool false,I 0,AV.bool false,I 0,AV.bool false,I 0,AV.bool false,I 0,AV.bool false,I 0,AV.bool false,I 0,AV.bool false,I 0,I 0,AV.str [],AV.nilsl,AV.nilsl,AV.nilsl,AV.bool false,I 0,I 0,I 0,AV.bool false]∧(zL=zL∧true=true)∧True)∧True)∧oblB (fitsT Tryz.prog 33 (AV.agg (obF o (AV.fsl false m) N AV.nilsl C)) 37) (Q (AV.agg (obF o (AV.fsl false m) N AV.nilsl C)) [(4,some (Blk.cells (obF o (AV.fsl false m) N AV.nilsl C))),(0,some (Blk.cells (obF o (AV.fsl false m) N AV.nilsl C))),(4,some (Blk.cells zL)),(1,BN),(2,BL),(3,BC)])):=by kernel_rfl
abbrev zj4 (C N:AV) (m:List AV) (o:Ob):=(obF o (AV.fsl false m) N (AV.rsl true 2 0 8 2) C)
theorem ob_fn1 (x:Rw) (Rs:List AV) (id:List UInt8) (ty alg mask n:Int) (mat:List UInt8) (m:List AV) (o:Ob) (j:Int) (N C:AV) (k:Nat) (es:List AV) (BN BC:Option Blk) (Q:AV→Heap→Prop):fnK Tryz.prog opts0 40 (obA0 id ty alg mask n m (obL Rs (ob0 x id ty alg mask mat) o m j N (.rsl true 2 0 k 2) C BN (some (.cells es)) BC)) 22 [rwA x,.fsl false Rs] [] 0 (fun v H _=>Q v H)=
  (SC 67 [I x.2] (AV.str id)∧SC 23 [I x.3,I 5] (I (x.3%5))∧indexA Tryz.prog 103 (AV.agg [I 2,I 2,I 3,I 4,I 7]) (I (x.3%5))=some (I ty)∧SC 23 [I x.4,I 4] (I (x.4%4))∧indexA Tryz.prog 104 (AV.agg [I 3,I 3,I 0,I 4]) (I (x.4%4))=some (I alg)∧SC 23 [I (wrapA IntKind.i64 (x.2.tdiv 12)),I 5] (I (wrapA IntKind.i64 (x.2.tdiv 12)%5))∧indexA Tryz.prog 103 (AV.agg [I 396,I 12,I 4,I 384,I 0]) (I (wrapA IntKind.i64 (x.2.tdiv 12)%5))=some (I mask)∧SC 23 [I (wrapA IntKind.i64 (x.3.tdiv 5)),I 5] (I (wrapA IntKind.i64 (x.3.tdiv 5)%5))∧indexA Tryz.prog 103 (AV.agg [I 16,I 16,I 32,I 0,I 24]) (I (wrapA IntKind.i64 (x.3.tdiv 5)%5))=some (I n)∧SC 68 [I n,I x.4] (AV.fsl false m)∧SC 23 [I x.1,I 6] (I (x.1%6))∧SC 23 [I x.4,I 20] (I (x.4%20))∧((((zj2 Rs)∧(I 0=I 0∧true=true)∧True)∧zj3∧RenR [(0,35),(4,1)] [AV.str id,I ty,I alg,I 128,I mask,AV.fsl false m,I (wrapA IntKind.i64 (1+x.1%6)),AV.bool true,I (x.4%20),AV.bool false,I 0,AV.bool false,I 0,AV.bool false,I 0,AV.bool false,I 0,AV.bool false,I 0,AV.bool false,I 0,AV.bool false,I 0,AV.bool false,I 0,AV.bool false,I 0,I 0,AV.str [],AV.nilsl,AV.nilsl,AV.nilsl,AV.bool false,I 0,I 0,I 0,AV.bool false] [AV.str id,I ty,I alg,I 128,I mask,AV.fsl false m,I (wrapA IntKind.i64 (1+x.1%6)),AV.bool true,I (x.4%20),AV.bool false,I 0,AV.bool false,I 0,AV.bool false,I 0,AV.bool false,I 0,AV.bool false,I 0,AV.bool false,I 0,AV.bool false,I 0,AV.bool false,I 0,AV.bool false,I 0,I 0,AV.str [],AV.nilsl,AV.nilsl,AV.nilsl,AV.bool false,I 0,I 0,I 0,AV.bool false]∧(zL=zL∧true=true)∧True)∧True)∧mtB (ltInt 8 (Int.ofNat k)) (oblB (Nat.ble 8 k) (oblB (fitsT Tryz.prog 33 (AV.agg (zj4 C N m o)) 37) (Q (AV.agg (zj4 C N m o)) [(4,some (Blk.cells (zj4 C N m o))),(0,some (Blk.cells (zj4 C N m o))),(4,some (Blk.cells zL)),(1,BN),(2,some (Blk.cells es)),(3,BC)]))) (oblB (fitsT Tryz.prog 33 (AV.agg (obF o (AV.fsl false m) N (AV.rsl true 2 0 k 2) C)) 37) (Q (AV.agg (obF o (AV.fsl false m) N (AV.rsl true 2 0 k 2) C)) [(4,some (Blk.cells (obF o (AV.fsl false m) N (AV.rsl true 2 0 k 2) C))),(0,some (Blk.cells (obF o (AV.fsl false m) N (AV.rsl true 2 0 k 2) C))),(4,some (Blk.cells zL)),(1,BN),(2,some (Blk.cells es)),(3,BC)]))):=by kernel_rfl
end
end Go.Proofs.YtjhggnebkfpgcaaGreatDoor
