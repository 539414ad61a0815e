/- AllP, NamesW, NamesP, RFind. -/
import Derived.Test.YtjhggnebkfpgcaaGreatDoorQ5
import Derived.KernelRfl
import Derived.Test.YtjhggnebkfpgcaaGreatDoorQ4
namespace Go.Proofs.YtjhggnebkfpgcaaGreatDoor
set_option maxRecDepth 20000
open Go Go.RowKit
open Go.Proofs.Abs
theorem allSize_at:∀l:List At,allSize 7 (l.map atA)=true
 |[]=>rfl
 |⟨_,_,⟨_,_,_,_,_⟩⟩::r=>by
  rw[List.map_cons,allSize,allSize_at r]
  rfl
theorem allOne_at:∀l:List At,allOne (flat (l.map atA))=true
  |[]=>rfl
  | ⟨_,_,⟨_,_,_,_,_⟩⟩::r=>by
    rw[List.map_cons,flat,allOne_append,allOne_at r]
    rfl
 where
  allOne_append:∀ {l r:List AV},allOne (l++r)=(allOne l&&allOne r)
    |[],_=>rfl
    |a::t,r=>by rw[List.cons_append,allOne,allOne,allOne_append,Bool.and_assoc]
theorem stdT_app (o:Ob):∀l r:List Kd,stdT o (l++r)=stdT o l++stdT o r
 |[],_=>rfl
 |a::t,r=>by rw[List.cons_append,stdT,stdT,stdT_app o t r,List.append_assoc]
theorem stdT_one (o:Ob) (k:Kd):stdT o [k]=tellL (nameK k) (getK o k) 0:=by rw[stdT,stdT,List.append_nil]
theorem stdT_len {o:Ob} (hg:∀k,OkG o k):∀l:List Kd,(stdT o l).length≤1000*l.length
 |[]=>Nat.le_refl _
 |a::t=>by
  have:=stdT_len hg t
  have h:=(hg a).n
  rw[stdT,List.length_append,tell_length,List.length_cons]
  omega
theorem idxKd {i:Nat} {k:Kd} (h:kinds[i]? =some k):indexAddrA Tryz.prog 132 (.fsl true (kinds.map rowA)) (.int .i64 (.ofNat i))=some (.fptr (rowC k) 0):=
 fsl_index (v:=rowA k) (e:=89) (sz:=12) (by kernel_rfl) (by kernel_rfl) (by rw[List.getElem?_map,h];rfl) rfl
theorem closed_kinds:closedAll (kinds.map rowA)=true:=by kernel_rfl
theorem al_loop1 {o:Ob} (ho:FitO o) (hg:∀k,OkG o k) {Q:AExit→St→Prop} (hq:Q (.exit 0) (alV1 (.ofNat 20) (stdT o kinds).length (kinds.map rowA) (obC o) (flat ((stdT o kinds).map atA))).st):
  ∀m i:Nat,i+m=20→ALp Tryz.prog opts0.glob 0 (lpCode Tryz.prog 40 4) (alV1 (.ofNat i) (stdT o (kinds.take i)).length (kinds.map rowA) (obC o) (flat ((stdT o (kinds.take i)).map atA))).st Q:=by
 have hO:=closed_obC o
 have hK:=closed_kinds
 intro m
 induction m with
 |zero=>
  intro i hi
  rw[Nat.add_zero] at hi
  subst hi
  rw[show kinds.take 20=kinds from rfl]
  refine ALp.round (A:=alA (rowC .uid) []) (V1:=alV1 0 0 (kinds.map rowA) (obC o) []) (V2:=alV1 0 0 (kinds.map rowA) (obC o) []) (F:=alV1 (.ofNat 20) (stdT o kinds).length (kinds.map rowA) (obC o) (flat ((stdT o kinds).map atA))) (lk:=[(0,0),(1,11)]) (lk':=[(0,0),(1,1)]) base0 aidJ_ok (LsOk.no rfl) .refl ?_
  rw[rowC_eq]
  unfold obC at hO hq⊢
  rw[al_r1]
  exact mtB_of (fun e=>by cases e) fun _=>⟨⟨⟨⟨rfl,hK⟩,⟨rfl,rfl⟩,⟨rfl,rfl⟩,trivial⟩,⟨⟨rfl,rfl⟩,⟨rfl,rfl,rfl,rfl,rfl⟩,trivial⟩,⟨rfl,hO⟩,⟨rfl,closed_fat _⟩,trivial⟩,hq⟩
 | succ m ih=>
  intro i hi
  have h20:i<kinds.length:=by show i<20;omega
  have g:=List.getElem?_eq_getElem h20
  have ih:=ih (i+1) (by omega)
  have hmem:=List.getElem_mem h20
  rw[take_snoc g,stdT_app,stdT_one] at ih
  revert g ih hmem
  generalize kinds[i]=k
  intro g ih hmem
  have hof:=of_sem ((by decide:∀k∈kinds,kdB k=true) k hmem) ho (hg k)
  have hfit:=fits_row k
  have hix:=idxKd g
  have hls:=tell_length (nameK k) (getK o k) 0
  have hn:=(hg k).n
  have hsl:=stdT_len hg (kinds.take i)
  have htl:(kinds.take i).length≤20:=List.length_take_le' i kinds
  have hw:wrapA .i64 (Int.ofNat i+1)=Int.ofNat (i+1):=wrapA_i64 (by simp;omega) (by simp;omega)
  revert hof ih hls
  generalize tellL (nameK k) (getK o k) 0=ls
  intro ih hof hls
  rw[List.length_append,List.map_append,flat_append] at ih
  revert ih hsl
  generalize stdT o (kinds.take i)=pre
  intro hsl ih
  refine ALp.round (A:=alA (rowC k) (ls.map atA)) (V1:=alV1 (.ofNat (i+1)) (pre.length+ls.length) (kinds.map rowA) (obC o) (flat (pre.map atA)++flat (ls.map atA))) (V2:=alV1 (.ofNat (i+1)) (pre.length+ls.length) (kinds.map rowA) (obC o) (flat (pre.map atA)++flat (ls.map atA))) (F:=alV1 (.ofNat i) pre.length (kinds.map rowA) (obC o) (flat (pre.map atA))) (lk:=[(0,0),(1,11)]) (lk':=[(0,0),(1,1)]) base0 aidJ_ok (LsOk.no rfl) .refl ?_
  rw[rowC_eq] at hof hfit hix⊢
  simp only[obA] at hof
  unfold obC at hO hof ih⊢
  rw[al_r1,hw]
  refine mtB_of (fun _=>⟨hix,oblB_of hfit ⟨hof,oblB_of ?_ (oblB_of ?_ ⟨⟨⟨⟨rfl,hK⟩,⟨rfl,rfl⟩,⟨rfl,rfl⟩,trivial⟩,⟨⟨rfl,rfl⟩,⟨rfl,rfl,rfl, ?_,rfl⟩,trivial⟩,⟨rfl,hO⟩,⟨rfl, ?_⟩,trivial⟩,ih⟩)⟩⟩) (fun e=> ?_)
  ·rw[allSize_at,allOne_at,lenN_eq,List.length_map]
   simp only[Bool.true_and,Bool.and_true,Nat.ble_eq]
   omega
  ·rw[beq_iff,lenN_eq,flat_at]
  ·rw[lenN_eq,List.length_map]
  ·rw[closedAll_append,closed_fat,closed_fat];rfl
  ·have e:=ltInt_false.1 e
   simp only[Int.ofNat_eq_natCast] at e
   omega
theorem al_loop0 {o:Ob} (ho:FitO o) (hg:∀k,OkG o k) {Q:AExit→St→Prop} (hq:Q (.exit 0) (alV1 (.ofNat 20) (stdT o kinds).length (kinds.map rowA) (obC o) (flat ((stdT o kinds).map atA))).st):
  ALp Tryz.prog opts0.glob 0 (lpCode Tryz.prog 40 4) (alV0 (kinds.map rowA) (obC o)).st Q:=by
 have hO:=closed_obC o
 have hK:=closed_kinds
 have hof:=of_sem (k:= .uid) rfl ho (hg .uid)
 have hfit:=fits_row .uid
 have hix:=idxKd (i:=0) (k:= .uid) rfl
 have h1:=al_loop1 ho hg hq 19 1 rfl
 refine ALp.round (A:=alA (rowC .uid) ((tellL (nameK .uid) (getK o .uid) 0).map atA)) (V1:=alV1 (.ofNat 1) (stdT o (kinds.take 1)).length (kinds.map rowA) (obC o) (flat ((stdT o (kinds.take 1)).map atA))) (V2:=alV1 (.ofNat 1) (stdT o (kinds.take 1)).length (kinds.map rowA) (obC o) (flat ((stdT o (kinds.take 1)).map atA))) (F:=alV0 (kinds.map rowA) (obC o)) (lk:=[(0,0),(1,10)]) (lk':=[(0,0)]) base0 aidJ_ok (LsOk.no rfl) .refl ?_
 rw[rowC_eq] at hof hfit hix⊢
 simp only[obA] at hof
 rw[show (tellL (nameK .uid) (getK o .uid) 0).map atA=[atA ⟨nameK .uid,.ofNat 0,txt o.id⟩] from rfl] at hof⊢
 unfold obC at hO hof h1⊢
 rw[al_r0]
 exact ⟨hix,oblB_of hfit ⟨hof,oblB_of rfl ⟨⟨⟨⟨rfl,hK⟩,⟨rfl,rfl⟩,⟨rfl,rfl⟩,trivial⟩,⟨⟨rfl,rfl⟩,⟨rfl,rfl,rfl,rfl,rfl⟩,trivial⟩,⟨rfl,hO⟩,⟨rfl,closed_fat _⟩,trivial⟩,h1⟩⟩⟩
def rawC (c:Cu) (n:Nat):AV:= .agg [.str c.name,I (.ofNat n),I 4325387,I 7,I 0,.fsl false (toBytes c.text),.nilsl]
def cusR:List Cu→List Cu→List AV
 |_,[]=>[]
 |pre,c::r=>rawC c (cntC c.name pre)::cusR (pre++[c]) r
theorem cusR_snoc (c:Cu):∀ (l q:List Cu),cusR q (l++[c])=cusR q l++[rawC c (cntC c.name (q++l))]
 |[],q=>by rw[List.append_nil];rfl
 |a::r,q=>by
  have ih:=cusR_snoc c r (q++[a])
  rw[List.append_assoc,List.singleton_append] at ih
  rw[List.cons_append,cusR,cusR,ih,List.cons_append]
theorem cusR_len:∀ (l q:List Cu),(cusR q l).length=l.length
 |[],_=>rfl
 |a::r,q=>by rw[cusR,List.length_cons,List.length_cons,cusR_len r]
theorem closed_cusR:∀ (l q:List Cu),closedAll (cusR q l)=true
 |[],_=>rfl
 |a::r,q=>by
  rw[cusR,closedAll,closed_cusR r]
  simp[rawC,closedA,closedAll]
theorem good_cusR:∀ (l q:List Cu),∀e∈cusR q l,goodEl 7 e
 |[],_,_,h=>by cases h
 |a::r,q,e,h=>by
  rcases List.mem_cons.1 h with h|h
  ·subst h;exact ⟨rfl,rfl⟩
  ·exact good_cusR r _ e h
theorem closed_fcusR:∀ (l q:List Cu),closedAll (flat (cusR q l))=true
 |[],_=>rfl
 |a::r,q=>by
  rw[cusR,flat,closedAll_append,closed_fcusR r]
  simp[rawC,AV.cells,closedA,closedAll]
theorem len_fcusR:∀ (l q:List Cu),(flat (cusR q l)).length=l.length*7
 |[],_=>rfl
 |a::r,q=>by
  rw[cusR,flat,List.length_append,len_fcusR r,List.length_cons]
  simp[rawC,AV.cells]
  omega
theorem wk_cusR:∀ (l q:List Cu),WkE (cusR q l) ((cusTl q l).map atA)
 |[],_=> .nil
 |a::r,q=>by
  rw[cusR,cusTl,List.map_cons]
  refine WkE.consA ?_ (wk_cusR r _)
  simp only[txt,vlV]
  (repeat (first|exact Wk.refl _|exact WkL.refl _|exact Wk.nil|exact Wk.row|exact WkE.refl _|exact WkL.nil|exact WkE.nil|apply Wk.agg|apply Wk.tuple|apply WkL.cons|apply Wk.rows|apply WkE.consA))
theorem wkE_app {a b:List AV} (h:WkE a b):∀l:List AV,WkE (l++a) (l++b)
 |[]=>h
 |_x::t=> .cons (.refl _) (wkE_app h t)
inductive MpOk (pre:List Cu):Blk→Prop
 |m (hp:cntC [120,45,97] pre=0) (hq:cntC [120,45,98] pre=0):MpOk pre (.mapb 0 [] [])
 |ma (p:Nat) (hp:cntC [120,45,97] pre=p) (hq:cntC [120,45,98] pre=0):MpOk pre (.mapb 1 [0] [(.str [120,45,97],I (.ofNat p))])
 |mb (p:Nat) (hp:cntC [120,45,98] pre=p) (hq:cntC [120,45,97] pre=0):MpOk pre (.mapb 1 [0] [(.str [120,45,98],I (.ofNat p))])
 |mab (p q:Nat) (hp:cntC [120,45,97] pre=p) (hq:cntC [120,45,98] pre=q):MpOk pre (.mapb 2 [0,1] [(.str [120,45,97],I (.ofNat p)),(.str [120,45,98],I (.ofNat q))])
 |mba (p q:Nat) (hp:cntC [120,45,98] pre=p) (hq:cntC [120,45,97] pre=q):MpOk pre (.mapb 2 [0,1] [(.str [120,45,98],I (.ofNat p)),(.str [120,45,97],I (.ofNat q))])
theorem idxCu {C:List Cu} {i:Nat} {c:Cu} (h:C[i]? =some c):indexAddrA Tryz.prog 29 (.fsl false (C.map cuA)) (.int .i64 (.ofNat i))=some (.fptr [.str c.name,.str c.text] 0):=
 fsl_index (v:=cuA c) (e:=101) (sz:=2) (by kernel_rfl) (by kernel_rfl) (by rw[List.getElem?_map,h];rfl) rfl
theorem wr_nat {p:Nat} (h:p≤1000):wrapA .i64 (Int.ofNat p+1)=Int.ofNat (p+1):=wrapA_i64 (by simp;omega) (by simp;omega)
theorem closed_es {es:List AV} {c:Cu} {n:Nat} (h:closedAll es=true):closedAll (es++flat [rawC c n])=true:=by
 rw[closedAll_append,h]
 simp[rawC,flat,AV.cells,closedA,closedAll]
theorem lt_no {i n:Nat} (h:i<n):¬ltInt (Int.ofNat i) (Int.ofNat n)=false:=fun e=>by
 have e:=ltInt_false.1 e
 simp only[Int.ofNat_eq_natCast] at e
 omega
section
variable {o:Ob} {C:List Cu} {i k:Nat} {t:List UInt8} {es:List AV} {Q:AExit→St→Prop}
theorem st__a (g:C[i]? =some ⟨[120,45,97],t⟩) (hi:i≤900) (hk:k≤30000) (he:es.length=k*7) (hes:closedAll es=true)
  (hn:ALp Tryz.prog opts0.glob 0 (lpCode Tryz.prog 40 10) (auV (.ofNat C.length) (.ofNat (i+1)) (k+1) (C.map cuA) (obC o) (es++flat [rawC ⟨[120,45,97],t⟩ 0]) (.mapb 1 [0] [(.str [120,45,97],I (.ofNat 1))])).st Q):
  ALp Tryz.prog opts0.glob 0 (lpCode Tryz.prog 40 10) (auV (.ofNat C.length) (.ofNat i) k (C.map cuA) (obC o) es (.mapb 0 [] [])).st Q:=by
 have hO:=closed_obC o
 have hix:=idxCu g
 have hlt:=(List.getElem?_eq_some_iff.1 g).1
 have hC:=closed_cus C
 refine ALp.round (A:=auA [120,45,97] t) (V1:=auV (.ofNat C.length) (.ofNat (i+1)) (k+1) (C.map cuA) (obC o) (es++flat [rawC ⟨[120,45,97],t⟩ 0]) (.mapb 1 [0] [(.str [120,45,97],I (.ofNat 1))])) (V2:=auV (.ofNat C.length) (.ofNat (i+1)) (k+1) (C.map cuA) (obC o) (es++flat [rawC ⟨[120,45,97],t⟩ 0]) (.mapb 1 [0] [(.str [120,45,97],I (.ofNat 1))])) (F:=auF k es) (lk:=[(0,0),(1,20),(2,2)]) (lk':=[(0,1)]) base0 aidJ_ok (LsOk.no rfl) .refl ?_
 unfold obC at hO hn⊢
 rw[au__a,wr_nat (p:=i) (by omega)]
 refine mtB_of (fun _=>⟨hix,oblB_of ?_ (oblB_of ?_ ⟨⟨⟨⟨rfl,hC⟩,⟨rfl,rfl⟩,⟨rfl,rfl⟩,trivial⟩,⟨⟨rfl,rfl⟩,⟨rfl,rfl,rfl,rfl,rfl⟩,rfl,trivial⟩,⟨rfl,hO⟩,⟨rfl,closed_es hes⟩,⟨⟨rfl,rfl,rfl⟩,rfl⟩,trivial⟩,hn⟩)⟩) (fun e=>absurd e (lt_no hlt))
 ·simp[allSize,allOne,flat,AV.cells,lenN];exact ⟨by omega,rfl⟩
 ·rw[beq_iff,lenN_eq,he]
theorem st__b (g:C[i]? =some ⟨[120,45,98],t⟩) (hi:i≤900) (hk:k≤30000) (he:es.length=k*7) (hes:closedAll es=true)
  (hn:ALp Tryz.prog opts0.glob 0 (lpCode Tryz.prog 40 10) (auV (.ofNat C.length) (.ofNat (i+1)) (k+1) (C.map cuA) (obC o) (es++flat [rawC ⟨[120,45,98],t⟩ 0]) (.mapb 1 [0] [(.str [120,45,98],I (.ofNat 1))])).st Q):
  ALp Tryz.prog opts0.glob 0 (lpCode Tryz.prog 40 10) (auV (.ofNat C.length) (.ofNat i) k (C.map cuA) (obC o) es (.mapb 0 [] [])).st Q:=by
 have hO:=closed_obC o
 have hix:=idxCu g
 have hlt:=(List.getElem?_eq_some_iff.1 g).1
 have hC:=closed_cus C
 refine ALp.round (A:=auA [120,45,98] t) (V1:=auV (.ofNat C.length) (.ofNat (i+1)) (k+1) (C.map cuA) (obC o) (es++flat [rawC ⟨[120,45,98],t⟩ 0]) (.mapb 1 [0] [(.str [120,45,98],I (.ofNat 1))])) (V2:=auV (.ofNat C.length) (.ofNat (i+1)) (k+1) (C.map cuA) (obC o) (es++flat [rawC ⟨[120,45,98],t⟩ 0]) (.mapb 1 [0] [(.str [120,45,98],I (.ofNat 1))])) (F:=auF k es) (lk:=[(0,0),(1,20),(2,2)]) (lk':=[(0,1)]) base0 aidJ_ok (LsOk.no rfl) .refl ?_
 unfold obC at hO hn⊢
 rw[au__b,wr_nat (p:=i) (by omega)]
 refine mtB_of (fun _=>⟨hix,oblB_of ?_ (oblB_of ?_ ⟨⟨⟨⟨rfl,hC⟩,⟨rfl,rfl⟩,⟨rfl,rfl⟩,trivial⟩,⟨⟨rfl,rfl⟩,⟨rfl,rfl,rfl,rfl,rfl⟩,rfl,trivial⟩,⟨rfl,hO⟩,⟨rfl,closed_es hes⟩,⟨⟨rfl,rfl,rfl⟩,rfl⟩,trivial⟩,hn⟩)⟩) (fun e=>absurd e (lt_no hlt))
 ·simp[allSize,allOne,flat,AV.cells,lenN];exact ⟨by omega,rfl⟩
 ·rw[beq_iff,lenN_eq,he]
theorem st_a_a {p:Nat} (hp:p≤900) (g:C[i]? =some ⟨[120,45,97],t⟩) (hi:i≤900) (hk:k≤30000) (he:es.length=k*7) (hes:closedAll es=true)
  (hn:ALp Tryz.prog opts0.glob 0 (lpCode Tryz.prog 40 10) (auV (.ofNat C.length) (.ofNat (i+1)) (k+1) (C.map cuA) (obC o) (es++flat [rawC ⟨[120,45,97],t⟩ p]) (.mapb 1 [0] [(.str [120,45,97],I (.ofNat (p+1)))])).st Q):
  ALp Tryz.prog opts0.glob 0 (lpCode Tryz.prog 40 10) (auV (.ofNat C.length) (.ofNat i) k (C.map cuA) (obC o) es (.mapb 1 [0] [(.str [120,45,97],I (.ofNat p))])).st Q:=by
 have hO:=closed_obC o
 have hix:=idxCu g
 have hlt:=(List.getElem?_eq_some_iff.1 g).1
 have hC:=closed_cus C
 refine ALp.round (A:=auA [120,45,97] t) (V1:=auV (.ofNat C.length) (.ofNat (i+1)) (k+1) (C.map cuA) (obC o) (es++flat [rawC ⟨[120,45,97],t⟩ p]) (.mapb 1 [0] [(.str [120,45,97],I (.ofNat (p+1)))])) (V2:=auV (.ofNat C.length) (.ofNat (i+1)) (k+1) (C.map cuA) (obC o) (es++flat [rawC ⟨[120,45,97],t⟩ p]) (.mapb 1 [0] [(.str [120,45,97],I (.ofNat (p+1)))])) (F:=auF k es) (lk:=[(0,0),(1,20),(2,2)]) (lk':=[(0,1)]) base0 aidJ_ok (LsOk.no rfl) .refl ?_
 unfold obC at hO hn⊢
 rw[au_a_a,wr_nat (p:=i) (by omega),wr_nat (p:=p) (by omega)]
 refine mtB_of (fun _=>⟨hix,oblB_of ?_ (oblB_of ?_ ⟨⟨⟨⟨rfl,hC⟩,⟨rfl,rfl⟩,⟨rfl,rfl⟩,trivial⟩,⟨⟨rfl,rfl⟩,⟨rfl,rfl,rfl,rfl,rfl⟩,rfl,trivial⟩,⟨rfl,hO⟩,⟨rfl,closed_es hes⟩,⟨⟨rfl,rfl,rfl⟩,rfl⟩,trivial⟩,hn⟩)⟩) (fun e=>absurd e (lt_no hlt))
 ·simp[allSize,allOne,flat,AV.cells,lenN];exact ⟨by omega,rfl⟩
 ·rw[beq_iff,lenN_eq,he]
theorem st_a_b {p:Nat} (_hp:p≤900) (g:C[i]? =some ⟨[120,45,98],t⟩) (hi:i≤900) (hk:k≤30000) (he:es.length=k*7) (hes:closedAll es=true)
  (hn:ALp Tryz.prog opts0.glob 0 (lpCode Tryz.prog 40 10) (auV (.ofNat C.length) (.ofNat (i+1)) (k+1) (C.map cuA) (obC o) (es++flat [rawC ⟨[120,45,98],t⟩ 0]) (.mapb 2 [0,1] [(.str [120,45,97],I (.ofNat p)),(.str [120,45,98],I (.ofNat 1))])).st Q):
  ALp Tryz.prog opts0.glob 0 (lpCode Tryz.prog 40 10) (auV (.ofNat C.length) (.ofNat i) k (C.map cuA) (obC o) es (.mapb 1 [0] [(.str [120,45,97],I (.ofNat p))])).st Q:=by
 have hO:=closed_obC o
 have hix:=idxCu g
 have hlt:=(List.getElem?_eq_some_iff.1 g).1
 have hC:=closed_cus C
 refine ALp.round (A:=auA [120,45,98] t) (V1:=auV (.ofNat C.length) (.ofNat (i+1)) (k+1) (C.map cuA) (obC o) (es++flat [rawC ⟨[120,45,98],t⟩ 0]) (.mapb 2 [0,1] [(.str [120,45,97],I (.ofNat p)),(.str [120,45,98],I (.ofNat 1))])) (V2:=auV (.ofNat C.length) (.ofNat (i+1)) (k+1) (C.map cuA) (obC o) (es++flat [rawC ⟨[120,45,98],t⟩ 0]) (.mapb 2 [0,1] [(.str [120,45,97],I (.ofNat p)),(.str [120,45,98],I (.ofNat 1))])) (F:=auF k es) (lk:=[(0,0),(1,20),(2,2)]) (lk':=[(0,1)]) base0 aidJ_ok (LsOk.no rfl) .refl ?_
 unfold obC at hO hn⊢
 rw[au_a_b,wr_nat (p:=i) (by omega)]
 refine mtB_of (fun _=>⟨hix,oblB_of ?_ (oblB_of ?_ ⟨⟨⟨⟨rfl,hC⟩,⟨rfl,rfl⟩,⟨rfl,rfl⟩,trivial⟩,⟨⟨rfl,rfl⟩,⟨rfl,rfl,rfl,rfl,rfl⟩,rfl,trivial⟩,⟨rfl,hO⟩,⟨rfl,closed_es hes⟩,⟨⟨rfl,rfl,rfl⟩,rfl⟩,trivial⟩,hn⟩)⟩) (fun e=>absurd e (lt_no hlt))
 ·simp[allSize,allOne,flat,AV.cells,lenN];exact ⟨by omega,rfl⟩
 ·rw[beq_iff,lenN_eq,he]
theorem st_b_a {p:Nat} (_hp:p≤900) (g:C[i]? =some ⟨[120,45,97],t⟩) (hi:i≤900) (hk:k≤30000) (he:es.length=k*7) (hes:closedAll es=true)
  (hn:ALp Tryz.prog opts0.glob 0 (lpCode Tryz.prog 40 10) (auV (.ofNat C.length) (.ofNat (i+1)) (k+1) (C.map cuA) (obC o) (es++flat [rawC ⟨[120,45,97],t⟩ 0]) (.mapb 2 [0,1] [(.str [120,45,98],I (.ofNat p)),(.str [120,45,97],I (.ofNat 1))])).st Q):
  ALp Tryz.prog opts0.glob 0 (lpCode Tryz.prog 40 10) (auV (.ofNat C.length) (.ofNat i) k (C.map cuA) (obC o) es (.mapb 1 [0] [(.str [120,45,98],I (.ofNat p))])).st Q:=by
 have hO:=closed_obC o
 have hix:=idxCu g
 have hlt:=(List.getElem?_eq_some_iff.1 g).1
 have hC:=closed_cus C
 refine ALp.round (A:=auA [120,45,97] t) (V1:=auV (.ofNat C.length) (.ofNat (i+1)) (k+1) (C.map cuA) (obC o) (es++flat [rawC ⟨[120,45,97],t⟩ 0]) (.mapb 2 [0,1] [(.str [120,45,98],I (.ofNat p)),(.str [120,45,97],I (.ofNat 1))])) (V2:=auV (.ofNat C.length) (.ofNat (i+1)) (k+1) (C.map cuA) (obC o) (es++flat [rawC ⟨[120,45,97],t⟩ 0]) (.mapb 2 [0,1] [(.str [120,45,98],I (.ofNat p)),(.str [120,45,97],I (.ofNat 1))])) (F:=auF k es) (lk:=[(0,0),(1,20),(2,2)]) (lk':=[(0,1)]) base0 aidJ_ok (LsOk.no rfl) .refl ?_
 unfold obC at hO hn⊢
 rw[au_b_a,wr_nat (p:=i) (by omega)]
 refine mtB_of (fun _=>⟨hix,oblB_of ?_ (oblB_of ?_ ⟨⟨⟨⟨rfl,hC⟩,⟨rfl,rfl⟩,⟨rfl,rfl⟩,trivial⟩,⟨⟨rfl,rfl⟩,⟨rfl,rfl,rfl,rfl,rfl⟩,rfl,trivial⟩,⟨rfl,hO⟩,⟨rfl,closed_es hes⟩,⟨⟨rfl,rfl,rfl⟩,rfl⟩,trivial⟩,hn⟩)⟩) (fun e=>absurd e (lt_no hlt))
 ·simp[allSize,allOne,flat,AV.cells,lenN];exact ⟨by omega,rfl⟩
 ·rw[beq_iff,lenN_eq,he]
theorem st_b_b {p:Nat} (hp:p≤900) (g:C[i]? =some ⟨[120,45,98],t⟩) (hi:i≤900) (hk:k≤30000) (he:es.length=k*7) (hes:closedAll es=true)
  (hn:ALp Tryz.prog opts0.glob 0 (lpCode Tryz.prog 40 10) (auV (.ofNat C.length) (.ofNat (i+1)) (k+1) (C.map cuA) (obC o) (es++flat [rawC ⟨[120,45,98],t⟩ p]) (.mapb 1 [0] [(.str [120,45,98],I (.ofNat (p+1)))])).st Q):
  ALp Tryz.prog opts0.glob 0 (lpCode Tryz.prog 40 10) (auV (.ofNat C.length) (.ofNat i) k (C.map cuA) (obC o) es (.mapb 1 [0] [(.str [120,45,98],I (.ofNat p))])).st Q:=by
 have hO:=closed_obC o
 have hix:=idxCu g
 have hlt:=(List.getElem?_eq_some_iff.1 g).1
 have hC:=closed_cus C
 refine ALp.round (A:=auA [120,45,98] t) (V1:=auV (.ofNat C.length) (.ofNat (i+1)) (k+1) (C.map cuA) (obC o) (es++flat [rawC ⟨[120,45,98],t⟩ p]) (.mapb 1 [0] [(.str [120,45,98],I (.ofNat (p+1)))])) (V2:=auV (.ofNat C.length) (.ofNat (i+1)) (k+1) (C.map cuA) (obC o) (es++flat [rawC ⟨[120,45,98],t⟩ p]) (.mapb 1 [0] [(.str [120,45,98],I (.ofNat (p+1)))])) (F:=auF k es) (lk:=[(0,0),(1,20),(2,2)]) (lk':=[(0,1)]) base0 aidJ_ok (LsOk.no rfl) .refl ?_
 unfold obC at hO hn⊢
 rw[au_b_b,wr_nat (p:=i) (by omega),wr_nat (p:=p) (by omega)]
 refine mtB_of (fun _=>⟨hix,oblB_of ?_ (oblB_of ?_ ⟨⟨⟨⟨rfl,hC⟩,⟨rfl,rfl⟩,⟨rfl,rfl⟩,trivial⟩,⟨⟨rfl,rfl⟩,⟨rfl,rfl,rfl,rfl,rfl⟩,rfl,trivial⟩,⟨rfl,hO⟩,⟨rfl,closed_es hes⟩,⟨⟨rfl,rfl,rfl⟩,rfl⟩,trivial⟩,hn⟩)⟩) (fun e=>absurd e (lt_no hlt))
 ·simp[allSize,allOne,flat,AV.cells,lenN];exact ⟨by omega,rfl⟩
 ·rw[beq_iff,lenN_eq,he]
theorem st_ab_a {p q:Nat} (hp:p≤900) (_hq:q≤900) (g:C[i]? =some ⟨[120,45,97],t⟩) (hi:i≤900) (hk:k≤30000) (he:es.length=k*7) (hes:closedAll es=true)
  (hn:ALp Tryz.prog opts0.glob 0 (lpCode Tryz.prog 40 10) (auV (.ofNat C.length) (.ofNat (i+1)) (k+1) (C.map cuA) (obC o) (es++flat [rawC ⟨[120,45,97],t⟩ p]) (.mapb 2 [0,1] [(.str [120,45,97],I (.ofNat (p+1))),(.str [120,45,98],I (.ofNat q))])).st Q):
  ALp Tryz.prog opts0.glob 0 (lpCode Tryz.prog 40 10) (auV (.ofNat C.length) (.ofNat i) k (C.map cuA) (obC o) es (.mapb 2 [0,1] [(.str [120,45,97],I (.ofNat p)),(.str [120,45,98],I (.ofNat q))])).st Q:=by
 have hO:=closed_obC o
 have hix:=idxCu g
 have hlt:=(List.getElem?_eq_some_iff.1 g).1
 have hC:=closed_cus C
 refine ALp.round (A:=auA [120,45,97] t) (V1:=auV (.ofNat C.length) (.ofNat (i+1)) (k+1) (C.map cuA) (obC o) (es++flat [rawC ⟨[120,45,97],t⟩ p]) (.mapb 2 [0,1] [(.str [120,45,97],I (.ofNat (p+1))),(.str [120,45,98],I (.ofNat q))])) (V2:=auV (.ofNat C.length) (.ofNat (i+1)) (k+1) (C.map cuA) (obC o) (es++flat [rawC ⟨[120,45,97],t⟩ p]) (.mapb 2 [0,1] [(.str [120,45,97],I (.ofNat (p+1))),(.str [120,45,98],I (.ofNat q))])) (F:=auF k es) (lk:=[(0,0),(1,20),(2,2)]) (lk':=[(0,1)]) base0 aidJ_ok (LsOk.no rfl) .refl ?_
 unfold obC at hO hn⊢
 rw[au_ab_a,wr_nat (p:=i) (by omega),wr_nat (p:=p) (by omega)]
 refine mtB_of (fun _=>⟨hix,oblB_of ?_ (oblB_of ?_ ⟨⟨⟨⟨rfl,hC⟩,⟨rfl,rfl⟩,⟨rfl,rfl⟩,trivial⟩,⟨⟨rfl,rfl⟩,⟨rfl,rfl,rfl,rfl,rfl⟩,rfl,trivial⟩,⟨rfl,hO⟩,⟨rfl,closed_es hes⟩,⟨⟨rfl,rfl,rfl⟩,rfl⟩,trivial⟩,hn⟩)⟩) (fun e=>absurd e (lt_no hlt))
 ·simp[allSize,allOne,flat,AV.cells,lenN];exact ⟨by omega,rfl⟩
 ·rw[beq_iff,lenN_eq,he]
theorem st_ab_b {p q:Nat} (_hp:p≤900) (hq:q≤900) (g:C[i]? =some ⟨[120,45,98],t⟩) (hi:i≤900) (hk:k≤30000) (he:es.length=k*7) (hes:closedAll es=true)
  (hn:ALp Tryz.prog opts0.glob 0 (lpCode Tryz.prog 40 10) (auV (.ofNat C.length) (.ofNat (i+1)) (k+1) (C.map cuA) (obC o) (es++flat [rawC ⟨[120,45,98],t⟩ q]) (.mapb 2 [0,1] [(.str [120,45,97],I (.ofNat p)),(.str [120,45,98],I (.ofNat (q+1)))])).st Q):
  ALp Tryz.prog opts0.glob 0 (lpCode Tryz.prog 40 10) (auV (.ofNat C.length) (.ofNat i) k (C.map cuA) (obC o) es (.mapb 2 [0,1] [(.str [120,45,97],I (.ofNat p)),(.str [120,45,98],I (.ofNat q))])).st Q:=by
 have hO:=closed_obC o
 have hix:=idxCu g
 have hlt:=(List.getElem?_eq_some_iff.1 g).1
 have hC:=closed_cus C
 refine ALp.round (A:=auA [120,45,98] t) (V1:=auV (.ofNat C.length) (.ofNat (i+1)) (k+1) (C.map cuA) (obC o) (es++flat [rawC ⟨[120,45,98],t⟩ q]) (.mapb 2 [0,1] [(.str [120,45,97],I (.ofNat p)),(.str [120,45,98],I (.ofNat (q+1)))])) (V2:=auV (.ofNat C.length) (.ofNat (i+1)) (k+1) (C.map cuA) (obC o) (es++flat [rawC ⟨[120,45,98],t⟩ q]) (.mapb 2 [0,1] [(.str [120,45,97],I (.ofNat p)),(.str [120,45,98],I (.ofNat (q+1)))])) (F:=auF k es) (lk:=[(0,0),(1,20),(2,2)]) (lk':=[(0,1)]) base0 aidJ_ok (LsOk.no rfl) .refl ?_
 unfold obC at hO hn⊢
 rw[au_ab_b,wr_nat (p:=i) (by omega),wr_nat (p:=q) (by omega)]
 refine mtB_of (fun _=>⟨hix,oblB_of ?_ (oblB_of ?_ ⟨⟨⟨⟨rfl,hC⟩,⟨rfl,rfl⟩,⟨rfl,rfl⟩,trivial⟩,⟨⟨rfl,rfl⟩,⟨rfl,rfl,rfl,rfl,rfl⟩,rfl,trivial⟩,⟨rfl,hO⟩,⟨rfl,closed_es hes⟩,⟨⟨rfl,rfl,rfl⟩,rfl⟩,trivial⟩,hn⟩)⟩) (fun e=>absurd e (lt_no hlt))
 ·simp[allSize,allOne,flat,AV.cells,lenN];exact ⟨by omega,rfl⟩
 ·rw[beq_iff,lenN_eq,he]
theorem st_ba_a {p q:Nat} (_hp:p≤900) (hq:q≤900) (g:C[i]? =some ⟨[120,45,97],t⟩) (hi:i≤900) (hk:k≤30000) (he:es.length=k*7) (hes:closedAll es=true)
  (hn:ALp Tryz.prog opts0.glob 0 (lpCode Tryz.prog 40 10) (auV (.ofNat C.length) (.ofNat (i+1)) (k+1) (C.map cuA) (obC o) (es++flat [rawC ⟨[120,45,97],t⟩ q]) (.mapb 2 [0,1] [(.str [120,45,98],I (.ofNat p)),(.str [120,45,97],I (.ofNat (q+1)))])).st Q):
  ALp Tryz.prog opts0.glob 0 (lpCode Tryz.prog 40 10) (auV (.ofNat C.length) (.ofNat i) k (C.map cuA) (obC o) es (.mapb 2 [0,1] [(.str [120,45,98],I (.ofNat p)),(.str [120,45,97],I (.ofNat q))])).st Q:=by
 have hO:=closed_obC o
 have hix:=idxCu g
 have hlt:=(List.getElem?_eq_some_iff.1 g).1
 have hC:=closed_cus C
 refine ALp.round (A:=auA [120,45,97] t) (V1:=auV (.ofNat C.length) (.ofNat (i+1)) (k+1) (C.map cuA) (obC o) (es++flat [rawC ⟨[120,45,97],t⟩ q]) (.mapb 2 [0,1] [(.str [120,45,98],I (.ofNat p)),(.str [120,45,97],I (.ofNat (q+1)))])) (V2:=auV (.ofNat C.length) (.ofNat (i+1)) (k+1) (C.map cuA) (obC o) (es++flat [rawC ⟨[120,45,97],t⟩ q]) (.mapb 2 [0,1] [(.str [120,45,98],I (.ofNat p)),(.str [120,45,97],I (.ofNat (q+1)))])) (F:=auF k es) (lk:=[(0,0),(1,20),(2,2)]) (lk':=[(0,1)]) base0 aidJ_ok (LsOk.no rfl) .refl ?_
 unfold obC at hO hn⊢
 rw[au_ba_a,wr_nat (p:=i) (by omega),wr_nat (p:=q) (by omega)]
 refine mtB_of (fun _=>⟨hix,oblB_of ?_ (oblB_of ?_ ⟨⟨⟨⟨rfl,hC⟩,⟨rfl,rfl⟩,⟨rfl,rfl⟩,trivial⟩,⟨⟨rfl,rfl⟩,⟨rfl,rfl,rfl,rfl,rfl⟩,rfl,trivial⟩,⟨rfl,hO⟩,⟨rfl,closed_es hes⟩,⟨⟨rfl,rfl,rfl⟩,rfl⟩,trivial⟩,hn⟩)⟩) (fun e=>absurd e (lt_no hlt))
 ·simp[allSize,allOne,flat,AV.cells,lenN];exact ⟨by omega,rfl⟩
 ·rw[beq_iff,lenN_eq,he]
theorem st_ba_b {p q:Nat} (hp:p≤900) (_hq:q≤900) (g:C[i]? =some ⟨[120,45,98],t⟩) (hi:i≤900) (hk:k≤30000) (he:es.length=k*7) (hes:closedAll es=true)
  (hn:ALp Tryz.prog opts0.glob 0 (lpCode Tryz.prog 40 10) (auV (.ofNat C.length) (.ofNat (i+1)) (k+1) (C.map cuA) (obC o) (es++flat [rawC ⟨[120,45,98],t⟩ p]) (.mapb 2 [0,1] [(.str [120,45,98],I (.ofNat (p+1))),(.str [120,45,97],I (.ofNat q))])).st Q):
  ALp Tryz.prog opts0.glob 0 (lpCode Tryz.prog 40 10) (auV (.ofNat C.length) (.ofNat i) k (C.map cuA) (obC o) es (.mapb 2 [0,1] [(.str [120,45,98],I (.ofNat p)),(.str [120,45,97],I (.ofNat q))])).st Q:=by
 have hO:=closed_obC o
 have hix:=idxCu g
 have hlt:=(List.getElem?_eq_some_iff.1 g).1
 have hC:=closed_cus C
 refine ALp.round (A:=auA [120,45,98] t) (V1:=auV (.ofNat C.length) (.ofNat (i+1)) (k+1) (C.map cuA) (obC o) (es++flat [rawC ⟨[120,45,98],t⟩ p]) (.mapb 2 [0,1] [(.str [120,45,98],I (.ofNat (p+1))),(.str [120,45,97],I (.ofNat q))])) (V2:=auV (.ofNat C.length) (.ofNat (i+1)) (k+1) (C.map cuA) (obC o) (es++flat [rawC ⟨[120,45,98],t⟩ p]) (.mapb 2 [0,1] [(.str [120,45,98],I (.ofNat (p+1))),(.str [120,45,97],I (.ofNat q))])) (F:=auF k es) (lk:=[(0,0),(1,20),(2,2)]) (lk':=[(0,1)]) base0 aidJ_ok (LsOk.no rfl) .refl ?_
 unfold obC at hO hn⊢
 rw[au_ba_b,wr_nat (p:=i) (by omega),wr_nat (p:=p) (by omega)]
 refine mtB_of (fun _=>⟨hix,oblB_of ?_ (oblB_of ?_ ⟨⟨⟨⟨rfl,hC⟩,⟨rfl,rfl⟩,⟨rfl,rfl⟩,trivial⟩,⟨⟨rfl,rfl⟩,⟨rfl,rfl,rfl,rfl,rfl⟩,rfl,trivial⟩,⟨rfl,hO⟩,⟨rfl,closed_es hes⟩,⟨⟨rfl,rfl,rfl⟩,rfl⟩,trivial⟩,hn⟩)⟩) (fun e=>absurd e (lt_no hlt))
 ·simp[allSize,allOne,flat,AV.cells,lenN];exact ⟨by omega,rfl⟩
 ·rw[beq_iff,lenN_eq,he]
end
theorem cnt_le (s:List UInt8) (l:List Cu):cntC s l≤l.length:=List.length_filter_le _ _
theorem cnt_same (s:List UInt8) (t:List UInt8) (pre:List Cu):cntC s (pre++[⟨s,t⟩])=cntC s pre+1:=by rw[cntC_snoc,beqBytes_iff.2 rfl]
theorem cnt_ab (t:List UInt8) (pre:List Cu):cntC [120,45,97] (pre++[⟨[120,45,98],t⟩])=cntC [120,45,97] pre:=by rw[cntC_snoc];rfl
theorem cnt_ba (t:List UInt8) (pre:List Cu):cntC [120,45,98] (pre++[⟨[120,45,97],t⟩])=cntC [120,45,98] pre:=by rw[cntC_snoc];rfl
theorem cn_two {s:List UInt8} (h:s∈cnL):s=[120,45,97]∨s=[120,45,98]:=by
 simpa [cnL] using h
theorem au_run {o:Ob} {C:List Cu} {Q:AExit→St→Prop} {k0:Nat} {B:List AV} (hB:B.length=k0*7) (hk0:k0≤20000) (hBc:closedAll B=true) (hC6:C.length≤6) (hC:∀c∈C,c.name∈cnL)
  (hq:Q (.exit 2) (auF (k0+C.length) (B++flat (cusR [] C))).st):
  ∀ (m i:Nat) (b:Blk),i+m=C.length→MpOk (C.take i) b→ALp Tryz.prog opts0.glob 0 (lpCode Tryz.prog 40 10) (auV (.ofNat C.length) (.ofNat i) (k0+i) (C.map cuA) (obC o) (B++flat (cusR [] (C.take i))) b).st Q:=by
 have hO:=closed_obC o
 have hcC:=closed_cus C
 intro m
 induction m with
 | zero=>
  intro i b hi hm
  rw[Nat.add_zero] at hi
  subst hi
  rw[List.take_of_length_le (Nat.le_refl _)] at hm⊢
  have hcl:closedAll (B++flat (cusR [] C))=true:=by rw[closedAll_append,hBc,closed_fcusR];rfl
  have hno:ltInt (Int.ofNat C.length) (Int.ofNat C.length)=true→False:=fun e=>by
   have e:=ltInt_iff.1 e
   omega
  cases hm with
  |m _ _=>
   refine ALp.round (A:=auA [120,45,97] []) (V1:=auV (.ofNat C.length) 0 0 (C.map cuA) (obC o) [] (.mapb 1 [0] [(.str [120,45,97],I (.ofNat 1))])) (V2:=auV (.ofNat C.length) 0 0 (C.map cuA) (obC o) [] (.mapb 1 [0] [(.str [120,45,97],I (.ofNat 1))])) (F:=auF (k0+C.length) (B++flat (cusR [] C))) (lk:=[(0,0),(1,20),(2,2)]) (lk':=[(0,1)]) base0 aidJ_ok (LsOk.no rfl) .refl ?_
   unfold obC at hO⊢
   rw[au__a]
   exact mtB_of (fun e=>(hno e).elim) fun _=>⟨⟨trivial,⟨⟨rfl,rfl,rfl,rfl,rfl⟩,trivial⟩,⟨rfl,hcl⟩,trivial⟩,hq⟩
  |ma p _ _=>
   refine ALp.round (A:=auA [120,45,97] []) (V1:=auV (.ofNat C.length) 0 0 (C.map cuA) (obC o) [] (.mapb 1 [0] [(.str [120,45,97],I (.ofNat p))])) (V2:=auV (.ofNat C.length) 0 0 (C.map cuA) (obC o) [] (.mapb 1 [0] [(.str [120,45,97],I (.ofNat p))])) (F:=auF (k0+C.length) (B++flat (cusR [] C))) (lk:=[(0,0),(1,20),(2,2)]) (lk':=[(0,1)]) base0 aidJ_ok (LsOk.no rfl) .refl ?_
   unfold obC at hO⊢
   rw[au_a_a]
   exact mtB_of (fun e=>(hno e).elim) fun _=>⟨⟨trivial,⟨⟨rfl,rfl,rfl,rfl,rfl⟩,trivial⟩,⟨rfl,hcl⟩,trivial⟩,hq⟩
  |mb p _ _=>
   refine ALp.round (A:=auA [120,45,97] []) (V1:=auV (.ofNat C.length) 0 0 (C.map cuA) (obC o) [] (.mapb 2 [0,1] [(.str [120,45,98],I (.ofNat p)),(.str [120,45,97],I (.ofNat 1))])) (V2:=auV (.ofNat C.length) 0 0 (C.map cuA) (obC o) [] (.mapb 2 [0,1] [(.str [120,45,98],I (.ofNat p)),(.str [120,45,97],I (.ofNat 1))])) (F:=auF (k0+C.length) (B++flat (cusR [] C))) (lk:=[(0,0),(1,20),(2,2)]) (lk':=[(0,1)]) base0 aidJ_ok (LsOk.no rfl) .refl ?_
   unfold obC at hO⊢
   rw[au_b_a]
   exact mtB_of (fun e=>(hno e).elim) fun _=>⟨⟨trivial,⟨⟨rfl,rfl,rfl,rfl,rfl⟩,trivial⟩,⟨rfl,hcl⟩,trivial⟩,hq⟩
  |mab p q _ _=>
   refine ALp.round (A:=auA [120,45,97] []) (V1:=auV (.ofNat C.length) 0 0 (C.map cuA) (obC o) [] (.mapb 2 [0,1] [(.str [120,45,97],I (.ofNat p)),(.str [120,45,98],I (.ofNat q))])) (V2:=auV (.ofNat C.length) 0 0 (C.map cuA) (obC o) [] (.mapb 2 [0,1] [(.str [120,45,97],I (.ofNat p)),(.str [120,45,98],I (.ofNat q))])) (F:=auF (k0+C.length) (B++flat (cusR [] C))) (lk:=[(0,0),(1,20),(2,2)]) (lk':=[(0,1)]) base0 aidJ_ok (LsOk.no rfl) .refl ?_
   unfold obC at hO⊢
   rw[au_ab_a]
   exact mtB_of (fun e=>(hno e).elim) fun _=>⟨⟨trivial,⟨⟨rfl,rfl,rfl,rfl,rfl⟩,trivial⟩,⟨rfl,hcl⟩,trivial⟩,hq⟩
  |mba p q _ _=>
   refine ALp.round (A:=auA [120,45,97] []) (V1:=auV (.ofNat C.length) 0 0 (C.map cuA) (obC o) [] (.mapb 2 [0,1] [(.str [120,45,98],I (.ofNat p)),(.str [120,45,97],I (.ofNat q))])) (V2:=auV (.ofNat C.length) 0 0 (C.map cuA) (obC o) [] (.mapb 2 [0,1] [(.str [120,45,98],I (.ofNat p)),(.str [120,45,97],I (.ofNat q))])) (F:=auF (k0+C.length) (B++flat (cusR [] C))) (lk:=[(0,0),(1,20),(2,2)]) (lk':=[(0,1)]) base0 aidJ_ok (LsOk.no rfl) .refl ?_
   unfold obC at hO⊢
   rw[au_ba_a]
   exact mtB_of (fun e=>(hno e).elim) fun _=>⟨⟨trivial,⟨⟨rfl,rfl,rfl,rfl,rfl⟩,trivial⟩,⟨rfl,hcl⟩,trivial⟩,hq⟩
 | succ m ih=>
  intro i b hi hm
  have hlt:i<C.length:=by omega
  have g:=List.getElem?_eq_getElem hlt
  have hmem:=List.getElem_mem hlt
  have ih:=fun b=>ih (i+1) b (by omega)
  rw[take_snoc g,cusR_snoc,flat_append,←List.append_assoc,List.nil_append,show k0+(i+1)=k0+i+1 by omega] at ih
  have hc:=hC _ hmem
  have hpl:(C.take i).length≤6:=Nat.le_trans (List.length_take_le' i C) hC6
  have hce:=closed_fcusR (C.take i) []
  have hle:=len_fcusR (C.take i) []
  have hti:(C.take i).length=i:=by rw[List.length_take];omega
  rw[hti] at hle
  revert g ih hc hm hpl hce hle
  generalize C[i]=c
  generalize C.take i=pre
  intro hm g ih hc hpl hce hle
  obtain ⟨n,t⟩:=c
  have hes:closedAll (B++flat (cusR [] pre))=true:=by rw[closedAll_append,hBc,hce];rfl
  have hel:(B++flat (cusR [] pre)).length=(k0+i)*7:=by rw[List.length_append,hB,hle];omega
  have ca:=cnt_le [120,45,97] pre
  have cb:=cnt_le [120,45,98] pre
  rcases cn_two hc with e|e
  ·simp only at e
   subst e
   cases hm with
   |m hp hq=>
    have ih:=ih _ (.ma 1 ((cnt_same _ t pre).trans (by rw[hp])) ((cnt_ba t pre).trans hq))
    rw[hp] at ih
    exact st__a g (by omega) (by omega) hel hes ih
   |ma p hp hq=>
    have ih:=ih _ (.ma (p+1) ((cnt_same _ t pre).trans (by rw[hp])) ((cnt_ba t pre).trans hq))
    rw[hp] at ih
    exact st_a_a (by omega) g (by omega) (by omega) hel hes ih
   |mb p hp hq=>
    have ih:=ih _ (.mba p 1 ((cnt_ba t pre).trans hp) ((cnt_same _ t pre).trans (by rw[hq])))
    rw[hq] at ih
    exact st_b_a (by omega) g (by omega) (by omega) hel hes ih
   |mab p q hp hq=>
    have ih:=ih _ (.mab (p+1) q ((cnt_same _ t pre).trans (by rw[hp])) ((cnt_ba t pre).trans hq))
    rw[hp] at ih
    exact st_ab_a (by omega) (by omega) g (by omega) (by omega) hel hes ih
   |mba p q hp hq=>
    have ih:=ih _ (.mba p (q+1) ((cnt_ba t pre).trans hp) ((cnt_same _ t pre).trans (by rw[hq])))
    rw[hq] at ih
    exact st_ba_a (by omega) (by omega) g (by omega) (by omega) hel hes ih
  ·simp only at e
   subst e
   cases hm with
   |m hp hq=>
    have ih:=ih _ (.mb 1 ((cnt_same _ t pre).trans (by rw[hq])) ((cnt_ab t pre).trans hp))
    rw[hq] at ih
    exact st__b g (by omega) (by omega) hel hes ih
   |ma p hp hq=>
    have ih:=ih _ (.mab p 1 ((cnt_ab t pre).trans hp) ((cnt_same _ t pre).trans (by rw[hq])))
    rw[hq] at ih
    exact st_a_b (by omega) g (by omega) (by omega) hel hes ih
   |mb p hp hq=>
    have ih:=ih _ (.mb (p+1) ((cnt_same _ t pre).trans (by rw[hp])) ((cnt_ab t pre).trans hq))
    rw[hp] at ih
    exact st_b_b (by omega) g (by omega) (by omega) hel hes ih
   |mab p q hp hq=>
    have ih:=ih _ (.mab p (q+1) ((cnt_ab t pre).trans hp) ((cnt_same _ t pre).trans (by rw[hq])))
    rw[hq] at ih
    exact st_ab_b (by omega) (by omega) g (by omega) (by omega) hel hes ih
   |mba p q hp hq=>
    have ih:=ih _ (.mba (p+1) q ((cnt_same _ t pre).trans (by rw[hp])) ((cnt_ab t pre).trans hq))
    rw[hp] at ih
    exact st_ba_b (by omega) (by omega) g (by omega) (by omega) hel hes ih
theorem al_at:loopsAt (fnCode Tryz.prog 40) 4=[lpCode Tryz.prog 40 4]:=by kernel_rfl
theorem au_at:loopsAt (fnCode Tryz.prog 40) 10=[lpCode Tryz.prog 40 10]:=by kernel_rfl
theorem all_sem {o:Ob} (ho:FitO o) (hg:∀k,OkG o k) (hC:∀c∈o.cust,c.name∈cnL):SC 40 [obA o] (.fsl false ((allS o).map atA)):=by
 have hO:=closed_obC o
 have hcl:closedAll [obA o]=true:=closed_oc o (c:=[]) rfl
 have hK:=closed_kinds
 have hcC:=closed_cus o.cust
 have hlen:lenN (o.cust.map cuA)=o.cust.length:=by rw[lenN_eq,List.length_map]
 have hsl:=stdT_len hg kinds
 rw[show kinds.length=20 from rfl] at hsl
 refine fnK_semX (A:=aidJ [] [(4,alLp (kinds.map rowA) (obC o) (stdT o kinds).length (flat ((stdT o kinds).map atA))),(10,auL (.ofNat (lenN (o.cust.map cuA))) (stdT o kinds).length ((stdT o kinds).length+o.cust.length) (o.cust.map cuA) (obC o) (flat ((stdT o kinds).map atA)) (flat ((stdT o kinds).map atA)++flat (cusR [] o.cust)))] (manyS [(91,.fsl true (kinds.map rowA))]) [] []) base0 aidJ_ok
  (fnLs_of (LsOk.at2 rfl al_at au_at (fun st Q hs=> .seen base0.glob hs.1 (al_loop0 ho hg hs.2)) (fun st Q hs=> .seen base0.glob hs.1 (by
   have:=au_run (o:=o) (Q:=Q) (k0:=(stdT o kinds).length) (flat_at _) (by omega) (closed_fat _) ho.c hC hs.2 o.cust.length 0 _ (Nat.zero_add _) (.m rfl rfl)
   rw[show o.cust.take 0=[] from List.take_zero,show flat (cusR [] [])=[] from rfl,List.append_nil] at this
   rw[hlen]
   exact this)))) hcl ?_
 have hB:=closed_fat (stdT o kinds)
 unfold obA obC cusA at*
 rw[all_fn]
 refine ⟨table_sem,⟨⟨⟨rfl,rfl⟩,⟨rfl,hK⟩,⟨rfl,rfl⟩,⟨rfl,rfl⟩,trivial⟩,⟨⟨rfl,rfl⟩,trivial⟩,⟨rfl,hO⟩,trivial⟩,⟨⟨⟨rfl,hcC⟩,⟨rfl,rfl⟩,⟨rfl,rfl⟩,trivial⟩,⟨⟨rfl,rfl⟩,⟨rfl,rfl,rfl,rfl,rfl⟩,rfl,trivial⟩,⟨rfl,hO⟩,⟨rfl,hB⟩,⟨⟨rfl,rfl,rfl⟩,rfl⟩,trivial⟩, ?_⟩
 refine ⟨.fsl false ((stdT o kinds).map atA++cusR [] o.cust),(Frz.row (c:=flat ((stdT o kinds).map atA)++flat (cusR [] o.cust)) rfl rfl (flat_append _ _).symm (by rw[List.length_append,List.length_map,cusR_len]) (fun e he=> ?_) ?_).out, ?_, ?_⟩
 ·rcases List.mem_append.1 he with he|he
  ·obtain ⟨a,_,rfl⟩:=List.mem_map.1 he;exact good_at a
  ·exact good_cusR _ _ e he
 ·rw[closedAll_append,closed_ats,closed_cusR];rfl
 ·show closedAll _=true
  rw[closedAll_append,closed_ats,closed_cusR];rfl
 ·rw[allS,List.map_append]
  exact .rows (wkE_app (wk_cusR _ _) _)
end Go.Proofs.YtjhggnebkfpgcaaGreatDoor
namespace Go.Proofs.YtjhggnebkfpgcaaGreatDoor
open Go Go.RowKit
open Go.Proofs.Abs
noncomputable section
def ixV (s:List UInt8) (k i:Nat) (es:List AV):View:=⟨[(1,.str s),(4,I 0),(7,I (.ofNat k)),(8,I (.ofNat i))],[(0,.rsl true 0 0 k 1)],[(0,.cells es,.whole)],17,19⟩
def ixF (r:Int) (es:List AV):View:=⟨[(4,I r)],[],[(0,.cells es,.whole)],35,19⟩
def ixA (x:List UInt8):Aid:=aidJ [(4,4,.ld (.str x))] [] noSem [] []
@[simp] abbrev zh3 (k:Nat):=((true=true∧some 0=some 0∧0=0∧k=k∧1=1)∧True)
@[simp] abbrev zh5 (es:List AV):=(es=es∧closedAll es=true)
@[simp] abbrev zh6:=(I 0=I 0∧true=true)
theorem ix_r (s x:List UInt8) (k i j:Nat) (es:List AV) (q:Int) (N:Prop) (Q:AExit→St→Prop):wpK Tryz.prog opts0 40 (ixA x) (lpCode Tryz.prog 141 3) (ixV s k i es).st (roundP 17 (idl 17) (ixV s k j es) N (idl 17) (ixF q es) Q)=
  (mtB (ltInt (Int.ofNat i) (Int.ofNat k)) (oblB (nonneg (Int.ofNat i)&&((Int.ofNat i).toNat.blt k&&true)) (partA Tryz.prog 9 es (0+(Int.ofNat i).toNat*1)=some (AV.str x)∧mtB (beqBytes s x) ((((I (Int.ofNat i)=I q∧closedA (I q)=true)∧True)∧True∧(zh5 es)∧True)∧Q AExit.ret (ixF q es).st) ((((AV.str s=AV.str s∧closedA (AV.str s)=true)∧zh6∧(I (Int.ofNat k)=I (Int.ofNat k)∧closedA (I (Int.ofNat k))=true)∧(I (wrapA IntKind.i64 (Int.ofNat i+1))=I (Int.ofNat j)∧closedA (I (Int.ofNat j))=true)∧True)∧(zh3 k)∧(zh5 es)∧True)∧N))) ((((I 0=I q∧closedA (I q)=true)∧True)∧True∧(zh5 es)∧True)∧Q (AExit.exit 0) (ixF q es).st)):=by kernel_rfl
def ixL0 (s:List UInt8) (k:Nat) (es:List AV):LoopS:=fun st Q=>seesK 17 (idl 17) (ixV s k 0 es) st∧Q (.exit 0) (ixF 0 es).st
def ixL1 (s:List UInt8) (k:Nat) (r:Int) (es:List AV):LoopS:=fun st Q=>seesK 17 (idl 17) (ixV s k 0 es) st∧Q .ret (ixF r es).st
@[simp] abbrev zh2 (es:List AV) (k:Nat) (s:List UInt8):=(((AV.str s=AV.str s∧closedA (AV.str s)=true)∧zh6∧(I (Int.ofNat k)=I (Int.ofNat k)∧closedA (I (Int.ofNat k))=true)∧zh6∧True)∧(zh3 k)∧(zh5 es)∧True)
theorem ix_fn0 (s:List UInt8) (k:Nat) (es:List AV) (Q:AV→Heap→Nat→Prop):fnK Tryz.prog opts0 40 (aidJ [] [(3,ixL0 s k es)] noSem [] []) 141 [.rsl true 0 0 k 1,.str s] [(0,some (.cells es))] 17 Q=
  ((zh2 es k s)∧Q (I (Int.negSucc 0)) [(0,some (Blk.cells es))] 36):=by kernel_rfl
theorem ix_fn1 (s:List UInt8) (k:Nat) (r:Int) (es:List AV) (Q:AV→Heap→Nat→Prop):fnK Tryz.prog opts0 40 (aidJ [] [(3,ixL1 s k r es)] noSem [] []) 141 [.rsl true 0 0 k 1,.str s] [(0,some (.cells es))] 17 Q=
  ((zh2 es k s)∧Q (I r) [(0,some (Blk.cells es))] 35):=by kernel_rfl
theorem ix_nil (s:List UInt8) (Q:AV→Prop):fnK Tryz.prog opts0 40 aid0 141 [.nilsl,.str s] [] 0 (fun v _ _=>Q v)=
  (Q (I (Int.negSucc 0))):=by kernel_rfl
def nsV0 (n:Int) (Ls:List AV):View:=⟨[(3,.nilsl),(7,.fsl false Ls),(8,I n),(9,I 0)],[],[],0,25⟩
def nsV1 (i n:Int) (k:Nat) (Ls es:List AV):View:=⟨[(7,.fsl false Ls),(8,I n),(9,I i)],[(3,.rsl true 0 0 k 1)],[(0,.cells es,.whole)],1,25⟩
def ixT (r:Int) (es:List AV):SemT:=fun f args _ _=>match Nat.beq f 141 with
 |true=>match args with
  | .nilsl::_=>some (.val (I (-1)))
  |_=>some (.part [0] (I r) [(0,some (.cells es))] 20)
 |false=>none
def nsA (c:List AV) (r:Int) (es:List AV):Aid:=aidJ [(4,0,.res (.fptr c 0))] [] (ixT r es) [] [93]
@[simp] abbrev zh1 (Ls:List AV):=(AV.fsl false Ls=AV.fsl false Ls∧closedA (AV.fsl false Ls)=true)
@[simp] abbrev zh4 (n:Int):=(I n=I n∧closedA (I n)=true)
theorem ns_r0 (s:List UInt8) (idx t y q:Int) (D K Ls es':List AV) (n j:Int) (k':Nat) (N:Prop) (Q:AExit→St→Prop):wpK Tryz.prog opts0 40 (nsA (.str s::I idx::itF t y q D K) 0 []) (lpCode Tryz.prog 41 4) (nsV0 n Ls).st (roundP 0 [(0,20)] (nsV1 j n k' Ls es') N [] (nsV0 n Ls) Q)=
  (mtB (ltInt 0 n) (indexAddrA Tryz.prog 43 (AV.fsl false Ls) (I 0)=some (AV.fptr [AV.str s,I idx,I t,I y,I q,AV.fsl false D,AV.fsl false K] 0)∧SC 141 [AV.nilsl,AV.str s] (I (Int.negSucc 0))∧(((zh1 Ls)∧(zh4 n)∧(I 1=I j∧closedA (I j)=true)∧True)∧((true=true∧some 20=some 20∧0=0∧k'=lenN [AV.str s]∧1=1)∧True)∧(flat [AV.str s]=es'∧closedAll es'=true)∧True)∧N) ((((AV.nilsl=AV.nilsl∧true=true)∧(zh1 Ls)∧(zh4 n)∧zh6∧True)∧True∧True)∧Q (AExit.exit 0) (nsV0 n Ls).st)):=by kernel_rfl
theorem ns_r1 (s:List UInt8) (idx t y q:Int) (D K Ls es es':List AV) (i n j:Int) (k k':Nat) (N:Prop) (Q:AExit→St→Prop):wpK Tryz.prog opts0 40 (nsA (.str s::I idx::itF t y q D K) (-1) es) (lpCode Tryz.prog 41 4) (nsV1 i n k Ls es).st (roundP 0 [(0,41)] (nsV1 j n k' Ls es') N [(0,0)] (nsV1 i n k Ls es) Q)=
  (mtB (ltInt i n) (indexAddrA Tryz.prog 43 (AV.fsl false Ls) (I i)=some (AV.fptr [AV.str s,I idx,I t,I y,I q,AV.fsl false D,AV.fsl false K] 0)∧BodySem Tryz.prog opts0.glob 141 [AV.rsl true 0 0 k 1,AV.str s] [(0,some (Blk.cells es))] 17 (I (Int.negSucc 0)) [(0,some (Blk.cells es))] 37∧oblB (allSize 1 [AV.str s]&&(((k+lenN [AV.str s])*16).ble 140737488355328&&(allOne (flat [AV.str s])&&true))) (oblB ((lenN es).beq (k*1)) ((((zh1 Ls)∧(zh4 n)∧(I (wrapA IntKind.i64 (i+1))=I j∧closedA (I j)=true)∧True)∧((true=true∧some 41=some 41∧0=0∧k'=k+lenN [AV.str s]∧1=1)∧True)∧(es++flat [AV.str s]=es'∧closedAll es'=true)∧True)∧N))) ((((zh1 Ls)∧(zh4 n)∧(I i=I i∧closedA (I i)=true)∧True)∧(zh3 k)∧(zh5 es)∧True)∧Q (AExit.exit 0) (nsV1 i n k Ls es).st)):=by kernel_rfl
theorem ns_r2 (s:List UInt8) (idx t y q:Int) (D K Ls es es':List AV) (i n j:Int) (r k k':Nat) (N:Prop) (Q:AExit→St→Prop):wpK Tryz.prog opts0 40 (nsA (.str s::I idx::itF t y q D K) (.ofNat r) es) (lpCode Tryz.prog 41 4) (nsV1 i n k Ls es).st (roundP 0 [(0,0)] (nsV1 j n k' Ls es') N [(0,0)] (nsV1 i n k Ls es) Q)=
  (mtB (ltInt i n) (indexAddrA Tryz.prog 43 (AV.fsl false Ls) (I i)=some (AV.fptr [AV.str s,I idx,I t,I y,I q,AV.fsl false D,AV.fsl false K] 0)∧BodySem Tryz.prog opts0.glob 141 [AV.rsl true 0 0 k 1,AV.str s] [(0,some (Blk.cells es))] 17 (I (Int.ofNat r)) [(0,some (Blk.cells es))] 37∧(((zh1 Ls)∧(zh4 n)∧(I (wrapA IntKind.i64 (i+1))=I j∧closedA (I j)=true)∧True)∧((true=true∧some 0=some 0∧0=0∧k'=k∧1=1)∧True)∧(es=es'∧closedAll es'=true)∧True)∧N) ((((zh1 Ls)∧(zh4 n)∧(I i=I i∧closedA (I i)=true)∧True)∧(zh3 k)∧(zh5 es)∧True)∧Q (AExit.exit 0) (nsV1 i n k Ls es).st)):=by kernel_rfl
def nsL (n:Int) (k:Nat) (Ls es:List AV):LoopS:=fun st Q=>seesK 0 [] (nsV0 n Ls) st∧Q (.exit 0) (nsV1 n n k Ls es).st
theorem ns_fn (Ls es:List AV) (k:Nat) (o:Ob) (M N L C:AV) (Q:AV→Heap→Prop):fnK Tryz.prog opts0 40 (aidJ [] [(4,nsL (.ofNat (lenN Ls)) k Ls es)] (manyS [(40,.fsl false Ls)]) [] []) 41 [.agg (obF o M N L C)] [] 0 (fun v H _=>Q v H)=
  (SC 40 [AV.agg (obF o M N L C)] (AV.fsl false Ls)∧(((AV.nilsl=AV.nilsl∧true=true)∧(zh1 Ls)∧(I (Int.ofNat (lenN Ls))=I (Int.ofNat (lenN Ls))∧closedA (I (Int.ofNat (lenN Ls)))=true)∧zh6∧True)∧True∧True)∧Q (AV.rsl true 0 0 k 1) [(0,some (Blk.cells es))]):=by kernel_rfl
end
end Go.Proofs.YtjhggnebkfpgcaaGreatDoor
namespace Go.Proofs.YtjhggnebkfpgcaaGreatDoor
set_option maxRecDepth 20000
open Go Go.RowKit
open Go.Proofs.Abs
def ixO (s:List UInt8):List (List UInt8)→Nat→Option Nat
 |[],_=>none
 |x::r,i=>match beqBytes s x with
  |true=>some i
  |false=>ixO s r (i+1)
theorem ixO_none {s:List UInt8}:∀ {l:List (List UInt8)} {i:Nat},inN s l=false→ixO s l i=none
 |[],_,_=>rfl
 |x::r,i,h=>by
  rw[inN,List.any_cons,Bool.or_eq_false_iff] at h
  have h1:beqBytes s x=false:=beqBytes_no fun e=>by subst e;rw[beqBytes_iff.2 rfl] at h;cases h.1
  rw[ixO,h1]
  exact ixO_none h.2
theorem ixO_some {s:List UInt8}:∀ {l:List (List UInt8)} {i:Nat},inN s l=true→∃j,ixO s l i=some j
 |[],_,h=>by cases h
 | x::r,i,h=>by
  rw[ixO]
  cases hb:beqBytes s x with
  |true=>exact ⟨i,rfl⟩
  |false=>
   rw[inN,List.any_cons] at h
   have h1:beqBytes x s=false:=beqBytes_no fun e=>by subst e;rw[beqBytes_iff.2 rfl] at hb;cases hb
   rw[h1,Bool.false_or] at h
   exact ixO_some h
def ixQ (Q:AExit→St→Prop) (es:List AV):Option Nat→Prop
 |none=>Q (.exit 0) (ixF 0 es).st
 |some j=>Q .ret (ixF (.ofNat j) es).st
theorem ix_loop {s:List UInt8} {l:List (List UInt8)} {Q:AExit→St→Prop} (hb:l.length≤100000):∀i,i≤l.length→(ixQ Q (l.map .str) (ixO s (l.drop i) i)→ALp Tryz.prog opts0.glob 17 (lpCode Tryz.prog 141 3) (ixV s l.length i (l.map .str)).st Q):=by
 have hc:=closed_strs l
 refine cnt_up _ (fun hq=> ?_) (fun i hi ih hq=> ?_)
 ·rw[List.drop_of_length_le (Nat.le_refl _)] at hq
  refine ALp.round (A:=ixA []) (V1:=ixV s l.length 0 (l.map .str)) (V2:=ixV s l.length 0 (l.map .str)) (F:=ixF 0 (l.map .str)) (lk:=idl 17) (lk':=idl 17) base0 aidJ_ok (LsOk.no rfl) .refl ?_
  rw[ix_r]
  refine mtB_of (fun h=> ?_) (fun _=>⟨⟨⟨⟨rfl,rfl⟩,trivial⟩,trivial,⟨rfl,hc⟩,trivial⟩,hq⟩)
  have h:=ltInt_iff.1 h
  simp only[Int.ofNat_eq_natCast] at h
  omega
 ·have g1:=List.getElem?_eq_getElem hi
  rw[List.drop_eq_getElem_cons hi] at hq
  revert g1 hq
  generalize l[i]=x
  intro hq g1
  have hob:(nonneg (Int.ofNat i)&&((Int.ofNat i).toNat.blt l.length&&true))=true:=by
   simp only[nonneg,Bool.true_and,Bool.and_true]
   exact blt_iff.2 hi
  have hw:wrapA .i64 (Int.ofNat i+1)=Int.ofNat (i+1):=wrapA_i64 (by simp;omega) (by simp;omega)
  rw[ixO] at hq
  cases hx:beqBytes s x with
  |true=>
   rw[hx] at hq
   refine ALp.round (A:=ixA x) (V1:=ixV s l.length (i+1) (l.map .str)) (V2:=ixV s l.length (i+1) (l.map .str)) (F:=ixF (.ofNat i) (l.map .str)) (lk:=idl 17) (lk':=idl 17) base0 aidJ_ok (LsOk.no rfl) .refl ?_
   rw[ix_r]
   exact mtB_of (fun _=>oblB_of hob ⟨part_str g1,mtB_of (fun _=>⟨⟨⟨⟨rfl,rfl⟩,trivial⟩,trivial,⟨rfl,hc⟩,trivial⟩,hq⟩) (fun h=>by rw[hx] at h;cases h)⟩) (fun h=>absurd h (lt_no hi))
  |false=>
   rw[hx] at hq
   have hn:=ih hq
   refine ALp.round (A:=ixA x) (V1:=ixV s l.length (i+1) (l.map .str)) (V2:=ixV s l.length (i+1) (l.map .str)) (F:=ixF 0 (l.map .str)) (lk:=idl 17) (lk':=idl 17) base0 aidJ_ok (LsOk.no rfl) .refl ?_
   rw[ix_r,hw]
   exact mtB_of (fun _=>oblB_of hob ⟨part_str g1,mtB_of (fun h=>by rw[hx] at h;cases h) (fun _=>⟨⟨⟨⟨rfl,rfl⟩,⟨rfl,rfl⟩,⟨rfl,rfl⟩,⟨rfl,rfl⟩,trivial⟩,⟨⟨rfl,rfl,rfl,rfl,rfl⟩,trivial⟩,⟨rfl,hc⟩,trivial⟩,hn⟩)⟩) (fun h=>absurd h (lt_no hi))
theorem ix_at:loopsAt (fnCode Tryz.prog 141) 3=[lpCode Tryz.prog 141 3]:=by kernel_rfl
theorem ix_body0 {l:List (List UInt8)} {s:List UInt8} (hb:l.length≤100000) (h:inN s l=false):BodySem Tryz.prog opts0.glob 141 [.rsl true 0 0 l.length 1,.str s] [(0,some (.cells (l.map .str)))] 17 (I (-1)) [(0,some (.cells (l.map .str)))] 37:=by
 have hc:=closed_strs l
 have hi:=ixO_none (i:=0) h
 refine fnK_bodyX (k:=1) (A:=aidJ [] [(3,ixL0 s l.length (l.map .str))] noSem [] []) base0 aidJ_ok
  (fnLs_of (LsOk.at1 rfl ix_at fun st Q hs=> .seen base0.glob hs.1 (ix_loop hb 0 (Nat.zero_le _) (by rw[List.drop_zero,hi];exact hs.2)))) ?_
 rw[ix_fn0]
 exact ⟨⟨⟨⟨rfl,rfl⟩,⟨rfl,rfl⟩,⟨rfl,rfl⟩,⟨rfl,rfl⟩,trivial⟩,⟨⟨rfl,rfl,rfl,rfl,rfl⟩,trivial⟩,⟨rfl,hc⟩,trivial⟩,⟨rfl,⟨I (-1),Frz.closed _ rfl,.refl _⟩,⟨rfl,.cells (l.map .str),.cells (l.map .str),rfl,FrzL.closed _ hc,WkL.refl _⟩,trivial⟩⟩
theorem ix_body1 {l:List (List UInt8)} {s:List UInt8} {j:Nat} (hb:l.length≤100000) (hi:ixO s l 0=some j):BodySem Tryz.prog opts0.glob 141 [.rsl true 0 0 l.length 1,.str s] [(0,some (.cells (l.map .str)))] 17 (I (.ofNat j)) [(0,some (.cells (l.map .str)))] 37:=by
 have hc:=closed_strs l
 refine fnK_bodyX (k:=1) (A:=aidJ [] [(3,ixL1 s l.length (.ofNat j) (l.map .str))] noSem [] []) base0 aidJ_ok
  (fnLs_of (LsOk.at1 rfl ix_at fun st Q hs=> .seen base0.glob hs.1 (ix_loop hb 0 (Nat.zero_le _) (by rw[List.drop_zero,hi];exact hs.2)))) ?_
 rw[ix_fn1]
 exact ⟨⟨⟨⟨rfl,rfl⟩,⟨rfl,rfl⟩,⟨rfl,rfl⟩,⟨rfl,rfl⟩,trivial⟩,⟨⟨rfl,rfl,rfl,rfl,rfl⟩,trivial⟩,⟨rfl,hc⟩,trivial⟩,⟨rfl,⟨I (.ofNat j),Frz.closed _ rfl,.refl _⟩,⟨rfl,.cells (l.map .str),.cells (l.map .str),rfl,FrzL.closed _ hc,WkL.refl _⟩,trivial⟩⟩
theorem ix_none (s:List UInt8):SC 141 [.nilsl,.str s] (I (-1)):=by
 refine fnK_semV (A:=aid0) base0 aidOk0 (fnLs_of (LsOk.no rfl)) rfl rfl ?_
 rw[ix_nil]
 rfl
theorem nmS_snoc (a:At):∀ (l:List At) (out:List (List UInt8)),nmS out (l++[a])=match inN a.name (nmS out l) with
  |true=>nmS out l
  |false=>nmS out l++[a.name]
 |[],out=>by rw[List.nil_append,nmS,nmS];rfl
 |b::r,out=>by
  rw[List.cons_append,nmS,nmS]
  cases inN b.name out with
  |true=>exact nmS_snoc a r out
  |false=>exact nmS_snoc a r _
theorem nmS_len:∀ (l:List At) (out:List (List UInt8)),(nmS out l).length≤out.length+l.length
 |[],_=>Nat.le_refl _
 | a::r,out=>by
  rw[nmS,List.length_cons]
  split
  ·have:=nmS_len r out;omega
  ·have:=nmS_len r (out++[a.name])
   rw[List.length_append,List.length_singleton] at this
   omega
theorem idxAt {f:Bool} {l:List At} {i:Nat} {s:List UInt8} {k t y n:Int} {d:List UInt8} {ks:List It} (hx:l[i]? =some ⟨s,k,.mk t y n d ks⟩):indexAddrA Tryz.prog 43 (.fsl f (l.map atA)) (.int .i64 (.ofNat i))=some (.fptr (.str s::I k::itF t y n (toBytes d) (itAs ks)) 0):=
 fsl_index (v:=atA ⟨s,k,.mk t y n d ks⟩) (e:=39) (sz:=7) (by kernel_rfl) (by kernel_rfl) (by rw[List.getElem?_map,hx];rfl) rfl
theorem ns_loop {L:List At} (hb:L.length≤90000) {Q:AExit→St→Prop} (hq:Q (.exit 0) (nsV1 (.ofNat L.length) (.ofNat L.length) (nmS [] L).length (L.map atA) ((nmS [] L).map .str)).st):
  ∀m i:Nat,i+m=L.length→ALp Tryz.prog opts0.glob 0 (lpCode Tryz.prog 41 4) (nsV1 (.ofNat i) (.ofNat L.length) (nmS [] (L.take i)).length (L.map atA) ((nmS [] (L.take i)).map .str)).st Q:=by
 have hL:=closed_ats L
 intro m
 induction m with
 |zero=>
  intro i hi
  rw[Nat.add_zero] at hi
  subst hi
  rw[List.take_of_length_le (Nat.le_refl _)]
  have hc:=closed_strs (nmS [] L)
  refine ALp.round (A:=nsA (.str []::I 0::itF 0 0 0 [] []) (.ofNat 0) ((nmS [] L).map .str)) (V1:=nsV1 0 (.ofNat L.length) 0 (L.map atA) []) (V2:=nsV1 0 (.ofNat L.length) 0 (L.map atA) []) (F:=nsV1 (.ofNat L.length) (.ofNat L.length) (nmS [] L).length (L.map atA) ((nmS [] L).map .str)) (lk:=[(0,0)]) (lk':=[(0,0)]) base0 aidJ_ok (LsOk.no rfl) .refl ?_
  rw[ns_r2]
  refine mtB_of (fun e=> ?_) (fun _=>⟨⟨⟨⟨rfl,hL⟩,⟨rfl,rfl⟩,⟨rfl,rfl⟩,trivial⟩,⟨⟨rfl,rfl,rfl,rfl,rfl⟩,trivial⟩,⟨rfl,hc⟩,trivial⟩,hq⟩)
  have e:=ltInt_iff.1 e
  omega
 | succ m ih=>
  intro i hi
  have hlt:i<L.length:=by omega
  have g:=List.getElem?_eq_getElem hlt
  have ih:=ih (i+1) (by omega)
  rw[take_snoc g,nmS_snoc] at ih
  have hpl:=nmS_len (L.take i) []
  have htl:=List.length_take_le i L
  rw[List.length_nil,Nat.zero_add] at hpl
  revert g ih hpl
  generalize L[i]=a
  generalize nmS [] (L.take i)=out
  obtain ⟨s,idx,⟨t,y,q,d,ks⟩⟩:=a
  intro g ih hpl
  have hix:=idxAt (f:=false) g
  have hc:=closed_strs out
  have hob:out.length≤100000:=by rw[List.length_take] at hpl;omega
  have hw:wrapA .i64 (Int.ofNat i+1)=Int.ofNat (i+1):=wrapA_i64 (by simp;omega) (by simp;omega)
  simp only at ih
  cases hin:inN s out with
  |true=>
   rw[hin] at ih
   obtain ⟨j,hj⟩:=ixO_some (i:=0) hin
   refine ALp.round (A:=nsA (.str s::I idx::itF t y q (toBytes d) (itAs ks)) (.ofNat j) (out.map .str)) (V1:=nsV1 (.ofNat (i+1)) (.ofNat L.length) out.length (L.map atA) (out.map .str)) (V2:=nsV1 (.ofNat (i+1)) (.ofNat L.length) out.length (L.map atA) (out.map .str)) (F:=nsV1 (.ofNat i) (.ofNat L.length) out.length (L.map atA) (out.map .str)) (lk:=[(0,0)]) (lk':=[(0,0)]) base0 aidJ_ok (LsOk.no rfl) .refl ?_
   rw[ns_r2,hw]
   exact mtB_of (fun _=>⟨hix,ix_body1 hob hj,⟨⟨⟨rfl,hL⟩,⟨rfl,rfl⟩,⟨rfl,rfl⟩,trivial⟩,⟨⟨rfl,rfl,rfl,rfl,rfl⟩,trivial⟩,⟨rfl,hc⟩,trivial⟩,ih⟩) (fun e=>absurd e (lt_no hlt))
  |false=>
   rw[hin] at ih
   simp only[List.length_append,List.length_singleton,List.map_append,List.map_cons,List.map_nil] at ih
   refine ALp.round (A:=nsA (.str s::I idx::itF t y q (toBytes d) (itAs ks)) (-1) (out.map .str)) (V1:=nsV1 (.ofNat (i+1)) (.ofNat L.length) (out.length+1) (L.map atA) (out.map .str++[.str s])) (V2:=nsV1 (.ofNat (i+1)) (.ofNat L.length) (out.length+1) (L.map atA) (out.map .str++[.str s])) (F:=nsV1 (.ofNat i) (.ofNat L.length) out.length (L.map atA) (out.map .str)) (lk:=[(0,41)]) (lk':=[(0,0)]) base0 aidJ_ok (LsOk.no rfl) .refl ?_
   rw[ns_r1,hw]
   refine mtB_of (fun _=>⟨hix,ix_body0 hob hin,oblB_of ?_ (oblB_of ?_ ⟨⟨⟨⟨rfl,hL⟩,⟨rfl,rfl⟩,⟨rfl,rfl⟩,trivial⟩,⟨⟨rfl,rfl,rfl,rfl,rfl⟩,trivial⟩,⟨rfl, ?_⟩,trivial⟩,ih⟩)⟩) (fun e=>absurd e (lt_no hlt))
   ·simp[allSize,allOne,flat,AV.cells,lenN];omega
   ·rw[beq_iff,lenN_eq,List.length_map,Nat.mul_one]
   ·rw[closedAll_append,hc];rfl
theorem ns_at:loopsAt (fnCode Tryz.prog 41) 4=[lpCode Tryz.prog 41 4]:=by kernel_rfl
theorem all_cons (o:Ob):∃r,allS o=⟨nameK .uid,0,txt o.id⟩::r:=⟨_,rfl⟩
theorem names_sem {o:Ob} (ho:FitO o) (hg:∀k,OkG o k) (hC:∀c∈o.cust,c.name∈cnL):SC 41 [obA o] (.fsl false ((namesS o).map .str)):=by
 have hall:=all_sem ho hg hC
 have hcl:closedAll [obA o]=true:=closed_oc o (c:=[]) rfl
 have hb:(allS o).length≤90000:=by
  have h1:=stdT_len hg kinds
  have h2:=cusR_len o.cust []
  have h3:=wk_cusR o.cust []
  have h4:=h3.len
  have h5:=ho.c
  rw[h2,List.length_map] at h4
  rw[show kinds.length=20 from rfl] at h1
  rw[allS,List.length_append]
  omega
 have hlen:lenN ((allS o).map atA)=(allS o).length:=by rw[lenN_eq,List.length_map]
 have hL:=closed_ats (allS o)
 have hc:=closed_strs (namesS o)
 refine fnK_semX (A:=aidJ [] [(4,nsL (.ofNat (lenN ((allS o).map atA))) (namesS o).length ((allS o).map atA) ((namesS o).map .str))] (manyS [(40,.fsl false ((allS o).map atA))]) [] []) base0 aidJ_ok
  (fnLs_of (LsOk.at1 rfl ns_at fun st Q hs=> .seen base0.glob hs.1 ?_)) hcl ?_
 ·have hq:=hs.2
  rw[hlen] at hq⊢
  have h1:=ns_loop hb hq
  obtain ⟨r,hr⟩:=all_cons o
  have h2:=h1 r.length 1 (by rw[hr,List.length_cons];omega)
  have g:(allS o)[0]? =some ⟨nameK .uid,0,txt o.id⟩:=by rw[hr];rfl
  have e1:nmS [] ((allS o).take 1)=[nameK .uid]:=by rw[hr];rfl
  rw[e1] at h2
  have hix:=idxAt (f:=false) g
  refine ALp.round (A:=nsA (.str (nameK .uid)::I 0::itF 4325387 7 0 (toBytes o.id) (itAs [])) 0 []) (V1:=nsV1 (.ofNat 1) (.ofNat (allS o).length) 1 ((allS o).map atA) [.str (nameK .uid)]) (V2:=nsV1 (.ofNat 1) (.ofNat (allS o).length) 1 ((allS o).map atA) [.str (nameK .uid)]) (F:=nsV0 (.ofNat (allS o).length) ((allS o).map atA)) (lk:=[(0,20)]) (lk':=[]) base0 aidJ_ok (LsOk.no rfl) .refl ?_
  rw[ns_r0]
  refine mtB_of (fun _=>⟨hix,ix_none _,⟨⟨⟨rfl,hL⟩,⟨rfl,rfl⟩,⟨rfl,rfl⟩,trivial⟩,⟨⟨rfl,rfl,rfl,rfl,rfl⟩,trivial⟩,⟨rfl,rfl⟩,trivial⟩,h2⟩) (fun e=> ?_)
  have e:=ltInt_false.1 e
  rw[hr,List.length_cons] at e
  simp only[Int.ofNat_eq_natCast] at e
  omega
 ·unfold obA obC at*
  rw[ns_fn]
  exact ⟨hall,⟨⟨⟨rfl,rfl⟩,⟨rfl,hL⟩,⟨rfl,rfl⟩,⟨rfl,rfl⟩,trivial⟩,trivial,trivial⟩,.fsl false ((namesS o).map .str),(Frz.row rfl rfl (flat_strs _).symm (by rw[List.length_map]) (fun e he=>by obtain ⟨a,_,rfl⟩:=List.mem_map.1 he;exact good_str a) hc).out,hc,.refl _⟩
end Go.Proofs.YtjhggnebkfpgcaaGreatDoor
namespace Go.Proofs.YtjhggnebkfpgcaaGreatDoor
open Go Go.RowKit
open Go.Proofs.Abs
noncomputable section
def chgD:Nat→List UInt8
 |1=>[65,77]
 |2=>[65,77,68]
 |3=>[65,77,68]
 |4=>[65,77]
 |_=>[]
def chgK:Kd→List UInt8
 | .nam| .lnk| .lim| .cus _=>[65,77,68]
 | .mask=>[77]
 | .dat k=>chgD k
 |_=>[]
def staD:Nat→List UInt8
 |1=>[112]
 |2=>[112]
 |3=>[112,97]
 |4=>[112,97]
 |_=>[]
def staK:Kd→List UInt8
 | .mask=>[112]
 | .dat k=>staD k
 |_=>[]
def datK:Kd→Int
 | .dat k=> .ofNat k
 |_=> -1
def rrC (k:Kd):List AV:=[.str (nameK k),I (typeK k),.bool (manyK k),.bool (setK k),.str (chgK k),.str (staK k),I (datK k)]
def rrA (k:Kd):AV:= .agg (rrC k)
def rrZ:AV:= .agg [.str [],I 0,.bool false,.bool false,.str [],.str [],I 0]
abbrev zj2:=[AV.str [67,114,121,112,116,111,103,114,97,112,104,105,99,32,85,115,97,103,101,32,77,97,115,107],I 2,AV.bool false,AV.bool true,AV.str [77],AV.str [112],I (Int.negSucc 0)]
abbrev zj3:=[AV.str [67,114,121,112,116,111,103,114,97,112,104,105,99,32,65,108,103,111,114,105,116,104,109],I 5,AV.bool false,AV.bool true,AV.str [],AV.str [],I (Int.negSucc 0)]
abbrev zj4:=[AV.str [67,111,109,112,114,111,109,105,115,101,32,79,99,99,117,114,114,101,110,99,101,32,68,97,116,101],I 9,AV.bool false,AV.bool false,AV.str [],AV.str [],I 6]
abbrev zj5:=[AV.str [67,114,121,112,116,111,103,114,97,112,104,105,99,32,76,101,110,103,116,104],I 2,AV.bool false,AV.bool true,AV.str [],AV.str [],I (Int.negSucc 0)]
abbrev zj6:=[AV.str [85,110,105,113,117,101,32,73,100,101,110,116,105,102,105,101,114],I 7,AV.bool false,AV.bool false,AV.str [],AV.str [],I (Int.negSucc 0)]
abbrev zj7:=[AV.str [80,114,111,99,101,115,115,32,83,116,97,114,116,32,68,97,116,101],I 9,AV.bool false,AV.bool true,AV.str [65,77,68],AV.str [112],I 2]
abbrev zj8:=[AV.str [80,114,111,116,101,99,116,32,83,116,111,112,32,68,97,116,101],I 9,AV.bool false,AV.bool true,AV.str [65,77,68],AV.str [112,97],I 3]
abbrev zj9:=[AV.str [82,101,118,111,99,97,116,105,111,110,32,82,101,97,115,111,110],I 1,AV.bool false,AV.bool false,AV.str [],AV.str [],I (Int.negSucc 0)]
abbrev zj10:=[AV.str [68,101,97,99,116,105,118,97,116,105,111,110,32,68,97,116,101],I 9,AV.bool false,AV.bool true,AV.str [65,77],AV.str [112,97],I 4]
abbrev zj11:=[AV.str [85,115,97,103,101,32,76,105,109,105,116,115],I 1,AV.bool false,AV.bool true,AV.str [65,77,68],AV.str [],I (Int.negSucc 0)]
abbrev zj12:=[AV.str [65,99,116,105,118,97,116,105,111,110,32,68,97,116,101],I 9,AV.bool false,AV.bool true,AV.str [65,77],AV.str [112],I 1]
abbrev zj13:=[AV.str [76,97,115,116,32,67,104,97,110,103,101,32,68,97,116,101],I 9,AV.bool false,AV.bool false,AV.str [],AV.str [],I 9]
abbrev zj14:=[AV.str [67,111,109,112,114,111,109,105,115,101,32,68,97,116,101],I 9,AV.bool false,AV.bool false,AV.str [],AV.str [],I 7]
abbrev zj15:=[AV.str [79,98,106,101,99,116,32,84,121,112,101],I 5,AV.bool false,AV.bool false,AV.str [],AV.str [],I (Int.negSucc 0)]
abbrev zj16:=[AV.str [68,101,115,116,114,111,121,32,68,97,116,101],I 9,AV.bool false,AV.bool false,AV.str [],AV.str [],I 5]
abbrev zj17:=[AV.str [73,110,105,116,105,97,108,32,68,97,116,101],I 9,AV.bool false,AV.bool false,AV.str [],AV.str [],I 0]
abbrev zj18:=[AV.str [65,114,99,104,105,118,101,32,68,97,116,101],I 9,AV.bool false,AV.bool false,AV.str [],AV.str [],I 8]
abbrev zj19:=[AV.str [76,105,110,107],I 1,AV.bool true,AV.bool true,AV.str [65,77,68],AV.str [],I (Int.negSucc 0)]
abbrev zj20:=[AV.str [78,97,109,101],I 7,AV.bool true,AV.bool true,AV.str [65,77,68],AV.str [],I (Int.negSucc 0)]
abbrev zj21:=[AV.str [83,116,97,116,101],I 5,AV.bool false,AV.bool false,AV.str [],AV.str [],I (Int.negSucc 0)]
abbrev zj1:=(AV.fsl true [AV.agg zj6,AV.agg zj20,AV.agg zj15,AV.agg zj3,AV.agg zj5,AV.agg zj2,AV.agg zj21,AV.agg zj17,AV.agg zj12,AV.agg zj7,AV.agg zj8,AV.agg zj10,AV.agg zj16,AV.agg zj4,AV.agg zj14,AV.agg zj18,AV.agg zj13,AV.agg zj9,AV.agg zj19,AV.agg zj11])
theorem rrows_fn (Q:AV→Prop):fnK Tryz.prog opts0 40 aid0 95 [] [] 0 (fun v _ _=>Q v)=
  (Q zj1):=by kernel_rfl
theorem rrows_sem:SC 95 [] (.fsl true (kinds.map rrA)):=by
 refine fnK_semE (A:=aid0) base0 aidOk0 (fnLs_of (LsOk.no rfl)) rfl ?_
 rw[rrows_fn]
 exact end_eq rfl (by kernel_rfl)
def rfA (c:Bool):Aid:=aidJ [] [] (manyS [(114,.bool c),(95,.fsl true (kinds.map rrA))]) [] []
theorem rfind_fn (c:Bool) (s:List UInt8) (Q:AV→Prop):fnK Tryz.prog opts0 40 (rfA c) 63 [.str s] [] 0 (fun v _ _=>Q v)=
  (SC 95 [] zj1∧mtB (beqBytes [85,110,105,113,117,101,32,73,100,101,110,116,105,102,105,101,114] s) (Q (AV.tuple [AV.agg zj6,AV.bool true])) (mtB (beqBytes [78,97,109,101] s) (Q (AV.tuple [AV.agg zj20,AV.bool true])) (mtB (beqBytes [79,98,106,101,99,116,32,84,121,112,101] s) (Q (AV.tuple [AV.agg zj15,AV.bool true])) (mtB (beqBytes [67,114,121,112,116,111,103,114,97,112,104,105,99,32,65,108,103,111,114,105,116,104,109] s) (Q (AV.tuple [AV.agg zj3,AV.bool true])) (mtB (beqBytes [67,114,121,112,116,111,103,114,97,112,104,105,99,32,76,101,110,103,116,104] s) (Q (AV.tuple [AV.agg zj5,AV.bool true])) (mtB (beqBytes [67,114,121,112,116,111,103,114,97,112,104,105,99,32,85,115,97,103,101,32,77,97,115,107] s) (Q (AV.tuple [AV.agg zj2,AV.bool true])) (mtB (beqBytes [83,116,97,116,101] s) (Q (AV.tuple [AV.agg zj21,AV.bool true])) (mtB (beqBytes [73,110,105,116,105,97,108,32,68,97,116,101] s) (Q (AV.tuple [AV.agg zj17,AV.bool true])) (mtB (beqBytes [65,99,116,105,118,97,116,105,111,110,32,68,97,116,101] s) (Q (AV.tuple [AV.agg zj12,AV.bool true])) (mtB (beqBytes [80,114,111,99,101,115,115,32,83,116,97,114,116,32,68,97,116,101] s) (Q (AV.tuple [AV.agg zj7,AV.bool true])) (mtB (beqBytes [80,114,111,116,101,99,116,32,83,116,111,112,32,68,97,116,101] s) (Q (AV.tuple [AV.agg zj8,AV.bool true])) (mtB (beqBytes [68,101,97,99,116,105,118,97,116,105,111,110,32,68,97,116,101] s) (Q (AV.tuple [AV.agg zj10,AV.bool true])) (mtB (beqBytes [68,101,115,116,114,111,121,32,68,97,116,101] s) (Q (AV.tuple [AV.agg zj16,AV.bool true])) (mtB (beqBytes [67,111,109,112,114,111,109,105,115,101,32,79,99,99,117,114,114,101,110,99,101,32,68,97,116,101] s) (Q (AV.tuple [AV.agg zj4,AV.bool true])) (mtB (beqBytes [67,111,109,112,114,111,109,105,115,101,32,68,97,116,101] s) (Q (AV.tuple [AV.agg zj14,AV.bool true])) (mtB (beqBytes [65,114,99,104,105,118,101,32,68,97,116,101] s) (Q (AV.tuple [AV.agg zj18,AV.bool true])) (mtB (beqBytes [76,97,115,116,32,67,104,97,110,103,101,32,68,97,116,101] s) (Q (AV.tuple [AV.agg zj13,AV.bool true])) (mtB (beqBytes [82,101,118,111,99,97,116,105,111,110,32,82,101,97,115,111,110] s) (Q (AV.tuple [AV.agg zj9,AV.bool true])) (mtB (beqBytes [76,105,110,107] s) (Q (AV.tuple [AV.agg zj19,AV.bool true])) (mtB (beqBytes [85,115,97,103,101,32,76,105,109,105,116,115] s) (Q (AV.tuple [AV.agg zj11,AV.bool true])) (SC 114 [AV.str s] (AV.bool c)∧mtB c (Q (AV.tuple [AV.agg [AV.str s,I 7,AV.bool true,AV.bool true,AV.str [65,77,68],AV.str [],I (Int.negSucc 0)],AV.bool true])) (Q (AV.tuple [AV.agg [AV.str [],I 0,AV.bool false,AV.bool false,AV.str [],AV.str [],I 0],AV.bool false]))))))))))))))))))))))):=by kernel_rfl
end
end Go.Proofs.YtjhggnebkfpgcaaGreatDoor
