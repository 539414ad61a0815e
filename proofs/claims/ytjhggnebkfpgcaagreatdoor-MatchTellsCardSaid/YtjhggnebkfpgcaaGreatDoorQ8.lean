/- Is, Fd, List, TelW, Kno, TelP, LawTel, Rws. -/
import Derived.Test.YtjhggnebkfpgcaaGreatDoorQ7
import Derived.Test.YtjhggnebkfpgcaaGreatDoorQ6
import Derived.KernelRfl
import Derived.Test.YtjhggnebkfpgcaaGreatDoorQ1
import Derived.Test.YtjhggnebkfpgcaaGreatDoorQ4
import Derived.Test.YtjhggnebkfpgcaaGreatDoorG5
namespace Go.Proofs.YtjhggnebkfpgcaaGreatDoor
set_option maxRecDepth 20000
open Go Go.RowKit
open Go.Proofs.Abs
structure OkH (o:Ob):Prop where
 fit:FitO o
 g:∀k,OkG o k
theorem Okay.h {o:Ob} (h:Okay o):OkH o:=⟨h.fit,h.g⟩
theorem isd_sem (a:At):SC 97 [atA a] (.bool (beqInt (itY a.v) 9)):=by
 have hc:=closed_atA a
 obtain ⟨s,idx,⟨t,y,q,d,ks⟩⟩:=a
 refine fnK_semV (A:=aid0) base0 aidOk0 (fnLs_of (LsOk.no rfl)) (by rw[closedAll,hc];rfl) rfl ?_
 rw[atA_F,isd_fn]
 rfl
def fstN (l:List It):Int:=match l with
 |x::_=>itN x
 |[]=>0
def lstN (l:List It):Int:=match l.getLast? with
 |some x=>itN x
 |none=>0
def dateB (o:Ob) (s:List UInt8) (ws:List It):Bool:=(ofS (cusB s) o s).any (pB (fstN ws) (lstN ws))
theorem of_len {o:Ob} (h:OkH o) (c:Bool) (s:List UInt8):(ofS c o s).length≤1000:=by
 unfold ofS
 split
 ·simp
 ·rename_i k hk
  rw[tell_length]
  exact (h.g k).n
theorem tell_mem {s:List UInt8}:∀ {l:List It} {i:Nat} {a:At},a∈tellL s l i→a.v∈l
 |[],_,_,h=>by cases h
 |v::r,i,a,h=>by
  rw[tellL] at h
  rcases List.mem_cons.1 h with rfl|h
  ·exact List.mem_cons_self
  ·exact List.mem_cons_of_mem _ (tell_mem h)
theorem of_ok {o:Ob} (h:OkH o) {c:Bool} {s:List UInt8}:∀a∈ofS c o s,okI big a.v:=fun a ha=>by
 unfold ofS at ha
 split at ha
 ·cases ha
 ·rename_i k hk
  exact (h.g k).i _ (tell_mem ha)
theorem date_sem {o:Ob} (h:OkH o) {s:List UInt8} (hs:s∈nameL) {ws:List It} (hne:ws≠[]) (hb:ws.length≤100000):SC 98 [obA o,.str s,.fsl false (itAs ws)] (.bool (dateB o s ws)):=by
 have hof:=ofn_sem h.fit (cus_sem s hs) h.g
 have hlen:=of_len h (cusB s) s
 have hW:=closed_its ws
 have hcl:=closed_oc o (c:=[.str s,.fsl false (itAs ws)]) (by simp only[closedAll,closedA,hW,Bool.and_self])
 have hln:lenN (itAs ws)=ws.length:=by rw[lenN_eq,its_length]
 unfold dateB
 generalize ofS (cusB s) o s=l at hof hlen⊢
 obtain ⟨x0,r,rfl⟩:∃x r,ws=x::r:=by
  cases ws with
  |nil=>exact absurd rfl hne
  |cons x r=>exact ⟨x,r,rfl⟩
 have g1:(x0::r)[r.length]? =some ((x0::r)[r.length]'(by simp)):=List.getElem?_eq_getElem (by simp)
 have hl:(x0::r).getLast? =some ((x0::r)[r.length]'(by simp)):=by rw[List.getLast?_eq_getElem?];exact g1
 have e1:fstN (x0::r)=itN x0:=rfl
 have e2:lstN (x0::r)=itN ((x0::r)[r.length]'(by simp)):=by unfold lstN;rw[hl]
 rw[e1,e2]
 revert g1
 generalize (x0::r)[r.length]'(by simp)=x1
 intro g1
 have hw:wrapA .i64 (Int.ofNat (r.length+1)-1)=Int.ofNat r.length:=by
  rw[wrapA_i64 (by simp<;>omega) (by simp<;>(simp only[List.length_cons] at hb;omega))]
  simp only[Int.ofNat_eq_natCast]
  omega
 have hcf:=xb_cfb (l:=l) (least:=itN x0) (most:=itN x1) (by omega)
 obtain ⟨t,y,q,d,ks⟩:=x0
 obtain ⟨t',y',q',d',ks'⟩:=x1
 have i0:=idxI (f:=false) (ks:=⟨t,y,q,d,ks⟩::r) (i:=0) rfl
 have i1:=idxI (f:=false) g1
 have hcf:=ren2c (K:=13) (K2:=14) (m:=23) (m':=48) (args2:=[.fsl false (l.map atA),.func (.func 142) [] [.ptr 13 0,.ptr 14 0]]) (H2:=[(14,some (.cells [I q'])),(13,some (.cells [I q]))]) hcf (by decide) rfl rfl ⟨.same _ (closed_ats l),renF ⟨.ptr _ _ _ rfl,.ptr _ _ _ rfl,trivial⟩,trivial⟩ rfl rfl rfl (by omega) (by omega)
 refine fnK_semV (A:=aidJ [(1,1,.res (.fptr (itF t y q (toBytes d) (itAs ks)) 0)),(1,8,.res (.fptr (itF t' y' q' (toBytes d') (itAs ks')) 0))] [] (dtT (l.any (pB q q')) (l.map atA) q q') [] []) base0 aidJ_ok (fnLs_of (LsOk.no rfl)) hcl rfl ?_
 unfold obA obC at hof⊢
 rw[dt_fn,hln,List.length_cons,hw]
 exact ⟨i0,i1,hof,hcf,rfl⟩
def condB (o:Ob) (L:List At) (a:At):Bool:=match beqInt (itY a.v) 9 with
 |true=>dateB o a.name (valsL a.name L)
 |false=>(ofS (cusB a.name) o a.name).any (pA a.v)
theorem vals_ne {L:List At} {a:At} (h:a∈L):valsL a.name L≠[]:=by
 induction L with
 |nil=>cases h
 | cons b r ih=>
  rw[valsL]
  cases hb:beqBytes b.name a.name with
  |true=>simp
  |false=>
   rcases List.mem_cons.1 h with rfl|h
   ·rw[beqBytes_iff.2 rfl] at hb;cases hb
   ·exact ih h
section
variable {o:Ob} {L:List At} {Q:AExit→St→Prop}
theorem is_loop (ok:OkH o) (hn:∀a∈L,a.name∈nameL) (hb:L.length≤1000):∀m i,i+m=L.length→mtB ((L.drop i).all (condB o L)) (Q (.exit 0) isF.st) (Q .ret isF.st)→
  ALp Tryz.prog opts0.glob 0 (lpCode Tryz.prog 52 3) (isV (.ofNat i) (.ofNat L.length) (L.map atA) (obC o)).st Q:=by
 have hL:=closed_ats L
 have hO:=closed_obC o
 intro m
 induction m with
 |zero=>
  intro i hi hq
  rw[Nat.add_zero] at hi
  subst hi
  rw[List.drop_of_length_le (Nat.le_refl _)] at hq
  have hq:Q (.exit 0) isF.st:=hq
  refine ALp.round (A:=isA (.str []::I 0::itF 0 0 0 [] []) false false false [] []) (V1:=isV 0 (.ofNat L.length) (L.map atA) (obC o)) (V2:=isV 0 (.ofNat L.length) (L.map atA) (obC o)) (F:=isF) (lk:=[(0,0)]) (lk':=[]) base0 aidJ_ok (LsOk.no rfl) .refl ?_
  unfold obC at hO⊢
  rw[is_r0]
  exact mtF (ltInt_false.2 (by simp only[Int.ofNat_eq_natCast];omega)) ⟨⟨⟨⟨rfl,rfl⟩,trivial⟩,trivial,trivial⟩,hq⟩
 | succ m ih=>
  intro i hi hq
  have hlt:i<L.length:=by omega
  have g:=List.getElem?_eq_getElem hlt
  have hm:=List.getElem_mem hlt
  rw[List.drop_eq_getElem_cons hlt,List.all_cons] at hq
  have ih:=ih (i+1) (by omega)
  revert hq g hm
  generalize L[i]=a
  intro hq g hm
  have yes:ltInt (Int.ofNat i) (Int.ofNat L.length)=true:=ltInt_iff.2 (by simp only[Int.ofNat_eq_natCast];omega)
  have hw:wrapA .i64 (Int.ofNat i+1)=Int.ofNat (i+1):=wrapA_i64 (by simp;omega) (by simp;omega)
  have hs:=hn a hm
  have hd:=isd_sem a
  have hv:=vals_sem (l:=L) (by omega) a.name
  have hvl:=vals_len a.name L
  have hdt:=date_sem ok hs (vals_ne hm) (by omega)
  have hof:=ofn_sem ok.fit (cus_sem a.name hs) ok.g
  have hofl:=of_len ok (cusB a.name) a.name
  have hcf:=xa_cfb (l:=ofS (cusB a.name) o a.name) (S0:=a.name) (X0:=a.idx) (v:=a.v) (of_ok ok) (by omega)
  have hcc:condB o L a=match beqInt (itY a.v) 9 with|true=>dateB o a.name (valsL a.name L)|false=>(ofS (cusB a.name) o a.name).any (pA a.v):=rfl
  rw[hcc] at hq
  generalize valsL a.name L=Vs at hv hdt hq
  generalize ofS (cusB a.name) o a.name=As at hof hcf hq
  obtain ⟨s,idx,⟨t,y,q,d,ks⟩⟩:=a
  have hx:=idxT (f:=false) g
  rw[atA_F] at hd
  simp only at hs hv hdt hof hcf hq
  cases hy:beqInt y 9 with
  | true=>
   rw[show beqInt (itY ⟨t,y,q,d,ks⟩) 9=true from hy] at hd hq
   dsimp only at hq
   generalize dateB o s Vs=b at hdt hq
   cases b with
   |true=>
    rw[Bool.true_and] at hq
    have ih:=ih hq
    refine ALp.round (A:=isA (.str s::I idx::itF t y q (toBytes d) (itAs ks)) true true false (itAs Vs) []) (V1:=isV (.ofNat (i+1)) (.ofNat L.length) (L.map atA) (obC o)) (V2:=isV (.ofNat (i+1)) (.ofNat L.length) (L.map atA) (obC o)) (F:=isF) (lk:=[(0,0)]) (lk':=[]) base0 aidJ_ok (LsOk.no rfl) .refl ?_
    unfold obA at hdt
    unfold obC at hO hdt ih⊢
    rw[is_r1,hw]
    exact mtT yes ⟨hx,hd,hv,hdt,mtF rfl ⟨⟨⟨⟨rfl,hL⟩,⟨rfl,rfl⟩,⟨rfl,hL⟩,⟨rfl,rfl⟩,⟨rfl,rfl⟩,trivial⟩,⟨⟨rfl,rfl⟩,trivial⟩,⟨rfl,hO⟩,trivial⟩,ih⟩⟩
   |false=>
    rw[Bool.false_and] at hq
    have hq:Q .ret isF.st:=hq
    refine ALp.round (A:=isA (.str s::I idx::itF t y q (toBytes d) (itAs ks)) true false false (itAs Vs) []) (V1:=isV 0 (.ofNat L.length) (L.map atA) (obC o)) (V2:=isV 0 (.ofNat L.length) (L.map atA) (obC o)) (F:=isF) (lk:=[(0,0)]) (lk':=[]) base0 aidJ_ok (LsOk.no rfl) .refl ?_
    unfold obA at hdt
    unfold obC at hO hdt⊢
    rw[is_r1]
    exact mtT yes ⟨hx,hd,hv,hdt,mtT rfl ⟨⟨⟨⟨rfl,rfl⟩,trivial⟩,trivial,trivial⟩,hq⟩⟩
  | false=>
   rw[show beqInt (itY ⟨t,y,q,d,ks⟩) 9=false from hy] at hd hq
   dsimp only at hq
   have hcf:=ren1c (K:=4) (m:=15) (m':=40) (args2:=[.fsl false (As.map atA),.func (.func 101) [] [.ptr 4 0]]) (H2:=[(4,some (.cells (.str s::I idx::itF t y q (toBytes d) (itAs ks))))]) hcf rfl ⟨.same _ (closed_ats As),renF ⟨.ptr _ _ _ rfl,trivial⟩,trivial⟩ rfl (closed_atA ⟨s,idx,⟨t,y,q,d,ks⟩⟩) (by omega) (by omega)
   generalize As.any (pA ⟨t,y,q,d,ks⟩)=b at hcf hq
   cases b with
   |true=>
    rw[Bool.true_and] at hq
    have ih:=ih hq
    refine ALp.round (A:=isA (.str s::I idx::itF t y q (toBytes d) (itAs ks)) false false true [] (As.map atA)) (V1:=isV (.ofNat (i+1)) (.ofNat L.length) (L.map atA) (obC o)) (V2:=isV (.ofNat (i+1)) (.ofNat L.length) (L.map atA) (obC o)) (F:=isF) (lk:=[(0,0)]) (lk':=[]) base0 aidJ_ok (LsOk.no rfl) .refl ?_
    unfold obA at hof
    unfold obC at hO hof ih⊢
    rw[is_r0,hw]
    exact mtT yes ⟨hx,hd,hof,hcf,mtF rfl ⟨⟨⟨⟨rfl,hL⟩,⟨rfl,rfl⟩,⟨rfl,hL⟩,⟨rfl,rfl⟩,⟨rfl,rfl⟩,trivial⟩,⟨⟨rfl,rfl⟩,trivial⟩,⟨rfl,hO⟩,trivial⟩,ih⟩⟩
   |false=>
    rw[Bool.false_and] at hq
    have hq:Q .ret isF.st:=hq
    refine ALp.round (A:=isA (.str s::I idx::itF t y q (toBytes d) (itAs ks)) false false false [] (As.map atA)) (V1:=isV 0 (.ofNat L.length) (L.map atA) (obC o)) (V2:=isV 0 (.ofNat L.length) (L.map atA) (obC o)) (F:=isF) (lk:=[(0,0)]) (lk':=[]) base0 aidJ_ok (LsOk.no rfl) .refl ?_
    unfold obA at hof
    unfold obC at hO hof⊢
    rw[is_r0]
    exact mtT yes ⟨hx,hd,hof,hcf,mtT rfl ⟨⟨⟨⟨rfl,rfl⟩,trivial⟩,trivial,trivial⟩,hq⟩⟩
end
theorem is_at:loopsAt (fnCode Tryz.prog 52) 3=[lpCode Tryz.prog 52 3]:=by kernel_rfl
def isB (o:Ob) (L:List At):Bool:=L.all (condB o L)
theorem mis_sem {o:Ob} {L:List At} (ok:OkH o) (hn:∀a∈L,a.name∈nameL) (hb:L.length≤1000):SC 52 [obA o,.fsl false (L.map atA)] (.bool (isB o L)):=by
 have hL:=closed_ats L
 have hO:=closed_obC o
 have hcl:=closed_oc o (c:=[.fsl false (L.map atA)]) (by simp only[closedAll,closedA,hL,Bool.and_self])
 have hlen:lenN (L.map atA)=L.length:=by rw[lenN_eq,List.length_map]
 have hrun:=fun (Q:AExit→St→Prop)=>is_loop (Q:=Q) ok hn hb L.length 0 (Nat.zero_add _)
 rw[List.drop_zero] at hrun
 unfold isB
 generalize L.all (condB o L)=b at hrun⊢
 cases b with
 | true=>
  refine fnK_semV (A:=aidJ [] [(3,isL (.exit 0) (.ofNat (lenN (L.map atA))) (L.map atA) (obC o))] noSem [] []) base0 aidJ_ok
   (fnLs_of (LsOk.at1 rfl is_at fun st Q hs=> .seen base0.glob hs.1 (by
    rw[hlen]
    exact hrun Q hs.2))) hcl rfl ?_
  unfold obA
  unfold obC at hO⊢
  rw[is_fn1]
  exact ⟨⟨⟨⟨rfl,hL⟩,⟨rfl,rfl⟩,⟨rfl,hL⟩,⟨rfl,rfl⟩,⟨rfl,rfl⟩,trivial⟩,⟨⟨rfl,rfl⟩,trivial⟩,⟨rfl,hO⟩,trivial⟩,rfl⟩
 | false=>
  refine fnK_semV (A:=aidJ [] [(3,isL .ret (.ofNat (lenN (L.map atA))) (L.map atA) (obC o))] noSem [] []) base0 aidJ_ok
   (fnLs_of (LsOk.at1 rfl is_at fun st Q hs=> .seen base0.glob hs.1 (by
    rw[hlen]
    exact hrun Q hs.2))) hcl rfl ?_
  unfold obA
  unfold obC at hO⊢
  rw[is_fn0]
  exact ⟨⟨⟨⟨rfl,hL⟩,⟨rfl,rfl⟩,⟨rfl,hL⟩,⟨rfl,rfl⟩,⟨rfl,rfl⟩,trivial⟩,⟨⟨rfl,rfl⟩,trivial⟩,⟨rfl,hO⟩,trivial⟩,rfl⟩
def nextH (b:Bool) (h:List Ob) (o:Ob):List Ob:=match b with
 |true=>pushL ltO h o
 |false=>h
def hpS (L:List At) (l:List Ob):List Ob:=l.foldl (fun h o=>match isB o L with
 |true=>pushL ltO h o
 |false=>h) []
theorem hpS_snoc (L:List At) (l:List Ob) (o:Ob):hpS L (l++[o])=match isB o L with
  |true=>pushL ltO (hpS L l) o
  |false=>hpS L l:=by
 unfold hpS
 rw[List.foldl_append]
 rfl
theorem hpS_snoc' (L:List At) (l:List Ob) (o:Ob):hpS L (l++[o])=nextH (isB o L) (hpS L l) o:=hpS_snoc L l o
theorem hpS_ok (L:List At) (l:List Ob):Hp ltO (hpS L l) (hpS L l).length∧(hpS L l).Perm (l.filter fun o=>isB o L):=by
 have gen:∀ (l:List Ob) (h:List Ob),Hp ltO h h.length→Hp ltO (l.foldl (fun h o=>match isB o L with|true=>pushL ltO h o|false=>h) h) (l.foldl (fun h o=>match isB o L with|true=>pushL ltO h o|false=>h) h).length∧(l.foldl (fun h o=>match isB o L with|true=>pushL ltO h o|false=>h) h).Perm (h++l.filter fun o=>isB o L):=by
  intro l
  induction l with
  |nil=>intro h hh;exact ⟨hh,by simp⟩
  | cons o r ih=>
   intro h hh
   rw[List.foldl_cons,List.filter_cons]
   cases hb:isB o L with
   |true=>
    obtain ⟨h1,h2⟩:=ih (pushL ltO h o) (push_heap ordO hh o)
    refine ⟨h1,h2.trans ?_⟩
    rw[if_pos rfl,List.append_cons]
    exact (push_perm h o).append_right _
   |false=>
    rw[if_neg (by simp)]
    exact ih h hh
 have:=gen l [] (fun k a b _ hk=>absurd hk (Nat.not_lt_zero k))
 exact this
theorem hpS_len (L:List At) (l:List Ob):(hpS L l).length≤l.length:=by
 rw[(hpS_ok L l).2.length_eq]
 exact List.length_filter_le _ _
noncomputable def fdW (i n most:Int) (Cs Os:List AV):List Ob→View
 |[]=>fdV0 i n most Cs Os
 |x::r=>fdV1 i n most Cs Os (r.length+1) (flO (x::r))
theorem push_nil (o:Ob):pushL ltO [] o=[o]:=rfl
theorem idxO {l:List Ob} {i:Nat} {o:Ob} (hx:l[i]? =some o):indexAddrA Tryz.prog 72 (.fsl false (l.map obA)) (I (.ofNat i))=some (.fptr (obC o) 0):=
 fsl_index (v:=obA o) (e:=33) (sz:=37) (by kernel_rfl) (by kernel_rfl) (by rw[List.getElem?_map,hx];rfl) rfl
theorem closed_obs:∀l:List Ob,closedAll (l.map obA)=true
 |[]=>rfl
 |o::r=>by rw[List.map_cons,closedAll,closed_ob,closed_obs r];rfl
section
variable {L:List At} {l:List Ob} {most:Int} {Q:AExit→St→Prop}
theorem fd_stop {i:Nat} (hi:i=l.length) (h:List Ob) (hq:Q (.exit 0) (fdW (.ofNat i) (.ofNat l.length) most (L.map atA) (l.map obA) h).st):ALp Tryz.prog opts0.glob 0 (lpCode Tryz.prog 53 4) (fdW (.ofNat i) (.ofNat l.length) most (L.map atA) (l.map obA) h).st Q:=by
 have hL:=closed_ats L
 have hO:=closed_obs l
 have no:ltInt (Int.ofNat i) (Int.ofNat l.length)=false:=ltInt_false.2 (by simp only[Int.ofNat_eq_natCast];omega)
 cases h with
 |nil=>
  refine ALp.round (A:=fdA (obF zO .nilsl .nilsl .nilsl .nilsl) false true 0 []) (V1:=fdV0 0 (.ofNat l.length) most (L.map atA) (l.map obA)) (V2:=fdV0 0 (.ofNat l.length) most (L.map atA) (l.map obA)) (F:=fdV0 (.ofNat i) (.ofNat l.length) most (L.map atA) (l.map obA)) (lk:=[(0,0)]) (lk':=[(0,0)]) base0 aidJ_ok (LsOk.no rfl) .refl ?_
  show wpK Tryz.prog opts0 40 _ _ (fdV0 (.ofNat i) (.ofNat l.length) most (L.map atA) (l.map obA)).st _
  rw[fd_00]
  exact mtF no ⟨⟨⟨⟨rfl,hL⟩,⟨rfl,rfl⟩,⟨rfl,hO⟩,⟨rfl,rfl⟩,⟨rfl,rfl⟩,trivial⟩,⟨⟨rfl,rfl⟩,trivial⟩,⟨rfl,rfl⟩,trivial⟩,hq⟩
 |cons x r=>
  have hc:=closed_flO (x::r)
  refine ALp.round (A:=fdA (obF zO .nilsl .nilsl .nilsl .nilsl) false false 0 []) (V1:=fdV1 0 (.ofNat l.length) most (L.map atA) (l.map obA) (r.length+1) (flO (x::r))) (V2:=fdV1 0 (.ofNat l.length) most (L.map atA) (l.map obA) (r.length+1) (flO (x::r))) (F:=fdV1 (.ofNat i) (.ofNat l.length) most (L.map atA) (l.map obA) (r.length+1) (flO (x::r))) (lk:=[(0,0),(1,1)]) (lk':=[(0,0),(1,1)]) base0 aidJ_ok (LsOk.no rfl) .refl ?_
  show wpK Tryz.prog opts0 40 _ _ (fdV1 (.ofNat i) (.ofNat l.length) most (L.map atA) (l.map obA) (r.length+1) (flO (x::r))).st _
  rw[fd_10]
  exact mtF no ⟨⟨⟨⟨rfl,hL⟩,⟨rfl,rfl⟩,⟨rfl,hO⟩,⟨rfl,rfl⟩,⟨rfl,rfl⟩,trivial⟩,⟨⟨rfl,rfl⟩,trivial⟩,⟨⟨rfl,rfl,rfl,rfl,rfl⟩,trivial⟩,⟨rfl,hc⟩,trivial⟩,hq⟩
theorem fd_step (hb:l.length≤80000) {i:Nat} {o:Ob} (g:l[i]? =some o) {b:Bool} (hi2:SC 52 [obA o,.fsl false (L.map atA)] (.bool b)) (h:List Ob) (hh:h.length≤i) (hn:ALp Tryz.prog opts0.glob 0 (lpCode Tryz.prog 53 4) (fdW (.ofNat (i+1)) (.ofNat l.length) most (L.map atA) (l.map obA) (nextH b h o)).st Q):ALp Tryz.prog opts0.glob 0 (lpCode Tryz.prog 53 4) (fdW (.ofNat i) (.ofNat l.length) most (L.map atA) (l.map obA) h).st Q:=by
 have hL:=closed_ats L
 have hO:=closed_obs l
 have hi:i<l.length:=(List.getElem?_eq_some_iff.1 g).1
 have yes:ltInt (Int.ofNat i) (Int.ofNat l.length)=true:=ltInt_iff.2 (by simp only[Int.ofNat_eq_natCast];omega)
 have hw:wrapA .i64 (Int.ofNat i+1)=Int.ofNat (i+1):=wrapA_i64 (by simp;omega) (by simp;omega)
 have hx:=idxO g
 have fo:=fits_obh o
 cases b with
 | false=>
  simp only[nextH] at hn
  cases h with
  |nil=>
   refine ALp.round (A:=fdA (obC o) false true 0 []) (V1:=fdV0 (.ofNat (i+1)) (.ofNat l.length) most (L.map atA) (l.map obA)) (V2:=fdV0 (.ofNat (i+1)) (.ofNat l.length) most (L.map atA) (l.map obA)) (F:=fdV0 (.ofNat i) (.ofNat l.length) most (L.map atA) (l.map obA)) (lk:=[(0,0)]) (lk':=[(0,0)]) base0 aidJ_ok (LsOk.no rfl) .refl ?_
   show wpK Tryz.prog opts0 40 _ _ (fdV0 (.ofNat i) (.ofNat l.length) most (L.map atA) (l.map obA)).st _
   unfold obA at hi2
   unfold obC at hx fo hi2⊢
   rw[fd_00,hw]
   exact mtT yes ⟨hx,oblB_of fo ⟨hi2,⟨⟨⟨rfl,hL⟩,⟨rfl,rfl⟩,⟨rfl,hO⟩,⟨rfl,rfl⟩,⟨rfl,rfl⟩,trivial⟩,⟨⟨rfl,rfl⟩,trivial⟩,⟨rfl,rfl⟩,trivial⟩,hn⟩⟩
  |cons x r=>
   have hc:=closed_flO (x::r)
   refine ALp.round (A:=fdA (obC o) false false 0 []) (V1:=fdV1 (.ofNat (i+1)) (.ofNat l.length) most (L.map atA) (l.map obA) (r.length+1) (flO (x::r))) (V2:=fdV1 (.ofNat (i+1)) (.ofNat l.length) most (L.map atA) (l.map obA) (r.length+1) (flO (x::r))) (F:=fdV1 (.ofNat i) (.ofNat l.length) most (L.map atA) (l.map obA) (r.length+1) (flO (x::r))) (lk:=[(0,0),(1,1)]) (lk':=[(0,0),(1,1)]) base0 aidJ_ok (LsOk.no rfl) .refl ?_
   show wpK Tryz.prog opts0 40 _ _ (fdV1 (.ofNat i) (.ofNat l.length) most (L.map atA) (l.map obA) (r.length+1) (flO (x::r))).st _
   unfold obA at hi2
   unfold obC at hx fo hi2⊢
   rw[fd_10,hw]
   exact mtT yes ⟨hx,oblB_of fo ⟨hi2,⟨⟨⟨rfl,hL⟩,⟨rfl,rfl⟩,⟨rfl,hO⟩,⟨rfl,rfl⟩,⟨rfl,rfl⟩,trivial⟩,⟨⟨rfl,rfl⟩,trivial⟩,⟨⟨rfl,rfl,rfl,rfl,rfl⟩,trivial⟩,⟨rfl,hc⟩,trivial⟩,hn⟩⟩
 | true=>
  simp only[nextH] at hn
  cases h with
  |nil=>
   rw[push_nil] at hn
   have hp:=ren3z (K':=20) (m:=13) (m':=43) (H2:=[(0,some (.cells [.nilsl]))]) (a:=hpI) (.iface _ (.ptr _ _ _ rfl)) (hpush0 o) (by omega) (by omega) (by omega) rfl (by omega) (closed_flO _)
   refine ALp.round (A:=fdA (obC o) true true 0 (flO [o])) (V1:=fdV1 (.ofNat (i+1)) (.ofNat l.length) most (L.map atA) (l.map obA) 1 (flO [o])) (V2:=fdV1 (.ofNat (i+1)) (.ofNat l.length) most (L.map atA) (l.map obA) 1 (flO [o])) (F:=fdV0 (.ofNat i) (.ofNat l.length) most (L.map atA) (l.map obA)) (lk:=[(0,0),(1,20)]) (lk':=[(0,0)]) base0 aidJ_ok (LsOk.no rfl) .refl ?_
   show wpK Tryz.prog opts0 40 _ _ (fdV0 (.ofNat i) (.ofNat l.length) most (L.map atA) (l.map obA)).st _
   unfold obA at hi2 hp
   unfold obC at hx fo hi2 hp⊢
   rw[fd_01,hw]
   exact mtT yes ⟨hx,oblB_of fo ⟨hi2,hp,⟨⟨⟨rfl,hL⟩,⟨rfl,rfl⟩,⟨rfl,hO⟩,⟨rfl,rfl⟩,⟨rfl,rfl⟩,trivial⟩,⟨⟨rfl,rfl⟩,trivial⟩,⟨⟨rfl,rfl,rfl,rfl,rfl⟩,trivial⟩,⟨rfl,closed_flO _⟩,trivial⟩,hn⟩⟩
  | cons x r=>
   have hlen:=push_len (lt:=ltO) (x::r) o
   simp only[List.length_cons] at hh hlen
   have hp:=ren3 (K':=20) (m:=14) (m':=44) (H2:=[(1,some (.cells (flO (x::r)))),(0,some (.cells [.rsl true 1 0 (r.length+1) 37]))]) (a:=hpI) (.iface _ (.ptr _ _ _ rfl)) (hpush1 (l:=x::r) (by simp only[List.length_cons];omega) o) (by omega) (by omega) (by omega) rfl rfl (by omega) (closed_flO _) (closed_flO _)
   revert hn hp
   generalize hPL:pushL ltO (x::r) o=PL
   rw[hPL] at hlen
   obtain ⟨y,q,rfl⟩:∃y q,PL=y::q:=by
    cases PL with
    |nil=>simp at hlen
    |cons y q=>exact ⟨y,q,rfl⟩
   simp only[List.length_cons] at hlen
   intro hn hp
   have hn:ALp Tryz.prog opts0.glob 0 (lpCode Tryz.prog 53 4) (fdV1 (.ofNat (i+1)) (.ofNat l.length) most (L.map atA) (l.map obA) (q.length+1) (flO (y::q))).st Q:=hn
   rw[hlen] at hn
   refine ALp.round (A:=fdA (obC o) true false (r.length+1) (flO (y::q))) (V1:=fdV1 (.ofNat (i+1)) (.ofNat l.length) most (L.map atA) (l.map obA) (r.length+1+1) (flO (y::q))) (V2:=fdV1 (.ofNat (i+1)) (.ofNat l.length) most (L.map atA) (l.map obA) (r.length+1+1) (flO (y::q))) (F:=fdV1 (.ofNat i) (.ofNat l.length) most (L.map atA) (l.map obA) (r.length+1) (flO (x::r))) (lk:=[(0,0),(1,20)]) (lk':=[(0,0),(1,1)]) base0 aidJ_ok (LsOk.no rfl) .refl ?_
   show wpK Tryz.prog opts0 40 _ _ (fdV1 (.ofNat i) (.ofNat l.length) most (L.map atA) (l.map obA) (r.length+1) (flO (x::r))).st _
   unfold obA at hi2 hp
   unfold obC at hx fo hi2 hp⊢
   rw[fd_11,hw]
   exact mtT yes ⟨hx,oblB_of fo ⟨hi2,hp,⟨⟨⟨rfl,hL⟩,⟨rfl,rfl⟩,⟨rfl,hO⟩,⟨rfl,rfl⟩,⟨rfl,rfl⟩,trivial⟩,⟨⟨rfl,rfl⟩,trivial⟩,⟨⟨rfl,rfl,rfl,rfl,rfl⟩,trivial⟩,⟨rfl,closed_flO _⟩,trivial⟩,hn⟩⟩
theorem fd_run (hb:l.length≤80000) (his:∀o∈l,SC 52 [obA o,.fsl false (L.map atA)] (.bool (isB o L))) (hq:Q (.exit 0) (fdW (.ofNat l.length) (.ofNat l.length) most (L.map atA) (l.map obA) (hpS L l)).st):∀m i:Nat,i+m=l.length→ALp Tryz.prog opts0.glob 0 (lpCode Tryz.prog 53 4) (fdW (.ofNat i) (.ofNat l.length) most (L.map atA) (l.map obA) (hpS L (l.take i))).st Q
 |0,i,hi=>by
  rw[Nat.add_zero] at hi
  subst hi
  rw[List.take_of_length_le (Nat.le_refl _)]
  exact fd_stop rfl _ hq
 |m+1,i,hi=>by
  have hlt:i<l.length:=by omega
  have g:=List.getElem?_eq_getElem hlt
  have ih:=fd_run hb his hq m (i+1) (by omega)
  rw[take_snoc g,hpS_snoc'] at ih
  have h1:=hpS_len L (l.take i)
  rw[List.length_take] at h1
  exact fd_step hb g (his _ (List.getElem_mem hlt)) _ (by omega) ih
end
structure FS where
 live:List Ob
 junk:List Ob
 out:List (List UInt8)
def stepS (s:FS):FS:=match (popL ltO s.live)[s.live.length-1]? with
 |none=>s
 |some x=>⟨(popL ltO s.live).take (s.live.length-1),x::s.junk,s.out++[x.id]⟩
def goS (most:Int) (s:FS):Bool:=ltInt most 0||ltInt (.ofNat s.out.length) most
def runS (most:Int):Nat→FS→FS
 |0,s=>s
 |f+1,s=>match goS most s with
  |true=>runS most f (stepS s)
  |false=>s
noncomputable def fdZ (most:Int) (s:FS):View:=match s.out with
 |[]=>fdY0 most s.live.length (flO (s.live++s.junk))
 |_::_=>fdY1 most s.live.length (flO (s.live++s.junk)) s.out.length (s.out.map .str)
section
variable {most:Int} {Q:AExit→St→Prop}
theorem fo_stop {s:FS} (hs:s.out≠[]∨s.live≠[]) (h:s.live=[]∨goS most s=false) (hq:Q (.exit 2) (fdZ most s).st):ALp Tryz.prog opts0.glob 0 (lpCode Tryz.prog 53 10) (fdZ most s).st Q:=by
 obtain ⟨p,t,out⟩:=s
 have hc:=closed_flO (p++t)
 have hs2:=closed_strs out
 cases p with
 | nil=>
  cases out with
  |nil=>rcases hs with h|h<;>exact absurd rfl h
  |cons a r=>
   have hq:Q (.exit 2) (fdY1 most 0 (flO ([]++t)) (a::r).length ((a::r).map .str)).st:=hq
   refine ALp.round (A:=foA 0 [] []) (V1:=fdY1 most 0 (flO ([]++t)) (a::r).length ((a::r).map .str)) (V2:=fdY1 most 0 (flO ([]++t)) (a::r).length ((a::r).map .str)) (F:=fdY1 most 0 (flO ([]++t)) (a::r).length ((a::r).map .str)) (lk:=[(0,0),(1,1),(2,2)]) (lk':=[(0,0),(1,1),(2,2)]) base0 aidJ_ok (LsOk.no rfl) .refl ?_
   show wpK Tryz.prog opts0 40 _ _ (fdY1 most 0 (flO ([]++t)) (a::r).length ((a::r).map .str)).st _
   rw[fo_1e]
   exact ⟨⟨⟨⟨rfl,rfl⟩,trivial⟩,⟨⟨rfl,rfl⟩,⟨rfl,rfl,rfl,rfl,rfl⟩,trivial⟩,⟨⟨rfl,rfl,rfl,rfl,rfl⟩,trivial⟩,⟨rfl,hc⟩,⟨rfl,hs2⟩,trivial⟩,hq⟩
 | cons x q=>
  have hg:goS most ⟨x::q,t,out⟩=false:=by
   rcases h with h|h
   ·cases h
   ·exact h
  simp only[goS,Bool.or_eq_false_iff] at hg
  cases out with
  |nil=>
   have hq:Q (.exit 2) (fdY0 most (q.length+1) (flO ((x::q)++t))).st:=hq
   refine ALp.round (A:=foA q.length [] (obF zO .nilsl .nilsl .nilsl .nilsl)) (V1:=fdY1 most q.length [] 1 []) (V2:=fdY1 most q.length [] 1 []) (F:=fdY0 most (q.length+1) (flO ((x::q)++t))) (lk:=[(0,0),(1,1),(2,25)]) (lk':=[(0,0),(1,1)]) base0 aidJ_ok (LsOk.no rfl) .refl ?_
   show wpK Tryz.prog opts0 40 _ _ (fdY0 most (q.length+1) (flO ((x::q)++t))).st _
   rw[fo_01]
   exact mtF hg.1 (mtF hg.2 ⟨⟨⟨⟨rfl,rfl⟩,⟨rfl,rfl⟩,trivial⟩,⟨⟨rfl,rfl⟩,trivial⟩,⟨⟨rfl,rfl,rfl,rfl,rfl⟩,trivial⟩,⟨rfl,hc⟩,trivial⟩,hq⟩)
  |cons a r=>
   have hq:Q (.exit 2) (fdY1 most (q.length+1) (flO ((x::q)++t)) (a::r).length ((a::r).map .str)).st:=hq
   refine ALp.round (A:=foA q.length [] (obF zO .nilsl .nilsl .nilsl .nilsl)) (V1:=fdY1 most q.length [] ((a::r).length+1) []) (V2:=fdY1 most q.length [] ((a::r).length+1) []) (F:=fdY1 most (q.length+1) (flO ((x::q)++t)) (a::r).length ((a::r).map .str)) (lk:=[(0,0),(1,1),(2,26)]) (lk':=[(0,0),(1,1),(2,2)]) base0 aidJ_ok (LsOk.no rfl) .refl ?_
   show wpK Tryz.prog opts0 40 _ _ (fdY1 most (q.length+1) (flO ((x::q)++t)) (a::r).length ((a::r).map .str)).st _
   rw[fo_11]
   exact mtF hg.1 (mtF hg.2 ⟨⟨⟨⟨rfl,rfl⟩,trivial⟩,⟨⟨rfl,rfl⟩,⟨rfl,rfl,rfl,rfl,rfl⟩,trivial⟩,⟨⟨rfl,rfl,rfl,rfl,rfl⟩,trivial⟩,⟨rfl,hc⟩,⟨rfl,hs2⟩,trivial⟩,hq⟩)
theorem fo_step {s:FS} (hb:s.live.length+s.out.length≤80000) (hp:Hp ltO s.live s.live.length) (h0:s.live≠[]) (hg:goS most s=true) (hn:ALp Tryz.prog opts0.glob 0 (lpCode Tryz.prog 53 10) (fdZ most (stepS s)).st Q):ALp Tryz.prog opts0.glob 0 (lpCode Tryz.prog 53 10) (fdZ most s).st Q:=by
 obtain ⟨p,t,out⟩:=s
 have hlen:0<p.length:=by
  cases p with
  |nil=>exact absurd rfl h0
  |cons _ _=>simp
 obtain ⟨x,r,h1,h2,h3,_,_,_,h7⟩:=pop_ex ordO hp hlen
 obtain ⟨n,hnl⟩:∃n,p.length=n+1:=⟨p.length-1,by omega⟩
 simp only at hb
 have hst:stepS ⟨p,t,out⟩=⟨r,x::t,out++[x.id]⟩:=by
  unfold stepS
  simp only[h1,h2]
 rw[hst] at hn
 have hrl:r.length=n:=by simp only at h7;omega
 have hn:ALp Tryz.prog opts0.glob 0 (lpCode Tryz.prog 53 10) (fdY1 most n (flO (popL ltO p++t)) (out.length+1) ((out++[x.id]).map .str)).st Q:=by
  have e:fdZ most ⟨r,x::t,out++[x.id]⟩=fdY1 most n (flO (popL ltO p++t)) (out.length+1) ((out++[x.id]).map .str):=by
   have e1:flO (popL ltO p++t)=flO (r++x::t):=by rw[h3,List.append_assoc];rfl
   have e2:(out++[x.id]).length=out.length+1:=by simp
   rw[e1]
   unfold fdZ
   cases out with
   |nil=>simp only[List.nil_append,hrl];rfl
   |cons a q=>simp only[List.cons_append,hrl] at e2⊢;rw[e2]
  rw[e] at hn
  exact hn
 simp only at h1
 have hx:(popL ltO p)[n]? =some x:=by rw[show n=p.length-1 by omega];exact h1
 have hcc:=closed_flO (popL ltO p++t)
 have hso:=closed_strs (out++[x.id])
 have hpo:=hpop (own:=true) (t:=t) hnl (by omega) hx
 cases out with
 | nil=>
  have b:=fun m m' (hm:m≤m')=>ren2 (Z:=0) (K:=1) (m:=m) (m':=m') (args2:=[hpI]) (H2:=[(1,some (.cells (flO (p++t)))),(0,some (.cells [.rsl true 1 0 (n+1) 37]))]) (v2:= .iface 33 (obA x)) (c2:=[.rsl true 1 0 (n+1) 37]) (c2':=[.rsl true 1 0 n 37]) hpo (by decide) rfl rfl ⟨.iface _ (.ptr _ _ _ rfl),trivial⟩ ⟨.rsl _ _ _ _ _ _ rfl,trivial⟩ ⟨.rsl _ _ _ _ _ _ rfl,trivial⟩ (.same _ (clO x)) (closed_flO _) (closed_flO _) hm
  refine ALp.round (A:=foA n (flO (popL ltO p++t)) (obC x)) (V1:=fdY1 most n (flO (popL ltO p++t)) 1 [.str x.id]) (V2:=fdY1 most n (flO (popL ltO p++t)) 1 [.str x.id]) (F:=fdY0 most (n+1) (flO (p++t))) (lk:=[(0,0),(1,1),(2,25)]) (lk':=[(0,0),(1,1)]) base0 aidJ_ok (LsOk.no rfl) .refl ?_
  show wpK Tryz.prog opts0 40 _ _ (fdY0 most p.length (flO (p++t))).st _
  rw[hnl]
  unfold obA at b
  unfold obC at b⊢
  rw[fo_01]
  simp only[goS,Bool.or_eq_true] at hg
  refine mtB_of (fun _=> ?_) (fun e=>mtB_of (fun _=> ?_) (fun e2=> ?_))
  ·exact ⟨b _ _ (by omega),⟨⟨⟨rfl,rfl⟩,trivial⟩,⟨⟨rfl,rfl⟩,⟨rfl,rfl,rfl,rfl,rfl⟩,trivial⟩,⟨⟨rfl,rfl,rfl,rfl,rfl⟩,trivial⟩,⟨rfl,hcc⟩,⟨rfl,rfl⟩,trivial⟩,hn⟩
  ·exact ⟨b _ _ (by omega),⟨⟨⟨rfl,rfl⟩,trivial⟩,⟨⟨rfl,rfl⟩,⟨rfl,rfl,rfl,rfl,rfl⟩,trivial⟩,⟨⟨rfl,rfl,rfl,rfl,rfl⟩,trivial⟩,⟨rfl,hcc⟩,⟨rfl,rfl⟩,trivial⟩,hn⟩
  ·rcases hg with h|h
   ·rw[e] at h;cases h
   ·rw[show ltInt (Int.ofNat ([]:List (List UInt8)).length) most=ltInt 0 most from rfl,e2] at h;cases h
 | cons a q=>
  simp only[List.length_cons] at hb
  have b:=fun m m' (hm:m≤m')=>ren2 (Z:=0) (K:=1) (m:=m) (m':=m') (args2:=[hpI]) (H2:=[(1,some (.cells (flO (p++t)))),(0,some (.cells [.rsl true 1 0 (n+1) 37]))]) (v2:= .iface 33 (obA x)) (c2:=[.rsl true 1 0 (n+1) 37]) (c2':=[.rsl true 1 0 n 37]) hpo (by decide) rfl rfl ⟨.iface _ (.ptr _ _ _ rfl),trivial⟩ ⟨.rsl _ _ _ _ _ _ rfl,trivial⟩ ⟨.rsl _ _ _ _ _ _ rfl,trivial⟩ (.same _ (clO x)) (closed_flO _) (closed_flO _) hm
  have os1:(((a::q).map AV.str)++[AV.str x.id])=((a::q)++[x.id]).map .str:=by simp
  have c1:(Nat.ble (((a::q).length+1)*16) 140737488355328)=true:=ble_of (by simp only[List.length_cons];omega)
  have c2:Nat.beq (lenN ((a::q).map AV.str)) ((a::q).length*1)=true:=by rw[beq_iff,lenN_eq,List.length_map,Nat.mul_one]
  refine ALp.round (A:=foA n (flO (popL ltO p++t)) (obC x)) (V1:=fdY1 most n (flO (popL ltO p++t)) ((a::q).length+1) (((a::q)++[x.id]).map .str)) (V2:=fdY1 most n (flO (popL ltO p++t)) ((a::q).length+1) (((a::q)++[x.id]).map .str)) (F:=fdY1 most (n+1) (flO (p++t)) (a::q).length ((a::q).map .str)) (lk:=[(0,0),(1,1),(2,26)]) (lk':=[(0,0),(1,1),(2,2)]) base0 aidJ_ok (LsOk.no rfl) .refl ?_
  show wpK Tryz.prog opts0 40 _ _ (fdY1 most p.length (flO (p++t)) (a::q).length ((a::q).map .str)).st _
  rw[hnl]
  unfold obA at b
  unfold obC at b⊢
  rw[fo_11]
  simp only[goS,Bool.or_eq_true] at hg
  refine mtB_of (fun _=> ?_) (fun e=>mtB_of (fun _=> ?_) (fun e2=> ?_))
  ·exact ⟨b _ _ (by omega),oblB_of (and3 rfl c1 rfl) (oblB_of c2 ⟨⟨⟨⟨rfl,rfl⟩,trivial⟩,⟨⟨rfl,rfl⟩,⟨rfl,rfl,rfl,rfl,rfl⟩,trivial⟩,⟨⟨rfl,rfl,rfl,rfl,rfl⟩,trivial⟩,⟨rfl,hcc⟩,⟨os1,hso⟩,trivial⟩,hn⟩)⟩
  ·exact ⟨b _ _ (by omega),oblB_of (and3 rfl c1 rfl) (oblB_of c2 ⟨⟨⟨⟨rfl,rfl⟩,trivial⟩,⟨⟨rfl,rfl⟩,⟨rfl,rfl,rfl,rfl,rfl⟩,trivial⟩,⟨⟨rfl,rfl,rfl,rfl,rfl⟩,trivial⟩,⟨rfl,hcc⟩,⟨os1,hso⟩,trivial⟩,hn⟩)⟩
  ·rcases hg with h|h
   ·rw[e] at h;cases h
   ·rw[e2] at h;cases h
theorem step_ok {s:FS} (hp:Hp ltO s.live s.live.length) (h0:s.live≠[]):∃x r,stepS s=⟨r,x::s.junk,s.out++[x.id]⟩∧Hp ltO r r.length∧r.length+1=s.live.length:=by
 have hlen:0<s.live.length:=by
  cases h:s.live with
  |nil=>exact absurd h h0
  |cons _ _=>simp
 obtain ⟨x,r,h1,h2,h3,_,h5,_,h7⟩:=pop_ex ordO hp hlen
 exact ⟨x,r,by unfold stepS;simp only[h1,h2],h5,by omega⟩
theorem fo_run:∀ (f:Nat) (s:FS),s.live.length=f→s.live.length+s.out.length≤80000→Hp ltO s.live s.live.length→(s.out≠[]∨s.live≠[])→Q (.exit 2) (fdZ most (runS most f s)).st→ALp Tryz.prog opts0.glob 0 (lpCode Tryz.prog 53 10) (fdZ most s).st Q
 |0,s,hf,_,_,hs,hq=>fo_stop hs (.inl (List.length_eq_zero_iff.1 hf)) hq
 | f+1,s,hf,hb,hp,hs,hq=>by
  have h0:s.live≠[]:=fun h=>by rw[h] at hf;cases hf
  rw[runS] at hq
  cases hg:goS most s with
  |false=>
   rw[hg] at hq
   exact fo_stop hs (.inr hg) hq
  |true=>
   rw[hg] at hq
   obtain ⟨x,r,e,h5,h6⟩:=step_ok hp h0
   refine fo_step hb hp h0 hg (fo_run f (stepS s) ?_ ?_ ?_ ?_ hq)
   ·rw[e];simp only;omega
   ·rw[e];simp only[List.length_append,List.length_singleton];omega
   ·rw[e];exact h5
   ·rw[e];exact .inl (by simp)
end
theorem fo_at:loopsAt (fnCode Tryz.prog 53) 10=[lpCode Tryz.prog 53 10]:=by kernel_rfl
theorem fd_at:loopsAt (fnCode Tryz.prog 53) 4=[lpCode Tryz.prog 53 4]:=by kernel_rfl
def findS (most:Int) (L:List At) (l:List Ob):List (List UInt8):=(runS most (hpS L l).length ⟨hpS L l,[],[]⟩).out
theorem good_strF (s:List UInt8):goodEl 1 (.str s):=⟨rfl,rfl⟩
theorem find_sem' {L:List At} {l:List Ob} (hb:l.length≤80000) (his:∀o∈l,SC 52 [obA o,.fsl false (L.map atA)] (.bool (isB o L))) (most:Int):SC 53 [.fsl false (l.map obA),.fsl false (L.map atA),I most] (.fsl false ((findS most L l).map .str)):=by
 have hL:=closed_ats L
 have hO:=closed_obs l
 have hcl:closedAll [.fsl false (l.map obA),.fsl false (L.map atA),I most]=true:=by simp only[closedAll,closedA,hL,hO,Bool.and_self]
 have hlen:lenN (l.map obA)=l.length:=by rw[lenN_eq,List.length_map]
 have hrun:=fun (Q:AExit→St→Prop) hq=>fd_run (L:=L) (most:=most) (Q:=Q) hb his hq l.length 0 (Nat.zero_add _)
 have hok:=(hpS_ok L l).1
 have hln:=hpS_len L l
 rw[List.take_zero] at hrun
 unfold findS
 generalize hpS L l=h at hrun hok hln⊢
 cases h with
 | nil=>
  refine fnK_semX (A:=aidJ [] [(4,fdL0 (.ofNat (lenN (l.map obA))) most (L.map atA) (l.map obA)),(10,foL [(0,0)] (fdX0 most) (fdX0 most))] noSem [] []) base0 aidJ_ok
   (fnLs_of (LsOk.at2 rfl fd_at fo_at (fun st Q hs=> .seen base0.glob hs.1 (by
    have h2:=hs.2
    rw[hlen] at h2⊢
    exact hrun Q h2)) (fun st Q hs=> .seen base0.glob hs.1 (by
    refine ALp.round (A:=foA 0 [] []) (V1:=fdX0 most) (V2:=fdX0 most) (F:=fdX0 most) (lk:=[(0,0)]) (lk':=[(0,0)]) base0 aidJ_ok (LsOk.no rfl) .refl ?_
    rw[fo_x]
    exact ⟨⟨⟨⟨rfl,rfl⟩,⟨rfl,rfl⟩,trivial⟩,⟨⟨rfl,rfl⟩,trivial⟩,⟨rfl,rfl⟩,trivial⟩,hs.2⟩)))) hcl ?_
  rw[fd_fnx]
  exact ⟨⟨⟨⟨rfl,hL⟩,⟨rfl,rfl⟩,⟨rfl,hO⟩,⟨rfl,rfl⟩,⟨rfl,rfl⟩,trivial⟩,⟨⟨rfl,rfl⟩,trivial⟩,⟨rfl,rfl⟩,trivial⟩,⟨⟨⟨rfl,rfl⟩,⟨rfl,rfl⟩,trivial⟩,⟨⟨rfl,rfl⟩,trivial⟩,⟨rfl,rfl⟩,trivial⟩,⟨.nilsl,(Frz.closed _ rfl).out,rfl,.nil⟩⟩
 | cons x r=>
  have hc:=closed_flO (x::r)
  have hfo:=fun (Q:AExit→St→Prop)=>fo_run (most:=most) (Q:=Q) (x::r).length ⟨x::r,[],[]⟩ rfl (by simp only[List.length_nil,Nat.add_zero];omega) hok (.inr (by simp))
  generalize runS most (x::r).length ⟨x::r,[],[]⟩=s at hfo⊢
  obtain ⟨p,t,out⟩:=s
  have e0:fdZ most ⟨x::r,[],[]⟩=fdY0 most (r.length+1) (flO (x::r)):=by unfold fdZ;simp only[List.append_nil];rfl
  rw[e0] at hfo
  have L1:∀ (st:St) (Q:AExit→St→Prop),fdL1 (.ofNat (lenN (l.map obA))) most (L.map atA) (l.map obA) (r.length+1) (flO (x::r)) st Q→AWp Tryz.prog opts0.glob 0 (.loop (lpCode Tryz.prog 53 4)) st Q:=fun st Q hs=> .seen base0.glob hs.1 (by
    have h2:=hs.2
    rw[hlen] at h2⊢
    exact hrun Q h2)
  cases out with
  | nil=>
   refine fnK_semX (A:=aidJ [] [(4,fdL1 (.ofNat (lenN (l.map obA))) most (L.map atA) (l.map obA) (r.length+1) (flO (x::r))),(10,foL [(0,0),(1,1)] (fdY0 most (r.length+1) (flO (x::r))) (fdY0 most p.length (flO (p++t))))] noSem [] []) base0 aidJ_ok
    (fnLs_of (LsOk.at2 rfl fd_at fo_at L1 (fun st Q hs=> .seen base0.glob hs.1 (hfo Q hs.2)))) hcl ?_
   rw[fd_fn0]
   exact ⟨⟨⟨⟨rfl,hL⟩,⟨rfl,rfl⟩,⟨rfl,hO⟩,⟨rfl,rfl⟩,⟨rfl,rfl⟩,trivial⟩,⟨⟨rfl,rfl⟩,trivial⟩,⟨rfl,rfl⟩,trivial⟩,⟨⟨⟨rfl,rfl⟩,⟨rfl,rfl⟩,trivial⟩,⟨⟨rfl,rfl⟩,trivial⟩,⟨⟨rfl,rfl,rfl,rfl,rfl⟩,trivial⟩,⟨rfl,hc⟩,trivial⟩,⟨.nilsl,(Frz.closed _ rfl).out,rfl,.nil⟩⟩
  | cons a q=>
   have hso:=closed_strs (a::q)
   refine fnK_semX (A:=aidJ [] [(4,fdL1 (.ofNat (lenN (l.map obA))) most (L.map atA) (l.map obA) (r.length+1) (flO (x::r))),(10,foL [(0,0),(1,1)] (fdY0 most (r.length+1) (flO (x::r))) (fdY1 most p.length (flO (p++t)) (a::q).length ((a::q).map .str)))] noSem [] []) base0 aidJ_ok
    (fnLs_of (LsOk.at2 rfl fd_at fo_at L1 (fun st Q hs=> .seen base0.glob hs.1 (hfo Q hs.2)))) hcl ?_
   rw[fd_fn1]
   exact ⟨⟨⟨⟨rfl,hL⟩,⟨rfl,rfl⟩,⟨rfl,hO⟩,⟨rfl,rfl⟩,⟨rfl,rfl⟩,trivial⟩,⟨⟨rfl,rfl⟩,trivial⟩,⟨rfl,rfl⟩,trivial⟩,⟨⟨⟨rfl,rfl⟩,⟨rfl,rfl⟩,trivial⟩,⟨⟨rfl,rfl⟩,trivial⟩,⟨⟨rfl,rfl,rfl,rfl,rfl⟩,trivial⟩,⟨rfl,hc⟩,trivial⟩,⟨.fsl false ((a::q).map .str),(Frz.row rfl rfl (flat_strs _).symm (by rw[List.length_map]) (fun e he=>by obtain ⟨a,_,rfl⟩:=List.mem_map.1 he;exact good_strF a) hso).out,hso,.refl _⟩⟩
theorem pick_len (n:Int) {N:Nat} (hN:N≤9223372036854775807):∃k,k≤N∧SC 23 [I n,I (wrapA .i64 (Int.ofNat N+1))] (I (.ofNat k)):=by
 have run:∀ (m r:Int),beqInt m 0=false→(ltInt (n.tmod m) 0=true→wrapA .i64 (n.tmod m+m)=r)→(ltInt (n.tmod m) 0=false→n.tmod m=r)→SC 23 [I n,I m] (I r):=fun m r h0 h1 h2=>by
  refine fnK_sem (A:=aid0) base0 aidOk0 (fnLs_of (LsOk.no rfl)) rfl ?_
  rw[pick_fn]
  refine oblB_of (by rw[h0];rfl) (mtB_of (fun h=> ?_) (fun h=> ?_))
  ·exact fin_int (by rw[h1 h])
  ·exact fin_int (by rw[h2 h])
 by_cases hb:N=9223372036854775807
 ·subst hb
  have hm:wrapA .i64 (Int.ofNat 9223372036854775807+1)= -9223372036854775808:=by kernel_rfl
  rw[hm]
  have e:n.tmod (-9223372036854775808)=n.tmod 9223372036854775808:=Int.tmod_neg n _
  have h1:=Int.tmod_lt_of_pos n (b:=9223372036854775808) (by omega)
  have h2:=Int.lt_tmod_of_pos n (b:=9223372036854775808) (by omega)
  rw[←e] at h1 h2
  by_cases h:n.tmod (-9223372036854775808)<0
  ·refine ⟨(n.tmod (-9223372036854775808)+9223372036854775808).toNat,by omega,run _ _ rfl (fun _=> ?_) (fun h3=>absurd (ltInt_false.1 h3) (by omega))⟩
   generalize n.tmod (-9223372036854775808)=x at h h1 h2
   rw[wrapA_eq]
   simp only[IntKind.wrap,IntKind.signed,IntKind.bits,Int.ofNat_eq_natCast]
   simp
   omega
  ·refine ⟨(n.tmod (-9223372036854775808)).toNat,by omega,run _ _ rfl (fun h3=>absurd (ltInt_iff.1 h3) h) (fun _=> ?_)⟩
   simp only[Int.ofNat_eq_natCast]
   omega
 ·have hm:wrapA .i64 (Int.ofNat N+1)=(N:Int)+1:=by
   rw[wrapA_i64 (by simp only[Int.ofNat_eq_natCast];omega) (by simp only[Int.ofNat_eq_natCast];omega)]
   rfl
  rw[hm]
  have h1:=Int.tmod_lt_of_pos n (b:=(N:Int)+1) (by omega)
  have h2:=Int.lt_tmod_of_pos n (b:=(N:Int)+1) (by omega)
  have h0:beqInt ((N:Int)+1) 0=false:=beqInt_false.2 (by omega)
  by_cases h:n.tmod ((N:Int)+1)<0
  ·refine ⟨(n.tmod ((N:Int)+1)+((N:Int)+1)).toNat,by omega,run _ _ h0 (fun _=> ?_) (fun h3=>absurd (ltInt_false.1 h3) (by omega))⟩
   rw[wrapA_i64 (by omega) (by omega)]
   simp only[Int.ofNat_eq_natCast]
   omega
  ·refine ⟨(n.tmod ((N:Int)+1)).toNat,by omega,run _ _ h0 (fun h3=>absurd (ltInt_iff.1 h3) h) (fun _=> ?_)⟩
   simp only[Int.ofNat_eq_natCast]
   omega
theorem sl_takeL {t e:TypeId} {sz j:Nat} {R:List AV} (h1:elemOfA Tryz.prog t=some e) (h2:sizeA Tryz.prog e=some sz) (hh:headSize sz R=true) (hj:j≤R.length):sliceA Tryz.prog t (.fsl false R) none (some (I (.ofNat j))) none=some (.val (.fsl false (R.take j))):=by
 have h:sliceS Tryz.prog t (.fsl false R) none (some (I (.ofNat j))) none=some (.obl (true&&(true&&(headSize sz R&&(Nat.ble 0 j&&Nat.ble j (lenN R))))) (.val (.fsl false ((R.drop 0).take (j-0))))):=by
  unfold sliceS
  simp only[optS,natS,h1,h2]
  rfl
 have:=sliceS_ok h
 simp only[ES.ok] at this
 have:=this (by rw[hh,lenN_eq];simp[hj])
 simpa using this
theorem head_rwL:∀l:List Rw,headSize 4 (l.map rwA)=true
 |[]=>rfl
 |_::_=>rfl
def chI (i:Nat):List UInt8:=[UInt8.ofNat (97+i)]
def chS (i:Nat):List UInt8:=[107]++chI i
theorem conv_ch:∀i,i<12→convA Tryz.prog 23 9 (.fsl true [.int .u8 (wrapA .u8 (wrapA .i64 (97+Int.ofNat i)))])=some (.val (.str (chI i)))
 |0,_=>by kernel_rfl
 |1,_=>by kernel_rfl
 |2,_=>by kernel_rfl
 |3,_=>by kernel_rfl
 |4,_=>by kernel_rfl
 |5,_=>by kernel_rfl
 |6,_=>by kernel_rfl
 |7,_=>by kernel_rfl
 |8,_=>by kernel_rfl
 |9,_=>by kernel_rfl
 |10,_=>by kernel_rfl
 |11,_=>by kernel_rfl
 |n+12,h=>absurd h (by omega)
structure OxL (o:Ob):Prop where
 h:OkH o
 c:∀x∈o.cust,x.name∈cnL
theorem oxl_of {o:Ob} (h:OxF o) {s:List UInt8} (hs:s.length≤8):OxL {o with id:=s}:=by
 have ok:=okay_of h
 refine ⟨⟨⟨ok.fit.n,ok.fit.l,ok.fit.c,ok.fit.m⟩,fun k=> ?_⟩,fun x hx=>(h.i.c3 x hx).1⟩
 have hg:=ok.g k
 cases k with
 | uid=>exact ⟨by simp[getK],fun x hx=>by
   simp only[getK,List.mem_singleton] at hx;subst hx;exact ok_txt hs⟩
 |_=>exact ⟨hg.n,hg.i⟩
noncomputable def lsW (i:Int) (Ls Ps:List AV):List Ob→View
 |[]=>lsV0 i Ls Ps
 |x::r=>lsV1 i Ls Ps (r.length+1) (flO (x::r))
theorem oneC (o:Ob):allOne (flat [.agg (obC o)])=true:=by rw[show flat [.agg (obC o)]=obC o from List.append_nil _];exact one_obC o
section
variable {l ps:List Rw}
theorem ls_step (hps:ps.length≤9223372036854775807) {i:Nat} {y:Rw} (hy:l[i]? =some y) (hi:i<12) (os:List Ob) (hos:os.length=i):∃o,OxL o∧o.id=chS i∧∀Q:AExit→St→Prop,ALp Tryz.prog opts0.glob 0 (lpCode Tryz.prog 50 4) (lsW (.ofNat (i+1)) (l.map rwA) (ps.map rwA) (os++[o])).st Q→ALp Tryz.prog opts0.glob 0 (lpCode Tryz.prog 50 4) (lsW (.ofNat i) (l.map rwA) (ps.map rwA) os).st Q:=by
 obtain ⟨k,hk,hpk⟩:=pick_len y.a hps
 obtain ⟨o,hox,hob⟩:=object_sem y (ps.take k)
 have hR:=closed_rws l
 have hP:=closed_rws ps
 have hl:i<(l.map rwA).length:=by
  obtain ⟨h1,_⟩:=List.getElem?_eq_some_iff.1 hy
  simpa using h1
 have yes:ltInt (Int.ofNat i) (Int.ofNat (lenN (l.map rwA)))=true:=ltInt_iff.2 (by rw[lenN_eq];simp only[Int.ofNat_eq_natCast];omega)
 have y12:ltInt (Int.ofNat i) 12=true:=ltInt_iff.2 (by simp only[Int.ofNat_eq_natCast];omega)
 have gx:indexAddrA Tryz.prog 22 (.fsl false (l.map rwA)) (I (.ofNat i))=some (.fptr (rwC y) 0):=fsl_index (v:=rwA y) (e:=42) (sz:=4) (by kernel_rfl) (by kernel_rfl) (by rw[List.getElem?_map,hy];rfl) rfl
 have hw:wrapA .i64 (Int.ofNat i+1)=Int.ofNat (i+1):=wrapA_i64 (by simp;omega) (by simp;omega)
 have hsl:=sl_takeL (t:=22) (e:=42) (sz:=4) (R:=ps.map rwA) (j:=k) (by kernel_rfl) (by kernel_rfl) (head_rwL ps) (by rw[List.length_map];exact hk)
 rw[←List.map_take] at hsl
 have hpl:lenN (ps.map rwA)=ps.length:=by rw[lenN_eq,List.length_map]
 have hcv:=conv_ch i hi
 have fo:=fits_obh o
 refine ⟨{o with id:=chS i},oxl_of hox (by simp[chS,chI]),rfl,fun Q hq=> ?_⟩
 have hc2:=closed_flO (os++[{o with id:=chS i}])
 have h1:=oneC {o with id:=chS i}
 cases os with
 |nil=>
  have hq:ALp Tryz.prog opts0.glob 0 (lpCode Tryz.prog 50 4) (lsV1 (.ofNat (i+1)) (l.map rwA) (ps.map rwA) 1 (flO [{o with id:=chS i}])).st Q:=hq
  refine ALp.round (A:=lsA y (.ofNat k) ((ps.take k).map rwA) (obC o) (chI i)) (V1:=lsV1 (.ofNat (i+1)) (l.map rwA) (ps.map rwA) 1 (flO [{o with id:=chS i}])) (V2:=lsV1 (.ofNat (i+1)) (l.map rwA) (ps.map rwA) 1 (flO [{o with id:=chS i}])) (F:=lsV0 (.ofNat i) (l.map rwA) (ps.map rwA)) (lk:=[(0,39)]) (lk':=[]) base0 aidJ_ok (LsOk.no rfl) .refl ?_
  show wpK Tryz.prog opts0 40 _ _ (lsV0 (.ofNat i) (l.map rwA) (ps.map rwA)).st _
  unfold obA at hob
  unfold obC at hob fo⊢
  rw[ls_0,hw,hpl]
  exact mtB_of (fun _=>mtT y12 ⟨gx,hpk,gx,hsl,hob,oblB_of fo ⟨hcv,oblB_of rfl ⟨⟨⟨⟨rfl,hR⟩,⟨rfl,hP⟩,⟨rfl,rfl⟩,trivial⟩,⟨⟨rfl,rfl,rfl,rfl,rfl⟩,trivial⟩,⟨rfl,hc2⟩,trivial⟩,hq⟩⟩⟩) (fun e=>by rw[yes] at e;cases e)
 |cons x r=>
  simp only[List.length_cons] at hos
  have hq:ALp Tryz.prog opts0.glob 0 (lpCode Tryz.prog 50 4) (lsV1 (.ofNat (i+1)) (l.map rwA) (ps.map rwA) ((r++[{o with id:=chS i}]).length+1) (flO ((x::r)++[{o with id:=chS i}]))).st Q:=hq
  rw[List.length_append,List.length_singleton] at hq
  have h2:Nat.ble ((r.length+1+1)*376) 140737488355328=true:=ble_of (by omega)
  have h3:Nat.beq (lenN (flO (x::r))) ((r.length+1)*37)=true:=by rw[beq_iff,lenN_eq,flO_len];rfl
  have e1:flO (x::r)++obC {o with id:=chS i}=flO ((x::r)++[{o with id:=chS i}]):=fp_cells _ _
  have e2:flat [.agg (obC {o with id:=chS i})]=obC {o with id:=chS i}:=List.append_nil _
  rw[←e2] at e1
  refine ALp.round (A:=lsA y (.ofNat k) ((ps.take k).map rwA) (obC o) (chI i)) (V1:=lsV1 (.ofNat (i+1)) (l.map rwA) (ps.map rwA) (r.length+1+1) (flO ((x::r)++[{o with id:=chS i}]))) (V2:=lsV1 (.ofNat (i+1)) (l.map rwA) (ps.map rwA) (r.length+1+1) (flO ((x::r)++[{o with id:=chS i}]))) (F:=lsV1 (.ofNat i) (l.map rwA) (ps.map rwA) (r.length+1) (flO (x::r))) (lk:=[(0,40)]) (lk':=[(0,0)]) base0 aidJ_ok (LsOk.no rfl) .refl ?_
  show wpK Tryz.prog opts0 40 _ _ (lsV1 (.ofNat i) (l.map rwA) (ps.map rwA) (r.length+1) (flO (x::r))).st _
  unfold obA at hob
  unfold obC at hob fo h1 e1⊢
  rw[ls_1,hw,hpl]
  exact mtB_of (fun _=>mtT y12 ⟨gx,hpk,gx,hsl,hob,oblB_of fo ⟨hcv,oblB_of rfl (oblB_of (and3 rfl h2 h1) (oblB_of h3 ⟨⟨⟨⟨rfl,hR⟩,⟨rfl,hP⟩,⟨rfl,rfl⟩,trivial⟩,⟨⟨rfl,rfl,rfl,rfl,rfl⟩,trivial⟩,⟨e1,hc2⟩,trivial⟩,hq⟩))⟩⟩) (fun e=>by rw[yes] at e;cases e)
theorem ls_stop {i:Nat} (hi:i=min l.length 12) (os:List Ob) {Q:AExit→St→Prop} (hq:Q (.exit 0) (lsW (.ofNat i) (l.map rwA) (ps.map rwA) os).st):ALp Tryz.prog opts0.glob 0 (lpCode Tryz.prog 50 4) (lsW (.ofNat i) (l.map rwA) (ps.map rwA) os).st Q:=by
 have hR:=closed_rws l
 have hP:=closed_rws ps
 have hlen:lenN (l.map rwA)=l.length:=by rw[lenN_eq,List.length_map]
 have no:ltInt (Int.ofNat i) (Int.ofNat l.length)=true→ltInt (Int.ofNat i) 12=true→False:=fun e e2=>by
  have e:=ltInt_iff.1 e
  have e2:=ltInt_iff.1 e2
  simp only[Int.ofNat_eq_natCast] at e e2
  omega
 cases os with
 |nil=>
  refine ALp.round (A:=lsA ⟨0,0,0,0⟩ 0 [] (obF zO .nilsl .nilsl .nilsl .nilsl) []) (V1:=lsV1 0 (l.map rwA) (ps.map rwA) 1 []) (V2:=lsV1 0 (l.map rwA) (ps.map rwA) 1 []) (F:=lsV0 (.ofNat i) (l.map rwA) (ps.map rwA)) (lk:=[(0,39)]) (lk':=[]) base0 aidJ_ok (LsOk.no rfl) .refl ?_
  show wpK Tryz.prog opts0 40 _ _ (lsV0 (.ofNat i) (l.map rwA) (ps.map rwA)).st _
  rw[ls_0,hlen]
  exact mtB_of (fun e=>mtB_of (fun e2=>(no e e2).elim) fun _=>⟨⟨⟨⟨rfl,hR⟩,⟨rfl,hP⟩,⟨rfl,rfl⟩,⟨rfl,rfl⟩,trivial⟩,trivial,trivial⟩,hq⟩) fun _=>⟨⟨⟨⟨rfl,hR⟩,⟨rfl,hP⟩,⟨rfl,rfl⟩,⟨rfl,rfl⟩,trivial⟩,trivial,trivial⟩,hq⟩
 |cons x r=>
  have hc:=closed_flO (x::r)
  refine ALp.round (A:=lsA ⟨0,0,0,0⟩ 0 [] (obF zO .nilsl .nilsl .nilsl .nilsl) []) (V1:=lsV1 0 (l.map rwA) (ps.map rwA) (r.length+1+1) []) (V2:=lsV1 0 (l.map rwA) (ps.map rwA) (r.length+1+1) []) (F:=lsV1 (.ofNat i) (l.map rwA) (ps.map rwA) (r.length+1) (flO (x::r))) (lk:=[(0,40)]) (lk':=[(0,0)]) base0 aidJ_ok (LsOk.no rfl) .refl ?_
  show wpK Tryz.prog opts0 40 _ _ (lsV1 (.ofNat i) (l.map rwA) (ps.map rwA) (r.length+1) (flO (x::r))).st _
  rw[ls_1,hlen]
  exact mtB_of (fun e=>mtB_of (fun e2=>(no e e2).elim) fun _=>⟨⟨⟨⟨rfl,hR⟩,⟨rfl,hP⟩,⟨rfl,rfl⟩,trivial⟩,⟨⟨rfl,rfl,rfl,rfl,rfl⟩,trivial⟩,⟨rfl,hc⟩,trivial⟩,hq⟩) fun _=>⟨⟨⟨⟨rfl,hR⟩,⟨rfl,hP⟩,⟨rfl,rfl⟩,trivial⟩,⟨⟨rfl,rfl,rfl,rfl,rfl⟩,trivial⟩,⟨rfl,hc⟩,trivial⟩,hq⟩
def LsI (os:List Ob):Prop:=∀i o,os[i]? =some o→OxL o∧o.id=chS i
theorem ls_run (hps:ps.length≤9223372036854775807):∀ (m i:Nat) (os:List Ob),i+m=min l.length 12→os.length=i→LsI os→∃os',os'.length=min l.length 12∧LsI os'∧∀Q:AExit→St→Prop,Q (.exit 0) (lsW (.ofNat (min l.length 12)) (l.map rwA) (ps.map rwA) os').st→ALp Tryz.prog opts0.glob 0 (lpCode Tryz.prog 50 4) (lsW (.ofNat i) (l.map rwA) (ps.map rwA) os).st Q
 | 0,i,os,hi,ho,hI=>⟨os,by omega,hI,fun Q hq=>by
   have e:i=min l.length 12:=by omega
   rw[←e] at hq
   exact ls_stop e os hq⟩
 | m +1,i,os,hi,ho,hI=>by
  obtain ⟨o,h1,h2,h3⟩:=ls_step (l:=l) hps (List.getElem?_eq_getElem (show i<l.length by omega)) (by omega) os ho
  obtain ⟨os',k1,k2,k3⟩:=ls_run hps m (i+1) (os++[o]) (by omega) (by simp[ho]) (fun j x hx=>by
   by_cases hj:j<os.length
   ·rw[List.getElem?_append_left hj] at hx
    exact hI j x hx
   ·rw[List.getElem?_append_right (by omega)] at hx
    have hj2:j-os.length=0:=by
     have:=(List.getElem?_eq_some_iff.1 hx).1
     simp at this
     omega
    rw[hj2] at hx
    cases hx
    have:j=i:=by omega
    subst this
    exact ⟨h1,h2⟩)
  exact ⟨os',k1,k2,fun Q hq=>h3 Q (k3 Q hq)⟩
end
theorem ls_at:loopsAt (fnCode Tryz.prog 50) 4=[lpCode Tryz.prog 50 4]:=by kernel_rfl
theorem list_ex {l ps:List Rw} (hps:ps.length≤9223372036854775807):∃os:List Ob,os.length=min l.length 12∧LsI os∧SC 50 [.fsl false (l.map rwA),.fsl false (ps.map rwA)] (.fsl false (os.map obA)):=by
 obtain ⟨os,h1,h2,h3⟩:=ls_run (l:=l) hps (min l.length 12) 0 [] (Nat.zero_add _) rfl (fun i o h=>by simp at h)
 refine ⟨os,h1,h2, ?_⟩
 have hR:=closed_rws l
 have hP:=closed_rws ps
 have hcl:closedAll [.fsl false (l.map rwA),.fsl false (ps.map rwA)]=true:=by simp only[closedAll,closedA,hR,hP,Bool.and_self]
 have hcc:=closed_obs os
 cases os with
 | nil=>
  refine fnK_semX (A:=aidJ [] [(4,lsL (lsV0 0 (l.map rwA) (ps.map rwA)) (lsV0 (.ofNat (min l.length 12)) (l.map rwA) (ps.map rwA)))] noSem [] []) base0 aidJ_ok
   (fnLs_of (LsOk.at1 rfl ls_at fun st Q hs=> .seen base0.glob hs.1 (h3 Q hs.2))) hcl ?_
  rw[ls_fn0]
  exact ⟨⟨⟨⟨rfl,hR⟩,⟨rfl,hP⟩,⟨rfl,rfl⟩,⟨rfl,rfl⟩,trivial⟩,trivial,trivial⟩,⟨.nilsl,(Frz.closed _ rfl).out,rfl,.nil⟩⟩
 | cons x r=>
  refine fnK_semX (A:=aidJ [] [(4,lsL (lsV0 0 (l.map rwA) (ps.map rwA)) (lsV1 (.ofNat (min l.length 12)) (l.map rwA) (ps.map rwA) (r.length+1) (flO (x::r))))] noSem [] []) base0 aidJ_ok
   (fnLs_of (LsOk.at1 rfl ls_at fun st Q hs=> .seen base0.glob hs.1 (h3 Q hs.2))) hcl ?_
  rw[ls_fn1]
  exact ⟨⟨⟨⟨rfl,hR⟩,⟨rfl,hP⟩,⟨rfl,rfl⟩,⟨rfl,rfl⟩,trivial⟩,trivial,trivial⟩,⟨.fsl false ((x::r).map obA),(Frz.row (es:=(x::r).map obA) rfl rfl rfl (by rw[List.length_map];rfl) (fun e he=>by obtain ⟨a,_,rfl⟩:=List.mem_map.1 he;exact ⟨rfl,rfl⟩) hcc).out,hcc,.refl _⟩⟩
theorem chS_inj:∀i j,i<12→j<12→chS i=chS j→i=j:=by
 have:∀i:Fin 12,∀j:Fin 12,chS i.val=chS j.val→i.val=j.val:=by decide
 exact fun i j hi hj h=>this ⟨i,hi⟩ ⟨j,hj⟩ h
end Go.Proofs.YtjhggnebkfpgcaaGreatDoor
namespace Go.Proofs.YtjhggnebkfpgcaaGreatDoor
open Go Go.RowKit
open Go.Proofs.Abs
noncomputable section
def tcV (n i most:Int) (Os Cs X:List AV):View:=⟨[(4,I most),(11,.fsl false Os),(15,.fsl true Cs),(16,I n),(17,I i)],[(12,.ptr 0 0)],[(0,.cells X,.whole)],1,161⟩
def tcA (x:List AV) (b:Bool):Aid:=aidJ [(15,2,.res (.fptr x 0))] [] (manyS [(52,.bool b)]) [] []
@[simp] abbrev zy1 (Os:List AV):=(AV.fsl false Os=AV.fsl false Os∧closedA (AV.fsl false Os)=true)
@[simp] abbrev zy2 (Cs:List AV):=(AV.fsl true Cs=AV.fsl true Cs∧closedA (AV.fsl true Cs)=true)
@[simp] abbrev zy4:=((some 0=some 0∧0=0)∧True)
@[simp] abbrev zy6 (i:Int):=(I i=I i∧closedA (I i)=true)
@[simp] abbrev zy9 (most:Int):=(I most=I most∧closedA (I most)=true)
theorem tc_r (b:Bool) (n n' i i' most:Int) (Os Cs X:List AV) (o:Ob) (M N L C:AV) (Nx:Prop) (Q:AExit→St→Prop):wpK Tryz.prog opts0 40 (tcA (obF o M N L C) b) (lpCode Tryz.prog 11 14) (tcV n i most Os Cs X).st (roundP 0 [(0,0)] (tcV n' i' most Os Cs X) Nx [(0,0)] (tcV n i most Os Cs X) Q)=
  (mtB (ltInt i (Int.ofNat (lenN Os))) (indexAddrA Tryz.prog 72 (AV.fsl false Os) (I i)=some (AV.fptr (obF o M N L C) 0)∧SC 52 [AV.agg (obF o M N L C),AV.fsl true Cs] (AV.bool b)∧mtB b ((((zy9 most)∧(zy1 Os)∧(zy2 Cs)∧(I (wrapA IntKind.i64 (n+1))=I n'∧closedA (I n')=true)∧(I (wrapA IntKind.i64 (i+1))=I i'∧closedA (I i')=true)∧True)∧zy4∧(X=X∧closedAll X=true)∧True)∧Nx) ((((zy9 most)∧(zy1 Os)∧(zy2 Cs)∧(I n=I n'∧closedA (I n')=true)∧(I (wrapA IntKind.i64 (i+1))=I i'∧closedA (I i')=true)∧True)∧zy4∧(X=X∧closedAll X=true)∧True)∧Nx)) ((((zy9 most)∧(zy1 Os)∧(zy2 Cs)∧(I n=I n∧closedA (I n)=true)∧(zy6 i)∧True)∧zy4∧(X=X∧closedAll X=true)∧True)∧Q (AExit.exit 0) (tcV n i most Os Cs X).st)):=by kernel_rfl
def tiV (i th j:Int) (Os Cs Is X:List AV):View:=⟨[(11,.fsl false Os),(15,.fsl true Cs),(19,.fsl false Is),(21,I i),(22,I th),(23,I j)],[(20,.ptr 0 0)],[(0,.cells X,.whole)],1,161⟩
def tiA (x:List AV) (s:List UInt8):Aid:=aidJ [(29,2,.res (.fptr x 0)),(29,7,.res (.fptr [.str s] 0)),(31,2,.res (.fptr x 0)),(31,13,.res (.fptr x 0)),(31,28,.res (.fptr x 0)),(33,2,.res (.fptr x 0))] [] (manyS [(52,.bool true)]) [] []
@[simp] abbrev zy3 (Is:List AV):=(AV.fsl false Is=AV.fsl false Is∧closedA (AV.fsl false Is)=true)
@[simp] abbrev zy8 (C' L' M' N':AV) (p:Ob):=((obF p M' N' L' C')=(obF p M' N' L' C')∧closedAll (obF p M' N' L' C')=true)
abbrev zy10 (C L M N:AV) (o:Ob):=(fitsT Tryz.prog 33 (AV.agg (obF o M N L C)) 37)
theorem ti_r (s:List UInt8) (i th th' j j':Int) (Os Cs Is X':List AV) (o p:Ob) (M N L C M' N' L' C':AV) (Nx:Prop) (Q:AExit→St→Prop):wpK Tryz.prog opts0 40 (tiA (obF o M N L C) s) (lpCode Tryz.prog 11 28) (tiV i th j Os Cs Is (obF p M' N' L' C')).st (roundP 0 [(0,0)] (tiV i th' j' Os Cs Is X') Nx [(0,0)] (tiV i th j Os Cs Is (obF p M' N' L' C')) Q)=
  (mtB (ltInt j (Int.ofNat (lenN Os))) (indexAddrA Tryz.prog 72 (AV.fsl false Os) (I j)=some (AV.fptr (obF o M N L C) 0)∧indexAddrA Tryz.prog 27 (AV.fsl false Is) (I i)=some (AV.fptr [AV.str s] 0)∧mtB (beqBytes o.1 s) (indexAddrA Tryz.prog 72 (AV.fsl false Os) (I j)=some (AV.fptr (obF o M N L C) 0)∧SC 52 [AV.agg (obF o M N L C),AV.fsl true Cs] (AV.bool true)∧mtB (ltInt 0 i) (indexAddrA Tryz.prog 72 (AV.fsl false Os) (I j)=some (AV.fptr (obF o M N L C) 0)∧mtB o.d0.1 (mtB (!p.d0.1) ((((zy1 Os)∧(zy2 Cs)∧(zy3 Is)∧(zy6 i)∧(I (wrapA IntKind.i64 (th+1))=I th∧closedA (I th)=true)∧(I j=I j∧closedA (I j)=true)∧True)∧zy4∧(zy8 C' L' M' N' p)∧True)∧Q AExit.ret (tiV i th j Os Cs Is (obF p M' N' L' C')).st) (indexAddrA Tryz.prog 72 (AV.fsl false Os) (I j)=some (AV.fptr (obF o M N L C) 0)∧mtB (ltInt p.d0.2 o.d0.2) ((((zy1 Os)∧(zy2 Cs)∧(zy3 Is)∧(zy6 i)∧(I (wrapA IntKind.i64 (th+1))=I th∧closedA (I th)=true)∧(I j=I j∧closedA (I j)=true)∧True)∧zy4∧(zy8 C' L' M' N' p)∧True)∧Q AExit.ret (tiV i th j Os Cs Is (obF p M' N' L' C')).st) (indexAddrA Tryz.prog 72 (AV.fsl false Os) (I j)=some (AV.fptr (obF o M N L C) 0)∧oblB (zy10 C L M N o) ((((zy1 Os)∧(zy2 Cs)∧(zy3 Is)∧(zy6 i)∧(I (wrapA IntKind.i64 (th+1))=I th'∧closedA (I th')=true)∧(I (wrapA IntKind.i64 (j+1))=I j'∧closedA (I j')=true)∧True)∧zy4∧((obF o M N L C)=X'∧closedAll X'=true)∧True)∧Nx)))) (indexAddrA Tryz.prog 72 (AV.fsl false Os) (I j)=some (AV.fptr (obF o M N L C) 0)∧oblB (zy10 C L M N o) ((((zy1 Os)∧(zy2 Cs)∧(zy3 Is)∧(zy6 i)∧(I (wrapA IntKind.i64 (th+1))=I th'∧closedA (I th')=true)∧(I (wrapA IntKind.i64 (j+1))=I j'∧closedA (I j')=true)∧True)∧zy4∧((obF o M N L C)=X'∧closedAll X'=true)∧True)∧Nx))) (indexAddrA Tryz.prog 72 (AV.fsl false Os) (I j)=some (AV.fptr (obF o M N L C) 0)∧oblB (zy10 C L M N o) ((((zy1 Os)∧(zy2 Cs)∧(zy3 Is)∧(zy6 i)∧(I (wrapA IntKind.i64 (th+1))=I th'∧closedA (I th')=true)∧(I (wrapA IntKind.i64 (j+1))=I j'∧closedA (I j')=true)∧True)∧zy4∧((obF o M N L C)=X'∧closedAll X'=true)∧True)∧Nx))) ((((zy1 Os)∧(zy2 Cs)∧(zy3 Is)∧(zy6 i)∧(I th=I th'∧closedA (I th')=true)∧(I (wrapA IntKind.i64 (j+1))=I j'∧closedA (I j')=true)∧True)∧zy4∧((obF p M' N' L' C')=X'∧closedAll X'=true)∧True)∧Nx)) ((((zy1 Os)∧(zy2 Cs)∧(zy3 Is)∧(zy6 i)∧(I th=I th∧closedA (I th)=true)∧(I j=I j∧closedA (I j)=true)∧True)∧zy4∧(zy8 C' L' M' N' p)∧True)∧Q (AExit.exit 4) (tiV i th j Os Cs Is (obF p M' N' L' C')).st)):=by kernel_rfl
def toV (i:Int) (Os Cs Is X:List AV):View:=⟨[(11,.fsl false Os),(15,.fsl true Cs),(19,.fsl false Is),(21,I i)],[(20,.ptr 0 0)],[(0,.cells X,.whole)],1,161⟩
def toF:View:=⟨[],[],[],0,161⟩
def tiL (p:Prop) (i j:Int) (Os Cs Is X X':List AV):LoopS:=fun st Q=>p∧seesK 0 [(0,0)] (tiV i 0 0 Os Cs Is X) st∧Q (.exit 4) (tiV i 1 j Os Cs Is X').st
@[simp] abbrev zy7:=(I 0=I 0∧true=true)
theorem to_r (p:Prop) (i i' j:Int) (Os Cs Is X X':List AV) (Nx:Prop) (Q:AExit→St→Prop):wpK Tryz.prog opts0 40 (aidJ [] [(28,tiL p i j Os Cs Is X X')] noSem [] []) (lpCode Tryz.prog 11 24) (toV i Os Cs Is X).st (roundP 0 [(0,0)] (toV i' Os Cs Is X') Nx [] toF Q)=
  (mtB (ltInt i (Int.ofNat (lenN Is))) (p∧(((zy1 Os)∧(zy2 Cs)∧(zy3 Is)∧(zy6 i)∧zy7∧zy7∧True)∧zy4∧(X=X∧closedAll X=true)∧True)∧(((zy1 Os)∧(zy2 Cs)∧(zy3 Is)∧(I (wrapA IntKind.i64 (i+1))=I i'∧closedA (I i')=true)∧True)∧zy4∧(X'=X'∧closedAll X'=true)∧True)∧Nx) ((True∧True∧True)∧Q (AExit.exit 2) toF.st)):=by kernel_rfl
def tcL (p:Prop) (n k most:Int) (Os Cs X:List AV):LoopS:=fun st Q=>p∧seesK 0 [(0,19)] (tcV 0 0 most Os Cs X) st∧Q (.exit 0) (tcV n k most Os Cs X).st
def toL (p:Prop) (Os Cs Is X:List AV):LoopS:=fun st Q=>p∧seesK 0 [(0,22)] (toV 0 Os Cs Is X) st∧Q (.exit 2) toF.st
def tlV (most:Int) (Os Cs X:List AV):View:=⟨[(4,I most),(11,.fsl false Os),(15,.fsl true Cs)],[(12,.ptr 19 0)],[(19,.cells X,.whole)],60,161⟩
def tlA (p:Prop) (x a:List AV) (n k most:Int) (Os Cs As Is Z:List AV):Aid:=aidC (aidJ [(4,5,.res (.fptr x 0)),(8,5,.res (.fptr a 0))] [(14,tcL p n k most Os Cs x),(24,toL p Os Cs Is Z)] (manyF [(50,fun _=>some (.fsl false Os)),(51,fun _=>some (.bool true)),(23,pkF),(40,fun _=>some (.fsl false As)),(52,fun _=>some (.bool true)),(53,fun _=>some (.fsl false Is))]) [] []) 11 30 (tlV most Os Cs x)
abbrev zy5 (C L M N:AV) (D K:List AV) (o:Ob) (q t y:Int) (s:List UInt8):=[(34,some (Blk.cells [AV.str s,I 0,I t,I y,I q,AV.fsl false D,AV.fsl false K])),(19,some (Blk.cells (obF o M N L C)))]
theorem tl_fn (p:Prop) (l Ps:List AV) (k at' most:Int) (n e:Int) (s:List UInt8) (ix t y q:Int) (D K:List AV) (Os Cs As Is Z:List AV) (o:Ob) (M N L C:AV) (Q:AV→Prop):fnK Tryz.prog opts0 40 (tlA p (obF o M N L C) (.str s::I ix::itF t y q D K) n e most Os Cs As Is Z) 11 [.fsl false l,.fsl false Ps,I k,I at',I most] [] 0 (fun v _ _=>Q v)=
  (SC 50 [AV.fsl false l,AV.fsl false Ps] (AV.fsl false Os)∧SC 51 [] (AV.bool true)∧mtB (beqInt (Int.ofNat (lenN Os)) 0) (SC 51 [] (AV.bool true)∧Q (AV.bool true)) (SC 23 [I k,I (Int.ofNat (lenN Os))] (I (k%Int.ofNat (lenN Os)))∧indexAddrA Tryz.prog 72 (AV.fsl false Os) (I (k%Int.ofNat (lenN Os)))=some (AV.fptr (obF o M N L C) 0)∧oblB (zy10 C L M N o) (SC 40 [AV.agg (obF o M N L C)] (AV.fsl false As)∧mtB (beqInt (Int.ofNat (lenN As)) 0) (Q (AV.bool false)) (SC 23 [I at',I (Int.ofNat (lenN As))] (I (at'%Int.ofNat (lenN As)))∧indexAddrA Tryz.prog 43 (AV.fsl false As) (I (at'%Int.ofNat (lenN As)))=some (AV.fptr [AV.str s,I ix,I t,I y,I q,AV.fsl false D,AV.fsl false K] 0)∧((Frz 30 (zy5 C L M N D K o q t y s) (I most) (I most)∧Frz 30 (zy5 C L M N D K o q t y s) (AV.fsl false Os) (AV.fsl false Os)∧Frz 30 (zy5 C L M N D K o q t y s) (AV.fsl true [AV.agg [AV.str s,I 0,I t,I y,I q,AV.fsl false D,AV.fsl false K]]) (AV.fsl true Cs)∧Frz 30 (zy5 C L M N D K o q t y s) (AV.ptr 19 0) (AV.ptr 19 0)∧True)∧FrzL 30 (zy5 C L M N D K o q t y s) (obF o M N L C) (obF o M N L C)∧True)∧p∧(((zy9 most)∧(zy1 Os)∧(zy2 Cs)∧zy7∧zy7∧True)∧((some 19=some 19∧0=0)∧True)∧((obF o M N L C)=(obF o M N L C)∧closedAll (obF o M N L C)=true)∧True)∧SC 23 [I most,I 14] (I (most%14))∧SC 53 [AV.fsl false Os,AV.fsl true Cs,I (most%14)] (AV.fsl false Is)∧SC 52 [AV.agg (obF o M N L C),AV.fsl true Cs] (AV.bool true)∧mtB (!beqInt (Int.ofNat (lenN Is)) (if ltInt (most%14) n=true then most%14 else n)) (Q (AV.bool false)) (p∧(((zy1 Os)∧(zy2 Cs)∧(zy3 Is)∧zy7∧True)∧((some 22=some 22∧0=0)∧True)∧(zL=Z∧closedAll Z=true)∧True)∧Q (AV.bool true)))))):=by kernel_rfl
end
noncomputable def optsB:Opts:={how:=fun f=>match memN [119,120,121,151,191,193,194] f with|true=> .fresh|false=>match memN [102,104,144,145,214,215] f with|true=> .keep|false=> .pure,summ:=fun _ _=>none,glob:=gl,lf:=100000}
theorem known14_sem:SC 51 [] (.bool true):=
 sem_of_calls (O:=optsB) (n:=20) Tryz.mixed (fun _ _ _ h=>by cases h) noCall_ok' gl_closed fun id h nx=>pureT_ok (O:=optsB) (n:=19) (T:=[]) (F:=[]) rfl rfl (by kernel_rfl) trivial id h nx
def popS (L:List At) (l:List Ob):List Ob:=popsL ltO (hpS L l).length (hpS L l)
def takM {α:Type} (most:Int) (n:Nat) (l:List α):List α:=match ltInt most 0 with
 |true=>l
 |false=>l.take (most.toNat-n)
theorem run_out (most:Int):∀ (f:Nat) (s:FS),s.live.length=f→Hp ltO s.live s.live.length→(runS most f s).out=s.out++takM most s.out.length ((popsL ltO f s.live).map (·.id))
 |0,s,_,_=>by
  simp only[runS,popsL,takM,List.map_nil,List.take_nil]
  cases ltInt most 0<;>simp
 | f+1,s,hf,hp=>by
  have h0:s.live≠[]:=fun h=>by rw[h] at hf;cases hf
  have hlen:0<s.live.length:=by omega
  rw[runS]
  obtain ⟨x,r,h1,h2,h3,_,h5,_,h7⟩:=pop_ex ordO hp hlen
  have hpop:popsL ltO (f+1) s.live=x::popsL ltO f r:=by
   rw[popsL];simp only[h1,h2]
  have hst:stepS s=⟨r,x::s.junk,s.out++[x.id]⟩:=by unfold stepS;simp only[h1,h2]
  rw[hpop]
  cases hg:goS most s with
  |false=>
   simp only[goS,Bool.or_eq_false_iff] at hg
   have h8:=ltInt_false.1 hg.2
   simp only[takM,hg.1]
   rw[show most.toNat-s.out.length=0 by simp only[Int.ofNat_eq_natCast] at h8;omega]
   simp
  | true=>
   have ih:=run_out most f (stepS s) (by rw[hst];simp only;omega) (by rw[hst];exact h5)
   rw[ih,hst]
   simp only[takM,List.length_append,List.length_singleton,List.map_cons]
   cases hm:ltInt most 0 with
   |true=>simp
   |false=>
    simp only[goS,hm,Bool.false_or] at hg
    have h8:=ltInt_iff.1 hg
    simp only[Int.ofNat_eq_natCast] at h8
    rw[show most.toNat-s.out.length=(most.toNat-(s.out.length+1))+1 by omega,List.take_succ_cons]
    simp
theorem find_eq (most:Int) (L:List At) (l:List Ob):findS most L l=takM most 0 ((popS L l).map (·.id)):=by
 unfold findS
 rw[run_out most _ ⟨hpS L l,[],[]⟩ rfl (hpS_ok L l).1]
 rfl
theorem pop_perm (L:List At) (l:List Ob):(popS L l).Perm (l.filter fun o=>isB o L):=(pops_ok ordO _ _ rfl (hpS_ok L l).1).1.trans (hpS_ok L l).2
theorem pop_sorted (L:List At) (l:List Ob):(popS L l).Pairwise fun a b=>ltO b a=false:=(pops_ok ordO _ _ rfl (hpS_ok L l).1).2
theorem all_inL {o:Ob} (h:OxL o) {a:At} (ha:a∈allS o):a.name∈nameL:=by
 rcases List.mem_append.1 ha with ha|ha
 ·obtain ⟨k,h1,h2⟩:=std_name ha
  rw[h2]
  exact (by decide:∀k∈kinds,nameK k∈nameL) k h1
 ·obtain ⟨c,h1,h2⟩:=cusTl_name ha
  rw[h2]
  exact (by decide:∀n∈cnL,n∈nameL) _ (h.c c h1)
theorem cusOk_L {o:Ob} (h:OxL o) {s:List UInt8} (hs:s∈nameL):CusOk (cusB s) s o:=
 ⟨fun hc=>(by decide:∀s∈nameL,cusB s=true→∀k∈kinds,nameK k≠s) s hs hc,fun hc x hx e=>by
  have:=(by decide:∀n∈cnL,cusB n=true) _ (h.c x hx)
  rw[e,hc] at this
  cases this⟩
theorem own_is {x:Ob} {a:At} (h:OxL x) (ha:a∈allS x):isB x [⟨a.name,0,a.v⟩]=true:=by
 have hn:=all_inL h ha
 have hof:=of_all (cusOk_L h hn)
 have hm:a∈ofS (cusB a.name) x a.name:=by rw[←hof];exact List.mem_filter.2 ⟨ha,beqBytes_iff.2 rfl⟩
 unfold isB
 rw[List.all_cons,List.all_nil,Bool.and_true]
 unfold condB
 simp only
 cases hy:beqInt (itY a.v) 9 with
 |false=>exact List.any_eq_true.2 ⟨a,hm,(sameI_iff _ _).2 rfl⟩
 |true=>
  have hv:valsL a.name [⟨a.name,0,a.v⟩]=[a.v]:=by rw[valsL,beqBytes_iff.2 rfl];rfl
  dsimp only
  rw[hv]
  refine List.any_eq_true.2 ⟨a,hm, ?_⟩
  have:ltInt (itN a.v) (itN a.v)=false:=ltInt_false.2 (Int.le_refl _)
  show (!ltInt (itN a.v) (itN a.v)&& !ltInt (itN a.v) (itN a.v))=true
  rw[this];rfl
end Go.Proofs.YtjhggnebkfpgcaaGreatDoor
namespace Go.Proofs.YtjhggnebkfpgcaaGreatDoor
set_option maxRecDepth 20000
open Go Go.RowKit
open Go.Proofs.Abs
theorem idxId {l:List (List UInt8)} {i:Nat} {s:List UInt8} (h:l[i]? =some s):indexAddrA Tryz.prog 27 (.fsl false (l.map .str)) (I (.ofNat i))=some (.fptr [.str s] 0):=
 fsl_index (v:= .str s) (e:=9) (sz:=1) (by kernel_rfl) (by kernel_rfl) (by rw[List.getElem?_map,h];rfl) rfl
theorem wrp {p:Nat} (h:p≤1000000):wrapA .i64 (Int.ofNat p+1)=Int.ofNat (p+1):=wrapA_i64 (by simp;omega) (by simp;omega)
theorem ltn_y {i n:Nat} (h:i<n):ltInt (Int.ofNat i) (Int.ofNat n)=true:=ltInt_iff.2 (by simp only[Int.ofNat_eq_natCast];omega)
theorem ltn_n {i n:Nat} (h:n≤i):ltInt (Int.ofNat i) (Int.ofNat n)=false:=ltInt_false.2 (by simp only[Int.ofNat_eq_natCast];omega)
def cntB (L:List At) (l:List Ob):Nat:=(l.filter fun o=>isB o L).length
theorem cntB_take {L:List At} {l:List Ob} {i:Nat} {o:Ob} (h:l[i]? =some o):cntB L (l.take (i+1))=cntB L (l.take i)+(match isB o L with|true=>1|false=>0):=by
 rw[take_snoc h]
 unfold cntB
 rw[List.filter_append,List.length_append,List.filter_cons]
 cases isB o L<;>rfl
theorem cntB_le (L:List At) (l:List Ob):cntB L l≤l.length:=List.length_filter_le _ _
section
variable {os:List Ob} {C:List At} {most:Int} {X:List AV} {Q:AExit→St→Prop}
theorem tc_loop (hb:os.length≤1000) (hX:closedAll X=true) (his:∀o∈os,SC 52 [obA o,.fsl true (C.map atA)] (.bool (isB o C)))
  (hq:Q (.exit 0) (tcV (.ofNat (cntB C os)) (.ofNat os.length) most (os.map obA) (C.map atA) X).st):
  ∀m i,i+m=os.length→ALp Tryz.prog opts0.glob 0 (lpCode Tryz.prog 11 14) (tcV (.ofNat (cntB C (os.take i))) (.ofNat i) most (os.map obA) (C.map atA) X).st Q:=by
 have hL:=closed_ats C
 have hO:=closed_obs os
 have hlen:lenN (os.map obA)=os.length:=by rw[lenN_eq,List.length_map]
 intro m
 induction m with
 |zero=>
  intro i hi
  have hi:i=os.length:=by omega
  subst hi
  rw[List.take_of_length_le (Nat.le_refl _)]
  refine ALp.round (A:=tcA (obF zO .nilsl .nilsl .nilsl .nilsl) false) (V1:=tcV 0 0 most (os.map obA) (C.map atA) X) (V2:=tcV 0 0 most (os.map obA) (C.map atA) X) (F:=tcV (.ofNat (cntB C os)) (.ofNat os.length) most (os.map obA) (C.map atA) X) (lk:=[(0,0)]) (lk':=[(0,0)]) base0 aidJ_ok (LsOk.no rfl) .refl ?_
  rw[tc_r,hlen]
  exact mtF (ltn_n (Nat.le_refl _)) ⟨⟨⟨⟨rfl,rfl⟩,⟨rfl,hO⟩,⟨rfl,hL⟩,⟨rfl,rfl⟩,⟨rfl,rfl⟩,trivial⟩,⟨⟨rfl,rfl⟩,trivial⟩,⟨rfl,hX⟩,trivial⟩,hq⟩
 |succ m ih=>
  intro i hi
  have hlt:i<os.length:=by omega
  have ih:=ih (i+1) (by omega)
  have g:=List.getElem?_eq_getElem hlt
  have hm:=List.getElem_mem hlt
  revert g hm
  generalize os[i]=o
  intro g hm
  rw[cntB_take g] at ih
  have hs:=his o hm
  have hx:=idxO g
  have hc:=cntB_le C (os.take i)
  rw[List.length_take] at hc
  have w2:wrapA .i64 (Int.ofNat (cntB C (os.take i))+1)=Int.ofNat (cntB C (os.take i)+1):=wrp (by omega)
  revert ih hs w2
  generalize cntB C (os.take i)=n
  generalize isB o C=b
  intro ih hs w2
  refine ALp.round (A:=tcA (obC o) b) (V1:=tcV (.ofNat (n+(match b with|true=>1|false=>0))) (.ofNat (i+1)) most (os.map obA) (C.map atA) X) (V2:=tcV (.ofNat (n+(match b with|true=>1|false=>0))) (.ofNat (i+1)) most (os.map obA) (C.map atA) X) (F:=tcV (.ofNat n) (.ofNat i) most (os.map obA) (C.map atA) X) (lk:=[(0,0)]) (lk':=[(0,0)]) base0 aidJ_ok (LsOk.no rfl) .refl ?_
  unfold obA at hs
  unfold obC at hs hx⊢
  rw[tc_r,hlen,wrp (p:=i) (by omega),w2]
  refine mtT (ltn_y hlt) ⟨hx,hs, ?_⟩
  cases b with
  |true=>exact ⟨⟨⟨⟨rfl,rfl⟩,⟨rfl,hO⟩,⟨rfl,hL⟩,⟨rfl,rfl⟩,⟨rfl,rfl⟩,trivial⟩,⟨⟨rfl,rfl⟩,trivial⟩,⟨rfl,hX⟩,trivial⟩,ih⟩
  |false=>exact ⟨⟨⟨⟨rfl,rfl⟩,⟨rfl,hO⟩,⟨rfl,hL⟩,⟨rfl,rfl⟩,⟨rfl,rfl⟩,trivial⟩,⟨⟨rfl,rfl⟩,trivial⟩,⟨rfl,hX⟩,trivial⟩,ih⟩
end
section
variable {os:List Ob} {C:List At} {ids:List (List UInt8)} {i:Nat} {y:Ob} {Q:AExit→St→Prop}
theorem ti_skip (hb:os.length≤1000) (hi:ids[i]? =some y.id) {j:Nat} {o:Ob} (g:os[j]? =some o) (hne:o.id≠y.id) (p:Ob) (M' N' L' C':AV) (hX:closedAll (obF p M' N' L' C')=true) (th:Int)
  (hn:ALp Tryz.prog opts0.glob 0 (lpCode Tryz.prog 11 28) (tiV (.ofNat i) th (.ofNat (j+1)) (os.map obA) (C.map atA) (ids.map .str) (obF p M' N' L' C')).st Q):
  ALp Tryz.prog opts0.glob 0 (lpCode Tryz.prog 11 28) (tiV (.ofNat i) th (.ofNat j) (os.map obA) (C.map atA) (ids.map .str) (obF p M' N' L' C')).st Q:=by
 have hL:=closed_ats C
 have hO:=closed_obs os
 have hS:=closed_strs ids
 have hlt:j<os.length:=(List.getElem?_eq_some_iff.1 g).1
 have hlen:lenN (os.map obA)=os.length:=by rw[lenN_eq,List.length_map]
 have hx:=idxO g
 refine ALp.round (A:=tiA (obC o) y.id) (V1:=tiV (.ofNat i) th (.ofNat (j+1)) (os.map obA) (C.map atA) (ids.map .str) (obF p M' N' L' C')) (V2:=tiV (.ofNat i) th (.ofNat (j+1)) (os.map obA) (C.map atA) (ids.map .str) (obF p M' N' L' C')) (F:=tiV (.ofNat i) th (.ofNat j) (os.map obA) (C.map atA) (ids.map .str) (obF p M' N' L' C')) (lk:=[(0,0)]) (lk':=[(0,0)]) base0 aidJ_ok (LsOk.no rfl) .refl ?_
 unfold obC at hx⊢
 rw[ti_r,hlen,wrp (p:=j) (by omega)]
 exact mtT (ltn_y hlt) ⟨hx,idxId hi,mtF (beqBytes_no hne) ⟨⟨⟨⟨rfl,hO⟩,⟨rfl,hL⟩,⟨rfl,hS⟩,⟨rfl,rfl⟩,⟨rfl,rfl⟩,⟨rfl,rfl⟩,trivial⟩,⟨⟨rfl,rfl⟩,trivial⟩,⟨rfl,hX⟩,trivial⟩,hn⟩⟩
theorem ti_hit (hb:os.length≤1000) (hi:ids[i]? =some y.id) {j:Nat} (g:os[j]? =some y) (hs:SC 52 [obA y,.fsl true (C.map atA)] (.bool true)) (p:Ob) (M' N' L' C':AV) (_hX:closedAll (obF p M' N' L' C')=true) (hlt:0<i→ltO y p=false)
  (hn:ALp Tryz.prog opts0.glob 0 (lpCode Tryz.prog 11 28) (tiV (.ofNat i) 1 (.ofNat (j+1)) (os.map obA) (C.map atA) (ids.map .str) (obC y)).st Q):
  ALp Tryz.prog opts0.glob 0 (lpCode Tryz.prog 11 28) (tiV (.ofNat i) 0 (.ofNat j) (os.map obA) (C.map atA) (ids.map .str) (obF p M' N' L' C')).st Q:=by
 have hL:=closed_ats C
 have hO:=closed_obs os
 have hS:=closed_strs ids
 have hY:=closed_obC y
 have hlt2:j<os.length:=(List.getElem?_eq_some_iff.1 g).1
 have hlen:lenN (os.map obA)=os.length:=by rw[lenN_eq,List.length_map]
 have hx:=idxO g
 have fo:=fits_obh y
 have w0:wrapA .i64 (0+1)=1:=by kernel_rfl
 refine ALp.round (A:=tiA (obC y) y.id) (V1:=tiV (.ofNat i) 1 (.ofNat (j+1)) (os.map obA) (C.map atA) (ids.map .str) (obC y)) (V2:=tiV (.ofNat i) 1 (.ofNat (j+1)) (os.map obA) (C.map atA) (ids.map .str) (obC y)) (F:=tiV (.ofNat i) 0 (.ofNat j) (os.map obA) (C.map atA) (ids.map .str) (obF p M' N' L' C')) (lk:=[(0,0)]) (lk':=[(0,0)]) base0 aidJ_ok (LsOk.no rfl) .refl ?_
 unfold obA at hs
 unfold obC at hx hs fo hY hn⊢
 rw[ti_r,hlen,wrp (p:=j) (by omega),w0]
 have contra:∀ {P:Prop},ltInt 0 (Int.ofNat i)=true→y.d0.has=true→(p.d0.has=false∨ltInt p.d0.t y.d0.t=true)→P:=fun e1 e2 e3=>by
  have h0:=hlt (by have:=ltInt_iff.1 e1;simp only[Int.ofNat_eq_natCast] at this;omega)
  rw[ltO_if,e2] at h0
  rcases e3 with e3|e3
  ·rw[e3] at h0;simp at h0
  ·cases h:p.d0.has with
   |false=>rw[h] at h0;simp at h0
   |true=>
    rw[h] at h0
    have:=ltInt_iff.1 e3
    rw[if_pos rfl,if_neg (by omega)] at h0
    rw[decide_eq_true this] at h0
    cases h0
 refine mtT (ltn_y hlt2) ⟨hx,idxId hi,mtT (beqBytes_iff.2 rfl) ⟨hx,hs,mtB_of (fun e=>⟨hx,mtB_of (fun e2=>mtB_of (fun e3=>contra e e2 (.inl (by rw[Bool.not_eq_true'] at e3;exact e3))) (fun e3=>⟨hx,mtB_of (fun e4=>contra e e2 (.inr e4)) (fun e4=> ?_)⟩)) (fun e2=> ?_)⟩) (fun e=> ?_)⟩⟩
 all_goals exact ⟨hx,oblB_of fo ⟨⟨⟨⟨rfl,hO⟩,⟨rfl,hL⟩,⟨rfl,hS⟩,⟨rfl,rfl⟩,⟨rfl,rfl⟩,⟨rfl,rfl⟩,trivial⟩,⟨⟨rfl,rfl⟩,trivial⟩,⟨rfl,hY⟩,trivial⟩,hn⟩⟩
theorem ti_stop (th:Int) (p:Ob) (M' N' L' C':AV) (hX:closedAll (obF p M' N' L' C')=true)
  (hq:Q (.exit 4) (tiV (.ofNat i) th (.ofNat os.length) (os.map obA) (C.map atA) (ids.map .str) (obF p M' N' L' C')).st):
  ALp Tryz.prog opts0.glob 0 (lpCode Tryz.prog 11 28) (tiV (.ofNat i) th (.ofNat os.length) (os.map obA) (C.map atA) (ids.map .str) (obF p M' N' L' C')).st Q:=by
 have hL:=closed_ats C
 have hO:=closed_obs os
 have hS:=closed_strs ids
 have hlen:lenN (os.map obA)=os.length:=by rw[lenN_eq,List.length_map]
 refine ALp.round (A:=tiA (obF zO .nilsl .nilsl .nilsl .nilsl) []) (V1:=tiV (.ofNat i) th 0 (os.map obA) (C.map atA) (ids.map .str) (obF p M' N' L' C')) (V2:=tiV (.ofNat i) th 0 (os.map obA) (C.map atA) (ids.map .str) (obF p M' N' L' C')) (F:=tiV (.ofNat i) th (.ofNat os.length) (os.map obA) (C.map atA) (ids.map .str) (obF p M' N' L' C')) (lk:=[(0,0)]) (lk':=[(0,0)]) base0 aidJ_ok (LsOk.no rfl) .refl ?_
 rw[ti_r,hlen]
 exact mtF (ltn_n (Nat.le_refl _)) ⟨⟨⟨⟨rfl,hO⟩,⟨rfl,hL⟩,⟨rfl,hS⟩,⟨rfl,rfl⟩,⟨rfl,rfl⟩,⟨rfl,rfl⟩,trivial⟩,⟨⟨rfl,rfl⟩,trivial⟩,⟨rfl,hX⟩,trivial⟩,hq⟩
theorem ti_loop (hb:os.length≤1000) (hi:ids[i]? =some y.id) {j0:Nat} (g:os[j0]? =some y) (hu:∀j o,os[j]? =some o→j≠j0→o.id≠y.id) (hs:SC 52 [obA y,.fsl true (C.map atA)] (.bool true)) (p:Ob) (M' N' L' C':AV) (hX:closedAll (obF p M' N' L' C')=true) (hlt:0<i→ltO y p=false)
  (hq:Q (.exit 4) (tiV (.ofNat i) 1 (.ofNat os.length) (os.map obA) (C.map atA) (ids.map .str) (obC y)).st):
  ALp Tryz.prog opts0.glob 0 (lpCode Tryz.prog 11 28) (tiV (.ofNat i) 0 0 (os.map obA) (C.map atA) (ids.map .str) (obF p M' N' L' C')).st Q:=by
 have hj:j0<os.length:=(List.getElem?_eq_some_iff.1 g).1
 have after:∀m j,j+m=os.length→j0<j→ALp Tryz.prog opts0.glob 0 (lpCode Tryz.prog 11 28) (tiV (.ofNat i) 1 (.ofNat j) (os.map obA) (C.map atA) (ids.map .str) (obC y)).st Q:=by
  intro m
  induction m with
  |zero=>
   intro j h1 _
   have h1:j=os.length:=by omega
   subst h1
   exact ti_stop 1 y _ _ _ _ (closed_obC y) hq
  |succ m ih=>
   intro j h1 h2
   have g':=List.getElem?_eq_getElem (show j<os.length by omega)
   exact ti_skip hb hi g' (hu j _ g' (by omega)) y _ _ _ _ (closed_obC y) 1 (ih (j+1) (by omega) (by omega))
 have before:∀m j,j+m=j0→ALp Tryz.prog opts0.glob 0 (lpCode Tryz.prog 11 28) (tiV (.ofNat i) 0 (.ofNat j) (os.map obA) (C.map atA) (ids.map .str) (obF p M' N' L' C')).st Q:=by
  intro m
  induction m with
  |zero=>
   intro j h1
   have h1:j=j0:=by omega
   subst h1
   exact ti_hit hb hi g hs p M' N' L' C' hX hlt (after (os.length-(j+1)) (j+1) (by omega) (by omega))
  |succ m ih=>
   intro j h1
   have g':=List.getElem?_eq_getElem (show j<os.length by omega)
   exact ti_skip hb hi g' (hu j _ g' (by omega)) p M' N' L' C' hX 0 (ih (j+1) (by omega))
 exact before j0 0 (Nat.zero_add _)
end
theorem ti_at:loopsAt (lpCode Tryz.prog 11 24) 28=[lpCode Tryz.prog 11 28]:=by kernel_rfl
theorem tc_at:loopsAt (fnCode Tryz.prog 11) 14=[lpCode Tryz.prog 11 14]:=by kernel_rfl
theorem to_at:loopsAt (fnCode Tryz.prog 11) 24=[lpCode Tryz.prog 11 24]:=by kernel_rfl
section
variable {os S:List Ob} {C:List At} {ids:List (List UInt8)} {Q:AExit→St→Prop}
theorem to_loop (hI:LsI os) (hb:os.length≤12) (hbi:ids.length≤1000) (hS:S.Pairwise fun a b=>ltO b a=false) (hm:∀y∈S,y∈os) (hid:∀ (i:Nat) (s:List UInt8),ids[i]? =some s→∃y:Ob,S[i]? =some y∧y.id=s)
  (his:∀y∈S,SC 52 [obA y,.fsl true (C.map atA)] (.bool true)) (hq:Q (.exit 2) toF.st):
  ∀m i (p:Ob) (M' N' L' C':AV),i+m=ids.length→closedAll (obF p M' N' L' C')=true→(0<i→S[i-1]? =some p)→
   ALp Tryz.prog opts0.glob 0 (lpCode Tryz.prog 11 24) (toV (.ofNat i) (os.map obA) (C.map atA) (ids.map .str) (obF p M' N' L' C')).st Q:=by
 have hL:=closed_ats C
 have hO:=closed_obs os
 have hs:=closed_strs ids
 have hlen:lenN (ids.map AV.str)=ids.length:=by rw[lenN_eq,List.length_map]
 intro m
 induction m with
 |zero=>
  intro i p M' N' L' C' hi hX _
  have hi:i=ids.length:=by omega
  subst hi
  refine ALp.round (A:=aidJ [] [(28,tiL False (.ofNat ids.length) 0 (os.map obA) (C.map atA) (ids.map .str) (obF p M' N' L' C') [])] noSem [] []) (V1:=toV 0 (os.map obA) (C.map atA) (ids.map .str) []) (V2:=toV 0 (os.map obA) (C.map atA) (ids.map .str) []) (F:=toF) (lk:=[(0,0)]) (lk':=[]) base0 aidJ_ok (LsOk.at1 rfl ti_at fun st Q hs=>hs.1.elim) .refl ?_
  rw[to_r,hlen]
  exact mtF (ltn_n (Nat.le_refl _)) ⟨⟨trivial,trivial,trivial⟩,hq⟩
 | succ m ih=>
  intro i p M' N' L' C' hi hX hp
  have hlt:i<ids.length:=by omega
  obtain ⟨y,hy,he⟩:=hid i _ (List.getElem?_eq_getElem hlt)
  have hiy:ids[i]? =some y.id:=by rw[he];exact List.getElem?_eq_getElem hlt
  have hyS:y∈S:=List.mem_of_getElem? hy
  obtain ⟨j0,g⟩:=List.getElem?_of_mem (hm y hyS)
  have hj0:j0<os.length:=(List.getElem?_eq_some_iff.1 g).1
  have hu:∀j o,os[j]? =some o→j≠j0→o.id≠y.id:=fun j o hj hne e=>by
   have hj':j<os.length:=(List.getElem?_eq_some_iff.1 hj).1
   rw[(hI j o hj).2,(hI j0 y g).2] at e
   exact hne (chS_inj j j0 (by omega) (by omega) e)
  have hord:0<i→ltO y p=false:=fun h0=>by
   have h1:=hp h0
   obtain ⟨h2,h3⟩:=List.getElem?_eq_some_iff.1 h1
   obtain ⟨h4,h5⟩:=List.getElem?_eq_some_iff.1 hy
   have:=List.pairwise_iff_getElem.1 hS (i-1) i h2 h4 (by omega)
   rw[h3,h5] at this
   exact this
  have hY:=closed_obC y
  have hn:y.id=y.id:=rfl
  have ih:=ih (i+1) y (matA y) (namA y) (lnkA y) (cusA y) (by omega) hY (fun _=>by rw[Nat.add_sub_cancel];exact hy)
  have hloop:=fun (Q:AExit→St→Prop) hq=>ti_loop (C:=C) (ids:=ids) (i:=i) (Q:=Q) (show os.length≤1000 by omega) hiy g hu (his y hyS) p M' N' L' C' hX hord hq
  refine ALp.round (A:=aidJ [] [(28,tiL True (.ofNat i) (.ofNat os.length) (os.map obA) (C.map atA) (ids.map .str) (obF p M' N' L' C') (obC y))] noSem [] []) (V1:=toV (.ofNat (i+1)) (os.map obA) (C.map atA) (ids.map .str) (obC y)) (V2:=toV (.ofNat (i+1)) (os.map obA) (C.map atA) (ids.map .str) (obC y)) (F:=toF) (lk:=[(0,0)]) (lk':=[]) base0 aidJ_ok (LsOk.at1 rfl ti_at fun st Q hs=> .seen base0.glob hs.2.1 (hloop Q hs.2.2)) .refl ?_
  rw[to_r,hlen,wrp (p:=i) (by omega)]
  exact mtT (ltn_y hlt) ⟨trivial,⟨⟨⟨rfl,hO⟩,⟨rfl,hL⟩,⟨rfl,hs⟩,⟨rfl,rfl⟩,⟨rfl,rfl⟩,⟨rfl,rfl⟩,trivial⟩,⟨⟨rfl,rfl⟩,trivial⟩,⟨rfl,hX⟩,trivial⟩,⟨⟨⟨rfl,hO⟩,⟨rfl,hL⟩,⟨rfl,hs⟩,⟨rfl,rfl⟩,trivial⟩,⟨⟨rfl,rfl⟩,trivial⟩,⟨rfl,hY⟩,trivial⟩,ih⟩
end
theorem all_leL {o:Ob} (ho:FitO o) (hg:∀k,OkG o k):(allS o).length≤90000:=by
 have h1:=stdT_len hg kinds
 have h2:=cusR_len o.cust []
 have h4:=(wk_cusR o.cust []).len
 have h5:=ho.c
 rw[h2,List.length_map] at h4
 rw[show kinds.length=20 from rfl] at h1
 rw[allS,List.length_append]
 omega
theorem is_true {o:Ob} {C:List At} {b:Bool} (h:OxL o) (hn:∀a∈C,a.name∈nameL) (hb:C.length≤1000) (e:isB o C=b):SC 52 [obA o,.fsl true (C.map atA)] (.bool b):=by
 have:=mis_sem h.h hn hb
 rw[e] at this
 exact this.wkA (.cons (.refl _) (.cons .full .nil))
theorem law_sem (l ps:List Rw) (k at' most:Int) (hps:ps.length≤9223372036854775807):SC 11 [.fsl false (l.map rwA),.fsl false (ps.map rwA),I k,I at',I most] (.bool true):=by
 obtain ⟨os,hol,hI,hlist⟩:=list_ex (l:=l) hps
 have hb:os.length≤12:=by omega
 have hR:=closed_rws l
 have hP:=closed_rws ps
 have hO:=closed_obs os
 have hcl:closedAll [.fsl false (l.map rwA),.fsl false (ps.map rwA),I k,I at',I most]=true:=by simp only[closedAll,closedA,hR,hP,Bool.and_self]
 have hlen:lenN (os.map obA)=os.length:=by rw[lenN_eq,List.length_map]
 by_cases h0:os.length=0
 ·refine fnK_semV (A:=tlA False (obF zO .nilsl .nilsl .nilsl .nilsl) (.str []::I 0::itF 0 0 0 [] []) 0 0 most (os.map obA) [] [] [] []) base0 (aidC_ok aidJ_ok) (fnLs_of (LsOk.at2 rfl tc_at to_at (fun st Q hs=>hs.1.elim) (fun st Q hs=>hs.1.elim))) hcl rfl ?_
  rw[tl_fn,hlen]
  exact ⟨hlist,known14_sem,mtT (beqInt_iff.2 (by rw[h0];rfl)) ⟨known14_sem,rfl⟩⟩
 obtain ⟨kk,hk,hkl⟩:=mod_nat (n:=k) (m:=Int.ofNat os.length) (by simp only[Int.ofNat_eq_natCast];omega)
 have hkl:kk<os.length:=by simp only[Int.ofNat_eq_natCast] at hkl;omega
 have gx:=List.getElem?_eq_getElem hkl
 revert gx
 generalize os[kk]=x
 intro gx
 have hX:=(hI kk x gx).1
 have hall:=all_sem hX.h.fit hX.h.g hX.c
 have h4:=all_len x
 have hal:lenN ((allS x).map atA)=(allS x).length:=by rw[lenN_eq,List.length_map]
 obtain ⟨aa,ha,haal⟩:=mod_nat (n:=at') (m:=Int.ofNat (allS x).length) (by simp only[Int.ofNat_eq_natCast];omega)
 have haal:aa<(allS x).length:=by simp only[Int.ofNat_eq_natCast] at haal;omega
 have ga:=List.getElem?_eq_getElem haal
 have hma:=List.getElem_mem haal
 revert ga hma
 generalize (allS x)[aa]=a
 intro ga hma
 have hown:=own_is hX hma
 have hnm:=all_inL hX hma
 have hbx:=all_leL hX.h.fit hX.h.g
 have hA:=closed_ats (allS x)
 have hXc:=closed_obC x
 have fo:=fits_obh x
 have hp1:=pick_sem k (m:=Int.ofNat os.length) (by simp only[Int.ofNat_eq_natCast];omega) (by simp only[Int.ofNat_eq_natCast];omega)
 have hp2:=pick_sem at' (m:=Int.ofNat (allS x).length) (by simp only[Int.ofNat_eq_natCast];omega) (by simp only[Int.ofNat_eq_natCast];omega)
 have hp3:=pick_sem most (m:=14) (by decide) (by decide)
 obtain ⟨mm,hm,hml⟩:=mod_nat (n:=most) (m:=14) (by decide)
 rw[hk] at hp1
 rw[ha] at hp2
 rw[hm] at hp3
 obtain ⟨s,idx,v⟩:=a
 simp only at hown hnm
 have hmem:∀o∈os,OxL o:=fun o ho=>by
  obtain ⟨j,hj⟩:=List.getElem?_of_mem ho
  exact (hI j o hj).1
 obtain ⟨C,hC⟩:∃C:List At,C=[⟨s,0,v⟩]:=⟨_,rfl⟩
 rw[←hC] at hown
 have hCn:∀a∈C,a.name∈nameL:=fun a h=>by rw[hC,List.mem_singleton] at h;rw[h];exact hnm
 have hCb:C.length≤1000:=by rw[hC];simp
 have hisT:=is_true hX hCn hCb hown
 have his:∀o∈os,SC 52 [obA o,.fsl true (C.map atA)] (.bool (isB o C)):=fun o ho=>is_true (hmem o ho) hCn hCb rfl
 have hfind:=find_sem' (L:=C) (l:=os) (by omega) (fun o ho=>mis_sem (hmem o ho).h hCn hCb) (mm:Int)
 have hfind:=hfind.wkA (args:=[.fsl false (os.map obA),.fsl true (C.map atA),I (mm:Int)]) (.cons (.refl _) (.cons .full (.refl _)))
 have hperm:=pop_perm C os
 have hsort:=pop_sorted C os
 have hcnt:(popS C os).length=cntB C os:=hperm.length_eq
 have hids:findS (mm:Int) C os=((popS C os).map (·.id)).take mm:=by
  rw[find_eq,takM,ltInt_false.2 (by omega)]
  simp
 have hin:∀y∈popS C os,y∈os∧isB y C=true:=fun y hy=>List.mem_filter.1 (hperm.mem_iff.1 hy)
 have hidl:∀ (i:Nat) (s:List UInt8),(findS (mm:Int) C os)[i]? =some s→∃y:Ob,(popS C os)[i]? =some y∧y.id=s:=fun i s h=>by
  rw[hids,List.getElem?_take] at h
  split at h
  ·rw[List.getElem?_map,Option.map_eq_some_iff] at h
   exact h
  ·cases h
 have hlen2:(findS (mm:Int) C os).length=min mm (cntB C os):=by rw[hids,List.length_take,List.length_map,hcnt]
 have hcl2:=cntB_le C os
 have hto:=fun (Q:AExit→St→Prop) hq=>to_loop (C:=C) (Q:=Q) hI hb (show (findS (mm:Int) C os).length≤1000 by omega) hsort (fun y hy=>(hin y hy).1) hidl (fun y hy=>is_true (hmem y (hin y hy).1) hCn hCb (hin y hy).2) hq (findS (mm:Int) C os).length 0 zO .nilsl .nilsl .nilsl .nilsl (Nat.zero_add _) rfl (fun h=>absurd h (Nat.lt_irrefl 0))
 have hlen3:lenN ((findS (mm:Int) C os).map AV.str)=(findS (mm:Int) C os).length:=by rw[lenN_eq,List.length_map]
 have hS:=closed_strs (findS (mm:Int) C os)
 have hCc:=closed_ats C
 have htc:=fun (Q:AExit→St→Prop) hq=>tc_loop (C:=C) (most:=most) (X:=obC x) (Q:=Q) (show os.length≤1000 by omega) hXc his hq os.length 0 (Nat.zero_add _)
 rw[List.take_zero] at htc
 obtain ⟨t,y,q,d,ks⟩:=v
 have gat:=idxT (f:=false) ga
 have gox:=idxO gx
 refine fnK_semV (A:=tlA True (obC x) (.str s::I idx::itF t y q (toBytes d) (itAs ks)) (.ofNat (cntB C os)) (.ofNat os.length) most (os.map obA) (C.map atA) ((allS x).map atA) ((findS (mm:Int) C os).map .str) (obF zO .nilsl .nilsl .nilsl .nilsl)) base0 (aidC_ok aidJ_ok) (fnLs_of (LsOk.at2 rfl tc_at to_at (fun st Q hs=> .seen base0.glob hs.2.1 (htc Q hs.2.2)) (fun st Q hs=> .seen base0.glob hs.2.1 (hto Q hs.2.2)))) hcl rfl ?_
 unfold obA at hall hisT
 unfold obC at hall hisT hXc fo gox⊢
 rw[tl_fn,hlen,hal,hlen3,hk,ha,hm,hlen2]
 refine ⟨hlist,known14_sem,mtF (beqInt_false.2 (by simp only[Int.ofNat_eq_natCast];omega)) ⟨hp1,gox,oblB_of fo ⟨hall,mtF (beqInt_false.2 (by simp only[Int.ofNat_eq_natCast];omega)) ⟨hp2,gat,⟨⟨.closed _ rfl,.closed _ ?_, ?_,.keepP rfl,trivial⟩,.closed _ hXc,trivial⟩, ?_⟩⟩⟩⟩
 ·exact hO
 ·subst hC
  exact .closed _ hCc
 ·refine ⟨trivial,⟨⟨⟨rfl,rfl⟩,⟨rfl,hO⟩,⟨rfl,hCc⟩,⟨rfl,rfl⟩,⟨rfl,rfl⟩,trivial⟩,⟨⟨rfl,rfl⟩,trivial⟩,⟨rfl,hXc⟩,trivial⟩,hp3,hfind,hisT, ?_⟩
  refine mtF ?_ ⟨trivial,⟨⟨⟨rfl,hO⟩,⟨rfl,hCc⟩,⟨rfl,hS⟩,⟨rfl,rfl⟩,trivial⟩,⟨⟨rfl,rfl⟩,trivial⟩,⟨rfl,rfl⟩,trivial⟩,rfl⟩
  by_cases h:mm<cntB C os
  ·rw[if_pos (ltInt_iff.2 (by simp only[Int.ofNat_eq_natCast];omega)),Nat.min_eq_left (by omega),beqInt_iff.2 (show Int.ofNat mm=(mm:Int) from rfl)];rfl
  ·rw[if_neg (fun e=>by have:=ltInt_iff.1 e;simp only[Int.ofNat_eq_natCast] at this;omega),Nat.min_eq_right (by omega),beqInt_iff.2 rfl];rfl
end Go.Proofs.YtjhggnebkfpgcaaGreatDoor
namespace Go.Proofs.YtjhggnebkfpgcaaGreatDoor
open Go Go.RowKit
open Go.Proofs.Abs
theorem rws_of:∀ {ess:List (List AV)},(∀c∈ess,(∃a b d z:Int,c=[.int .i64 a,.int .i64 b,.int .i64 d,.int .i64 z]∧(IntKind.i64.min≤a∧a≤IntKind.i64.max)∧(IntKind.i64.min≤b∧b≤IntKind.i64.max)∧(IntKind.i64.min≤d∧d≤IntKind.i64.max)∧(IntKind.i64.min≤z∧z≤IntKind.i64.max))∧c.length=4)→∃l:List Rw,ess.map mkElem=l.map rwA∧l.length=ess.length
 |[],_=>⟨[],rfl,rfl⟩
 |c::t,h=>by
  obtain ⟨⟨a,b,d,z,rfl,_⟩,_⟩:=h c (by simp)
  obtain ⟨l,e,hl⟩:=rws_of (ess:=t) fun c hc=>h c (by simp[hc])
  refine ⟨⟨a,b,d,z⟩::l, ?_,by simp[hl]⟩
  rw[List.map_cons,e]
  rfl
section
variable {P:Program} {H:Type} {enc:TypeId × Value→H} {w:World} {base:Nat} {spare:Nat→Bool} {held:Bool} {v:Value} {d:DataW H} {ps:List MemPlace} {t e i:TypeId}
theorem open_rws {f0 f1 f2 f3:Field} (ht:P.underlying t=some (.slice e)) (hs:P.underlying e=some (.struct #[f0,f1,f2,f3])) (h0:f0.type=i∧f0.offset=0) (h1:f1.type=i∧f1.offset=1) (h2:f2.type=i∧f2.offset=2) (h3:f3.type=i∧f3.offset=3)
  (he:P.underlying i=some (.int .i64)) (hc:P.cellsOf i=1) (h4:P.cellsOf e=4) (hok:Value.okWide P w .any base t v) (h:DataW.Trod enc P w 0 spare held t v d ps):
  ∃ (l:List Rw),l.length≤9223372036854775807∧Rep w (fun b=>b<w.heap.size) (fun _=>none) (.fsl false (l.map rwA)) v:=by
 rcases open_slice ht (reads_four hs h0 h1 h2 h3 he hc h4) hok h with rfl|⟨ess,hr,hp,hl⟩
 ·exact ⟨[],by simp,Wk.nil.out _ _ _ _ .nilsl⟩
 ·obtain ⟨l,e1,e2⟩:=rws_of hp
  refine ⟨l,by rw[e2];exact hl, ?_⟩
  rw[e1] at hr
  exact hr
end
end Go.Proofs.YtjhggnebkfpgcaaGreatDoor
