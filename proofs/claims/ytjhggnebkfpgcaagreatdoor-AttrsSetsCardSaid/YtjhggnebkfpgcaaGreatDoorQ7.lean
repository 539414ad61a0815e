/- RPlainW, RPlainP, RTwin, RWithW, RWithC. -/
import Derived.Test.YtjhggnebkfpgcaaGreatDoorQ6
import Derived.KernelRfl
namespace Go.Proofs.YtjhggnebkfpgcaaGreatDoor
open Go Go.RowKit
open Go.Proofs.Abs
noncomputable section
def plT (sh r0 r1 r2:Bool):List AV→Option AV
 | [_,.int _ t,_]=>match beqInt t 4325387 with
  |true=>some (.bool sh)
  | false=>match beqInt t 4325451||beqInt t 4325527 with
   |true=>some (.bool r0)
   |false=>match beqInt t 4325452||beqInt t 4325526 with
    |true=>some (.bool r1)
    |false=>some (.bool r2)
 |_=>none
def plAd (c0 c1 c2:List AV) (sh r0 r1 r2 tx:Bool):Aid:=aidJ [(11,7,.res (.fptr c0 0)),(11,14,.res (.fptr c0 0)),(11,22,.res (.fptr c0 0)),(11,30,.res (.fptr c1 0)),(11,37,.res (.fptr c1 0)),(13,7,.res (.fptr c0 0)),(13,15,.res (.fptr c1 0)),(13,23,.res (.fptr c2 0)),(15,2,.res (.fptr c0 0)),(16,2,.res (.fptr c1 0)),(17,2,.res (.fptr c2 0))] [] (manyF [(90,plT sh r0 r1 r2),(117,fun _=>some (.bool tx))]) [] []
abbrev zp1 (D0 K0:List AV) (n0 t0 y0:Int):=[I t0,I y0,I n0,AV.fsl false D0,AV.fsl false K0]
abbrev zp2 (D1 K1:List AV) (n1 t1 y1:Int):=[I t1,I y1,I n1,AV.fsl false D1,AV.fsl false K1]
theorem rp_fn (nm ch st:List UInt8) (ty da:Int) (ma se:Bool) (t y n t0 y0 n0 t1 y1 n1 t2 y2 n2:Int) (D K D0 K0 D1 K1 D2 K2:List AV) (sh r0 r1 r2 tx:Bool) (Q:AV→Prop):fnK Tryz.prog opts0 40 (plAd (itF t0 y0 n0 D0 K0) (itF t1 y1 n1 D1 K1) (itF t2 y2 n2 D2 K2) sh r0 r1 r2 tx) 79 [.agg [.str nm,I ty,.bool ma,.bool se,.str ch,.str st,I da],.agg (itF t y n D K)] [] 0 (fun v _ _=>Q v)=
  (SC 90 [AV.agg [I t,I y,I n,AV.fsl false D,AV.fsl false K],I 4325387,I ty] (AV.bool sh)∧mtB (!sh) (Q (AV.bool false)) (mtB (beqBytes nm [67,114,121,112,116,111,103,114,97,112,104,105,99,32,65,108,103,111,114,105,116,104,109]) (mtB (!ltInt n 1) (Q (AV.bool !ltInt 100 n)) (Q (AV.bool false))) (mtB (beqBytes nm [67,114,121,112,116,111,103,114,97,112,104,105,99,32,76,101,110,103,116,104]) (mtB (!ltInt n 1) (Q (AV.bool !ltInt 100000 n)) (Q (AV.bool false))) (mtB (beqBytes nm [67,114,121,112,116,111,103,114,97,112,104,105,99,32,85,115,97,103,101,32,77,97,115,107]) (mtB (!ltInt n 0) (Q (AV.bool !ltInt 1048575 n)) (Q (AV.bool false))) (mtB (beqBytes nm [76,105,110,107]) (mtB (beqInt (Int.ofNat (lenN K)) 2) (indexAddrA Tryz.prog 35 (AV.fsl false K) (I 0)=some (AV.fptr (zp1 D0 K0 n0 t0 y0) 0)∧SC 90 [AV.agg (zp1 D0 K0 n0 t0 y0),I 4325451,I 5] (AV.bool r0)∧mtB r0 (indexAddrA Tryz.prog 35 (AV.fsl false K) (I 0)=some (AV.fptr (zp1 D0 K0 n0 t0 y0) 0)∧mtB (!ltInt n0 101) (indexAddrA Tryz.prog 35 (AV.fsl false K) (I 0)=some (AV.fptr (zp1 D0 K0 n0 t0 y0) 0)∧mtB (!ltInt 110 n0) (indexAddrA Tryz.prog 35 (AV.fsl false K) (I 1)=some (AV.fptr (zp2 D1 K1 n1 t1 y1) 0)∧SC 90 [AV.agg (zp2 D1 K1 n1 t1 y1),I 4325452,I 7] (AV.bool r1)∧mtB r1 (indexAddrA Tryz.prog 35 (AV.fsl false K) (I 1)=some (AV.fptr (zp2 D1 K1 n1 t1 y1) 0)∧oblB (bytesOf D1).isSome (SC 117 [AV.str (strOf D1)] (AV.bool tx)∧Q (AV.bool tx))) (Q (AV.bool false))) (Q (AV.bool false))) (Q (AV.bool false))) (Q (AV.bool false))) (Q (AV.bool false))) (mtB (beqBytes nm [85,115,97,103,101,32,76,105,109,105,116,115]) (mtB (!beqInt (Int.ofNat (lenN K)) 3) (Q (AV.bool false)) (indexAddrA Tryz.prog 35 (AV.fsl false K) (I 0)=some (AV.fptr (zp1 D0 K0 n0 t0 y0) 0)∧SC 90 [AV.agg (zp1 D0 K0 n0 t0 y0),I 4325527,I 3] (AV.bool r0)∧mtB (!r0) (Q (AV.bool false)) (indexAddrA Tryz.prog 35 (AV.fsl false K) (I 1)=some (AV.fptr (zp2 D1 K1 n1 t1 y1) 0)∧SC 90 [AV.agg (zp2 D1 K1 n1 t1 y1),I 4325526,I 3] (AV.bool r1)∧mtB (!r1) (Q (AV.bool false)) (indexAddrA Tryz.prog 35 (AV.fsl false K) (I 2)=some (AV.fptr [I t2,I y2,I n2,AV.fsl false D2,AV.fsl false K2] 0)∧SC 90 [AV.agg [I t2,I y2,I n2,AV.fsl false D2,AV.fsl false K2],I 4325528,I 5] (AV.bool r2)∧mtB (!r2) (Q (AV.bool false)) (indexAddrA Tryz.prog 35 (AV.fsl false K) (I 0)=some (AV.fptr (zp1 D0 K0 n0 t0 y0) 0)∧indexAddrA Tryz.prog 35 (AV.fsl false K) (I 1)=some (AV.fptr (zp2 D1 K1 n1 t1 y1) 0)∧indexAddrA Tryz.prog 35 (AV.fsl false K) (I 2)=some (AV.fptr [I t2,I y2,I n2,AV.fsl false D2,AV.fsl false K2] 0)∧mtB (!ltInt n0 1) (mtB (!ltInt 1099511627776 n0) (mtB (!ltInt n1 0) (mtB (!ltInt n0 n1) (mtB (beqInt n2 1) (Q (AV.bool true)) (Q (AV.bool (beqInt n2 2)))) (Q (AV.bool false))) (Q (AV.bool false))) (Q (AV.bool false))) (Q (AV.bool false))))))) (mtB (!ltInt da 0) (mtB (!ltInt n (Int.negSucc 1099511627775)) (Q (AV.bool !ltInt 1099511627776 n)) (Q (AV.bool false))) (oblB (bytesOf D).isSome (SC 117 [AV.str (strOf D)] (AV.bool tx)∧Q (AV.bool tx)))))))))):=by kernel_rfl
theorem rt_fn (o:Ob) (M N L C:AV) (s:List UInt8) (Ls:List AV) (Q:AV→Prop):fnK Tryz.prog opts0 40 (aidJ [] [] (manyS [(17,.fsl false Ls)]) [] []) 115 [.agg (obF o M N L C),.str s] [] 0 (fun v _ _=>Q v)=
  (mtB (beqBytes s [67,114,121,112,116,111,103,114,97,112,104,105,99,32,85,115,97,103,101,32,77,97,115,107]) (Q (AV.bool !beqInt o.5 0)) (SC 17 [AV.agg (obF o M N L C),AV.str s] (AV.fsl false Ls)∧Q (AV.bool (ltInt 0 (Int.ofNat (lenN Ls)))))):=by kernel_rfl
theorem rfu_fn (o:Ob) (M:AV) (Ns Ls Cs:List AV) (s:List UInt8) (c:Bool) (Q:AV→Prop):fnK Tryz.prog opts0 40 (aidJ [] [] (manyS [(114,.bool c)]) [] []) 116 [.agg (obF o M (.fsl false Ns) (.fsl false Ls) (.fsl false Cs)),.str s] [] 0 (fun v _ _=>Q v)=
  (mtB (beqBytes s [78,97,109,101]) (Q (AV.bool !ltInt (Int.ofNat (lenN Ns)) 6)) (mtB (beqBytes s [76,105,110,107]) (Q (AV.bool !ltInt (Int.ofNat (lenN Ls)) 8)) (SC 114 [AV.str s] (AV.bool c)∧mtB c (Q (AV.bool !ltInt (Int.ofNat (lenN Cs)) 6)) (Q (AV.bool false))))):=by kernel_rfl
def rwAd (c:List AV) (b:Bool):Aid:=aidJ [(5,6,.res (.fptr c 0))] [] (manyS [(35,.bool b)]) [] []
end
end Go.Proofs.YtjhggnebkfpgcaaGreatDoor
namespace Go.Proofs.YtjhggnebkfpgcaaGreatDoor
set_option maxRecDepth 20000
open Go Go.RowKit
open Go.Proofs.Abs
theorem mT {c:Bool} {T F:Prop} (h:c=true) (t:T):mtB c T F:=mtB_of (fun _=>t) fun e=>by rw[h] at e;cases e
theorem mF {c:Bool} {T F:Prop} (h:c=false) (f:F):mtB c T F:=mtB_of (fun e=>by rw[h] at e;cases e) fun _=>f
def rightP (v:It):Kd→Bool
 | .lim=>shapeI v 4325387 1&&liB (itK v)
 |k=>rightK zO v k
def NameOk (k:Kd):Prop:=∀s,k= .cus s→∀j∈kinds,nameK j≠s
theorem name_no {s:List UInt8} {j:Kd} (h:NameOk (.cus s)) (hj:j∈kinds):beqBytes s (nameK j)=false:=beqBytes_no fun e=>h s rfl j hj e.symm
theorem inB_two (n:Int):inB n 1 2=(match beqInt n 1 with|true=>true|false=>beqInt n 2):=by
 unfold inB
 cases h1:ltInt n 1 with
 |true=>
  have h1:=ltInt_iff.1 h1
  have e1:beqInt n 1=false:=beqInt_false.2 (by omega)
  have e2:beqInt n 2=false:=beqInt_false.2 (by omega)
  rw[e1,e2];rfl
 | false=>
  have h1:=ltInt_false.1 h1
  cases h2:ltInt 2 n with
  |true=>
   have h2:=ltInt_iff.1 h2
   have e1:beqInt n 1=false:=beqInt_false.2 (by omega)
   have e2:beqInt n 2=false:=beqInt_false.2 (by omega)
   rw[e1,e2];rfl
  |false=>
   have h2:=ltInt_false.1 h2
   have:n=1∨n=2:=by omega
   rcases this with rfl|rfl<;>rfl
def z5:List AV:=itF 0 0 0 [] []
theorem closed_rr1 (k:Kd):closedA (rrA k)=true:=rfl
section
variable {t y n:Int} {d:List UInt8} {ks:List It}
theorem rp_num {nm:List UInt8} {ty lo hi:Int} {ch st:List UInt8} {ma se:Bool} {da:Int} (hty:ty≠8) (x:It)
  (hwalk:∀ (t y n:Int) (D K:List AV) (sh:Bool) (Q:AV→Prop),SC 90 [.agg (itF t y n D K),I 4325387,I ty] (.bool sh)→(sh=false→Q (.bool false))→(sh=true→Q (.bool (inB n lo hi)))→fnK Tryz.prog opts0 40 (plAd z5 z5 z5 sh false false false false) 79 [.agg [.str nm,I ty,.bool ma,.bool se,.str ch,.str st,I da],.agg (itF t y n D K)] [] 0 (fun v _ _=>Q v)):
  SC 79 [.agg [.str nm,I ty,.bool ma,.bool se,.str ch,.str st,I da],itA x] (.bool (numB x 4325387 ty lo hi)):=by
 have hs:=is_sem x 4325387 ty
 rw[isI_shape x 4325387 hty] at hs
 unfold numB
 revert hs
 generalize shapeI x 4325387 ty=sh
 obtain ⟨t,y,n,d,ks⟩:=x
 intro hs
 refine fnK_semV (A:=plAd z5 z5 z5 sh false false false false) base0 aidJ_ok (fnLs_of (LsOk.no rfl)) (by simp[closedAll,closed_it,closedA]) rfl ?_
 rw[itA_F] at hs⊢
 exact hwalk _ _ _ _ _ _ _ hs (fun e=>by rw[e];rfl) (fun e=>by rw[e];rfl)
end
theorem in_of {n lo hi:Int} {Q:AV→Prop} (h:Q (.bool (inB n lo hi))):mtB (!ltInt n lo) (Q (.bool (!ltInt hi n))) (Q (.bool false)):=by
 unfold inB at h
 exact mtB_of (fun e=>by rw[e] at h;exact h) fun e=>by rw[e] at h;exact h
theorem rp_alg (x:It):SC 79 [rrA .alg,itA x] (.bool (rightP x .alg)):=by
 refine rp_num (nm:=nameK .alg) (lo:=1) (hi:=100) (by decide) x fun t y n D K sh Q hs h0 h1=> ?_
 unfold z5
 rw[rp_fn]
 exact ⟨hs,mtB_of (fun e=>h0 (by simpa using e)) fun e=>mT rfl (in_of (h1 (by simpa using e)))⟩
theorem rp_len (x:It):SC 79 [rrA .len,itA x] (.bool (rightP x .len)):=by
 refine rp_num (nm:=nameK .len) (lo:=1) (hi:=100000) (by decide) x fun t y n D K sh Q hs h0 h1=> ?_
 unfold z5
 rw[rp_fn]
 exact ⟨hs,mtB_of (fun e=>h0 (by simpa using e)) fun e=>mF rfl (mT rfl (in_of (h1 (by simpa using e))))⟩
theorem rp_mask (x:It):SC 79 [rrA .mask,itA x] (.bool (rightP x .mask)):=by
 refine rp_num (nm:=nameK .mask) (lo:=0) (hi:=1048575) (by decide) x fun t y n D K sh Q hs h0 h1=> ?_
 unfold z5
 rw[rp_fn]
 exact ⟨hs,mtB_of (fun e=>h0 (by simpa using e)) fun e=>mF rfl (mF rfl (mT rfl (in_of (h1 (by simpa using e)))))⟩
theorem rp_dat (x:It) {k:Nat} (hk:setD k=true):SC 79 [rrA (.dat k),itA x] (.bool (rightP x (.dat k))):=by
 have hk4:k=1∨k=2∨k=3∨k=4:=by
  simp only[setD,Bool.and_eq_true,Nat.ble_eq] at hk
  omega
 rcases hk4 with rfl|rfl|rfl|rfl
 all_goals
  refine rp_num (lo:= -1099511627776) (hi:=1099511627776) (by decide) x fun t y n D K sh Q hs h0 h1=> ?_
  unfold z5
  rw[rp_fn]
  exact ⟨hs,mtB_of (fun e=>h0 (by simpa using e)) fun e=>mF rfl (mF rfl (mF rfl (mF rfl (mF rfl (mT rfl (in_of (h1 (by simpa using e))))))))⟩
theorem rp_txt {nm ch st:List UInt8} {ma se:Bool} (x:It) (hx:txI x) (h1:beqBytes nm (nameK .alg)=false) (h2:beqBytes nm (nameK .len)=false) (h3:beqBytes nm (nameK .mask)=false) (h4:beqBytes nm (nameK .lnk)=false) (h5:beqBytes nm (nameK .lim)=false):
  SC 79 [.agg [.str nm,I 7,.bool ma,.bool se,.str ch,.str st,I (-1)],itA x] (.bool (textI x 4325387)):=by
 have hs:=is_sem x 4325387 7
 rw[isI_shape x 4325387 (by decide)] at hs
 have ht:=textr_sem _ (txI_d hx)
 unfold textI
 revert hs ht
 generalize shapeI x 4325387 7=sh
 obtain ⟨t,y,n,d,ks⟩:=x
 intro hs ht
 have hso:=strOf_toBytes d
 refine fnK_semV (A:=plAd z5 z5 z5 sh false false false (txtB d)) base0 aidJ_ok (fnLs_of (LsOk.no rfl)) (by simp[closedAll,closed_it,closedA]) rfl ?_
 rw[itA_F] at hs⊢
 unfold z5
 rw[rp_fn,hso]
 refine ⟨hs,mtB_of (fun e=> ?_) fun e=>mF h1 (mF h2 (mF h3 (mF h4 (mF h5 (mF rfl (oblB_of (by simp) ⟨ht, ?_⟩))))))⟩
 ·rw[Bool.not_eq_true'] at e;rw[e];rfl
 ·rw[Bool.not_eq_false'] at e;rw[e];rfl
theorem rp_lnk (x:It) (hx:txI x):SC 79 [rrA .lnk,itA x] (.bool (rightP x .lnk)):=by
 have hs:=is_sem x 4325387 1
 rw[isI_shape x 4325387 (by decide)] at hs
 simp only[rightP,rightK]
 revert hs
 generalize shapeI x 4325387 1=sh
 obtain ⟨t,y,n,d,ks⟩:=x
 intro hs
 have hln:lenN (itAs ks)=ks.length:=by rw[lenN_eq,its_length]
 rw[itA_F] at hs
 match ks,hx,hln,hs with
 | [a,b],hx,hln,hs=>
  have hb:txI b:=hx.2.2.1
  have ha:=is_sem a 4325451 5
  rw[isI_shape a 4325451 (by decide)] at ha
  have hb2:=is_sem b 4325452 7
  rw[isI_shape b 4325452 (by decide)] at hb2
  have ht:=textr_sem _ (txI_d hb)
  simp only[itK,lkB,numB,textI]
  revert ha hb2 ht
  generalize shapeI a 4325451 5=r0
  generalize shapeI b 4325452 7=r1
  obtain ⟨t0,y0,n0,d0,k0⟩:=a
  obtain ⟨t1,y1,n1,d1,k1⟩:=b
  intro ha hb2 ht
  have hso:=strOf_toBytes d1
  have g0:=idxI (f:=false) (ks:=[.mk t0 y0 n0 d0 k0,.mk t1 y1 n1 d1 k1]) (i:=0) rfl
  have g1:=idxI (f:=false) (ks:=[.mk t0 y0 n0 d0 k0,.mk t1 y1 n1 d1 k1]) (i:=1) rfl
  refine fnK_semV (A:=plAd (itF t0 y0 n0 (toBytes d0) (itAs k0)) (itF t1 y1 n1 (toBytes d1) (itAs k1)) z5 sh r0 r1 false (txtB d1)) base0 aidJ_ok (fnLs_of (LsOk.no rfl)) (by simp[closedAll,closed_it,closedA,rrA,rrC]) rfl ?_
  rw[itA_F] at ha hb2⊢
  unfold z5 rrA rrC
  rw[rp_fn,hso]
  refine ⟨hs,mtB_of (fun e=> ?_) fun e=>mF rfl (mF rfl (mF rfl (mT rfl (mT rfl ⟨g0,ha,mtB_of (fun e1=>⟨g0,mtB_of (fun e2=>⟨g0,mtB_of (fun e3=>⟨g1,hb2,mtB_of (fun e4=>⟨g1,oblB_of (by simp) ⟨ht, ?_⟩⟩) fun e4=> ?_⟩) fun e3=> ?_⟩) fun e2=> ?_⟩) fun e1=> ?_⟩))))⟩
  ·rw[Bool.not_eq_true'] at e;rw[e];rfl
  all_goals
   rw[Bool.not_eq_false'] at e
   simp only[inB,itN,itD] at*
   simp_all
 |[],_,hln,hs=>
  refine fnK_semV (A:=plAd z5 z5 z5 sh false false false false) base0 aidJ_ok (fnLs_of (LsOk.no rfl)) (by simp[closedAll,closed_it,closedA,rrA,rrC]) rfl ?_
  rw[itA_F]
  unfold z5 rrA rrC
  rw[rp_fn]
  refine ⟨hs,mtB_of (fun e=> ?_) fun e=>mF rfl (mF rfl (mF rfl (mT rfl (mF rfl ?_))))⟩
  all_goals simp[itK,lkB]
 |[a],_,hln,hs=>
  refine fnK_semV (A:=plAd z5 z5 z5 sh false false false false) base0 aidJ_ok (fnLs_of (LsOk.no rfl)) (by simp[closedAll,closed_it,closedA,rrA,rrC]) rfl ?_
  rw[itA_F]
  unfold z5 rrA rrC
  rw[rp_fn]
  refine ⟨hs,mtB_of (fun e=> ?_) fun e=>mF rfl (mF rfl (mF rfl (mT rfl (mF rfl ?_))))⟩
  all_goals simp[itK,lkB]
 |a::b::c::r,_,hln,hs=>
  refine fnK_semV (A:=plAd z5 z5 z5 sh false false false false) base0 aidJ_ok (fnLs_of (LsOk.no rfl)) (by simp[closedAll,closed_it,closedA,rrA,rrC]) rfl ?_
  rw[itA_F]
  unfold z5 rrA rrC
  rw[rp_fn,hln]
  have hne:beqInt (Int.ofNat (a::b::c::r).length) 2=false:=beqInt_false.2 (by simp only[List.length_cons,Int.ofNat_eq_natCast];omega)
  refine ⟨hs,mtB_of (fun e=> ?_) fun e=>mF rfl (mF rfl (mF rfl (mT rfl (mF hne ?_))))⟩
  all_goals simp[itK,lkB]
theorem rp_lim (x:It):SC 79 [rrA .lim,itA x] (.bool (rightP x .lim)):=by
 have hs:=is_sem x 4325387 1
 rw[isI_shape x 4325387 (by decide)] at hs
 simp only[rightP]
 revert hs
 generalize shapeI x 4325387 1=sh
 obtain ⟨t,y,n,d,ks⟩:=x
 intro hs
 have hln:lenN (itAs ks)=ks.length:=by rw[lenN_eq,its_length]
 rw[itA_F] at hs
 match ks,hln,hs with
 | [a,b,c],hln,hs=>
  have ha:=is_sem a 4325527 3
  rw[isI_shape a 4325527 (by decide)] at ha
  have hb:=is_sem b 4325526 3
  rw[isI_shape b 4325526 (by decide)] at hb
  have hc:=is_sem c 4325528 5
  rw[isI_shape c 4325528 (by decide)] at hc
  simp only[itK,liB,numB,inB_two]
  revert ha hb hc
  generalize shapeI a 4325527 3=r0
  generalize shapeI b 4325526 3=r1
  generalize shapeI c 4325528 5=r2
  obtain ⟨t0,y0,n0,d0,k0⟩:=a
  obtain ⟨t1,y1,n1,d1,k1⟩:=b
  obtain ⟨t2,y2,n2,d2,k2⟩:=c
  intro ha hb hc
  have g0:=idxI (f:=false) (ks:=[.mk t0 y0 n0 d0 k0,.mk t1 y1 n1 d1 k1,.mk t2 y2 n2 d2 k2]) (i:=0) rfl
  have g1:=idxI (f:=false) (ks:=[.mk t0 y0 n0 d0 k0,.mk t1 y1 n1 d1 k1,.mk t2 y2 n2 d2 k2]) (i:=1) rfl
  have g2:=idxI (f:=false) (ks:=[.mk t0 y0 n0 d0 k0,.mk t1 y1 n1 d1 k1,.mk t2 y2 n2 d2 k2]) (i:=2) rfl
  refine fnK_semV (A:=plAd (itF t0 y0 n0 (toBytes d0) (itAs k0)) (itF t1 y1 n1 (toBytes d1) (itAs k1)) (itF t2 y2 n2 (toBytes d2) (itAs k2)) sh r0 r1 r2 false) base0 aidJ_ok (fnLs_of (LsOk.no rfl)) (by simp[closedAll,closed_it,closedA,rrA,rrC]) rfl ?_
  rw[itA_F] at ha hb hc⊢
  unfold rrA rrC
  rw[rp_fn]
  refine ⟨hs,mtB_of (fun e=> ?_) fun e=>mF rfl (mF rfl (mF rfl (mF rfl (mT rfl (mF rfl ⟨g0,ha,mtB_of (fun e0=> ?_) fun e0=>⟨g1,hb,mtB_of (fun e1=> ?_) fun e1=>⟨g2,hc,mtB_of (fun e2=> ?_) fun e2=>⟨g0,g1,g2,mtB_of (fun e3=>mtB_of (fun e4=>mtB_of (fun e5=>mtB_of (fun e6=>mtB_of (fun e7=> ?_) fun e7=> ?_) fun e6=> ?_) fun e5=> ?_) fun e4=> ?_) fun e3=> ?_⟩⟩⟩⟩)))))⟩
  all_goals
   simp only[inB,itN] at*
   simp_all
 |[],hln,hs=>
  refine fnK_semV (A:=plAd z5 z5 z5 sh false false false false) base0 aidJ_ok (fnLs_of (LsOk.no rfl)) (by simp[closedAll,closed_it,closedA,rrA,rrC]) rfl ?_
  rw[itA_F]
  unfold z5 rrA rrC
  rw[rp_fn]
  refine ⟨hs,mtB_of (fun e=> ?_) fun e=>mF rfl (mF rfl (mF rfl (mF rfl (mT rfl (mT rfl ?_)))))⟩
  all_goals simp[itK,liB]
 |[a],hln,hs=>
  refine fnK_semV (A:=plAd z5 z5 z5 sh false false false false) base0 aidJ_ok (fnLs_of (LsOk.no rfl)) (by simp[closedAll,closed_it,closedA,rrA,rrC]) rfl ?_
  rw[itA_F]
  unfold z5 rrA rrC
  rw[rp_fn]
  refine ⟨hs,mtB_of (fun e=> ?_) fun e=>mF rfl (mF rfl (mF rfl (mF rfl (mT rfl (mT rfl ?_)))))⟩
  all_goals simp[itK,liB]
 |[a,b],hln,hs=>
  refine fnK_semV (A:=plAd z5 z5 z5 sh false false false false) base0 aidJ_ok (fnLs_of (LsOk.no rfl)) (by simp[closedAll,closed_it,closedA,rrA,rrC]) rfl ?_
  rw[itA_F]
  unfold z5 rrA rrC
  rw[rp_fn]
  refine ⟨hs,mtB_of (fun e=> ?_) fun e=>mF rfl (mF rfl (mF rfl (mF rfl (mT rfl (mT rfl ?_)))))⟩
  all_goals simp[itK,liB]
 | a::b::c::g::r,hln,hs=>
  refine fnK_semV (A:=plAd z5 z5 z5 sh false false false false) base0 aidJ_ok (fnLs_of (LsOk.no rfl)) (by simp[closedAll,closed_it,closedA,rrA,rrC]) rfl ?_
  rw[itA_F]
  unfold z5 rrA rrC
  rw[rp_fn,hln]
  have hne:(!beqInt (Int.ofNat (a::b::c::g::r).length) 3)=true:=by
   rw[Bool.not_eq_true',beqInt_false]
   simp only[List.length_cons,Int.ofNat_eq_natCast]
   omega
  refine ⟨hs,mtB_of (fun e=> ?_) fun e=>mF rfl (mF rfl (mF rfl (mF rfl (mT rfl (mT hne ?_)))))⟩
  all_goals simp[itK,liB]
theorem rplain_sem {k:Kd} (hk:setK k=true) (hn:NameOk k) (x:It) (hx:txI x):SC 79 [rrA k,itA x] (.bool (rightP x k)):=by
 cases k with
 |nam=>exact rp_txt x hx rfl rfl rfl rfl rfl
 |alg=>exact rp_alg x
 |len=>exact rp_len x
 |mask=>exact rp_mask x
 |dat k=>exact rp_dat x hk
 |lnk=>exact rp_lnk x hx
 |lim=>exact rp_lim x
 |cus s=>exact rp_txt x hx (name_no hn (by simp[kinds])) (name_no hn (by simp[kinds])) (name_no hn (by simp[kinds])) (name_no hn (by simp[kinds])) (name_no hn (by simp[kinds]))
 |_=>cases hk
noncomputable section
def rvV (i but:Int) (Ls C:List AV):View:=⟨[(2,I but),(6,.bool false),(7,.fsl false Ls),(8,I i)],[(4,.ptr 0 0)],[(0,.cells C,.whole)],1,32⟩
def rvF (b:Bool):View:=⟨[(6,.bool b)],[],[],1,32⟩
@[simp] abbrev zr1 (D K:List AV) (a q t y:Int) (s:List UInt8):=([AV.str s,I a,I t,I y,I q,AV.fsl false D,AV.fsl false K]=[AV.str s,I a,I t,I y,I q,AV.fsl false D,AV.fsl false K]∧closedAll [AV.str s,I a,I t,I y,I q,AV.fsl false D,AV.fsl false K]=true)
@[simp] abbrev zr2 (Ls:List AV):=(AV.fsl false Ls=AV.fsl false Ls∧closedA (AV.fsl false Ls)=true)
@[simp] abbrev zr3:=(AV.bool false=AV.bool false∧true=true)
theorem rv_r (s s':List UInt8) (a t y q a' t' y' q':Int) (D K D' K' Ls:List AV) (i j but:Int) (b c:Bool) (N:Prop) (Q:AExit→St→Prop):wpK Tryz.prog opts0 40 (rwAd (.str s'::I a'::itF t' y' q' D' K') b) (lpCode Tryz.prog 80 4) (rvV i but Ls (.str s::I a::itF t y q D K)).st (roundP 0 [(0,0)] (rvV j but Ls (.str s::I a::itF t y q D K)) N [] (rvF c) Q)=
  (mtB (ltInt i (Int.ofNat (lenN Ls))) (mtB (!beqInt i but) (indexAddrA Tryz.prog 43 (AV.fsl false Ls) (I i)=some (AV.fptr [AV.str s',I a',I t',I y',I q',AV.fsl false D',AV.fsl false K'] 0)∧SC 35 [AV.agg [I t',I y',I q',AV.fsl false D',AV.fsl false K'],AV.agg [I t,I y,I q,AV.fsl false D,AV.fsl false K]] (AV.bool b)∧mtB b ((((AV.bool true=AV.bool c∧closedA (AV.bool c)=true)∧True)∧True∧True)∧Q AExit.ret (rvF c).st) ((((I but=I but∧closedA (I but)=true)∧zr3∧(zr2 Ls)∧(I (wrapA IntKind.i64 (i+1))=I j∧closedA (I j)=true)∧True)∧((some 0=some 0∧0=0)∧True)∧(zr1 D K a q t y s)∧True)∧N)) ((((I but=I but∧closedA (I but)=true)∧zr3∧(zr2 Ls)∧(I (wrapA IntKind.i64 (i+1))=I j∧closedA (I j)=true)∧True)∧((some 0=some 0∧0=0)∧True)∧(zr1 D K a q t y s)∧True)∧N)) ((((AV.bool false=AV.bool c∧closedA (AV.bool c)=true)∧True)∧True∧True)∧Q (AExit.exit 0) (rvF c).st)):=by kernel_rfl
def rvL (r:Bool) (but:Int) (Ls C:List AV):LoopS:=fun st Q=>seesK 0 [(0,1)] (rvV 0 but Ls C) st∧mtB r (Q .ret (rvF true).st) (Q (.exit 0) (rvF false).st)
theorem rv_fn (s:List UInt8) (a t y q but:Int) (D K Ls:List AV) (r:Bool) (o:Ob) (M N L C:AV) (Q:AV→Prop):fnK Tryz.prog opts0 40 (aidJ [] [(4,rvL r but Ls (.str s::I a::itF t y q D K))] (manyS [(17,.fsl false Ls)]) [] []) 80 [.agg (obF o M N L C),.agg (.str s::I a::itF t y q D K),I but] [] 0 (fun v _ _=>Q v)=
  (SC 17 [AV.agg (obF o M N L C),AV.str s] (AV.fsl false Ls)∧(((I but=I but∧closedA (I but)=true)∧zr3∧(zr2 Ls)∧(I 0=I 0∧true=true)∧True)∧((some 1=some 1∧0=0)∧True)∧(zr1 D K a q t y s)∧True)∧mtB r (Q (AV.bool true)) (Q (AV.bool false))):=by kernel_rfl
theorem rv_at:loopsAt (fnCode Tryz.prog 80) 4=[lpCode Tryz.prog 80 4]:=by kernel_rfl
theorem rv_run {n:List UInt8} {l:List It} {s:List UInt8} {a t y q but:Int} {d:List UInt8} {ks:List It} {Q:AExit→St→Prop} (hok:∀x∈l,okI big x) (hb:l.length≤1000):
  ∀i,i≤l.length→(mtB (twiceL (.mk t y q d ks) but (l.drop i) i) (Q .ret (rvF true).st) (Q (.exit 0) (rvF false).st)→
   ALp Tryz.prog opts0.glob 0 (lpCode Tryz.prog 80 4) (rvV (.ofNat i) but ((tellL n l 0).map atA) (.str s::I a::itF t y q (toBytes d) (itAs ks))).st Q):=by
 have hM:=closed_ats (tellL n l 0)
 have hC:closedAll (.str s::I a::itF t y q (toBytes d) (itAs ks))=true:=by
  have:=closed_atA ⟨s,a,.mk t y q d ks⟩
  exact this
 have hlen:lenN ((tellL n l 0).map atA)=l.length:=by rw[lenN_eq,List.length_map,tell_length]
 refine cnt_up _ (fun hq=> ?_) (fun i hi ih hq=> ?_)
 ·rw[List.drop_of_length_le (Nat.le_refl _)] at hq
  refine ALp.round (A:=rwAd (.str []::I 0::itF 0 0 0 [] []) false) (V1:=rvV 0 but ((tellL n l 0).map atA) (.str s::I a::itF t y q (toBytes d) (itAs ks))) (V2:=rvV 0 but ((tellL n l 0).map atA) (.str s::I a::itF t y q (toBytes d) (itAs ks))) (F:=rvF false) (lk:=[(0,0)]) (lk':=[]) base0 aidJ_ok (LsOk.no rfl) .refl ?_
  rw[rv_r,hlen]
  exact mtB_of (fun e=>(ltE e).elim) fun _=>⟨⟨⟨⟨rfl,rfl⟩,trivial⟩,trivial,trivial⟩,hq⟩
 ·have g:=List.getElem?_eq_getElem hi
  have hm:=hok _ (List.getElem_mem hi)
  rw[List.drop_eq_getElem_cons hi,twiceL] at hq
  revert g hm hq
  generalize l[i]=x
  intro hq g hm
  have hs:=same_sem x (.mk t y q d ks) hm
  have k1:=tell_get (s:=n) (i:=0) g
  rw[Nat.zero_add] at k1
  obtain ⟨t',y',q',d',ks'⟩:=x
  have gx:=idAtt (f:=false) k1
  have hw:=wrN (p:=i) (by omega)
  rw[itA_F,itA_F] at hs
  revert hs hq
  generalize sameI (.mk t' y' q' d' ks') (.mk t y q d ks)=b
  intro hq hs
  cases hbb:(!beqInt (.ofNat i) but&&b) with
  |true=>
   rw[hbb] at hq
   rw[Bool.and_eq_true] at hbb
   refine ALp.round (A:=rwAd (.str n::I (.ofNat i)::itF t' y' q' (toBytes d') (itAs ks')) b) (V1:=rvV (.ofNat (i+1)) but ((tellL n l 0).map atA) (.str s::I a::itF t y q (toBytes d) (itAs ks))) (V2:=rvV (.ofNat (i+1)) but ((tellL n l 0).map atA) (.str s::I a::itF t y q (toBytes d) (itAs ks))) (F:=rvF true) (lk:=[(0,0)]) (lk':=[]) base0 aidJ_ok (LsOk.no rfl) .refl ?_
   rw[rv_r,hlen]
   exact mtB_of (fun _=>mT hbb.1 ⟨gx,hs,mT hbb.2 ⟨⟨⟨⟨rfl,rfl⟩,trivial⟩,trivial,trivial⟩,hq⟩⟩) fun e=>absurd e (lt_no hi)
  |false=>
   rw[hbb,Bool.false_or] at hq
   have ih:=ih hq
   refine ALp.round (A:=rwAd (.str n::I (.ofNat i)::itF t' y' q' (toBytes d') (itAs ks')) b) (V1:=rvV (.ofNat (i+1)) but ((tellL n l 0).map atA) (.str s::I a::itF t y q (toBytes d) (itAs ks))) (V2:=rvV (.ofNat (i+1)) but ((tellL n l 0).map atA) (.str s::I a::itF t y q (toBytes d) (itAs ks))) (F:=rvF false) (lk:=[(0,0)]) (lk':=[]) base0 aidJ_ok (LsOk.no rfl) .refl ?_
   rw[rv_r,hlen,hw]
   refine mtB_of (fun _=>mtB_of (fun e1=>⟨gx,hs,mtB_of (fun e2=> ?_) fun _=>⟨⟨⟨⟨rfl,rfl⟩,⟨rfl,rfl⟩,⟨rfl,hM⟩,⟨rfl,rfl⟩,trivial⟩,⟨⟨rfl,rfl⟩,trivial⟩,⟨rfl,hC⟩,trivial⟩,ih⟩⟩) fun _=>⟨⟨⟨⟨rfl,rfl⟩,⟨rfl,rfl⟩,⟨rfl,hM⟩,⟨rfl,rfl⟩,trivial⟩,⟨⟨rfl,rfl⟩,trivial⟩,⟨rfl,hC⟩,trivial⟩,ih⟩) fun e=>absurd e (lt_no hi)
   rw[e1,e2] at hbb;cases hbb
section
variable {o:Ob} {k:Kd} {s:List UInt8}
theorem rtwin_sem (hof:SC 17 [obA o,.str s] (.fsl false ((tellL s (getK o k) 0).map atA))) (hg:OkG o k) (i:Int) (v:It) (but:Int):SC 80 [obA o,atA ⟨s,i,v⟩,I but] (.bool (twiceL v but (getK o k) 0)):=by
 have hok:=hg.i
 have hb:=hg.n
 have hcl:closedAll [obA o,atA ⟨s,i,v⟩,I but]=true:=closed_oc o (by simp[closedAll,closed_atA,closedA])
 revert hof hok hb
 generalize getK o k=l
 intro hof hok hb
 obtain ⟨t,y,q,d,ks⟩:=v
 have hM:=closed_ats (tellL s l 0)
 have hC:closedAll (.str s::I i::itF t y q (toBytes d) (itAs ks))=true:=by
  have:=closed_atA ⟨s,i,.mk t y q d ks⟩
  exact this
 refine fnK_semV (A:=aidJ [] [(4,rvL (twiceL (.mk t y q d ks) but l 0) but ((tellL s l 0).map atA) (.str s::I i::itF t y q (toBytes d) (itAs ks)))] (manyS [(17,.fsl false ((tellL s l 0).map atA))]) [] []) base0 aidJ_ok
  (fnLs_of (LsOk.at1 rfl rv_at fun st Q hs=> .seen base0.glob hs.1 (rv_run hok hb 0 (Nat.zero_le _) (by rw[List.drop_zero];exact hs.2)))) hcl rfl ?_
 unfold obA obC at*
 rw[atA_F,rv_fn]
 refine ⟨hof,⟨⟨⟨rfl,rfl⟩,⟨rfl,rfl⟩,⟨rfl,hM⟩,⟨rfl,rfl⟩,trivial⟩,⟨⟨rfl,rfl⟩,trivial⟩,⟨rfl,hC⟩,trivial⟩,mtB_of (fun e=> ?_) fun e=> ?_⟩
 ·rw[e]
 ·rw[e]
theorem rthere_sem (hof:SC 17 [obA o,.str s] (.fsl false ((tellL s (getK o k) 0).map atA))) (hs:s=nameK k) (hm:manyK k=false) (hk:setK k=true):SC 115 [obA o,.str s] (.bool (ltInt 0 (.ofNat (thereK o k)))):=by
 have hcl:closedAll [obA o,.str s]=true:=closed_oc o rfl
 have hlen:lenN ((tellL s (getK o k) 0).map atA)=(getK o k).length:=by rw[lenN_eq,List.length_map,tell_length]
 refine fnK_semV (A:=aidJ [] [] (manyS [(17,.fsl false ((tellL s (getK o k) 0).map atA))]) [] []) base0 aidJ_ok (fnLs_of (LsOk.no rfl)) hcl rfl ?_
 unfold obA obC at*
 rw[rt_fn,hlen]
 subst hs
 have hone:∀ (b:Bool) (x:It),(typeK k=2→b=true→beqInt (itN x) 0=false)→thereL false (typeK k) (oneL b x)=(oneL b x).length:=fun b x h=>by
  cases b with
  |false=>rfl
  |true=>
   show (match false||(!beqInt (typeK k) 2|| !beqInt (itN x) 0) with|true=>1|false=>0)=1
   cases h2:beqInt (typeK k) 2 with
   |false=>rfl
   |true=>rw[h (beqInt_iff.1 h2) rfl];rfl
 cases k with
 |mask=>
  refine mT rfl ?_
  show _=AV.bool (ltInt 0 (.ofNat (thereL false 2 [numI 2 o.mask])))
  show _=AV.bool (ltInt 0 (.ofNat (match false||(!beqInt 2 2|| !beqInt o.mask 0) with|true=>1|false=>0)))
  cases beqInt o.mask 0<;>rfl
 |alg=>
  refine mF rfl ⟨hof, ?_⟩
  rw[show thereK o .alg=(getK o .alg).length from hone _ _ fun e=>by cases e]
 |len=>
  refine mF rfl ⟨hof, ?_⟩
  rw[show thereK o .len=(getK o .len).length from hone _ _ fun _ e=>by simpa [numI,vlV,itN] using e]
 | dat j=>
  have hk4:j=1∨j=2∨j=3∨j=4:=by
   simp only[setK,setD,Bool.and_eq_true,Nat.ble_eq] at hk
   omega
  have hne:beqBytes (nameK (.dat j)) [67,114,121,112,116,111,103,114,97,112,104,105,99,32,85,115,97,103,101,32,77,97,115,107]=false:=by
   rcases hk4 with rfl|rfl|rfl|rfl<;>rfl
  refine mF hne ⟨hof, ?_⟩
  rw[show thereK o (.dat j)=(getK o (.dat j)).length from hone _ _ fun e=>by cases e]
 |lim=>
  refine mF rfl ⟨hof, ?_⟩
  rw[show thereK o .lim=(getK o .lim).length from hone _ _ fun e=>by cases e]
 |nam=>cases hm
 |lnk=>cases hm
 |cus s=>cases hm
 |_=>cases hk
theorem rfull_sem (hn:NameOk k) (hm:manyK k=true) (hc:∀s,k= .cus s→SC 114 [.str s] (.bool true)):SC 116 [obA o,.str (nameK k)] (.bool (!roomK o k)):=by
 have hcl:closedAll [obA o,.str (nameK k)]=true:=closed_oc o rfl
 have h6:∀n m:Nat,(!ltInt (Int.ofNat n) (Int.ofNat m))= !Nat.blt n m:=fun n m=>by
  cases hb:Nat.blt n m with
  |true=>
   have:=blt_iff.1 hb
   rw[ltInt_iff.2 (by simp only[Int.ofNat_eq_natCast];omega)]
  |false=>
   have:¬n<m:=fun h=>by rw[blt_iff.2 h] at hb;cases hb
   rw[ltInt_false.2 (by simp only[Int.ofNat_eq_natCast];omega)]
 refine fnK_semV (A:=aidJ [] [] (manyS [(114,.bool true)]) [] []) base0 aidJ_ok (fnLs_of (LsOk.no rfl)) hcl rfl ?_
 unfold obA obC namA lnkA cusA
 rw[rfu_fn]
 cases k with
 |nam=>
  refine mT rfl ?_
  have:=h6 o.names.length 6
  rw[lenN_eq,List.length_map]
  exact congrArg AV.bool this
 |lnk=>
  refine mF rfl (mT rfl ?_)
  have:=h6 o.links.length 8
  rw[lenN_eq,List.length_map]
  exact congrArg AV.bool this
 |cus s=>
  refine mF (name_no hn (j:= .nam) (by simp[kinds])) (mF (name_no hn (j:= .lnk) (by simp[kinds])) ⟨hc s rfl,mT rfl ?_⟩)
  have:=h6 o.cust.length 6
  rw[lenN_eq,List.length_map]
  exact congrArg AV.bool this
 |_=>cases hm
end
end
end Go.Proofs.YtjhggnebkfpgcaaGreatDoor
namespace Go.Proofs.YtjhggnebkfpgcaaGreatDoor
open Go Go.RowKit
open Go.Proofs.Abs
noncomputable section
def rwX (l:List (Nat × Nat × Hint)):Aid:=aidJ l [] noSem [] []
theorem rw_alg (o:Ob) (M N L C:AV) (s:List UInt8) (i t y n:Int) (D K:List AV) (Q:AV→Prop):fnK Tryz.prog opts0 40 (rwX []) 81 [.agg (obF o M N L C),rrA .alg,.agg (.str s::I i::itF t y n D K)] [] 0 (fun v _ _=>Q v)=
  (oblB (fitsT Tryz.prog 33 (AV.agg (obF {o with alg:=n} M N L C)) 37) (Q (AV.agg (obF {o with alg:=n} M N L C)))):=by kernel_rfl
theorem rw_len (o:Ob) (M N L C:AV) (s:List UInt8) (i t y n:Int) (D K:List AV) (Q:AV→Prop):fnK Tryz.prog opts0 40 (rwX []) 81 [.agg (obF o M N L C),rrA .len,.agg (.str s::I i::itF t y n D K)] [] 0 (fun v _ _=>Q v)=
  (oblB (fitsT Tryz.prog 33 (AV.agg (obF {o with len:=n} M N L C)) 37) (Q (AV.agg (obF {o with len:=n} M N L C)))):=by kernel_rfl
theorem rw_mask (o:Ob) (M N L C:AV) (s:List UInt8) (i t y n:Int) (D K:List AV) (Q:AV→Prop):fnK Tryz.prog opts0 40 (rwX []) 81 [.agg (obF o M N L C),rrA .mask,.agg (.str s::I i::itF t y n D K)] [] 0 (fun v _ _=>Q v)=
  (oblB (fitsT Tryz.prog 33 (AV.agg (obF {o with mask:=n} M N L C)) 37) (Q (AV.agg (obF {o with mask:=n} M N L C)))):=by kernel_rfl
theorem rw_dat1 (o:Ob) (M N L C:AV) (s:List UInt8) (i t y n:Int) (D K:List AV) (Q:AV→Prop):fnK Tryz.prog opts0 40 (rwX []) 81 [.agg (obF o M N L C),rrA (.dat 1),.agg (.str s::I i::itF t y n D K)] [] 0 (fun v _ _=>Q v)=
  (oblB (fitsT Tryz.prog 33 (AV.agg (obF {o with d1:=⟨true,n⟩} M N L C)) 37) (Q (AV.agg (obF {o with d1:=⟨true,n⟩} M N L C)))):=by kernel_rfl
theorem rw_dat2 (o:Ob) (M N L C:AV) (s:List UInt8) (i t y n:Int) (D K:List AV) (Q:AV→Prop):fnK Tryz.prog opts0 40 (rwX []) 81 [.agg (obF o M N L C),rrA (.dat 2),.agg (.str s::I i::itF t y n D K)] [] 0 (fun v _ _=>Q v)=
  (oblB (fitsT Tryz.prog 33 (AV.agg (obF {o with d2:=⟨true,n⟩} M N L C)) 37) (Q (AV.agg (obF {o with d2:=⟨true,n⟩} M N L C)))):=by kernel_rfl
theorem rw_dat3 (o:Ob) (M N L C:AV) (s:List UInt8) (i t y n:Int) (D K:List AV) (Q:AV→Prop):fnK Tryz.prog opts0 40 (rwX []) 81 [.agg (obF o M N L C),rrA (.dat 3),.agg (.str s::I i::itF t y n D K)] [] 0 (fun v _ _=>Q v)=
  (oblB (fitsT Tryz.prog 33 (AV.agg (obF {o with d3:=⟨true,n⟩} M N L C)) 37) (Q (AV.agg (obF {o with d3:=⟨true,n⟩} M N L C)))):=by kernel_rfl
theorem rw_dat4 (o:Ob) (M N L C:AV) (s:List UInt8) (i t y n:Int) (D K:List AV) (Q:AV→Prop):fnK Tryz.prog opts0 40 (rwX []) 81 [.agg (obF o M N L C),rrA (.dat 4),.agg (.str s::I i::itF t y n D K)] [] 0 (fun v _ _=>Q v)=
  (oblB (fitsT Tryz.prog 33 (AV.agg (obF {o with d4:=⟨true,n⟩} M N L C)) 37) (Q (AV.agg (obF {o with d4:=⟨true,n⟩} M N L C)))):=by kernel_rfl
abbrev zs9 (D0 K0:List AV) (n0 t0 y0:Int):=(AV.fptr [I t0,I y0,I n0,AV.fsl false D0,AV.fsl false K0] 0)
abbrev zs10 (D1 K1:List AV) (n1 t1 y1:Int):=(AV.fptr [I t1,I y1,I n1,AV.fsl false D1,AV.fsl false K1] 0)
theorem rw_lim (o:Ob) (M N L C:AV) (s:List UInt8) (i t y n t0 y0 n0 t1 y1 n1 t2 y2 n2:Int) (D K D0 K0 D1 K1 D2 K2:List AV) (Q:AV→Prop):fnK Tryz.prog opts0 40 (rwX [(30,2,.res (.fptr (itF t0 y0 n0 D0 K0) 0)),(30,7,.res (.fptr (itF t1 y1 n1 D1 K1) 0)),(30,12,.res (.fptr (itF t2 y2 n2 D2 K2) 0))]) 81 [.agg (obF o M N L C),rrA .lim,.agg (.str s::I i::itF t y n D K)] [] 0 (fun v _ _=>Q v)=
  (indexAddrA Tryz.prog 35 (AV.fsl false K) (I 0)=some (zs9 D0 K0 n0 t0 y0)∧indexAddrA Tryz.prog 35 (AV.fsl false K) (I 1)=some (zs10 D1 K1 n1 t1 y1)∧indexAddrA Tryz.prog 35 (AV.fsl false K) (I 2)=some (AV.fptr [I t2,I y2,I n2,AV.fsl false D2,AV.fsl false K2] 0)∧oblB (fitsT Tryz.prog 33 (AV.agg (obF {o with lh:=true,lt:=n0,lc:=n1,lu:=n2} M N L C)) 37) (Q (AV.agg (obF {o with lh:=true,lt:=n0,lc:=n1,lu:=n2} M N L C)))):=by kernel_rfl
abbrev zs2:=(1,some (Blk.cells [AV.str [78,97,109,101],I 7,AV.bool true,AV.bool true,AV.str [65,77,68],AV.str [],I (Int.negSucc 0)]))
abbrev zs3 (D K:List AV) (n t y:Int):=(6,some (Blk.cells [I t,I y,I n,AV.fsl false D,AV.fsl false K]))
theorem rw_nam0 (o:Ob) (M L C:AV) (s x:List UInt8) (t y n:Int) (D K:List AV) (Q:AV→Heap→Prop):fnK Tryz.prog opts0 40 (rwX [(17,6,.res (.str x))]) 81 [.agg (obF o M (.fsl false []) L C),rrA .nam,.agg (.str s::I 0::itF t y n D K)] [] 0 (fun v H _=>Q v H)=
  (convA Tryz.prog 23 9 (AV.fsl false D)=some (Eff.val (AV.str x))∧oblB (fitsT Tryz.prog 33 (AV.agg (obF o M (AV.rsl true 27 0 1 1) L C)) 37) (Q (AV.agg (obF o M (AV.rsl true 27 0 1 1) L C)) [(27,some (Blk.cells [AV.str x])),(zs3 D K n t y),(3,some (Blk.cells (obF o M (AV.rsl true 27 0 1 1) L C))),(2,some (Blk.cells [AV.str s,I 0,I t,I y,I n,AV.fsl false D,AV.fsl false K])),zs2,(0,some (Blk.cells (obF o M (AV.rsl true 27 0 1 1) L C)))])):=by kernel_rfl
abbrev zs17 (a:List UInt8):=(AV.rsl true 27 0 (0+lenN [AV.str a]+1) 1)
theorem rw_nam1 (o:Ob) (M L C:AV) (a:List UInt8) (s x:List UInt8) (t y n:Int) (D K:List AV) (Q:AV→Heap→Prop):fnK Tryz.prog opts0 40 (rwX [(17,6,.res (.str x))]) 81 [.agg (obF o M (.fsl false [.str a]) L C),rrA .nam,.agg (.str s::I 1::itF t y n D K)] [] 0 (fun v H _=>Q v H)=
  (convA Tryz.prog 23 9 (AV.fsl false D)=some (Eff.val (AV.str x))∧oblB (fitsT Tryz.prog 33 (AV.agg (obF o M (zs17 a) L C)) 37) (Q (AV.agg (obF o M (zs17 a) L C)) [(27,some (Blk.cells [AV.str a,AV.str x])),(15,none),(zs3 D K n t y),(3,some (Blk.cells (obF o M (zs17 a) L C))),(2,some (Blk.cells [AV.str s,I 1,I t,I y,I n,AV.fsl false D,AV.fsl false K])),zs2,(0,some (Blk.cells (obF o M (zs17 a) L C)))])):=by kernel_rfl
abbrev zs16 (a b:List UInt8):=(AV.rsl true 27 0 (0+lenN [AV.str a,AV.str b]+1) 1)
theorem rw_nam2 (o:Ob) (M L C:AV) (a b:List UInt8) (s x:List UInt8) (t y n:Int) (D K:List AV) (Q:AV→Heap→Prop):fnK Tryz.prog opts0 40 (rwX [(17,6,.res (.str x))]) 81 [.agg (obF o M (.fsl false [.str a,.str b]) L C),rrA .nam,.agg (.str s::I 2::itF t y n D K)] [] 0 (fun v H _=>Q v H)=
  (convA Tryz.prog 23 9 (AV.fsl false D)=some (Eff.val (AV.str x))∧oblB (fitsT Tryz.prog 33 (AV.agg (obF o M (zs16 a b) L C)) 37) (Q (AV.agg (obF o M (zs16 a b) L C)) [(27,some (Blk.cells [AV.str a,AV.str b,AV.str x])),(15,none),(zs3 D K n t y),(3,some (Blk.cells (obF o M (zs16 a b) L C))),(2,some (Blk.cells [AV.str s,I 2,I t,I y,I n,AV.fsl false D,AV.fsl false K])),zs2,(0,some (Blk.cells (obF o M (zs16 a b) L C)))])):=by kernel_rfl
abbrev zs15 (a b c:List UInt8):=(AV.rsl true 27 0 (0+lenN [AV.str a,AV.str b,AV.str c]+1) 1)
theorem rw_nam3 (o:Ob) (M L C:AV) (a b c:List UInt8) (s x:List UInt8) (t y n:Int) (D K:List AV) (Q:AV→Heap→Prop):fnK Tryz.prog opts0 40 (rwX [(17,6,.res (.str x))]) 81 [.agg (obF o M (.fsl false [.str a,.str b,.str c]) L C),rrA .nam,.agg (.str s::I 3::itF t y n D K)] [] 0 (fun v H _=>Q v H)=
  (convA Tryz.prog 23 9 (AV.fsl false D)=some (Eff.val (AV.str x))∧oblB (fitsT Tryz.prog 33 (AV.agg (obF o M (zs15 a b c) L C)) 37) (Q (AV.agg (obF o M (zs15 a b c) L C)) [(27,some (Blk.cells [AV.str a,AV.str b,AV.str c,AV.str x])),(15,none),(zs3 D K n t y),(3,some (Blk.cells (obF o M (zs15 a b c) L C))),(2,some (Blk.cells [AV.str s,I 3,I t,I y,I n,AV.fsl false D,AV.fsl false K])),zs2,(0,some (Blk.cells (obF o M (zs15 a b c) L C)))])):=by kernel_rfl
abbrev zs14 (a b c d:List UInt8):=(AV.rsl true 27 0 (0+lenN [AV.str a,AV.str b,AV.str c,AV.str d]+1) 1)
theorem rw_nam4 (o:Ob) (M L C:AV) (a b c d:List UInt8) (s x:List UInt8) (t y n:Int) (D K:List AV) (Q:AV→Heap→Prop):fnK Tryz.prog opts0 40 (rwX [(17,6,.res (.str x))]) 81 [.agg (obF o M (.fsl false [.str a,.str b,.str c,.str d]) L C),rrA .nam,.agg (.str s::I 4::itF t y n D K)] [] 0 (fun v H _=>Q v H)=
  (convA Tryz.prog 23 9 (AV.fsl false D)=some (Eff.val (AV.str x))∧oblB (fitsT Tryz.prog 33 (AV.agg (obF o M (zs14 a b c d) L C)) 37) (Q (AV.agg (obF o M (zs14 a b c d) L C)) [(27,some (Blk.cells [AV.str a,AV.str b,AV.str c,AV.str d,AV.str x])),(15,none),(zs3 D K n t y),(3,some (Blk.cells (obF o M (zs14 a b c d) L C))),(2,some (Blk.cells [AV.str s,I 4,I t,I y,I n,AV.fsl false D,AV.fsl false K])),zs2,(0,some (Blk.cells (obF o M (zs14 a b c d) L C)))])):=by kernel_rfl
abbrev zs12 (a b c d e:List UInt8):=(AV.rsl true 27 0 (0+lenN [AV.str a,AV.str b,AV.str c,AV.str d,AV.str e]+1) 1)
theorem rw_nam5 (o:Ob) (M L C:AV) (a b c d e:List UInt8) (s x:List UInt8) (t y n:Int) (D K:List AV) (Q:AV→Heap→Prop):fnK Tryz.prog opts0 40 (rwX [(17,6,.res (.str x))]) 81 [.agg (obF o M (.fsl false [.str a,.str b,.str c,.str d,.str e]) L C),rrA .nam,.agg (.str s::I 5::itF t y n D K)] [] 0 (fun v H _=>Q v H)=
  (convA Tryz.prog 23 9 (AV.fsl false D)=some (Eff.val (AV.str x))∧oblB (fitsT Tryz.prog 33 (AV.agg (obF o M (zs12 a b c d e) L C)) 37) (Q (AV.agg (obF o M (zs12 a b c d e) L C)) [(27,some (Blk.cells [AV.str a,AV.str b,AV.str c,AV.str d,AV.str e,AV.str x])),(15,none),(zs3 D K n t y),(3,some (Blk.cells (obF o M (zs12 a b c d e) L C))),(2,some (Blk.cells [AV.str s,I 5,I t,I y,I n,AV.fsl false D,AV.fsl false K])),zs2,(0,some (Blk.cells (obF o M (zs12 a b c d e) L C)))])):=by kernel_rfl
abbrev zs1:=(1,some (Blk.cells [AV.str [76,105,110,107],I 1,AV.bool true,AV.bool true,AV.str [65,77,68],AV.str [],I (Int.negSucc 0)]))
theorem rw_lnk0 (o:Ob) (M N C:AV) (s x:List UInt8) (t y n t0 y0 n0 t1 y1 n1:Int) (D K D0 K0 D1 K1:List AV) (Q:AV→Heap→Prop):fnK Tryz.prog opts0 40 (rwX [(28,6,.res (.fptr (itF t0 y0 n0 D0 K0) 0)),(28,11,.res (.fptr (itF t1 y1 n1 D1 K1) 0)),(28,14,.res (.str x))]) 81 [.agg (obF o M N (.fsl false []) C),rrA .lnk,.agg (.str s::I 0::itF t y n D K)] [] 0 (fun v H _=>Q v H)=
  (indexAddrA Tryz.prog 35 (AV.fsl false K) (I 0)=some (zs9 D0 K0 n0 t0 y0)∧indexAddrA Tryz.prog 35 (AV.fsl false K) (I 1)=some (zs10 D1 K1 n1 t1 y1)∧convA Tryz.prog 23 9 (AV.fsl false D1)=some (Eff.val (AV.str x))∧oblB (fitsT Tryz.prog 33 (AV.agg (obF o M N (AV.rsl true 44 0 1 2) C)) 37) (Q (AV.agg (obF o M N (AV.rsl true 44 0 1 2) C)) [(44,some (Blk.cells [I n0,AV.str x])),(zs3 D K n t y),(3,some (Blk.cells (obF o M N (AV.rsl true 44 0 1 2) C))),(2,some (Blk.cells [AV.str s,I 0,I t,I y,I n,AV.fsl false D,AV.fsl false K])),zs1,(0,some (Blk.cells (obF o M N (AV.rsl true 44 0 1 2) C)))])):=by kernel_rfl
abbrev zs13 (a:Lk):=(AV.rsl true 44 0 (0+lenN [AV.agg [I a.1,AV.str a.2]]+1) 2)
theorem rw_lnk1 (o:Ob) (M N C:AV) (a:Lk) (s x:List UInt8) (t y n t0 y0 n0 t1 y1 n1:Int) (D K D0 K0 D1 K1:List AV) (Q:AV→Heap→Prop):fnK Tryz.prog opts0 40 (rwX [(28,6,.res (.fptr (itF t0 y0 n0 D0 K0) 0)),(28,11,.res (.fptr (itF t1 y1 n1 D1 K1) 0)),(28,14,.res (.str x))]) 81 [.agg (obF o M N (.fsl false [lkA a]) C),rrA .lnk,.agg (.str s::I 1::itF t y n D K)] [] 0 (fun v H _=>Q v H)=
  (indexAddrA Tryz.prog 35 (AV.fsl false K) (I 0)=some (zs9 D0 K0 n0 t0 y0)∧indexAddrA Tryz.prog 35 (AV.fsl false K) (I 1)=some (zs10 D1 K1 n1 t1 y1)∧convA Tryz.prog 23 9 (AV.fsl false D1)=some (Eff.val (AV.str x))∧oblB (fitsT Tryz.prog 33 (AV.agg (obF o M N (zs13 a) C)) 37) (Q (AV.agg (obF o M N (zs13 a) C)) [(44,some (Blk.cells [I a.1,AV.str a.2,I n0,AV.str x])),(31,none),(zs3 D K n t y),(3,some (Blk.cells (obF o M N (zs13 a) C))),(2,some (Blk.cells [AV.str s,I 1,I t,I y,I n,AV.fsl false D,AV.fsl false K])),zs1,(0,some (Blk.cells (obF o M N (zs13 a) C)))])):=by kernel_rfl
abbrev zs11 (a b:Lk):=(AV.rsl true 44 0 (0+lenN [AV.agg [I a.1,AV.str a.2],AV.agg [I b.1,AV.str b.2]]+1) 2)
theorem rw_lnk2 (o:Ob) (M N C:AV) (a b:Lk) (s x:List UInt8) (t y n t0 y0 n0 t1 y1 n1:Int) (D K D0 K0 D1 K1:List AV) (Q:AV→Heap→Prop):fnK Tryz.prog opts0 40 (rwX [(28,6,.res (.fptr (itF t0 y0 n0 D0 K0) 0)),(28,11,.res (.fptr (itF t1 y1 n1 D1 K1) 0)),(28,14,.res (.str x))]) 81 [.agg (obF o M N (.fsl false [lkA a,lkA b]) C),rrA .lnk,.agg (.str s::I 2::itF t y n D K)] [] 0 (fun v H _=>Q v H)=
  (indexAddrA Tryz.prog 35 (AV.fsl false K) (I 0)=some (zs9 D0 K0 n0 t0 y0)∧indexAddrA Tryz.prog 35 (AV.fsl false K) (I 1)=some (zs10 D1 K1 n1 t1 y1)∧convA Tryz.prog 23 9 (AV.fsl false D1)=some (Eff.val (AV.str x))∧oblB (fitsT Tryz.prog 33 (AV.agg (obF o M N (zs11 a b) C)) 37) (Q (AV.agg (obF o M N (zs11 a b) C)) [(44,some (Blk.cells [I a.1,AV.str a.2,I b.1,AV.str b.2,I n0,AV.str x])),(31,none),(zs3 D K n t y),(3,some (Blk.cells (obF o M N (zs11 a b) C))),(2,some (Blk.cells [AV.str s,I 2,I t,I y,I n,AV.fsl false D,AV.fsl false K])),zs1,(0,some (Blk.cells (obF o M N (zs11 a b) C)))])):=by kernel_rfl
abbrev zs8 (a b c:Lk):=(AV.rsl true 44 0 (0+lenN [AV.agg [I a.1,AV.str a.2],AV.agg [I b.1,AV.str b.2],AV.agg [I c.1,AV.str c.2]]+1) 2)
theorem rw_lnk3 (o:Ob) (M N C:AV) (a b c:Lk) (s x:List UInt8) (t y n t0 y0 n0 t1 y1 n1:Int) (D K D0 K0 D1 K1:List AV) (Q:AV→Heap→Prop):fnK Tryz.prog opts0 40 (rwX [(28,6,.res (.fptr (itF t0 y0 n0 D0 K0) 0)),(28,11,.res (.fptr (itF t1 y1 n1 D1 K1) 0)),(28,14,.res (.str x))]) 81 [.agg (obF o M N (.fsl false [lkA a,lkA b,lkA c]) C),rrA .lnk,.agg (.str s::I 3::itF t y n D K)] [] 0 (fun v H _=>Q v H)=
  (indexAddrA Tryz.prog 35 (AV.fsl false K) (I 0)=some (zs9 D0 K0 n0 t0 y0)∧indexAddrA Tryz.prog 35 (AV.fsl false K) (I 1)=some (zs10 D1 K1 n1 t1 y1)∧convA Tryz.prog 23 9 (AV.fsl false D1)=some (Eff.val (AV.str x))∧oblB (fitsT Tryz.prog 33 (AV.agg (obF o M N (zs8 a b c) C)) 37) (Q (AV.agg (obF o M N (zs8 a b c) C)) [(44,some (Blk.cells [I a.1,AV.str a.2,I b.1,AV.str b.2,I c.1,AV.str c.2,I n0,AV.str x])),(31,none),(zs3 D K n t y),(3,some (Blk.cells (obF o M N (zs8 a b c) C))),(2,some (Blk.cells [AV.str s,I 3,I t,I y,I n,AV.fsl false D,AV.fsl false K])),zs1,(0,some (Blk.cells (obF o M N (zs8 a b c) C)))])):=by kernel_rfl
abbrev zs7 (a b c d:Lk):=(AV.rsl true 44 0 (0+lenN [AV.agg [I a.1,AV.str a.2],AV.agg [I b.1,AV.str b.2],AV.agg [I c.1,AV.str c.2],AV.agg [I d.1,AV.str d.2]]+1) 2)
theorem rw_lnk4 (o:Ob) (M N C:AV) (a b c d:Lk) (s x:List UInt8) (t y n t0 y0 n0 t1 y1 n1:Int) (D K D0 K0 D1 K1:List AV) (Q:AV→Heap→Prop):fnK Tryz.prog opts0 40 (rwX [(28,6,.res (.fptr (itF t0 y0 n0 D0 K0) 0)),(28,11,.res (.fptr (itF t1 y1 n1 D1 K1) 0)),(28,14,.res (.str x))]) 81 [.agg (obF o M N (.fsl false [lkA a,lkA b,lkA c,lkA d]) C),rrA .lnk,.agg (.str s::I 4::itF t y n D K)] [] 0 (fun v H _=>Q v H)=
  (indexAddrA Tryz.prog 35 (AV.fsl false K) (I 0)=some (zs9 D0 K0 n0 t0 y0)∧indexAddrA Tryz.prog 35 (AV.fsl false K) (I 1)=some (zs10 D1 K1 n1 t1 y1)∧convA Tryz.prog 23 9 (AV.fsl false D1)=some (Eff.val (AV.str x))∧oblB (fitsT Tryz.prog 33 (AV.agg (obF o M N (zs7 a b c d) C)) 37) (Q (AV.agg (obF o M N (zs7 a b c d) C)) [(44,some (Blk.cells [I a.1,AV.str a.2,I b.1,AV.str b.2,I c.1,AV.str c.2,I d.1,AV.str d.2,I n0,AV.str x])),(31,none),(zs3 D K n t y),(3,some (Blk.cells (obF o M N (zs7 a b c d) C))),(2,some (Blk.cells [AV.str s,I 4,I t,I y,I n,AV.fsl false D,AV.fsl false K])),zs1,(0,some (Blk.cells (obF o M N (zs7 a b c d) C)))])):=by kernel_rfl
abbrev zs6 (a b c d e:Lk):=(AV.rsl true 44 0 (0+lenN [AV.agg [I a.1,AV.str a.2],AV.agg [I b.1,AV.str b.2],AV.agg [I c.1,AV.str c.2],AV.agg [I d.1,AV.str d.2],AV.agg [I e.1,AV.str e.2]]+1) 2)
theorem rw_lnk5 (o:Ob) (M N C:AV) (a b c d e:Lk) (s x:List UInt8) (t y n t0 y0 n0 t1 y1 n1:Int) (D K D0 K0 D1 K1:List AV) (Q:AV→Heap→Prop):fnK Tryz.prog opts0 40 (rwX [(28,6,.res (.fptr (itF t0 y0 n0 D0 K0) 0)),(28,11,.res (.fptr (itF t1 y1 n1 D1 K1) 0)),(28,14,.res (.str x))]) 81 [.agg (obF o M N (.fsl false [lkA a,lkA b,lkA c,lkA d,lkA e]) C),rrA .lnk,.agg (.str s::I 5::itF t y n D K)] [] 0 (fun v H _=>Q v H)=
  (indexAddrA Tryz.prog 35 (AV.fsl false K) (I 0)=some (zs9 D0 K0 n0 t0 y0)∧indexAddrA Tryz.prog 35 (AV.fsl false K) (I 1)=some (zs10 D1 K1 n1 t1 y1)∧convA Tryz.prog 23 9 (AV.fsl false D1)=some (Eff.val (AV.str x))∧oblB (fitsT Tryz.prog 33 (AV.agg (obF o M N (zs6 a b c d e) C)) 37) (Q (AV.agg (obF o M N (zs6 a b c d e) C)) [(44,some (Blk.cells [I a.1,AV.str a.2,I b.1,AV.str b.2,I c.1,AV.str c.2,I d.1,AV.str d.2,I e.1,AV.str e.2,I n0,AV.str x])),(31,none),(zs3 D K n t y),(3,some (Blk.cells (obF o M N (zs6 a b c d e) C))),(2,some (Blk.cells [AV.str s,I 5,I t,I y,I n,AV.fsl false D,AV.fsl false K])),zs1,(0,some (Blk.cells (obF o M N (zs6 a b c d e) C)))])):=by kernel_rfl
abbrev zs5 (a b c d e f:Lk):=(AV.rsl true 44 0 (0+lenN [AV.agg [I a.1,AV.str a.2],AV.agg [I b.1,AV.str b.2],AV.agg [I c.1,AV.str c.2],AV.agg [I d.1,AV.str d.2],AV.agg [I e.1,AV.str e.2],AV.agg [I f.1,AV.str f.2]]+1) 2)
theorem rw_lnk6 (o:Ob) (M N C:AV) (a b c d e f:Lk) (s x:List UInt8) (t y n t0 y0 n0 t1 y1 n1:Int) (D K D0 K0 D1 K1:List AV) (Q:AV→Heap→Prop):fnK Tryz.prog opts0 40 (rwX [(28,6,.res (.fptr (itF t0 y0 n0 D0 K0) 0)),(28,11,.res (.fptr (itF t1 y1 n1 D1 K1) 0)),(28,14,.res (.str x))]) 81 [.agg (obF o M N (.fsl false [lkA a,lkA b,lkA c,lkA d,lkA e,lkA f]) C),rrA .lnk,.agg (.str s::I 6::itF t y n D K)] [] 0 (fun v H _=>Q v H)=
  (indexAddrA Tryz.prog 35 (AV.fsl false K) (I 0)=some (zs9 D0 K0 n0 t0 y0)∧indexAddrA Tryz.prog 35 (AV.fsl false K) (I 1)=some (zs10 D1 K1 n1 t1 y1)∧convA Tryz.prog 23 9 (AV.fsl false D1)=some (Eff.val (AV.str x))∧oblB (fitsT Tryz.prog 33 (AV.agg (obF o M N (zs5 a b c d e f) C)) 37) (Q (AV.agg (obF o M N (zs5 a b c d e f) C)) [(44,some (Blk.cells [I a.1,AV.str a.2,I b.1,AV.str b.2,I c.1,AV.str c.2,I d.1,AV.str d.2,I e.1,AV.str e.2,I f.1,AV.str f.2,I n0,AV.str x])),(31,none),(zs3 D K n t y),(3,some (Blk.cells (obF o M N (zs5 a b c d e f) C))),(2,some (Blk.cells [AV.str s,I 6,I t,I y,I n,AV.fsl false D,AV.fsl false K])),zs1,(0,some (Blk.cells (obF o M N (zs5 a b c d e f) C)))])):=by kernel_rfl
abbrev zs4 (a b c d e f g:Lk):=(AV.rsl true 44 0 (0+lenN [AV.agg [I a.1,AV.str a.2],AV.agg [I b.1,AV.str b.2],AV.agg [I c.1,AV.str c.2],AV.agg [I d.1,AV.str d.2],AV.agg [I e.1,AV.str e.2],AV.agg [I f.1,AV.str f.2],AV.agg [I g.1,AV.str g.2]]+1) 2)
theorem rw_lnk7 (o:Ob) (M N C:AV) (a b c d e f g:Lk) (s x:List UInt8) (t y n t0 y0 n0 t1 y1 n1:Int) (D K D0 K0 D1 K1:List AV) (Q:AV→Heap→Prop):fnK Tryz.prog opts0 40 (rwX [(28,6,.res (.fptr (itF t0 y0 n0 D0 K0) 0)),(28,11,.res (.fptr (itF t1 y1 n1 D1 K1) 0)),(28,14,.res (.str x))]) 81 [.agg (obF o M N (.fsl false [lkA a,lkA b,lkA c,lkA d,lkA e,lkA f,lkA g]) C),rrA .lnk,.agg (.str s::I 7::itF t y n D K)] [] 0 (fun v H _=>Q v H)=
  (indexAddrA Tryz.prog 35 (AV.fsl false K) (I 0)=some (zs9 D0 K0 n0 t0 y0)∧indexAddrA Tryz.prog 35 (AV.fsl false K) (I 1)=some (zs10 D1 K1 n1 t1 y1)∧convA Tryz.prog 23 9 (AV.fsl false D1)=some (Eff.val (AV.str x))∧oblB (fitsT Tryz.prog 33 (AV.agg (obF o M N (zs4 a b c d e f g) C)) 37) (Q (AV.agg (obF o M N (zs4 a b c d e f g) C)) [(44,some (Blk.cells [I a.1,AV.str a.2,I b.1,AV.str b.2,I c.1,AV.str c.2,I d.1,AV.str d.2,I e.1,AV.str e.2,I f.1,AV.str f.2,I g.1,AV.str g.2,I n0,AV.str x])),(31,none),(zs3 D K n t y),(3,some (Blk.cells (obF o M N (zs4 a b c d e f g) C))),(2,some (Blk.cells [AV.str s,I 7,I t,I y,I n,AV.fsl false D,AV.fsl false K])),zs1,(0,some (Blk.cells (obF o M N (zs4 a b c d e f g) C)))])):=by kernel_rfl
end
noncomputable section
def zOb:List AV:=[.str [],I 0,I 0,I 0,I 0,.nilsl,I 0,.bool false,I 0,.bool false,I 0,.bool false,I 0,.bool false,I 0,.bool false,I 0,.bool false,I 0,.bool false,I 0,.bool false,I 0,.bool false,I 0,.bool false,I 0,I 0,.str [],.nilsl,.nilsl,.nilsl,.bool false,I 0,I 0,I 0,.bool false]
def wxV (c i:Int) (_m:Nat) (O es R A T:List AV):View:=⟨[(8,I c),(9,I i)],[(3,.ptr 0 0),(4,.ptr 2 0),(5,.ptr 3 0),(6,.ptr 5 0),(7,.ptr 4 0)],[(0,.cells O,.rel),(1,.cells es,.whole),(2,.cells R,.whole),(3,.cells A,.whole),(4,.cells T,.whole),(5,.cells zOb,.whole)],6,179⟩
def wyV (c i:Int) (O R A T:List AV):View:=⟨[(8,I c),(9,I i)],[(3,.ptr 0 0),(4,.ptr 1 0),(5,.ptr 2 0),(6,.ptr 4 0),(7,.ptr 3 0)],[(0,.cells O,.rel),(1,.cells R,.whole),(2,.cells A,.whole),(3,.cells T,.whole),(4,.cells zOb,.whole)],5,179⟩
abbrev zt1 (s:List UInt8):=[AV.str s,I 7,AV.bool true,AV.bool true,AV.str [65,77,68],AV.str [],I (Int.negSucc 0)]
abbrev zt17 (D K:List AV) (ix n t y:Int) (s':List UInt8):=[AV.str s',I ix,I t,I y,I n,AV.fsl false D,AV.fsl false K]
@[simp] abbrev zt2 (D K:List AV) (ix n t y:Int) (s':List UInt8):=((zt17 D K ix n t y s')=(zt17 D K ix n t y s')∧closedAll (zt17 D K ix n t y s')=true)
abbrev zt19 (D K:List AV) (n t y:Int):=[I t,I y,I n,AV.fsl false D,AV.fsl false K]
@[simp] abbrev zt3 (D K:List AV) (n t y:Int):=((zt19 D K n t y)=(zt19 D K n t y)∧closedAll (zt19 D K n t y)=true)
@[simp] abbrev zt12 (s:List UInt8):=((zt1 s)=(zt1 s)∧closedAll (zt1 s)=true)
@[simp] abbrev zt15:=((some 0=some 0∧0=0)∧(some 2=some 2∧0=0)∧(some 3=some 3∧0=0)∧(some 5=some 5∧0=0)∧(some 4=some 4∧0=0)∧True)
@[simp] abbrev zt8 (D K es:List AV) (L M N:AV) (Q:AExit→St→Prop) (c i ix n t y:Int) (m:Nat) (o:Ob) (s s':List UInt8):=((((I c=I c∧closedA (I c)=true)∧(I i=I i∧closedA (I i)=true)∧True)∧zt15∧RenR [(0,0),(1,1),(2,2),(3,3),(4,4),(5,5)] (obF o M N L (AV.rsl true 1 0 m 2)) (obF o M N L (AV.rsl true 1 0 m 2))∧(es=es∧closedAll es=true)∧(zt12 s)∧(zt2 D K ix n t y s')∧(zt3 D K n t y)∧(zL=zL∧true=true)∧True)∧Q (AExit.exit 1) (wxV c i m (obF o M N L (AV.rsl true 1 0 m 2)) es (rrC (Kd.cus s)) (AV.str s'::I ix::itF t y n D K) (itF t y n D K)).st)
abbrev zt20 (D K:List AV) (ix n t y:Int) (s':List UInt8):=(.str s'::I ix::itF t y n D K)
theorem wx_n (o:Ob) (M N L:AV) (s s' x:List UInt8) (ix t y n c _c' i j:Int) (D K es O:List AV) (m:Nat) (Nx:Prop) (Q:AExit→St→Prop):wpK Tryz.prog opts0 40 (rwX [(7,5,.ld (.str x)),(7,8,.res (.bool false))]) (lpCode Tryz.prog 81 6) (wxV c i m (obF o M N L (.rsl true 1 0 m 2)) es (rrC (.cus s)) (zt20 D K ix n t y s') (itF t y n D K)).st (roundP 0 [(0,0),(1,1),(2,2),(3,3),(4,4),(5,5)] (wxV c j m O es (rrC (.cus s)) (zt20 D K ix n t y s') (itF t y n D K)) Nx [(0,0),(1,1),(2,2),(3,3),(4,4),(5,5)] (wxV c i m (obF o M N L (.rsl true 1 0 m 2)) es (rrC (.cus s)) (zt20 D K ix n t y s') (itF t y n D K)) Q)=
  (mtB (ltInt i (Int.ofNat m)) (oblB (nonneg i&&(i.toNat.blt m&&true)) (partA Tryz.prog 9 es (0+i.toNat*2+0)=some (AV.str x)∧binA Tryz.prog BinOp.eql 9 (Operand.tmp 29) (Operand.tmp 31) (AV.str x) (AV.str s)=some (AV.bool false)∧(((I c=I c∧closedA (I c)=true)∧(I (wrapA IntKind.i64 (i+1))=I j∧closedA (I j)=true)∧True)∧zt15∧RenR [(0,0),(1,1),(2,2),(3,3),(4,4),(5,5)] O (obF o M N L (AV.rsl true 1 0 m 2))∧(es=es∧closedAll es=true)∧(zt12 s)∧(zt2 D K ix n t y s')∧(zt3 D K n t y)∧(zL=zL∧true=true)∧True)∧Nx)) (zt8 D K es L M N Q c i ix n t y m o s s')):=by kernel_rfl
theorem wx_y (o:Ob) (M N L:AV) (s s' x:List UInt8) (ix t y n c c' i j:Int) (D K es O:List AV) (m:Nat) (Nx:Prop) (Q:AExit→St→Prop):wpK Tryz.prog opts0 40 (rwX [(7,5,.ld (.str x)),(7,8,.res (.bool true)),(8,3,.res (.bool false))]) (lpCode Tryz.prog 81 6) (wxV c i m (obF o M N L (.rsl true 1 0 m 2)) es (rrC (.cus s)) (zt20 D K ix n t y s') (itF t y n D K)).st (roundP 0 [(0,0),(1,1),(2,2),(3,3),(4,4),(5,5)] (wxV c' j m O es (rrC (.cus s)) (zt20 D K ix n t y s') (itF t y n D K)) Nx [(0,0),(1,1),(2,2),(3,3),(4,4),(5,5)] (wxV c i m (obF o M N L (.rsl true 1 0 m 2)) es (rrC (.cus s)) (zt20 D K ix n t y s') (itF t y n D K)) Q)=
  (mtB (ltInt i (Int.ofNat m)) (oblB (nonneg i&&(i.toNat.blt m&&true)) (partA Tryz.prog 9 es (0+i.toNat*2+0)=some (AV.str x)∧binA Tryz.prog BinOp.eql 9 (Operand.tmp 29) (Operand.tmp 31) (AV.str x) (AV.str s)=some (AV.bool true)∧binA Tryz.prog BinOp.eql 3 (Operand.tmp 33) (Operand.tmp 35) (I c) (I ix)=some (AV.bool false)∧(((I (wrapA IntKind.i64 (c+1))=I c'∧closedA (I c')=true)∧(I (wrapA IntKind.i64 (i+1))=I j∧closedA (I j)=true)∧True)∧zt15∧RenR [(0,0),(1,1),(2,2),(3,3),(4,4),(5,5)] O (obF o M N L (AV.rsl true 1 0 m 2))∧(es=es∧closedAll es=true)∧(zt12 s)∧(zt2 D K ix n t y s')∧(zt3 D K n t y)∧(zL=zL∧true=true)∧True)∧Nx)) (zt8 D K es L M N Q c i ix n t y m o s s')):=by kernel_rfl
theorem wy_r (o:Ob) (M N L:AV) (s s':List UInt8) (ix t y n c i:Int) (D K:List AV) (Nx:Prop) (Q:AExit→St→Prop):wpK Tryz.prog opts0 40 (rwX []) (lpCode Tryz.prog 81 6) (wyV c 0 (obF o M N L (.fsl true [])) (rrC (.cus s)) (zt20 D K ix n t y s') (itF t y n D K)).st (roundP 0 [] (wyV c i (obF o M N L (.fsl true [])) (rrC (.cus s)) (zt20 D K ix n t y s') (itF t y n D K)) Nx [(0,0),(1,1),(2,2),(3,3),(4,4)] (wyV c 0 (obF o M N L (.fsl true [])) (rrC (.cus s)) (zt20 D K ix n t y s') (itF t y n D K)) Q)=
  ((((I c=I c∧closedA (I c)=true)∧(I 0=I 0∧true=true)∧True)∧((some 0=some 0∧0=0)∧(some 1=some 1∧0=0)∧(some 2=some 2∧0=0)∧(some 4=some 4∧0=0)∧(some 3=some 3∧0=0)∧True)∧RenR [(0,0),(1,1),(2,2),(3,3),(4,4)] (obF o M N L (AV.fsl true [])) (obF o M N L (AV.fsl true []))∧(zt12 s)∧(zt2 D K ix n t y s')∧(zt3 D K n t y)∧(zL=zL∧true=true)∧True)∧Q (AExit.exit 1) (wyV c 0 (obF o M N L (AV.fsl true [])) (rrC (Kd.cus s)) (AV.str s'::I ix::itF t y n D K) (itF t y n D K)).st):=by kernel_rfl
def wxL (c:Int) (m:Nat) (O es R A T:List AV):LoopS:=fun st Q=>seesK 0 [(0,0),(1,39),(2,1),(3,2),(4,6),(5,3)] (wxV 0 0 m O es R A T) st∧Q (.exit 1) (wxV c (.ofNat m) m O es R A T).st
def wyL (O R A T:List AV):LoopS:=fun st Q=>seesK 0 [(0,0),(1,1),(2,2),(3,6),(4,3)] (wyV 0 0 O R A T) st∧Q (.exit 1) (wyV 0 0 O R A T).st
@[simp] abbrev zt4:=((some 0=some 0∧0=0)∧(some 1=some 1∧0=0)∧(some 2=some 2∧0=0)∧(some 3=some 3∧0=0)∧(some 6=some 6∧0=0)∧True)
abbrev zt5:=(AV.str [67,114,121,112,116,111,103,114,97,112,104,105,99,32,85,115,97,103,101,32,77,97,115,107])
abbrev zt7:=(AV.str [67,114,121,112,116,111,103,114,97,112,104,105,99,32,65,108,103,111,114,105,116,104,109])
abbrev zt9:=(AV.str [67,114,121,112,116,111,103,114,97,112,104,105,99,32,76,101,110,103,116,104])
abbrev zt11 (s x:List UInt8):=[AV.agg [AV.str s,AV.str x]]
@[simp] abbrev zt14:=((I 0=I 0∧true=true)∧(I 0=I 0∧true=true)∧True)
abbrev zt16:=(AV.str [85,115,97,103,101,32,76,105,109,105,116,115])
abbrev zt21:=(AV.str [76,105,110,107])
abbrev zt23:=(AV.str [78,97,109,101])
abbrev zt24 (s x:List UInt8):=(AV.rsl true 14 0 (0+lenN (zt11 s x)) 2)
theorem rw_cus0 (o:Ob) (M N L:AV) (s s' x:List UInt8) (ix t y n _c:Int) (D K:List AV) (Q:AV→Heap→Prop):fnK Tryz.prog opts0 40 (aidJ [(13,2,.res (.bool false)),(18,2,.res (.bool false)),(20,2,.res (.bool false)),(22,2,.res (.bool false)),(24,2,.res (.bool false)),(29,2,.res (.bool false)),(12,6,.res (.str x))] [(6,wyL (obF o M N L (.fsl true [])) (rrC (.cus s)) (zt20 D K ix n t y s') (itF t y n D K))] noSem [] []) 81 [.agg (obF o M N L (.fsl false [])),rrA (.cus s),.agg (zt20 D K ix n t y s')] [] 0 (fun v H _=>Q v H)=
  (binA Tryz.prog BinOp.eql 9 (Operand.tmp 61) (Operand.const (Value.string {data:={toList:=[78,97,109,101]}})) (AV.str s) zt23=some (AV.bool false)∧binA Tryz.prog BinOp.eql 9 (Operand.tmp 89) (Operand.const (Value.string {data:={toList:=[67,114,121,112,116,111,103,114,97,112,104,105,99,32,65,108,103,111,114,105,116,104,109]}})) (AV.str s) zt7=some (AV.bool false)∧binA Tryz.prog BinOp.eql 9 (Operand.tmp 96) (Operand.const (Value.string {data:={toList:=[67,114,121,112,116,111,103,114,97,112,104,105,99,32,76,101,110,103,116,104]}})) (AV.str s) zt9=some (AV.bool false)∧binA Tryz.prog BinOp.eql 9 (Operand.tmp 103) (Operand.const (Value.string {data:={toList:=[67,114,121,112,116,111,103,114,97,112,104,105,99,32,85,115,97,103,101,32,77,97,115,107]}})) (AV.str s) zt5=some (AV.bool false)∧binA Tryz.prog BinOp.eql 9 (Operand.tmp 110) (Operand.const (Value.string {data:={toList:=[76,105,110,107]}})) (AV.str s) zt21=some (AV.bool false)∧binA Tryz.prog BinOp.eql 9 (Operand.tmp 148) (Operand.const (Value.string {data:={toList:=[85,115,97,103,101,32,76,105,109,105,116,115]}})) (AV.str s) zt16=some (AV.bool false)∧(zt14∧zt4∧RenR [(0,0),(1,1),(2,2),(3,6),(4,3)] (obF o M N L (AV.fsl true [])) (obF o M N L (AV.fsl true []))∧(zt12 s)∧(zt2 D K ix n t y s')∧(zt3 D K n t y)∧(zL=zL∧true=true)∧True)∧convA Tryz.prog 23 9 (AV.fsl false D)=some (Eff.val (AV.str x))∧oblB (fitsT Tryz.prog 33 (AV.agg (obF o M N L (zt24 s x))) 37) (Q (AV.agg (obF o M N L (zt24 s x))) [(14,some (Blk.cells (flat (zt11 s x)))),(4,some (Blk.cells (obF o M N L (zt24 s x)))),(0,some (Blk.cells (obF o M N L (zt24 s x)))),(1,some (Blk.cells (zt1 s))),(2,some (Blk.cells (zt17 D K ix n t y s'))),(3,some (Blk.cells (zt19 D K n t y))),(4,some (Blk.cells zL))])):=by kernel_rfl
abbrev zt22 (u0:Cu):=[AV.str u0.1,AV.str u0.2]
abbrev zt25 (s x:List UInt8):=(AV.rsl true 15 0 (1+lenN (zt11 s x)) 2)
theorem rw_cus1 (o:Ob) (M N L:AV) (u0:Cu) (s s' x:List UInt8) (ix t y n c:Int) (D K:List AV) (Q:AV→Heap→Prop):fnK Tryz.prog opts0 40 (aidJ [(13,2,.res (.bool false)),(18,2,.res (.bool false)),(20,2,.res (.bool false)),(22,2,.res (.bool false)),(24,2,.res (.bool false)),(29,2,.res (.bool false)),(12,6,.res (.str x))] [(6,wxL c 1 (obF o M N L (.rsl true 1 0 1 2)) (flat [cuA u0]) (rrC (.cus s)) (zt20 D K ix n t y s') (itF t y n D K))] noSem [] []) 81 [.agg (obF o M N L (.fsl false [cuA u0])),rrA (.cus s),.agg (zt20 D K ix n t y s')] [] 0 (fun v H _=>Q v H)=
  (binA Tryz.prog BinOp.eql 9 (Operand.tmp 61) (Operand.const (Value.string {data:={toList:=[78,97,109,101]}})) (AV.str s) zt23=some (AV.bool false)∧binA Tryz.prog BinOp.eql 9 (Operand.tmp 89) (Operand.const (Value.string {data:={toList:=[67,114,121,112,116,111,103,114,97,112,104,105,99,32,65,108,103,111,114,105,116,104,109]}})) (AV.str s) zt7=some (AV.bool false)∧binA Tryz.prog BinOp.eql 9 (Operand.tmp 96) (Operand.const (Value.string {data:={toList:=[67,114,121,112,116,111,103,114,97,112,104,105,99,32,76,101,110,103,116,104]}})) (AV.str s) zt9=some (AV.bool false)∧binA Tryz.prog BinOp.eql 9 (Operand.tmp 103) (Operand.const (Value.string {data:={toList:=[67,114,121,112,116,111,103,114,97,112,104,105,99,32,85,115,97,103,101,32,77,97,115,107]}})) (AV.str s) zt5=some (AV.bool false)∧binA Tryz.prog BinOp.eql 9 (Operand.tmp 110) (Operand.const (Value.string {data:={toList:=[76,105,110,107]}})) (AV.str s) zt21=some (AV.bool false)∧binA Tryz.prog BinOp.eql 9 (Operand.tmp 148) (Operand.const (Value.string {data:={toList:=[85,115,97,103,101,32,76,105,109,105,116,115]}})) (AV.str s) zt16=some (AV.bool false)∧(zt14∧zt4∧RenR [(0,0),(1,39),(2,1),(3,2),(4,6),(5,3)] (obF o M N L (AV.rsl true 1 0 1 2)) (obF o M N L (AV.rsl true 39 0 (0+lenN [AV.agg (zt22 u0)]) 2))∧(flat [AV.agg (zt22 u0)]=flat [AV.agg (zt22 u0)]∧closedAll (flat [AV.agg (zt22 u0)])=true)∧(zt12 s)∧(zt2 D K ix n t y s')∧(zt3 D K n t y)∧(zL=zL∧true=true)∧True)∧convA Tryz.prog 23 9 (AV.fsl false D)=some (Eff.val (AV.str x))∧oblB (fitsT Tryz.prog 33 (AV.agg (obF o M N L (zt25 s x))) 37) (Q (AV.agg (obF o M N L (zt25 s x))) [(15,some (Blk.cells [AV.str u0.1,AV.str u0.2,AV.str s,AV.str x])),(5,some (Blk.cells (obF o M N L (zt25 s x)))),(1,none),(0,some (Blk.cells (obF o M N L (zt25 s x)))),(1,some (Blk.cells (flat [AV.agg (zt22 u0)]))),(2,some (Blk.cells (zt1 s))),(3,some (Blk.cells (zt17 D K ix n t y s'))),(4,some (Blk.cells (zt19 D K n t y))),(5,some (Blk.cells zL))])):=by kernel_rfl
abbrev zt18 (u0 u1:Cu):=[AV.agg (zt22 u0),AV.agg [AV.str u1.1,AV.str u1.2]]
abbrev zt26 (s x:List UInt8):=(AV.rsl true 15 0 (2+lenN (zt11 s x)) 2)
theorem rw_cus2 (o:Ob) (M N L:AV) (u0 u1:Cu) (s s' x:List UInt8) (ix t y n c:Int) (D K:List AV) (Q:AV→Heap→Prop):fnK Tryz.prog opts0 40 (aidJ [(13,2,.res (.bool false)),(18,2,.res (.bool false)),(20,2,.res (.bool false)),(22,2,.res (.bool false)),(24,2,.res (.bool false)),(29,2,.res (.bool false)),(12,6,.res (.str x))] [(6,wxL c 2 (obF o M N L (.rsl true 1 0 2 2)) (flat [cuA u0,cuA u1]) (rrC (.cus s)) (zt20 D K ix n t y s') (itF t y n D K))] noSem [] []) 81 [.agg (obF o M N L (.fsl false [cuA u0,cuA u1])),rrA (.cus s),.agg (zt20 D K ix n t y s')] [] 0 (fun v H _=>Q v H)=
  (binA Tryz.prog BinOp.eql 9 (Operand.tmp 61) (Operand.const (Value.string {data:={toList:=[78,97,109,101]}})) (AV.str s) zt23=some (AV.bool false)∧binA Tryz.prog BinOp.eql 9 (Operand.tmp 89) (Operand.const (Value.string {data:={toList:=[67,114,121,112,116,111,103,114,97,112,104,105,99,32,65,108,103,111,114,105,116,104,109]}})) (AV.str s) zt7=some (AV.bool false)∧binA Tryz.prog BinOp.eql 9 (Operand.tmp 96) (Operand.const (Value.string {data:={toList:=[67,114,121,112,116,111,103,114,97,112,104,105,99,32,76,101,110,103,116,104]}})) (AV.str s) zt9=some (AV.bool false)∧binA Tryz.prog BinOp.eql 9 (Operand.tmp 103) (Operand.const (Value.string {data:={toList:=[67,114,121,112,116,111,103,114,97,112,104,105,99,32,85,115,97,103,101,32,77,97,115,107]}})) (AV.str s) zt5=some (AV.bool false)∧binA Tryz.prog BinOp.eql 9 (Operand.tmp 110) (Operand.const (Value.string {data:={toList:=[76,105,110,107]}})) (AV.str s) zt21=some (AV.bool false)∧binA Tryz.prog BinOp.eql 9 (Operand.tmp 148) (Operand.const (Value.string {data:={toList:=[85,115,97,103,101,32,76,105,109,105,116,115]}})) (AV.str s) zt16=some (AV.bool false)∧(zt14∧zt4∧RenR [(0,0),(1,39),(2,1),(3,2),(4,6),(5,3)] (obF o M N L (AV.rsl true 1 0 2 2)) (obF o M N L (AV.rsl true 39 0 (0+lenN (zt18 u0 u1)) 2))∧(flat (zt18 u0 u1)=flat (zt18 u0 u1)∧closedAll (flat (zt18 u0 u1))=true)∧(zt12 s)∧(zt2 D K ix n t y s')∧(zt3 D K n t y)∧(zL=zL∧true=true)∧True)∧convA Tryz.prog 23 9 (AV.fsl false D)=some (Eff.val (AV.str x))∧oblB (fitsT Tryz.prog 33 (AV.agg (obF o M N L (zt26 s x))) 37) (Q (AV.agg (obF o M N L (zt26 s x))) [(15,some (Blk.cells [AV.str u0.1,AV.str u0.2,AV.str u1.1,AV.str u1.2,AV.str s,AV.str x])),(5,some (Blk.cells (obF o M N L (zt26 s x)))),(1,none),(0,some (Blk.cells (obF o M N L (zt26 s x)))),(1,some (Blk.cells (flat (zt18 u0 u1)))),(2,some (Blk.cells (zt1 s))),(3,some (Blk.cells (zt17 D K ix n t y s'))),(4,some (Blk.cells (zt19 D K n t y))),(5,some (Blk.cells zL))])):=by kernel_rfl
abbrev zt13 (u0 u1 u2:Cu):=[AV.agg (zt22 u0),AV.agg [AV.str u1.1,AV.str u1.2],AV.agg [AV.str u2.1,AV.str u2.2]]
abbrev zt27 (s x:List UInt8):=(AV.rsl true 15 0 (3+lenN (zt11 s x)) 2)
theorem rw_cus3 (o:Ob) (M N L:AV) (u0 u1 u2:Cu) (s s' x:List UInt8) (ix t y n c:Int) (D K:List AV) (Q:AV→Heap→Prop):fnK Tryz.prog opts0 40 (aidJ [(13,2,.res (.bool false)),(18,2,.res (.bool false)),(20,2,.res (.bool false)),(22,2,.res (.bool false)),(24,2,.res (.bool false)),(29,2,.res (.bool false)),(12,6,.res (.str x))] [(6,wxL c 3 (obF o M N L (.rsl true 1 0 3 2)) (flat [cuA u0,cuA u1,cuA u2]) (rrC (.cus s)) (zt20 D K ix n t y s') (itF t y n D K))] noSem [] []) 81 [.agg (obF o M N L (.fsl false [cuA u0,cuA u1,cuA u2])),rrA (.cus s),.agg (zt20 D K ix n t y s')] [] 0 (fun v H _=>Q v H)=
  (binA Tryz.prog BinOp.eql 9 (Operand.tmp 61) (Operand.const (Value.string {data:={toList:=[78,97,109,101]}})) (AV.str s) zt23=some (AV.bool false)∧binA Tryz.prog BinOp.eql 9 (Operand.tmp 89) (Operand.const (Value.string {data:={toList:=[67,114,121,112,116,111,103,114,97,112,104,105,99,32,65,108,103,111,114,105,116,104,109]}})) (AV.str s) zt7=some (AV.bool false)∧binA Tryz.prog BinOp.eql 9 (Operand.tmp 96) (Operand.const (Value.string {data:={toList:=[67,114,121,112,116,111,103,114,97,112,104,105,99,32,76,101,110,103,116,104]}})) (AV.str s) zt9=some (AV.bool false)∧binA Tryz.prog BinOp.eql 9 (Operand.tmp 103) (Operand.const (Value.string {data:={toList:=[67,114,121,112,116,111,103,114,97,112,104,105,99,32,85,115,97,103,101,32,77,97,115,107]}})) (AV.str s) zt5=some (AV.bool false)∧binA Tryz.prog BinOp.eql 9 (Operand.tmp 110) (Operand.const (Value.string {data:={toList:=[76,105,110,107]}})) (AV.str s) zt21=some (AV.bool false)∧binA Tryz.prog BinOp.eql 9 (Operand.tmp 148) (Operand.const (Value.string {data:={toList:=[85,115,97,103,101,32,76,105,109,105,116,115]}})) (AV.str s) zt16=some (AV.bool false)∧(zt14∧zt4∧RenR [(0,0),(1,39),(2,1),(3,2),(4,6),(5,3)] (obF o M N L (AV.rsl true 1 0 3 2)) (obF o M N L (AV.rsl true 39 0 (0+lenN (zt13 u0 u1 u2)) 2))∧(flat (zt13 u0 u1 u2)=flat (zt13 u0 u1 u2)∧closedAll (flat (zt13 u0 u1 u2))=true)∧(zt12 s)∧(zt2 D K ix n t y s')∧(zt3 D K n t y)∧(zL=zL∧true=true)∧True)∧convA Tryz.prog 23 9 (AV.fsl false D)=some (Eff.val (AV.str x))∧oblB (fitsT Tryz.prog 33 (AV.agg (obF o M N L (zt27 s x))) 37) (Q (AV.agg (obF o M N L (zt27 s x))) [(15,some (Blk.cells [AV.str u0.1,AV.str u0.2,AV.str u1.1,AV.str u1.2,AV.str u2.1,AV.str u2.2,AV.str s,AV.str x])),(5,some (Blk.cells (obF o M N L (zt27 s x)))),(1,none),(0,some (Blk.cells (obF o M N L (zt27 s x)))),(1,some (Blk.cells (flat (zt13 u0 u1 u2)))),(2,some (Blk.cells (zt1 s))),(3,some (Blk.cells (zt17 D K ix n t y s'))),(4,some (Blk.cells (zt19 D K n t y))),(5,some (Blk.cells zL))])):=by kernel_rfl
abbrev zt10 (u0 u1 u2 u3:Cu):=[AV.agg (zt22 u0),AV.agg [AV.str u1.1,AV.str u1.2],AV.agg [AV.str u2.1,AV.str u2.2],AV.agg [AV.str u3.1,AV.str u3.2]]
abbrev zt28 (s x:List UInt8):=(AV.rsl true 15 0 (4+lenN (zt11 s x)) 2)
theorem rw_cus4 (o:Ob) (M N L:AV) (u0 u1 u2 u3:Cu) (s s' x:List UInt8) (ix t y n c:Int) (D K:List AV) (Q:AV→Heap→Prop):fnK Tryz.prog opts0 40 (aidJ [(13,2,.res (.bool false)),(18,2,.res (.bool false)),(20,2,.res (.bool false)),(22,2,.res (.bool false)),(24,2,.res (.bool false)),(29,2,.res (.bool false)),(12,6,.res (.str x))] [(6,wxL c 4 (obF o M N L (.rsl true 1 0 4 2)) (flat [cuA u0,cuA u1,cuA u2,cuA u3]) (rrC (.cus s)) (zt20 D K ix n t y s') (itF t y n D K))] noSem [] []) 81 [.agg (obF o M N L (.fsl false [cuA u0,cuA u1,cuA u2,cuA u3])),rrA (.cus s),.agg (zt20 D K ix n t y s')] [] 0 (fun v H _=>Q v H)=
  (binA Tryz.prog BinOp.eql 9 (Operand.tmp 61) (Operand.const (Value.string {data:={toList:=[78,97,109,101]}})) (AV.str s) zt23=some (AV.bool false)∧binA Tryz.prog BinOp.eql 9 (Operand.tmp 89) (Operand.const (Value.string {data:={toList:=[67,114,121,112,116,111,103,114,97,112,104,105,99,32,65,108,103,111,114,105,116,104,109]}})) (AV.str s) zt7=some (AV.bool false)∧binA Tryz.prog BinOp.eql 9 (Operand.tmp 96) (Operand.const (Value.string {data:={toList:=[67,114,121,112,116,111,103,114,97,112,104,105,99,32,76,101,110,103,116,104]}})) (AV.str s) zt9=some (AV.bool false)∧binA Tryz.prog BinOp.eql 9 (Operand.tmp 103) (Operand.const (Value.string {data:={toList:=[67,114,121,112,116,111,103,114,97,112,104,105,99,32,85,115,97,103,101,32,77,97,115,107]}})) (AV.str s) zt5=some (AV.bool false)∧binA Tryz.prog BinOp.eql 9 (Operand.tmp 110) (Operand.const (Value.string {data:={toList:=[76,105,110,107]}})) (AV.str s) zt21=some (AV.bool false)∧binA Tryz.prog BinOp.eql 9 (Operand.tmp 148) (Operand.const (Value.string {data:={toList:=[85,115,97,103,101,32,76,105,109,105,116,115]}})) (AV.str s) zt16=some (AV.bool false)∧(zt14∧zt4∧RenR [(0,0),(1,39),(2,1),(3,2),(4,6),(5,3)] (obF o M N L (AV.rsl true 1 0 4 2)) (obF o M N L (AV.rsl true 39 0 (0+lenN (zt10 u0 u1 u2 u3)) 2))∧(flat (zt10 u0 u1 u2 u3)=flat (zt10 u0 u1 u2 u3)∧closedAll (flat (zt10 u0 u1 u2 u3))=true)∧(zt12 s)∧(zt2 D K ix n t y s')∧(zt3 D K n t y)∧(zL=zL∧true=true)∧True)∧convA Tryz.prog 23 9 (AV.fsl false D)=some (Eff.val (AV.str x))∧oblB (fitsT Tryz.prog 33 (AV.agg (obF o M N L (zt28 s x))) 37) (Q (AV.agg (obF o M N L (zt28 s x))) [(15,some (Blk.cells [AV.str u0.1,AV.str u0.2,AV.str u1.1,AV.str u1.2,AV.str u2.1,AV.str u2.2,AV.str u3.1,AV.str u3.2,AV.str s,AV.str x])),(5,some (Blk.cells (obF o M N L (zt28 s x)))),(1,none),(0,some (Blk.cells (obF o M N L (zt28 s x)))),(1,some (Blk.cells (flat (zt10 u0 u1 u2 u3)))),(2,some (Blk.cells (zt1 s))),(3,some (Blk.cells (zt17 D K ix n t y s'))),(4,some (Blk.cells (zt19 D K n t y))),(5,some (Blk.cells zL))])):=by kernel_rfl
abbrev zt6 (u0 u1 u2 u3 u4:Cu):=[AV.agg (zt22 u0),AV.agg [AV.str u1.1,AV.str u1.2],AV.agg [AV.str u2.1,AV.str u2.2],AV.agg [AV.str u3.1,AV.str u3.2],AV.agg [AV.str u4.1,AV.str u4.2]]
abbrev zt29 (s x:List UInt8):=(AV.rsl true 15 0 (5+lenN (zt11 s x)) 2)
theorem rw_cus5 (o:Ob) (M N L:AV) (u0 u1 u2 u3 u4:Cu) (s s' x:List UInt8) (ix t y n c:Int) (D K:List AV) (Q:AV→Heap→Prop):fnK Tryz.prog opts0 40 (aidJ [(13,2,.res (.bool false)),(18,2,.res (.bool false)),(20,2,.res (.bool false)),(22,2,.res (.bool false)),(24,2,.res (.bool false)),(29,2,.res (.bool false)),(12,6,.res (.str x))] [(6,wxL c 5 (obF o M N L (.rsl true 1 0 5 2)) (flat [cuA u0,cuA u1,cuA u2,cuA u3,cuA u4]) (rrC (.cus s)) (zt20 D K ix n t y s') (itF t y n D K))] noSem [] []) 81 [.agg (obF o M N L (.fsl false [cuA u0,cuA u1,cuA u2,cuA u3,cuA u4])),rrA (.cus s),.agg (zt20 D K ix n t y s')] [] 0 (fun v H _=>Q v H)=
  (binA Tryz.prog BinOp.eql 9 (Operand.tmp 61) (Operand.const (Value.string {data:={toList:=[78,97,109,101]}})) (AV.str s) zt23=some (AV.bool false)∧binA Tryz.prog BinOp.eql 9 (Operand.tmp 89) (Operand.const (Value.string {data:={toList:=[67,114,121,112,116,111,103,114,97,112,104,105,99,32,65,108,103,111,114,105,116,104,109]}})) (AV.str s) zt7=some (AV.bool false)∧binA Tryz.prog BinOp.eql 9 (Operand.tmp 96) (Operand.const (Value.string {data:={toList:=[67,114,121,112,116,111,103,114,97,112,104,105,99,32,76,101,110,103,116,104]}})) (AV.str s) zt9=some (AV.bool false)∧binA Tryz.prog BinOp.eql 9 (Operand.tmp 103) (Operand.const (Value.string {data:={toList:=[67,114,121,112,116,111,103,114,97,112,104,105,99,32,85,115,97,103,101,32,77,97,115,107]}})) (AV.str s) zt5=some (AV.bool false)∧binA Tryz.prog BinOp.eql 9 (Operand.tmp 110) (Operand.const (Value.string {data:={toList:=[76,105,110,107]}})) (AV.str s) zt21=some (AV.bool false)∧binA Tryz.prog BinOp.eql 9 (Operand.tmp 148) (Operand.const (Value.string {data:={toList:=[85,115,97,103,101,32,76,105,109,105,116,115]}})) (AV.str s) zt16=some (AV.bool false)∧(zt14∧zt4∧RenR [(0,0),(1,39),(2,1),(3,2),(4,6),(5,3)] (obF o M N L (AV.rsl true 1 0 5 2)) (obF o M N L (AV.rsl true 39 0 (0+lenN (zt6 u0 u1 u2 u3 u4)) 2))∧(flat (zt6 u0 u1 u2 u3 u4)=flat (zt6 u0 u1 u2 u3 u4)∧closedAll (flat (zt6 u0 u1 u2 u3 u4))=true)∧(zt12 s)∧(zt2 D K ix n t y s')∧(zt3 D K n t y)∧(zL=zL∧true=true)∧True)∧convA Tryz.prog 23 9 (AV.fsl false D)=some (Eff.val (AV.str x))∧oblB (fitsT Tryz.prog 33 (AV.agg (obF o M N L (zt29 s x))) 37) (Q (AV.agg (obF o M N L (zt29 s x))) [(15,some (Blk.cells [AV.str u0.1,AV.str u0.2,AV.str u1.1,AV.str u1.2,AV.str u2.1,AV.str u2.2,AV.str u3.1,AV.str u3.2,AV.str u4.1,AV.str u4.2,AV.str s,AV.str x])),(5,some (Blk.cells (obF o M N L (zt29 s x)))),(1,none),(0,some (Blk.cells (obF o M N L (zt29 s x)))),(1,some (Blk.cells (flat (zt6 u0 u1 u2 u3 u4)))),(2,some (Blk.cells (zt1 s))),(3,some (Blk.cells (zt17 D K ix n t y s'))),(4,some (Blk.cells (zt19 D K n t y))),(5,some (Blk.cells zL))])):=by kernel_rfl
end
end Go.Proofs.YtjhggnebkfpgcaaGreatDoor
