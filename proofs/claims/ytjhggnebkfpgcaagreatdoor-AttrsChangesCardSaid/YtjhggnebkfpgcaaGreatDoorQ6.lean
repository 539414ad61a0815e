import Derived.Test.YtjhggnebkfpgcaaGreatDoorQ5
import Derived.KernelRfl
import Derived.Test.YtjhggnebkfpgcaaGreatDoorQ3
namespace Go.Proofs.YtjhggnebkfpgcaaGreatDoor
open Go Go.RowKit _root_.Go.Proofs.Tryz
open Go.Proofs.Abs
noncomputable section
def VD (sh r0 r1 r2:Bool):List AV→Option AV
 | [_,.int _ t,_]=>match ao t 4325387 with
  |true=>some (.bool sh)
  | false=>match ao t 4325451||ao t 4325527 with
   |true=>some (.bool r0)
   |false=>match ao t 4325452||ao t 4325526 with
    |true=>some (.bool r1)
    |false=>some (.bool r2)
 |_=>none
def iX (c0 c1 c2:List AV) (sh r0 r1 r2 tx:Bool):bz:=aB [(11,7,.res (.fptr c0 0)),(11,14,.res (.fptr c0 0)),(11,22,.res (.fptr c0 0)),(11,30,.res (.fptr c1 0)),(11,37,.res (.fptr c1 0)),(13,7,.res (.fptr c0 0)),(13,15,.res (.fptr c1 0)),(13,23,.res (.fptr c2 0)),(15,2,.res (.fptr c0 0)),(16,2,.res (.fptr c1 0)),(17,2,.res (.fptr c2 0))] [] (fY [(90,VD sh r0 r1 r2),(117,fun _=>some (.bool tx))]) [] []
abbrev pd (D0 K0:List AV) (n0 t0 y0:Int):=[I t0,I y0,I n0,AV.fsl false D0,AV.fsl false K0]
abbrev rh (D1 K1:List AV) (n1 t1 y1:Int):=[I t1,I y1,I n1,AV.fsl false D1,AV.fsl false K1]
theorem iz (nm ch st:List UInt8) (ty da:Int) (ma se:Bool) (t y n t0 y0 n0 t1 y1 n1 t2 y2 n2:Int) (D K D0 K0 D1 K1 D2 K2:List AV) (sh r0 r1 r2 tx:Bool) (Q:AV→Prop):aH prog opts0 40 (iX (am t0 y0 n0 D0 K0) (am t1 y1 n1 D1 K1) (am t2 y2 n2 D2 K2) sh r0 r1 r2 tx) 79 [.agg [.str nm,I ty,.bool ma,.bool se,.str ch,.str st,I da],.agg (am t y n D K)] [] 0 (fun v _ _=>Q v)=
 (SC 90 [AV.agg [I t,I y,I n,.fsl false D,.fsl false K],I 4325387,I ty] (.bool sh)∧ac (!sh) (Q (.bool false)) (ac (aI nm ic) (ac (!ay n 1) (Q (.bool !ay 100 n)) (Q (.bool false))) (ac (aI nm ig) (ac (!ay n 1) (Q (.bool !ay 100000 n)) (Q (.bool false))) (ac (aI nm gQ) (ac (!ay n 0) (Q (.bool !ay 1048575 n)) (Q (.bool false))) (ac (aI nm [76,105,110,107]) (ac (ao (Int.ofNat (ab K)) 2) (aF prog 35 (.fsl false K) (I 0)=some (.fptr (pd D0 K0 n0 t0 y0) 0)∧SC 90 [AV.agg (pd D0 K0 n0 t0 y0),I 4325451,I 5] (.bool r0)∧ac r0 (aF prog 35 (.fsl false K) (I 0)=some (.fptr (pd D0 K0 n0 t0 y0) 0)∧ac (!ay n0 101) (aF prog 35 (.fsl false K) (I 0)=some (.fptr (pd D0 K0 n0 t0 y0) 0)∧ac (!ay 110 n0) (aF prog 35 (.fsl false K) (I 1)=some (.fptr (rh D1 K1 n1 t1 y1) 0)∧SC 90 [AV.agg (rh D1 K1 n1 t1 y1),I 4325452,I 7] (.bool r1)∧ac r1 (aF prog 35 (.fsl false K) (I 1)=some (.fptr (rh D1 K1 n1 t1 y1) 0)∧aw (dV D1).isSome (SC 117 [AV.str (iN D1)] (.bool tx)∧Q (.bool tx))) (Q (.bool false))) (Q (.bool false))) (Q (.bool false))) (Q (.bool false))) (Q (.bool false))) (ac (aI nm dt) (ac (!ao (Int.ofNat (ab K)) 3) (Q (.bool false)) (aF prog 35 (.fsl false K) (I 0)=some (.fptr (pd D0 K0 n0 t0 y0) 0)∧SC 90 [AV.agg (pd D0 K0 n0 t0 y0),I 4325527,I 3] (.bool r0)∧ac (!r0) (Q (.bool false)) (aF prog 35 (.fsl false K) (I 1)=some (.fptr (rh D1 K1 n1 t1 y1) 0)∧SC 90 [AV.agg (rh D1 K1 n1 t1 y1),I 4325526,I 3] (.bool r1)∧ac (!r1) (Q (.bool false)) (aF prog 35 (.fsl false K) (I 2)=some (.fptr [I t2,I y2,I n2,.fsl false D2,.fsl false K2] 0)∧SC 90 [AV.agg [I t2,I y2,I n2,.fsl false D2,.fsl false K2],I 4325528,I 5] (.bool r2)∧ac (!r2) (Q (.bool false)) (aF prog 35 (.fsl false K) (I 0)=some (.fptr (pd D0 K0 n0 t0 y0) 0)∧aF prog 35 (.fsl false K) (I 1)=some (.fptr (rh D1 K1 n1 t1 y1) 0)∧aF prog 35 (.fsl false K) (I 2)=some (.fptr [I t2,I y2,I n2,.fsl false D2,.fsl false K2] 0)∧ac (!ay n0 1) (ac (!ay 1099511627776 n0) (ac (!ay n1 0) (ac (!ay n0 n1) (ac (ao n2 1) (Q (.bool true)) (Q (.bool (ao n2 2)))) (Q (.bool false))) (Q (.bool false))) (Q (.bool false))) (Q (.bool false))))))) (ac (!ay da 0) (ac (!ay n (Int.negSucc 1099511627775)) (Q (.bool !ay 1099511627776 n)) (Q (.bool false))) (aw (dV D).isSome (SC 117 [AV.str (iN D)] (.bool tx)∧Q (.bool tx)))))))))):=by kernel_rfl
theorem VE (o:Ob) (M N L C:AV) (s:List UInt8) (Ls:List AV) (Q:AV→Prop):aH prog opts0 40 (aB [] [] (bP [(17,.fsl false Ls)]) [] []) 115 [.agg (aa o M N L C),.str s] [] 0 (fun v _ _=>Q v)=
 (ac (aI s gQ) (Q (.bool !ao o.5 0)) (SC 17 [AV.agg (aa o M N L C),.str s] (.fsl false Ls)∧Q (.bool (ay 0 (Int.ofNat (ab Ls)))))):=by kernel_rfl
theorem VF (o:Ob) (M:AV) (Ns Ls Cs:List AV) (s:List UInt8) (c:Bool) (Q:AV→Prop):aH prog opts0 40 (aB [] [] (bP [(114,.bool c)]) [] []) 116 [.agg (aa o M (.fsl false Ns) (.fsl false Ls) (.fsl false Cs)),.str s] [] 0 (fun v _ _=>Q v)=
 (ac (aI s [78,97,109,101]) (Q (.bool !ay (Int.ofNat (ab Ns)) 6)) (ac (aI s [76,105,110,107]) (Q (.bool !ay (Int.ofNat (ab Ls)) 8)) (SC 114 [AV.str s] (.bool c)∧ac c (Q (.bool !ay (Int.ofNat (ab Cs)) 6)) (Q (.bool false))))):=by kernel_rfl
def w6 (c:List AV) (b:Bool):bz:=aB [(5,6,.res (.fptr c 0))] [] (bP [(35,.bool b)]) [] []
end
set_option maxRecDepth 20000
theorem mT {c:Bool} {T F:Prop} (h:c=true) (t:T):ac c T F:=ai (fun _=>t) fun e=>by rw[h] at e;cases e
theorem mF {c:Bool} {T F:Prop} (h:c=false) (f:F):ac c T F:=ai (fun e=>by rw[h] at e;cases e) fun _=>f
def dL (v:It):Kd→Bool
 | .lim=>dy v 4325387 1&&ef (cC v)
 |k=>eA zO v k
def iA (k:Kd):Prop:=∀s,k= .cus s→∀j∈kinds,aC j≠s
theorem lZ {s:List UInt8} {j:Kd} (h:iA (.cus s)) (hj:j∈kinds):aI s (aC j)=false:=wW fun e=>h s rfl j hj e.symm
theorem VG (n:Int):lF n 1 2=(match ao n 1 with|true=>true|false=>ao n 2):=by
 unfold lF;cases h1:ay n 1 with
 |true=>
  have h1:=ltInt_iff.1 h1;have e1:ao n 1=false:=beqInt_false.2 (by omega);have e2:ao n 2=false:=beqInt_false.2 (by omega);rw[e1,e2];rfl
 | false=>
  have h1:=ltInt_false.1 h1;cases h2:ay 2 n with
  |true=>
   have h2:=ltInt_iff.1 h2;have e1:ao n 1=false:=beqInt_false.2 (by omega);have e2:ao n 2=false:=beqInt_false.2 (by omega);rw[e1,e2];rfl
  |false=>
   have h2:=ltInt_false.1 h2;have:n=1∨n=2:=by omega
   rcases this with rfl|rfl<;>rfl
def z5:List AV:=am 0 0 0 [] []
theorem BW (k:Kd):ag (aN k)=true:=rfl
section
variable {t y n:Int} {d:List UInt8} {ks:List It}
theorem w7 {nm:List UInt8} {ty lo hi:Int} {ch st:List UInt8} {ma se:Bool} {da:Int} (hty:ty≠8) (x:It)
  (hwalk:∀ (t y n:Int) (D K:List AV) (sh:Bool) (Q:AV→Prop),SC 90 [.agg (am t y n D K),I 4325387,I ty] (.bool sh)→(sh=false→Q (.bool false))→(sh=true→Q (.bool (lF n lo hi)))→aH prog opts0 40 (iX z5 z5 z5 sh false false false false) 79 [.agg [.str nm,I ty,.bool ma,.bool se,.str ch,.str st,I da],.agg (am t y n D K)] [] 0 (fun v _ _=>Q v)):
  SC 79 [.agg [.str nm,I ty,.bool ma,.bool se,.str ch,.str st,I da],aX x] (.bool (eN x 4325387 ty lo hi)):=by
 have hs:=lv x 4325387 ty;rw[lw x 4325387 hty] at hs;unfold eN;revert hs;generalize dy x 4325387 ty=sh;obtain ⟨t,y,n,d,ks⟩:=x;intro hs;refine bQ (A:=iX z5 z5 z5 sh false false false false) base0 ar (aG (LsOk.no rfl)) (by simp[ae,cG,ag]) rfl ?_;rw[bJ] at hs⊢;exact hwalk _ _ _ _ _ _ _ hs (fun e=>by rw[e];rfl) (fun e=>by rw[e];rfl)
end
theorem w8 {n lo hi:Int} {Q:AV→Prop} (h:Q (.bool (lF n lo hi))):ac (!ay n lo) (Q (.bool (!ay hi n))) (Q (.bool false)):=by
 unfold lF at h;exact ai (fun e=>by rw[e] at h;exact h) fun e=>by rw[e] at h;exact h
theorem VH (x:It):SC 79 [aN .alg,aX x] (.bool (dL x .alg)):=by
 refine w7 (nm:=aC .alg) (lo:=1) (hi:=100) (by decide) x fun t y n D K sh Q hs h0 h1=> ?_;unfold z5;rw[iz];exact ⟨hs,ai (fun e=>h0 (by simpa using e)) fun e=>mT rfl (w8 (h1 (by simpa using e)))⟩
theorem VI (x:It):SC 79 [aN .len,aX x] (.bool (dL x .len)):=by
 refine w7 (nm:=aC .len) (lo:=1) (hi:=100000) (by decide) x fun t y n D K sh Q hs h0 h1=> ?_;unfold z5;rw[iz];exact ⟨hs,ai (fun e=>h0 (by simpa using e)) fun e=>mF rfl (mT rfl (w8 (h1 (by simpa using e))))⟩
theorem VJ (x:It):SC 79 [aN .mask,aX x] (.bool (dL x .mask)):=by
 refine w7 (nm:=aC .mask) (lo:=0) (hi:=1048575) (by decide) x fun t y n D K sh Q hs h0 h1=> ?_;unfold z5;rw[iz];exact ⟨hs,ai (fun e=>h0 (by simpa using e)) fun e=>mF rfl (mF rfl (mT rfl (w8 (h1 (by simpa using e)))))⟩
theorem VK (x:It) {k:Nat} (hk:lz k=true):SC 79 [aN (.dat k),aX x] (.bool (dL x (.dat k))):=by
 have hk4:k=1∨k=2∨k=3∨k=4:=by
  simp only[lz,Bool.and_eq_true,Nat.ble_eq] at hk;omega
 rcases hk4 with rfl|rfl|rfl|rfl
 all_goals
  refine w7 (lo:= -1099511627776) (hi:=1099511627776) (by decide) x fun t y n D K sh Q hs h0 h1=> ?_;unfold z5;rw[iz];exact ⟨hs,ai (fun e=>h0 (by simpa using e)) fun e=>mF rfl (mF rfl (mF rfl (mF rfl (mF rfl (mT rfl (w8 (h1 (by simpa using e))))))))⟩
theorem IX {nm ch st:List UInt8} {ma se:Bool} (x:It) (hx:cY x) (h1:aI nm (aC .alg)=false) (h2:aI nm (aC .len)=false) (h3:aI nm (aC .mask)=false) (h4:aI nm (aC .lnk)=false) (h5:aI nm (aC .lim)=false):
  SC 79 [.agg [.str nm,I 7,.bool ma,.bool se,.str ch,.str st,I (-1)],aX x] (.bool (jj x 4325387)):=by
 have hs:=lv x 4325387 7;rw[lw x 4325387 (by decide)] at hs;have ht:=Gm _ (lH hx);unfold jj;revert hs ht;generalize dy x 4325387 7=sh;obtain ⟨t,y,n,d,ks⟩:=x;intro hs ht;have hso:=oN d;refine bQ (A:=iX z5 z5 z5 sh false false false (qo d)) base0 ar (aG (LsOk.no rfl)) (by simp[ae,cG,ag]) rfl ?_;rw[bJ] at hs⊢;unfold z5;rw[iz,hso];refine ⟨hs,ai (fun e=> ?_) fun e=>mF h1 (mF h2 (mF h3 (mF h4 (mF h5 (mF rfl (aD (by simp) ⟨ht, ?_⟩))))))⟩
 ·rw[Bool.not_eq_true'] at e;rw[e];rfl
 ·rw[Bool.not_eq_false'] at e;rw[e];rfl
theorem VL (x:It) (hx:cY x):SC 79 [aN .lnk,aX x] (.bool (dL x .lnk)):=by
 have hs:=lv x 4325387 1;rw[lw x 4325387 (by decide)] at hs;simp only[dL,eA];revert hs;generalize dy x 4325387 1=sh;obtain ⟨t,y,n,d,ks⟩:=x;intro hs;have hln:ab (ap ks)=ks.length:=by rw[aM,fO]
 rw[bJ] at hs
 match ks,hx,hln,hs with
 | [a,b],hx,hln,hs=>
  have hb:cY b:=hx.2.2.1;have ha:=lv a 4325451 5;rw[lw a 4325451 (by decide)] at ha;have hb2:=lv b 4325452 7;rw[lw b 4325452 (by decide)] at hb2;have ht:=Gm _ (lH hb);simp only[cC,jk,eN,jj];revert ha hb2 ht;generalize dy a 4325451 5=r0;generalize dy b 4325452 7=r1;obtain ⟨t0,y0,n0,d0,k0⟩:=a;obtain ⟨t1,y1,n1,d1,k1⟩:=b;intro ha hb2 ht;have hso:=oN d1;have g0:=cQ (f:=false) (ks:=[.mk t0 y0 n0 d0 k0,.mk t1 y1 n1 d1 k1]) (i:=0) rfl;have g1:=cQ (f:=false) (ks:=[.mk t0 y0 n0 d0 k0,.mk t1 y1 n1 d1 k1]) (i:=1) rfl;refine bQ (A:=iX (am t0 y0 n0 (ak d0) (ap k0)) (am t1 y1 n1 (ak d1) (ap k1)) z5 sh r0 r1 false (qo d1)) base0 ar (aG (LsOk.no rfl)) (by simp[ae,cG,ag,aN,bp]) rfl ?_;rw[bJ] at ha hb2⊢;unfold z5 aN bp;rw[iz,hso];refine ⟨hs,ai (fun e=> ?_) fun e=>mF rfl (mF rfl (mF rfl (mT rfl (mT rfl ⟨g0,ha,ai (fun e1=>⟨g0,ai (fun e2=>⟨g0,ai (fun e3=>⟨g1,hb2,ai (fun e4=>⟨g1,aD (by simp) ⟨ht, ?_⟩⟩) fun e4=> ?_⟩) fun e3=> ?_⟩) fun e2=> ?_⟩) fun e1=> ?_⟩))))⟩
  ·rw[Bool.not_eq_true'] at e;rw[e];rfl
  all_goals
   rw[Bool.not_eq_false'] at e;simp only[lF,ed,gg] at*
   simp_all
 |[],_,hln,hs=>
  refine bQ (A:=iX z5 z5 z5 sh false false false false) base0 ar (aG (LsOk.no rfl)) (by simp[ae,cG,ag,aN,bp]) rfl ?_;rw[bJ];unfold z5 aN bp;rw[iz];refine ⟨hs,ai (fun e=> ?_) fun e=>mF rfl (mF rfl (mF rfl (mT rfl (mF rfl ?_))))⟩
  all_goals simp[cC,jk]
 |[a],_,hln,hs=>
  refine bQ (A:=iX z5 z5 z5 sh false false false false) base0 ar (aG (LsOk.no rfl)) (by simp[ae,cG,ag,aN,bp]) rfl ?_;rw[bJ];unfold z5 aN bp;rw[iz];refine ⟨hs,ai (fun e=> ?_) fun e=>mF rfl (mF rfl (mF rfl (mT rfl (mF rfl ?_))))⟩
  all_goals simp[cC,jk]
 |a::b::c::r,_,hln,hs=>
  refine bQ (A:=iX z5 z5 z5 sh false false false false) base0 ar (aG (LsOk.no rfl)) (by simp[ae,cG,ag,aN,bp]) rfl ?_;rw[bJ];unfold z5 aN bp;rw[iz,hln];have hne:ao (Int.ofNat (a::b::c::r).length) 2=false:=beqInt_false.2 (by simp only[lConQ,bh];omega);refine ⟨hs,ai (fun e=> ?_) fun e=>mF rfl (mF rfl (mF rfl (mT rfl (mF hne ?_))))⟩
  all_goals simp[cC,jk]
theorem VM (x:It):SC 79 [aN .lim,aX x] (.bool (dL x .lim)):=by
 have hs:=lv x 4325387 1;rw[lw x 4325387 (by decide)] at hs;simp only[dL];revert hs;generalize dy x 4325387 1=sh;obtain ⟨t,y,n,d,ks⟩:=x;intro hs;have hln:ab (ap ks)=ks.length:=by rw[aM,fO]
 rw[bJ] at hs
 match ks,hln,hs with
 | [a,b,c],hln,hs=>
  have ha:=lv a 4325527 3;rw[lw a 4325527 (by decide)] at ha;have hb:=lv b 4325526 3;rw[lw b 4325526 (by decide)] at hb;have hc:=lv c 4325528 5;rw[lw c 4325528 (by decide)] at hc;simp only[cC,ef,eN,VG];revert ha hb hc;generalize dy a 4325527 3=r0;generalize dy b 4325526 3=r1;generalize dy c 4325528 5=r2;obtain ⟨t0,y0,n0,d0,k0⟩:=a;obtain ⟨t1,y1,n1,d1,k1⟩:=b;obtain ⟨t2,y2,n2,d2,k2⟩:=c;intro ha hb hc;have g0:=cQ (f:=false) (ks:=[.mk t0 y0 n0 d0 k0,.mk t1 y1 n1 d1 k1,.mk t2 y2 n2 d2 k2]) (i:=0) rfl;have g1:=cQ (f:=false) (ks:=[.mk t0 y0 n0 d0 k0,.mk t1 y1 n1 d1 k1,.mk t2 y2 n2 d2 k2]) (i:=1) rfl;have g2:=cQ (f:=false) (ks:=[.mk t0 y0 n0 d0 k0,.mk t1 y1 n1 d1 k1,.mk t2 y2 n2 d2 k2]) (i:=2) rfl;refine bQ (A:=iX (am t0 y0 n0 (ak d0) (ap k0)) (am t1 y1 n1 (ak d1) (ap k1)) (am t2 y2 n2 (ak d2) (ap k2)) sh r0 r1 r2 false) base0 ar (aG (LsOk.no rfl)) (by simp[ae,cG,ag,aN,bp]) rfl ?_;rw[bJ] at ha hb hc⊢;unfold aN bp;rw[iz];refine ⟨hs,ai (fun e=> ?_) fun e=>mF rfl (mF rfl (mF rfl (mF rfl (mT rfl (mF rfl ⟨g0,ha,ai (fun e0=> ?_) fun e0=>⟨g1,hb,ai (fun e1=> ?_) fun e1=>⟨g2,hc,ai (fun e2=> ?_) fun e2=>⟨g0,g1,g2,ai (fun e3=>ai (fun e4=>ai (fun e5=>ai (fun e6=>ai (fun e7=> ?_) fun e7=> ?_) fun e6=> ?_) fun e5=> ?_) fun e4=> ?_) fun e3=> ?_⟩⟩⟩⟩)))))⟩
  all_goals
   simp only[lF,ed] at*
   simp_all
 |[],hln,hs=>
  refine bQ (A:=iX z5 z5 z5 sh false false false false) base0 ar (aG (LsOk.no rfl)) (by simp[ae,cG,ag,aN,bp]) rfl ?_;rw[bJ];unfold z5 aN bp;rw[iz];refine ⟨hs,ai (fun e=> ?_) fun e=>mF rfl (mF rfl (mF rfl (mF rfl (mT rfl (mT rfl ?_)))))⟩
  all_goals simp[cC,ef]
 |[a],hln,hs=>
  refine bQ (A:=iX z5 z5 z5 sh false false false false) base0 ar (aG (LsOk.no rfl)) (by simp[ae,cG,ag,aN,bp]) rfl ?_;rw[bJ];unfold z5 aN bp;rw[iz];refine ⟨hs,ai (fun e=> ?_) fun e=>mF rfl (mF rfl (mF rfl (mF rfl (mT rfl (mT rfl ?_)))))⟩
  all_goals simp[cC,ef]
 |[a,b],hln,hs=>
  refine bQ (A:=iX z5 z5 z5 sh false false false false) base0 ar (aG (LsOk.no rfl)) (by simp[ae,cG,ag,aN,bp]) rfl ?_;rw[bJ];unfold z5 aN bp;rw[iz];refine ⟨hs,ai (fun e=> ?_) fun e=>mF rfl (mF rfl (mF rfl (mF rfl (mT rfl (mT rfl ?_)))))⟩
  all_goals simp[cC,ef]
 | a::b::c::g::r,hln,hs=>
  refine bQ (A:=iX z5 z5 z5 sh false false false false) base0 ar (aG (LsOk.no rfl)) (by simp[ae,cG,ag,aN,bp]) rfl ?_;rw[bJ];unfold z5 aN bp;rw[iz,hln];have hne:(!ao (Int.ofNat (a::b::c::g::r).length) 3)=true:=by
   rw[Bool.not_eq_true',beqInt_false];simp only[lConQ,bh];omega
  refine ⟨hs,ai (fun e=> ?_) fun e=>mF rfl (mF rfl (mF rfl (mF rfl (mT rfl (mT hne ?_)))))⟩
  all_goals simp[cC,ef]
theorem BX {k:Kd} (hk:dR k=true) (hn:iA k) (x:It) (hx:cY x):SC 79 [aN k,aX x] (.bool (dL x k)):=by
 cases k with
 |nam=>exact IX x hx rfl rfl rfl rfl rfl
 |alg=>exact VH x
 |len=>exact VI x
 |mask=>exact VJ x
 |dat k=>exact VK x hk
 |lnk=>exact VL x hx
 |lim=>exact VM x
 |cus s=>exact IX x hx (lZ hn (by simp[kinds])) (lZ hn (by simp[kinds])) (lZ hn (by simp[kinds])) (lZ hn (by simp[kinds])) (lZ hn (by simp[kinds]))
 |_=>cases hk
noncomputable section
def pe (i but:Int) (Ls C:List AV):View:=⟨[(2,I but),(6,.bool false),(7,.fsl false Ls),(8,I i)],[(4,.ptr 0 0)],[(0,.cells C,.whole)],1,32⟩
def kA (b:Bool):View:=⟨[(6,.bool b)],[],[],1,32⟩
@[simp] abbrev BZ (D K:List AV) (a q t y:Int) (s:List UInt8):=([AV.str s,I a,I t,I y,I q,AV.fsl false D,AV.fsl false K]=[AV.str s,I a,I t,I y,I q,AV.fsl false D,AV.fsl false K]∧ae [AV.str s,I a,I t,I y,I q,AV.fsl false D,AV.fsl false K]=true)
@[simp] abbrev B0 (Ls:List AV):=(AV.fsl false Ls=AV.fsl false Ls∧ag (AV.fsl false Ls)=true)
@[simp] abbrev B1:=(AV.bool false=AV.bool false∧true=true)
theorem B2 (s s':List UInt8) (a t y q a' t' y' q':Int) (D K D' K' Ls:List AV) (i j but:Int) (b c:Bool) (N:Prop) (Q:AExit→St→Prop):aP prog opts0 40 (w6 (.str s'::I a'::am t' y' q' D' K') b) (aJ prog 80 4) (pe i but Ls (.str s::I a::am t y q D K)).st (cb 0 [(0,0)] (pe j but Ls (.str s::I a::am t y q D K)) N [] (kA c) Q)=
 (ac (ay i (Int.ofNat (ab Ls))) (ac (!ao i but) (aF prog 43 (.fsl false Ls) (I i)=some (.fptr [AV.str s',I a',I t',I y',I q',.fsl false D',.fsl false K'] 0)∧SC 35 [AV.agg [I t',I y',I q',.fsl false D',.fsl false K'],.agg [I t,I y,I q,.fsl false D,.fsl false K]] (.bool b)∧ac b ((((AV.bool true=AV.bool c∧ag (.bool c)=true)∧True)∧True∧True)∧Q AExit.ret (kA c).st) ((((I but=I but∧ag (I but)=true)∧B1∧(B0 Ls)∧(I (aj IntKind.i64 (i+1))=I j∧ag (I j)=true)∧True)∧((some 0=some 0∧0=0)∧True)∧(BZ D K a q t y s)∧True)∧N)) ((((I but=I but∧ag (I but)=true)∧B1∧(B0 Ls)∧(I (aj IntKind.i64 (i+1))=I j∧ag (I j)=true)∧True)∧((some 0=some 0∧0=0)∧True)∧(BZ D K a q t y s)∧True)∧N)) ((((AV.bool false=AV.bool c∧ag (.bool c)=true)∧True)∧True∧True)∧Q (AExit.exit 0) (kA c).st)):=by kernel_rfl
def IY (r:Bool) (but:Int) (Ls C:List AV):bV:=fun st Q=>dr 0 [(0,1)] (pe 0 but Ls C) st∧ac r (Q .ret (kA true).st) (Q (.exit 0) (kA false).st)
theorem VN (s:List UInt8) (a t y q but:Int) (D K Ls:List AV) (r:Bool) (o:Ob) (M N L C:AV) (Q:AV→Prop):aH prog opts0 40 (aB [] [(4,IY r but Ls (.str s::I a::am t y q D K))] (bP [(17,.fsl false Ls)]) [] []) 80 [.agg (aa o M N L C),.agg (.str s::I a::am t y q D K),I but] [] 0 (fun v _ _=>Q v)=
 (SC 17 [AV.agg (aa o M N L C),.str s] (.fsl false Ls)∧(((I but=I but∧ag (I but)=true)∧B1∧(B0 Ls)∧(I 0=I 0∧true=true)∧True)∧((some 1=some 1∧0=0)∧True)∧(BZ D K a q t y s)∧True)∧ac r (Q (.bool true)) (Q (.bool false))):=by kernel_rfl
theorem VO:bW (dI prog 80) 4=[aJ prog 80 4]:=by kernel_rfl
theorem VQ {n:List UInt8} {l:List It} {s:List UInt8} {a t y q but:Int} {d:List UInt8} {ks:List It} {Q:AExit→St→Prop} (hok:∀x∈l,eX cv x) (hb:l.length≤1000):
  ∀i,i≤l.length→(ac (gI (.mk t y q d ks) but (l.drop i) i) (Q .ret (kA true).st) (Q (.exit 0) (kA false).st)→
   ALp prog opts0.glob 0 (aJ prog 80 4) (pe (.ofNat i) but ((bo n l 0).map aK) (.str s::I a::am t y q (ak d) (ap ks))).st Q):=by
 have hM:=oZ (bo n l 0);have hC:ae (.str s::I a::am t y q (ak d) (ap ks))=true:=by
  have:=fZ ⟨s,a,.mk t y q d ks⟩;exact this
 have hlen:ab ((bo n l 0).map aK)=l.length:=by rw[aM,List.length_map,gK]
 refine tJ _ (fun hq=> ?_) (fun i hi ih hq=> ?_)
 ·rw[List.drop_of_length_le (Nat.le_refl _)] at hq;refine ALp.round (A:=w6 (.str []::I 0::am 0 0 0 [] []) false) (V2:=pe 0 but ((bo n l 0).map aK) (.str s::I a::am t y q (ak d) (ap ks))) (F:=kA false) (lk:=[(0,0)]) (lk':=[]) base0 ar (LsOk.no rfl) .refl ?_;rw[B2,hlen];exact ai (fun e=>(nr e).elim) fun _=>⟨⟨⟨rflTwoQ,ad⟩,trivial,ad⟩,hq⟩
 ·have g:=List.getElem?_eq_getElem hi;have hm:=hok _ (List.getElem_mem hi);rw[List.drop_eq_getElem_cons hi,gI] at hq;revert g hm hq;generalize l[i]=x;intro hq g hm;have hs:=FJ x (.mk t y q d ks) hm;have k1:=Iv (s:=n) (i:=0) g;rw[Nat.zero_add] at k1;obtain ⟨t',y',q',d',ks'⟩:=x;have gx:=IU (f:=false) k1;have hw:=dA (p:=i) (by omega);rw[bJ,bJ] at hs;revert hs hq;generalize eY (.mk t' y' q' d' ks') (.mk t y q d ks)=b;intro hq hs;cases hbb:(!ao (.ofNat i) but&&b) with
  |true=>
   rw[hbb] at hq;rw[Bool.and_eq_true] at hbb;refine ALp.round (A:=w6 (.str n::I (.ofNat i)::am t' y' q' (ak d') (ap ks')) b) (V2:=pe (.ofNat (i+1)) but ((bo n l 0).map aK) (.str s::I a::am t y q (ak d) (ap ks))) (F:=kA true) (lk:=[(0,0)]) (lk':=[]) base0 ar (LsOk.no rfl) .refl ?_;rw[B2,hlen];exact ai (fun _=>mT hbb.1 ⟨gx,hs,mT hbb.2 ⟨⟨⟨rflTwoQ,ad⟩,trivial,ad⟩,hq⟩⟩) fun e=>absurd e (gL hi)
  |false=>
   rw[hbb,Bool.false_or] at hq;have ih:=ih hq;refine ALp.round (A:=w6 (.str n::I (.ofNat i)::am t' y' q' (ak d') (ap ks')) b) (V2:=pe (.ofNat (i+1)) but ((bo n l 0).map aK) (.str s::I a::am t y q (ak d) (ap ks))) (F:=kA false) (lk:=[(0,0)]) (lk':=[]) base0 ar (LsOk.no rfl) .refl ?_;rw[B2,hlen,hw];refine ai (fun _=>ai (fun e1=>⟨gx,hs,ai (fun e2=> ?_) fun _=>⟨⟨⟨rflTwoQ,rflTwoQ,⟨rfl,hM⟩,rflTwoQ,ad⟩,⟨rflTwoQ,ad⟩,⟨rfl,hC⟩,ad⟩,ih⟩⟩) fun _=>⟨⟨⟨rflTwoQ,rflTwoQ,⟨rfl,hM⟩,rflTwoQ,ad⟩,⟨rflTwoQ,ad⟩,⟨rfl,hC⟩,ad⟩,ih⟩) fun e=>absurd e (gL hi);rw[e1,e2] at hbb;cases hbb
section
variable {o:Ob} {k:Kd} {s:List UInt8}
theorem IZ (hof:SC 17 [au o,.str s] (.fsl false ((bo s (aA o k) 0).map aK))) (hg:jQ o k) (i:Int) (v:It) (but:Int):SC 80 [au o,aK ⟨s,i,v⟩,I but] (.bool (gI v but (aA o k) 0)):=by
 have hok:=hg.i;have hb:=hg.n;have hcl:ae [au o,aK ⟨s,i,v⟩,I but]=true:=cS o (by simp[ae,fZ,ag]);revert hof hok hb;generalize aA o k=l;intro hof hok hb;obtain ⟨t,y,q,d,ks⟩:=v;have hM:=oZ (bo s l 0);have hC:ae (.str s::I i::am t y q (ak d) (ap ks))=true:=by
  have:=fZ ⟨s,i,.mk t y q d ks⟩;exact this
 refine bQ (A:=aB [] [(4,IY (gI (.mk t y q d ks) but l 0) but ((bo s l 0).map aK) (.str s::I i::am t y q (ak d) (ap ks)))] (bP [(17,.fsl false ((bo s l 0).map aK))]) [] []) base0 ar
  (aG (LsOk.at1 rfl VO fun st Q hs=> .seen base0.glob hs.1 (VQ hok hb 0 (Nat.zero_le _) (by rw[List.drop_zero];exact hs.2)))) hcl rfl ?_
 unfold au ax at*
 rw[cT,VN];refine ⟨hof,⟨⟨rflTwoQ,rflTwoQ,⟨rfl,hM⟩,rflTwoQ,ad⟩,⟨rflTwoQ,ad⟩,⟨rfl,hC⟩,ad⟩,ai (fun e=> ?_) fun e=> ?_⟩
 ·rw[e]
 ·rw[e]
theorem VR (hof:SC 17 [au o,.str s] (.fsl false ((bo s (aA o k) 0).map aK))) (hs:s=aC k) (hm:ci k=false) (hk:dR k=true):SC 115 [au o,.str s] (.bool (ay 0 (.ofNat (dk o k)))):=by
 have hcl:ae [au o,.str s]=true:=cS o rfl;have hlen:ab ((bo s (aA o k) 0).map aK)=(aA o k).length:=by rw[aM,List.length_map,gK]
 refine bQ (A:=aB [] [] (bP [(17,.fsl false ((bo s (aA o k) 0).map aK))]) [] []) base0 ar (aG (LsOk.no rfl)) hcl rfl ?_;unfold au ax at*
 rw[VE,hlen];subst hs;have hone:∀ (b:Bool) (x:It),(ir k=2→b=true→ao (ed x) 0=false)→oY false (ir k) (cV b x)=(cV b x).length:=fun b x h=>by
  cases b with
  |false=>rfl
  |true=>
   show (match false||(!ao (ir k) 2|| !ao (ed x) 0) with|true=>1|false=>0)=1
   cases h2:ao (ir k) 2 with
   |false=>rfl
   |true=>rw[h (beqInt_iff.1 h2) rfl];rfl
 cases k with
 |mask=>
  refine mT rfl ?_;show _=AV.bool (ay 0 (.ofNat (oY false 2 [dJ 2 o.mask])));show _=AV.bool (ay 0 (.ofNat (match false||(!ao 2 2|| !ao o.mask 0) with|true=>1|false=>0)))
  cases ao o.mask 0<;>rfl
 |alg=>
  refine mF rfl ⟨hof, ?_⟩;rw[show dk o .alg=(aA o .alg).length from hone _ _ fun e=>by cases e]
 |len=>
  refine mF rfl ⟨hof, ?_⟩;rw[show dk o .len=(aA o .len).length from hone _ _ fun _ e=>by simpa [dJ,bY,ed] using e]
 | dat j=>
  have hk4:j=1∨j=2∨j=3∨j=4:=by
   simp only[dR,lz,Bool.and_eq_true,Nat.ble_eq] at hk;omega
  have hne:aI (aC (.dat j)) [67,114,121,112,116,111,103,114,97,112,104,105,99,32,85,115,97,103,101,32,77,97,115,107]=false:=by
   rcases hk4 with rfl|rfl|rfl|rfl<;>rfl
  refine mF hne ⟨hof, ?_⟩;rw[show dk o (.dat j)=(aA o (.dat j)).length from hone _ _ fun e=>by cases e]
 |lim=>
  refine mF rfl ⟨hof, ?_⟩;rw[show dk o .lim=(aA o .lim).length from hone _ _ fun e=>by cases e]
 |nam=>cases hm
 |lnk=>cases hm
 |cus s=>cases hm
 |_=>cases hk
theorem VT (hn:iA k) (hm:ci k=true) (hc:∀s,k= .cus s→SC 114 [.str s] (.bool true)):SC 116 [au o,.str (aC k)] (.bool (!jm o k)):=by
 have hcl:ae [au o,.str (aC k)]=true:=cS o rfl;have h6:∀n m:Nat,(!ay (Int.ofNat n) (Int.ofNat m))= !Nat.blt n m:=fun n m=>by
  cases hb:Nat.blt n m with
  |true=>
   have:=blt_iff.1 hb;rw[ltInt_iff.2 (by simp only[bh];omega)]
  |false=>
   have:¬n<m:=fun h=>by rw[blt_iff.2 h] at hb;cases hb
   rw[ltInt_false.2 (by simp only[bh];omega)]
 refine bQ (A:=aB [] [] (bP [(114,.bool true)]) [] []) base0 ar (aG (LsOk.no rfl)) hcl rfl ?_;unfold au ax bR bS bD;rw[VF];cases k with
 |nam=>
  refine mT rfl ?_;have:=h6 o.names.length 6;rw[aM,List.length_map];exact congrArg AV.bool this
 |lnk=>
  refine mF rfl (mT rfl ?_);have:=h6 o.links.length 8;rw[aM,List.length_map];exact congrArg AV.bool this
 |cus s=>
  refine mF (lZ hn (j:= .nam) (by simp[kinds])) (mF (lZ hn (j:= .lnk) (by simp[kinds])) ⟨hc s rfl,mT rfl ?_⟩);have:=h6 o.cust.length 6;rw[aM,List.length_map];exact congrArg AV.bool this
 |_=>cases hm
end
end
noncomputable def cu (l:List (Nat × Nat × eW)):bz:=aB l [] aR [] []
theorem VU (o:Ob) (M N L C:AV) (s:List UInt8) (i t y n:Int) (D K:List AV) (Q:AV→Prop):aH prog opts0 40 (cu []) 81 [.agg (aa o M N L C),aN .alg,.agg (.str s::I i::am t y n D K)] [] 0 (fun v _ _=>Q v)=
 (aw (aY prog 33 (.agg (aa {o with alg:=n} M N L C)) 37) (Q (.agg (aa {o with alg:=n} M N L C)))):=by kernel_rfl
theorem VV (o:Ob) (M N L C:AV) (s:List UInt8) (i t y n:Int) (D K:List AV) (Q:AV→Prop):aH prog opts0 40 (cu []) 81 [.agg (aa o M N L C),aN .len,.agg (.str s::I i::am t y n D K)] [] 0 (fun v _ _=>Q v)=
 (aw (aY prog 33 (.agg (aa {o with len:=n} M N L C)) 37) (Q (.agg (aa {o with len:=n} M N L C)))):=by kernel_rfl
theorem VW (o:Ob) (M N L C:AV) (s:List UInt8) (i t y n:Int) (D K:List AV) (Q:AV→Prop):aH prog opts0 40 (cu []) 81 [.agg (aa o M N L C),aN .mask,.agg (.str s::I i::am t y n D K)] [] 0 (fun v _ _=>Q v)=
 (aw (aY prog 33 (.agg (aa {o with mask:=n} M N L C)) 37) (Q (.agg (aa {o with mask:=n} M N L C)))):=by kernel_rfl
theorem VX (o:Ob) (M N L C:AV) (s:List UInt8) (i t y n:Int) (D K:List AV) (Q:AV→Prop):aH prog opts0 40 (cu []) 81 [.agg (aa o M N L C),aN (.dat 1),.agg (.str s::I i::am t y n D K)] [] 0 (fun v _ _=>Q v)=
 (aw (aY prog 33 (.agg (aa {o with d1:=⟨true,n⟩} M N L C)) 37) (Q (.agg (aa {o with d1:=⟨true,n⟩} M N L C)))):=by kernel_rfl
theorem VY (o:Ob) (M N L C:AV) (s:List UInt8) (i t y n:Int) (D K:List AV) (Q:AV→Prop):aH prog opts0 40 (cu []) 81 [.agg (aa o M N L C),aN (.dat 2),.agg (.str s::I i::am t y n D K)] [] 0 (fun v _ _=>Q v)=
 (aw (aY prog 33 (.agg (aa {o with d2:=⟨true,n⟩} M N L C)) 37) (Q (.agg (aa {o with d2:=⟨true,n⟩} M N L C)))):=by kernel_rfl
theorem VZ (o:Ob) (M N L C:AV) (s:List UInt8) (i t y n:Int) (D K:List AV) (Q:AV→Prop):aH prog opts0 40 (cu []) 81 [.agg (aa o M N L C),aN (.dat 3),.agg (.str s::I i::am t y n D K)] [] 0 (fun v _ _=>Q v)=
 (aw (aY prog 33 (.agg (aa {o with d3:=⟨true,n⟩} M N L C)) 37) (Q (.agg (aa {o with d3:=⟨true,n⟩} M N L C)))):=by kernel_rfl
theorem V3 (o:Ob) (M N L C:AV) (s:List UInt8) (i t y n:Int) (D K:List AV) (Q:AV→Prop):aH prog opts0 40 (cu []) 81 [.agg (aa o M N L C),aN (.dat 4),.agg (.str s::I i::am t y n D K)] [] 0 (fun v _ _=>Q v)=
 (aw (aY prog 33 (.agg (aa {o with d4:=⟨true,n⟩} M N L C)) 37) (Q (.agg (aa {o with d4:=⟨true,n⟩} M N L C)))):=by kernel_rfl
theorem V4 (o:Ob) (M N L C:AV) (s:List UInt8) (i t y n t0 y0 n0 t1 y1 n1 t2 y2 n2:Int) (D K D0 K0 D1 K1 D2 K2:List AV) (Q:AV→Prop):aH prog opts0 40 (cu [(30,2,.res (.fptr (am t0 y0 n0 D0 K0) 0)),(30,7,.res (.fptr (am t1 y1 n1 D1 K1) 0)),(30,12,.res (.fptr (am t2 y2 n2 D2 K2) 0))]) 81 [.agg (aa o M N L C),aN .lim,.agg (.str s::I i::am t y n D K)] [] 0 (fun v _ _=>Q v)=
 (aF prog 35 (.fsl false K) (I 0)=some (.fptr [I t0,I y0,I n0,.fsl false D0,.fsl false K0] 0)∧aF prog 35 (.fsl false K) (I 1)=some (.fptr [I t1,I y1,I n1,.fsl false D1,.fsl false K1] 0)∧aF prog 35 (.fsl false K) (I 2)=some (.fptr [I t2,I y2,I n2,.fsl false D2,.fsl false K2] 0)∧aw (aY prog 33 (.agg (aa {o with lh:=true,lt:=n0,lc:=n1,lu:=n2} M N L C)) 37) (Q (.agg (aa {o with lh:=true,lt:=n0,lc:=n1,lu:=n2} M N L C)))):=by kernel_rfl
theorem V5 (o:Ob) (M L C:AV) (s x:List UInt8) (t y n:Int) (D K:List AV) (Q:AV→ah→Prop):aH prog opts0 40 (cu [(17,6,.res (.str x))]) 81 [.agg (aa o M (.fsl false []) L C),aN .nam,.agg (.str s::I 0::am t y n D K)] [] 0 (fun v H _=>Q v H)=
 (dM prog 23 9 (.fsl false D)=some (Eff.val (.str x))∧aw (aY prog 33 (.agg (aa o M (.rsl true 27 0 1 1) L C)) 37) (Q (.agg (aa o M (.rsl true 27 0 1 1) L C)) [(27,some (Blk.cells [AV.str x])),(6,some (Blk.cells [I t,I y,I n,.fsl false D,.fsl false K])),(3,some (Blk.cells (aa o M (.rsl true 27 0 1 1) L C))),(2,some (Blk.cells [AV.str s,I 0,I t,I y,I n,.fsl false D,.fsl false K])),(1,some (Blk.cells [AV.str [78,97,109,101],I 7,.bool true,.bool true,.str [65,77,68],.str [],I (Int.negSucc 0)])),(0,some (Blk.cells (aa o M (.rsl true 27 0 1 1) L C)))])):=by kernel_rfl
theorem V6 (o:Ob) (M N C:AV) (s x:List UInt8) (t y n t0 y0 n0 t1 y1 n1:Int) (D K D0 K0 D1 K1:List AV) (Q:AV→ah→Prop):aH prog opts0 40 (cu [(28,6,.res (.fptr (am t0 y0 n0 D0 K0) 0)),(28,11,.res (.fptr (am t1 y1 n1 D1 K1) 0)),(28,14,.res (.str x))]) 81 [.agg (aa o M N (.fsl false []) C),aN .lnk,.agg (.str s::I 0::am t y n D K)] [] 0 (fun v H _=>Q v H)=
 (aF prog 35 (.fsl false K) (I 0)=some (.fptr [I t0,I y0,I n0,.fsl false D0,.fsl false K0] 0)∧aF prog 35 (.fsl false K) (I 1)=some (.fptr [I t1,I y1,I n1,.fsl false D1,.fsl false K1] 0)∧dM prog 23 9 (.fsl false D1)=some (Eff.val (.str x))∧aw (aY prog 33 (.agg (aa o M N (.rsl true 44 0 1 2) C)) 37) (Q (.agg (aa o M N (.rsl true 44 0 1 2) C)) [(44,some (Blk.cells [I n0,.str x])),(6,some (Blk.cells [I t,I y,I n,.fsl false D,.fsl false K])),(3,some (Blk.cells (aa o M N (.rsl true 44 0 1 2) C))),(2,some (Blk.cells [AV.str s,I 0,I t,I y,I n,.fsl false D,.fsl false K])),(1,some (Blk.cells [AV.str [76,105,110,107],I 1,.bool true,.bool true,.str [65,77,68],.str [],I (Int.negSucc 0)])),(0,some (Blk.cells (aa o M N (.rsl true 44 0 1 2) C)))])):=by kernel_rfl
noncomputable section
def w9:List AV:=[.str [],I 0,I 0,I 0,I 0,.nilsl,I 0,.bool false,I 0,.bool false,I 0,.bool false,I 0,.bool false,I 0,.bool false,I 0,.bool false,I 0,.bool false,I 0,.bool false,I 0,.bool false,I 0,.bool false,I 0,I 0,.str [],.nilsl,.nilsl,.nilsl,.bool false,I 0,I 0,I 0,.bool false]
def eC (c i:Int) (_m:Nat) (O es R A T:List AV):View:=⟨[(8,I c),(9,I i)],[(3,.ptr 0 0),(4,.ptr 2 0),(5,.ptr 3 0),(6,.ptr 5 0),(7,.ptr 4 0)],[(0,.cells O,.rel),(1,.cells es,.whole),(2,.cells R,.whole),(3,.cells A,.whole),(4,.cells T,.whole),(5,.cells w9,.whole)],6,179⟩
def kB (c i:Int) (O R A T:List AV):View:=⟨[(8,I c),(9,I i)],[(3,.ptr 0 0),(4,.ptr 1 0),(5,.ptr 2 0),(6,.ptr 4 0),(7,.ptr 3 0)],[(0,.cells O,.rel),(1,.cells R,.whole),(2,.cells A,.whole),(3,.cells T,.whole),(4,.cells w9,.whole)],5,179⟩
abbrev uc (s:List UInt8):=[AV.str s,I 7,AV.bool true,AV.bool true,AV.str [65,77,68],AV.str [],I (Int.negSucc 0)]
abbrev ud (D K:List AV) (ix n t y:Int) (s':List UInt8):=[AV.str s',I ix,I t,I y,I n,AV.fsl false D,AV.fsl false K]
@[simp] abbrev ri (D K:List AV) (ix n t y:Int) (s':List UInt8):=((ud D K ix n t y s')=(ud D K ix n t y s')∧ae (ud D K ix n t y s')=true)
abbrev ue (D K:List AV) (n t y:Int):=[I t,I y,I n,AV.fsl false D,AV.fsl false K]
@[simp] abbrev rj (D K:List AV) (n t y:Int):=((ue D K n t y)=(ue D K n t y)∧ae (ue D K n t y)=true)
@[simp] abbrev B3:=((some 0=some 0∧0=0)∧(some 2=some 2∧0=0)∧(some 3=some 3∧0=0)∧(some 5=some 5∧0=0)∧(some 4=some 4∧0=0)∧True)
@[simp] abbrev rl (s:List UInt8):=((uc s)=(uc s)∧ae (uc s)=true)
@[simp] abbrev I1 (D K es:List AV) (L M N:AV) (Q:AExit→St→Prop) (c i ix n t y:Int) (m:Nat) (o:Ob) (s s':List UInt8):=((((I c=I c∧ag (I c)=true)∧(I i=I i∧ag (I i)=true)∧True)∧B3∧br [(0,0),(1,1),(2,2),(3,3),(4,4),(5,5)] (aa o M N L (AV.rsl true 1 0 m 2)) (aa o M N L (AV.rsl true 1 0 m 2))∧(es=es∧ae es=true)∧(rl s)∧(ri D K ix n t y s')∧(rj D K n t y)∧(zL=zL∧true=true)∧True)∧Q (AExit.exit 1) (eC c i m (aa o M N L (AV.rsl true 1 0 m 2)) es (bp (Kd.cus s)) (AV.str s'::I ix::am t y n D K) (am t y n D K)).st)
abbrev xa (D K es:List AV) (L M N:AV) (c i ix n t y:Int) (m:Nat) (o:Ob) (s s':List UInt8):=(eC c i m (aa o M N L (AV.rsl true 1 0 m 2)) es (bp (.cus s)) (AV.str s'::I ix::am t y n D K) (am t y n D K))
theorem B4 (o:Ob) (M N L:AV) (s s' x:List UInt8) (ix t y n c _c' i j:Int) (D K es O:List AV) (m:Nat) (Nx:Prop) (Q:AExit→St→Prop):aP prog opts0 40 (cu [(7,5,.ld (.str x)),(7,8,.res (.bool false))]) (aJ prog 81 6) (xa D K es L M N c i ix n t y m o s s').st (cb 0 [(0,0),(1,1),(2,2),(3,3),(4,4),(5,5)] (eC c j m O es (bp (.cus s)) (.str s'::I ix::am t y n D K) (am t y n D K)) Nx [(0,0),(1,1),(2,2),(3,3),(4,4),(5,5)] (xa D K es L M N c i ix n t y m o s s') Q)=
 (ac (ay i (Int.ofNat m)) (aw (dx i&&(i.toNat.blt m&&true)) (bZ prog 9 es (0+i.toNat*2+0)=some (.str x)∧aE prog BinOp.eql 9 (Operand.tmp 29) (Operand.tmp 31) (.str x) (.str s)=some (.bool false)∧(((I c=I c∧ag (I c)=true)∧(I (aj IntKind.i64 (i+1))=I j∧ag (I j)=true)∧True)∧B3∧br [(0,0),(1,1),(2,2),(3,3),(4,4),(5,5)] O (aa o M N L (.rsl true 1 0 m 2))∧(es=es∧ae es=true)∧(rl s)∧(ri D K ix n t y s')∧(rj D K n t y)∧(zL=zL∧true=true)∧True)∧Nx)) (I1 D K es L M N Q c i ix n t y m o s s')):=by kernel_rfl
theorem I3 (o:Ob) (M N L:AV) (s s' x:List UInt8) (ix t y n c c' i j:Int) (D K es O:List AV) (m:Nat) (Nx:Prop) (Q:AExit→St→Prop):aP prog opts0 40 (cu [(7,5,.ld (.str x)),(7,8,.res (.bool true)),(8,3,.res (.bool false))]) (aJ prog 81 6) (xa D K es L M N c i ix n t y m o s s').st (cb 0 [(0,0),(1,1),(2,2),(3,3),(4,4),(5,5)] (eC c' j m O es (bp (.cus s)) (.str s'::I ix::am t y n D K) (am t y n D K)) Nx [(0,0),(1,1),(2,2),(3,3),(4,4),(5,5)] (xa D K es L M N c i ix n t y m o s s') Q)=
 (ac (ay i (Int.ofNat m)) (aw (dx i&&(i.toNat.blt m&&true)) (bZ prog 9 es (0+i.toNat*2+0)=some (.str x)∧aE prog BinOp.eql 9 (Operand.tmp 29) (Operand.tmp 31) (.str x) (.str s)=some (.bool true)∧aE prog BinOp.eql 3 (Operand.tmp 33) (Operand.tmp 35) (I c) (I ix)=some (.bool false)∧(((I (aj IntKind.i64 (c+1))=I c'∧ag (I c')=true)∧(I (aj IntKind.i64 (i+1))=I j∧ag (I j)=true)∧True)∧B3∧br [(0,0),(1,1),(2,2),(3,3),(4,4),(5,5)] O (aa o M N L (.rsl true 1 0 m 2))∧(es=es∧ae es=true)∧(rl s)∧(ri D K ix n t y s')∧(rj D K n t y)∧(zL=zL∧true=true)∧True)∧Nx)) (I1 D K es L M N Q c i ix n t y m o s s')):=by kernel_rfl
@[simp] abbrev uf:=(I 0=I 0∧true=true)
theorem V7 (o:Ob) (M N L:AV) (s s':List UInt8) (ix t y n c i:Int) (D K:List AV) (Nx:Prop) (Q:AExit→St→Prop):aP prog opts0 40 (cu []) (aJ prog 81 6) (kB c 0 (aa o M N L (.fsl true [])) (bp (.cus s)) (.str s'::I ix::am t y n D K) (am t y n D K)).st (cb 0 [] (kB c i (aa o M N L (.fsl true [])) (bp (.cus s)) (.str s'::I ix::am t y n D K) (am t y n D K)) Nx [(0,0),(1,1),(2,2),(3,3),(4,4)] (kB c 0 (aa o M N L (.fsl true [])) (bp (.cus s)) (.str s'::I ix::am t y n D K) (am t y n D K)) Q)=
 ((((I c=I c∧ag (I c)=true)∧uf∧True)∧((some 0=some 0∧0=0)∧(some 1=some 1∧0=0)∧(some 2=some 2∧0=0)∧(some 4=some 4∧0=0)∧(some 3=some 3∧0=0)∧True)∧br [(0,0),(1,1),(2,2),(3,3),(4,4)] (aa o M N L (.fsl true [])) (aa o M N L (.fsl true []))∧(rl s)∧(ri D K ix n t y s')∧(rj D K n t y)∧(zL=zL∧true=true)∧True)∧Q (AExit.exit 1) (kB c 0 (aa o M N L (.fsl true [])) (bp (Kd.cus s)) (.str s'::I ix::am t y n D K) (am t y n D K)).st):=by kernel_rfl
def I4 (c:Int) (m:Nat) (O es R A T:List AV):bV:=fun st Q=>dr 0 [(0,0),(1,39),(2,1),(3,2),(4,6),(5,3)] (eC 0 0 m O es R A T) st∧Q (.exit 1) (eC c (.ofNat m) m O es R A T).st
def B5 (O R A T:List AV):bV:=fun st Q=>dr 0 [(0,0),(1,1),(2,2),(3,6),(4,3)] (kB 0 0 O R A T) st∧Q (.exit 1) (kB 0 0 O R A T).st
abbrev kC (s x:List UInt8):=[AV.agg [AV.str s,AV.str x]]
@[simp] abbrev I5:=((some 0=some 0∧0=0)∧(some 1=some 1∧0=0)∧(some 2=some 2∧0=0)∧(some 3=some 3∧0=0)∧(some 6=some 6∧0=0)∧True)
abbrev I6:=(AV.str gQ)
abbrev I7:=(AV.str ic)
abbrev I8:=(AV.str ig)
abbrev xb (s x:List UInt8):=(AV.rsl true 14 0 (0+ab (kC s x)) 2)
abbrev I9:=(AV.str dt)
theorem V8 (o:Ob) (M N L:AV) (s s' x:List UInt8) (ix t y n _c:Int) (D K:List AV) (Q:AV→ah→Prop):aH prog opts0 40 (aB [(13,2,.res (.bool false)),(18,2,.res (.bool false)),(20,2,.res (.bool false)),(22,2,.res (.bool false)),(24,2,.res (.bool false)),(29,2,.res (.bool false)),(12,6,.res (.str x))] [(6,B5 (aa o M N L (.fsl true [])) (bp (.cus s)) (.str s'::I ix::am t y n D K) (am t y n D K))] aR [] []) 81 [.agg (aa o M N L (.fsl false [])),aN (.cus s),.agg (.str s'::I ix::am t y n D K)] [] 0 (fun v H _=>Q v H)=
 (aE prog BinOp.eql 9 (Operand.tmp 61) (Operand.const (Value.string {data:={toList:=[78,97,109,101]}})) (.str s) (.str [78,97,109,101])=some (.bool false)∧aE prog BinOp.eql 9 (Operand.tmp 89) (Operand.const (Value.string {data:={toList:=ic}})) (.str s) I7=some (.bool false)∧aE prog BinOp.eql 9 (Operand.tmp 96) (Operand.const (Value.string {data:={toList:=ig}})) (.str s) I8=some (.bool false)∧aE prog BinOp.eql 9 (Operand.tmp 103) (Operand.const (Value.string {data:={toList:=gQ}})) (.str s) I6=some (.bool false)∧aE prog BinOp.eql 9 (Operand.tmp 110) (Operand.const (Value.string {data:={toList:=[76,105,110,107]}})) (.str s) (.str [76,105,110,107])=some (.bool false)∧aE prog BinOp.eql 9 (Operand.tmp 148) (Operand.const (Value.string {data:={toList:=dt}})) (.str s) I9=some (.bool false)∧((uf∧uf∧True)∧I5∧br [(0,0),(1,1),(2,2),(3,6),(4,3)] (aa o M N L (.fsl true [])) (aa o M N L (.fsl true []))∧(rl s)∧(ri D K ix n t y s')∧(rj D K n t y)∧(zL=zL∧true=true)∧True)∧dM prog 23 9 (.fsl false D)=some (Eff.val (.str x))∧aw (aY prog 33 (.agg (aa o M N L (xb s x))) 37) (Q (.agg (aa o M N L (xb s x))) [(14,some (Blk.cells (flat (kC s x)))),(4,some (Blk.cells (aa o M N L (xb s x)))),(0,some (Blk.cells (aa o M N L (xb s x)))),(1,some (Blk.cells (uc s))),(2,some (Blk.cells (ud D K ix n t y s'))),(3,some (Blk.cells (ue D K n t y))),(4,some (Blk.cells zL))])):=by kernel_rfl
theorem V9 (o:Ob) (M N L a:AV) (Us:List AV) (m:Nat) (s s' x:List UInt8) (ix t y n c:Int) (D K:List AV) (Q:AV→ah→Prop):aH prog opts0 40 (aB [(13,2,.res (.bool false)),(18,2,.res (.bool false)),(20,2,.res (.bool false)),(22,2,.res (.bool false)),(24,2,.res (.bool false)),(29,2,.res (.bool false)),(12,6,.res (.str x))] [(6,I4 c m (aa o M N L (.rsl true 1 0 m 2)) (flat (a::Us)) (bp (.cus s)) (.str s'::I ix::am t y n D K) (am t y n D K))] aR [] []) 81 [.agg (aa o M N L (.fsl false (a::Us))),aN (.cus s),.agg (.str s'::I ix::am t y n D K)] [] 0 (fun v H _=>Q v H)=
 (aE prog BinOp.eql 9 (Operand.tmp 61) (Operand.const (Value.string {data:={toList:=[78,97,109,101]}})) (.str s) (.str [78,97,109,101])=some (.bool false)∧aE prog BinOp.eql 9 (Operand.tmp 89) (Operand.const (Value.string {data:={toList:=ic}})) (.str s) I7=some (.bool false)∧aE prog BinOp.eql 9 (Operand.tmp 96) (Operand.const (Value.string {data:={toList:=ig}})) (.str s) I8=some (.bool false)∧aE prog BinOp.eql 9 (Operand.tmp 103) (Operand.const (Value.string {data:={toList:=gQ}})) (.str s) I6=some (.bool false)∧aE prog BinOp.eql 9 (Operand.tmp 110) (Operand.const (Value.string {data:={toList:=[76,105,110,107]}})) (.str s) (.str [76,105,110,107])=some (.bool false)∧aE prog BinOp.eql 9 (Operand.tmp 148) (Operand.const (Value.string {data:={toList:=dt}})) (.str s) I9=some (.bool false)∧aw (a7 2 (a::Us)&&(((0+ab (a::Us))*32).ble 140737488355328&&true)) (((uf∧uf∧True)∧I5∧br [(0,0),(1,39),(2,1),(3,2),(4,6),(5,3)] (aa o M N L (.rsl true 1 0 m 2)) (aa o M N L (.rsl true 39 0 (0+ab (a::Us)) 2))∧(flat (a::Us)=flat (a::Us)∧ae (flat (a::Us))=true)∧(rl s)∧(ri D K ix n t y s')∧(rj D K n t y)∧(zL=zL∧true=true)∧True)∧dM prog 23 9 (.fsl false D)=some (Eff.val (.str x))∧aw (a7 2 (kC s x)&&(((m+ab (kC s x))*32).ble 140737488355328&&(bq (flat (kC s x))&&true))) (aw ((ab (flat (a::Us))).beq (m*2)) (aw (aY prog 33 (.agg (aa o M N L (.rsl true 15 0 (m+ab (kC s x)) 2))) 37) (Q (.agg (aa o M N L (.rsl true 15 0 (m+ab (kC s x)) 2))) [(15,some (Blk.cells (flat (a::Us)++flat (kC s x)))),(5,some (Blk.cells (aa o M N L (.rsl true 15 0 (m+ab (kC s x)) 2)))),(1,none),(0,some (Blk.cells (aa o M N L (.rsl true 15 0 (m+ab (kC s x)) 2)))),(1,some (Blk.cells (flat (a::Us)))),(2,some (Blk.cells (uc s))),(3,some (Blk.cells (ud D K ix n t y s'))),(4,some (Blk.cells (ue D K n t y))),(5,some (Blk.cells zL))]))))):=by kernel_rfl
end
set_option maxRecDepth 20000
theorem l7 (d:List UInt8):dM prog 23 9 (.fsl false (ak d))=some (Eff.val (.str d)):=FC (e:=5) (by kernel_rfl) (by kernel_rfl) (by kernel_rfl)
theorem ug (p q:Operand) (x y:List UInt8):aE prog .eql 9 p q (.str x) (.str y)=some (.bool (aI x y)):=by kernel_rfl
theorem nt (p q:Operand) (x y:Int):aE prog .eql 3 p q (I x) (I y)=some (.bool (ao x y)):=by kernel_rfl
theorem gy (o:Ob) {ms ns ls cs:List AV} (hM:ae ms=true) (hN:ae ns=true) (hL:ae ls=true) (hC:ae cs=true) (k:Kd) (a:At):ae [.agg (aa o (.fsl false ms) (.fsl false ns) (.fsl false ls) (.fsl false cs)),aN k,aK a]=true:=by
 have h1:=c9 o (M:= .fsl false ms) (N:= .fsl false ns) (L:= .fsl false ls) (C:= .fsl false cs) hM hN hL hC;have h2:=fZ a;simp only[ae,ag,h1,h2,aN,bp,Bool.and_self]
theorem nu (o:Ob) (ms ns ls cs:List AV):aY prog 33 (.agg (aa o (.fsl false ms) (.fsl false ns) (.fsl false ls) (.fsl false cs))) 37=true:=by kernel_rfl
theorem B6 (o:Ob) (ms ls cs:List AV) (i n:Nat):aY prog 33 (.agg (aa o (.fsl false ms) (.rsl true i 0 n 1) (.fsl false ls) (.fsl false cs))) 37=true:=by kernel_rfl
theorem B7 (o:Ob) (ms ns cs:List AV) (i n:Nat):aY prog 33 (.agg (aa o (.fsl false ms) (.fsl false ns) (.rsl true i 0 n 2) (.fsl false cs))) 37=true:=by kernel_rfl
theorem B8 (o:Ob) (ms ns ls:List AV) (i n:Nat):aY prog 33 (.agg (aa o (.fsl false ms) (.fsl false ns) (.fsl false ls) (.rsl true i 0 n 2))) 37=true:=by kernel_rfl
section
variable {o:Ob} {ms ns ls cs:List AV} {s:List UInt8} {t y n:Int} {d:List UInt8} {ks:List It}
theorem Wa (hM:ae ms=true) (hN:ae ns=true) (hL:ae ls=true) (hC:ae cs=true) (i:Int):SC 81 [.agg (aa o (.fsl false ms) (.fsl false ns) (.fsl false ls) (.fsl false cs)),aN .alg,aK ⟨s,i,.mk t y n d ks⟩] (.agg (aa {o with alg:=n} (.fsl false ms) (.fsl false ns) (.fsl false ls) (.fsl false cs))):=by
 refine bG (A:=cu []) base0 ar (aG (LsOk.no rfl)) (gy o hM hN hL hC _ _) ?_;rw[cT,VU];exact aD (nu {o with alg:=n} _ _ _ _) (kj (c9 {o with alg:=n} (M:= .fsl false ms) (N:= .fsl false ns) (L:= .fsl false ls) (C:= .fsl false cs) hM hN hL hC))
theorem Wb (hM:ae ms=true) (hN:ae ns=true) (hL:ae ls=true) (hC:ae cs=true) (i:Int):SC 81 [.agg (aa o (.fsl false ms) (.fsl false ns) (.fsl false ls) (.fsl false cs)),aN .len,aK ⟨s,i,.mk t y n d ks⟩] (.agg (aa {o with len:=n} (.fsl false ms) (.fsl false ns) (.fsl false ls) (.fsl false cs))):=by
 refine bG (A:=cu []) base0 ar (aG (LsOk.no rfl)) (gy o hM hN hL hC _ _) ?_;rw[cT,VV];exact aD (nu {o with len:=n} _ _ _ _) (kj (c9 {o with len:=n} (M:= .fsl false ms) (N:= .fsl false ns) (L:= .fsl false ls) (C:= .fsl false cs) hM hN hL hC))
theorem Wc (hM:ae ms=true) (hN:ae ns=true) (hL:ae ls=true) (hC:ae cs=true) (i:Int):SC 81 [.agg (aa o (.fsl false ms) (.fsl false ns) (.fsl false ls) (.fsl false cs)),aN .mask,aK ⟨s,i,.mk t y n d ks⟩] (.agg (aa {o with mask:=n} (.fsl false ms) (.fsl false ns) (.fsl false ls) (.fsl false cs))):=by
 refine bG (A:=cu []) base0 ar (aG (LsOk.no rfl)) (gy o hM hN hL hC _ _) ?_;rw[cT,VW];exact aD (nu {o with mask:=n} _ _ _ _) (kj (c9 {o with mask:=n} (M:= .fsl false ms) (N:= .fsl false ns) (L:= .fsl false ls) (C:= .fsl false cs) hM hN hL hC))
theorem Wd (hM:ae ms=true) (hN:ae ns=true) (hL:ae ls=true) (hC:ae cs=true) (i:Int):SC 81 [.agg (aa o (.fsl false ms) (.fsl false ns) (.fsl false ls) (.fsl false cs)),aN (.dat 1),aK ⟨s,i,.mk t y n d ks⟩] (.agg (aa {o with d1:=⟨true,n⟩} (.fsl false ms) (.fsl false ns) (.fsl false ls) (.fsl false cs))):=by
 refine bG (A:=cu []) base0 ar (aG (LsOk.no rfl)) (gy o hM hN hL hC _ _) ?_;rw[cT,VX];exact aD (nu {o with d1:=⟨true,n⟩} _ _ _ _) (kj (c9 {o with d1:=⟨true,n⟩} (M:= .fsl false ms) (N:= .fsl false ns) (L:= .fsl false ls) (C:= .fsl false cs) hM hN hL hC))
theorem We (hM:ae ms=true) (hN:ae ns=true) (hL:ae ls=true) (hC:ae cs=true) (i:Int):SC 81 [.agg (aa o (.fsl false ms) (.fsl false ns) (.fsl false ls) (.fsl false cs)),aN (.dat 2),aK ⟨s,i,.mk t y n d ks⟩] (.agg (aa {o with d2:=⟨true,n⟩} (.fsl false ms) (.fsl false ns) (.fsl false ls) (.fsl false cs))):=by
 refine bG (A:=cu []) base0 ar (aG (LsOk.no rfl)) (gy o hM hN hL hC _ _) ?_;rw[cT,VY];exact aD (nu {o with d2:=⟨true,n⟩} _ _ _ _) (kj (c9 {o with d2:=⟨true,n⟩} (M:= .fsl false ms) (N:= .fsl false ns) (L:= .fsl false ls) (C:= .fsl false cs) hM hN hL hC))
theorem Wf (hM:ae ms=true) (hN:ae ns=true) (hL:ae ls=true) (hC:ae cs=true) (i:Int):SC 81 [.agg (aa o (.fsl false ms) (.fsl false ns) (.fsl false ls) (.fsl false cs)),aN (.dat 3),aK ⟨s,i,.mk t y n d ks⟩] (.agg (aa {o with d3:=⟨true,n⟩} (.fsl false ms) (.fsl false ns) (.fsl false ls) (.fsl false cs))):=by
 refine bG (A:=cu []) base0 ar (aG (LsOk.no rfl)) (gy o hM hN hL hC _ _) ?_;rw[cT,VZ];exact aD (nu {o with d3:=⟨true,n⟩} _ _ _ _) (kj (c9 {o with d3:=⟨true,n⟩} (M:= .fsl false ms) (N:= .fsl false ns) (L:= .fsl false ls) (C:= .fsl false cs) hM hN hL hC))
theorem Wg (hM:ae ms=true) (hN:ae ns=true) (hL:ae ls=true) (hC:ae cs=true) (i:Int):SC 81 [.agg (aa o (.fsl false ms) (.fsl false ns) (.fsl false ls) (.fsl false cs)),aN (.dat 4),aK ⟨s,i,.mk t y n d ks⟩] (.agg (aa {o with d4:=⟨true,n⟩} (.fsl false ms) (.fsl false ns) (.fsl false ls) (.fsl false cs))):=by
 refine bG (A:=cu []) base0 ar (aG (LsOk.no rfl)) (gy o hM hN hL hC _ _) ?_;rw[cT,V3];exact aD (nu {o with d4:=⟨true,n⟩} _ _ _ _) (kj (c9 {o with d4:=⟨true,n⟩} (M:= .fsl false ms) (N:= .fsl false ns) (L:= .fsl false ls) (C:= .fsl false cs) hM hN hL hC))
theorem Wi (hM:ae ms=true) (hN:ae ns=true) (hL:ae ls=true) (hC:ae cs=true) (i t0 y0 n0 t1 y1 n1 t2 y2 n2:Int) (d0 d1 d2:List UInt8) (k0 k1 k2:List It):SC 81 [.agg (aa o (.fsl false ms) (.fsl false ns) (.fsl false ls) (.fsl false cs)),aN .lim,aK ⟨s,i,.mk t y n d [.mk t0 y0 n0 d0 k0,.mk t1 y1 n1 d1 k1,.mk t2 y2 n2 d2 k2]⟩] (.agg (aa {o with lh:=true,lt:=n0,lc:=n1,lu:=n2} (.fsl false ms) (.fsl false ns) (.fsl false ls) (.fsl false cs))):=by
 have g0:=cQ (f:=false) (ks:=[.mk t0 y0 n0 d0 k0,.mk t1 y1 n1 d1 k1,.mk t2 y2 n2 d2 k2]) (i:=0) rfl;have g1:=cQ (f:=false) (ks:=[.mk t0 y0 n0 d0 k0,.mk t1 y1 n1 d1 k1,.mk t2 y2 n2 d2 k2]) (i:=1) rfl;have g2:=cQ (f:=false) (ks:=[.mk t0 y0 n0 d0 k0,.mk t1 y1 n1 d1 k1,.mk t2 y2 n2 d2 k2]) (i:=2) rfl;refine bG (A:=cu [(30,2,.res (.fptr (am t0 y0 n0 (ak d0) (ap k0)) 0)),(30,7,.res (.fptr (am t1 y1 n1 (ak d1) (ap k1)) 0)),(30,12,.res (.fptr (am t2 y2 n2 (ak d2) (ap k2)) 0))]) base0 ar (aG (LsOk.no rfl)) (gy o hM hN hL hC _ _) ?_;rw[cT,V4];exact ⟨g0,g1,g2,aD (nu {o with lh:=true,lt:=n0,lc:=n1,lu:=n2} _ _ _ _) (kj (c9 {o with lh:=true,lt:=n0,lc:=n1,lu:=n2} (M:= .fsl false ms) (N:= .fsl false ns) (L:= .fsl false ls) (C:= .fsl false cs) hM hN hL hC))⟩
theorem l8 {o:Ob} {H:ah} {M N L C N' L' C':AV} (hM:ag M=true) (hN:Frz 0 H N N') (hL:Frz 0 H L L') (hC:Frz 0 H C C') (h:ag (.agg (aa o M N' L' C'))=true):lp (.agg (aa o M N' L' C')) (.agg (aa o M N L C)) H:=⟨_,(tU hM hN hL hC).out,h,.refl _⟩
theorem Wj (hM:ae ms=true) (hL:ae ls=true) (hC:ae cs=true) (x:List UInt8):SC 81 [.agg (aa o (.fsl false ms) (.fsl false []) (.fsl false ls) (.fsl false cs)),aN .nam,aK ⟨s,.ofNat 0,.mk t y n x ks⟩] (.agg (aa o (.fsl false ms) (.fsl false [.str x]) (.fsl false ls) (.fsl false cs))):=by
 refine dg (A:=cu [(17,6,.res (.str x))]) base0 ar (aG (LsOk.no rfl)) (gy o hM rfl hL hC _ _) ?_;rw[cT];show aH _ _ _ _ _ [_,_,.agg (.str s::I 0::am t y n (ak x) (ap ks))] _ _ _;rw[V5];refine ⟨l7 x,aD (B6 o _ _ _ _ _) (l8 hM (Frz.row (es:=[.str x]) rfl rfl rfl rfl (fun e he=> ?_) rfl) (.closed _ hL) (.closed _ hC) (c9 o (M:= .fsl false ms) (N:= .fsl false _) (L:= .fsl false ls) (C:= .fsl false cs) hM rfl hL hC))⟩;simp only[mConQ,List.not_mem_nil,or_false] at he;subst he;exact rflTwoQ
theorem Wl (hM:ae ms=true) (hN:ae ns=true) (hC:ae cs=true) (x:List UInt8) (t0 y0 n0 t1 y1 n1:Int) (d0:List UInt8) (k0 k1:List It):SC 81 [.agg (aa o (.fsl false ms) (.fsl false ns) (.fsl false []) (.fsl false cs)),aN .lnk,aK ⟨s,.ofNat 0,.mk t y n d [.mk t0 y0 n0 d0 k0,.mk t1 y1 n1 x k1]⟩] (.agg (aa o (.fsl false ms) (.fsl false ns) (.fsl false [aL ⟨n0,x⟩]) (.fsl false cs))):=by
 have g0:=cQ (f:=false) (ks:=[.mk t0 y0 n0 d0 k0,.mk t1 y1 n1 x k1]) (i:=0) rfl;have g1:=cQ (f:=false) (ks:=[.mk t0 y0 n0 d0 k0,.mk t1 y1 n1 x k1]) (i:=1) rfl;refine dg (A:=cu [(28,6,.res (.fptr (am t0 y0 n0 (ak d0) (ap k0)) 0)),(28,11,.res (.fptr (am t1 y1 n1 (ak x) (ap k1)) 0)),(28,14,.res (.str x))]) base0 ar (aG (LsOk.no rfl)) (gy o hM hN rfl hC _ _) ?_;rw[cT];show aH _ _ _ _ _ [_,_,.agg (.str s::I 0::am t y n (ak d) (ap [.mk t0 y0 n0 d0 k0,.mk t1 y1 n1 x k1]))] _ _ _;rw[V6];refine ⟨g0,g1,l7 x,aD (B7 o _ _ _ _ _) (l8 hM (.closed _ hN) (Frz.row (es:=[aL ⟨n0,x⟩]) rfl rfl rfl rfl (fun e he=> ?_) rfl) (.closed _ hC) (c9 o (M:= .fsl false ms) (N:= .fsl false ns) (L:= .fsl false _) (C:= .fsl false cs) hM hN rfl hC))⟩;simp only[mConQ,List.not_mem_nil,or_false] at he;subst he;exact rflTwoQ
end
theorem pg (s:List UInt8) (l:List Cu) (i:Nat):aW s (l.take i)≤aW s l:=((List.take_sublist i l).filter _).length_le
theorem B9 {l:List Cu} {j:Nat} {x:Cu} (h:l[j]? =some x):bZ prog 9 (flat (l.map az)) (0+j*2+0)=some (.str x.name):=by
  simp only[bZ,Hq,Nat.zero_add,Nat.add_zero];exact get l j x h
 where
  get :∀ (l:List Cu) (j:Nat) (x:Cu),l[j]? =some x→dC (flat (l.map az)) (j*2)=some (.str x.name)
   |[],_,_,h=>by simp at h
   | a::r,0,x,h=>by
     simp at h;subst h;rfl
   | a::r,j+1,x,h=>by
     have ih:=get r j x (by simpa using h);rw[show (j+1)*2=j*2+1+1 by omega];exact ih
section
variable {o:Ob} {ms ns ls:List AV} {s s':List UInt8} {t y n:Int} {d:List UInt8} {ks:List It} {Q:AExit→St→Prop}
theorem kD (s:List UInt8):ae (bp (.cus s))=true:=rfl
theorem Wm {C:List Cu} (hb:C.length≤1000) (hM:ae ms=true) (hN:ae ns=true) (hL:ae ls=true)
  (hq:Q (.exit 1) (eC (.ofNat (aW s C)) (.ofNat C.length) C.length (aa o (.fsl false ms) (.fsl false ns) (.fsl false ls) (.rsl true 1 0 C.length 2)) (flat (C.map az)) (bp (.cus s)) (.str s'::I (.ofNat (aW s C))::am t y n (ak d) (ap ks)) (am t y n (ak d) (ap ks))).st):
  ∀m i:Nat,i+m=C.length→ALp prog opts0.glob 0 (aJ prog 81 6) (eC (.ofNat (aW s (C.take i))) (.ofNat i) C.length (aa o (.fsl false ms) (.fsl false ns) (.fsl false ls) (.rsl true 1 0 C.length 2)) (flat (C.map az)) (bp (.cus s)) (.str s'::I (.ofNat (aW s C))::am t y n (ak d) (ap ks)) (am t y n (ak d) (ap ks))).st Q:=by
 have hes:=fa C;have hA:ae (.str s'::I (.ofNat (aW s C))::am t y n (ak d) (ap ks))=true:=by
  have:=fZ ⟨s',.ofNat (aW s C),.mk t y n d ks⟩;exact this
 have hT:ae (am t y n (ak d) (ap ks))=true:=by
  have:=cG (.mk t y n d ks);exact this
 have hR:br [(0,0),(1,1),(2,2),(3,3),(4,4),(5,5)] (aa o (.fsl false ms) (.fsl false ns) (.fsl false ls) (.rsl true 1 0 C.length 2)) (aa o (.fsl false ms) (.fsl false ns) (.fsl false ls) (.rsl true 1 0 C.length 2)):=bA (o:=o) hM (.same _ hN) (.same _ hL) (.rsl _ _ _ _ _ _ rfl);intro m
 induction m with
 |zero=>
  intro i hi;rw[Nat.add_zero] at hi;subst hi;rw[List.take_of_length_le (Nat.le_refl _)];refine ALp.round (A:=cu [(7,5,.ld (.str [])),(7,8,.res (.bool false))]) (V2:=eC (.ofNat (aW s C)) 0 C.length [] (flat (C.map az)) (bp (.cus s)) (.str s'::I (.ofNat (aW s C))::am t y n (ak d) (ap ks)) (am t y n (ak d) (ap ks))) (F:=eC (.ofNat (aW s C)) (.ofNat C.length) C.length (aa o (.fsl false ms) (.fsl false ns) (.fsl false ls) (.rsl true 1 0 C.length 2)) (flat (C.map az)) (bp (.cus s)) (.str s'::I (.ofNat (aW s C))::am t y n (ak d) (ap ks)) (am t y n (ak d) (ap ks))) (lk:=[(0,0),(1,1),(2,2),(3,3),(4,4),(5,5)]) (lk':=[(0,0),(1,1),(2,2),(3,3),(4,4),(5,5)]) base0 ar (LsOk.no rfl) .refl ?_;rw[B4 (_c':=0)];exact ai (fun e=>(nr e).elim) fun _=>⟨⟨⟨rflTwoQ,rflTwoQ,ad⟩,⟨rflTwoQ,rflTwoQ,rflTwoQ,rflTwoQ,rflTwoQ,ad⟩,hR,⟨rfl,hes⟩,⟨rfl,kD s⟩,⟨rfl,hA⟩,⟨rfl,hT⟩,rflTwoQ,ad⟩,hq⟩
 | succ m ih=>
  intro i hi;have hlt:i<C.length:=by omega
  have g:=List.getElem?_eq_getElem hlt;have ih:=ih (i+1) (by omega);have hle:=pg s C (i+1);have hcl:=tY s (C.take i);have htl:(C.take i).length≤C.length:=List.length_take_le' i C;rw[iR g,qY] at ih hle;revert g ih hle;generalize C[i]=x;revert hcl;generalize aW s (C.take i)=c;intro hcl g ih hle;have hp:=B9 g;have hob:(dx (Int.ofNat i)&&((Int.ofNat i).toNat.blt C.length&&true))=true:=by
   simp only[dx,Bool.true_and,Bool.and_true];exact blt_iff.2 hlt
  have he:=ug (.tmp 29) (.tmp 31) x.name s;cases hx:aI x.name s with
  |false=>
   rw[hx] at ih he;rw[Nat.add_zero] at ih;refine ALp.round (A:=cu [(7,5,.ld (.str x.name)),(7,8,.res (.bool false))]) (V2:=eC (.ofNat c) (.ofNat (i+1)) C.length (aa o (.fsl false ms) (.fsl false ns) (.fsl false ls) (.rsl true 1 0 C.length 2)) (flat (C.map az)) (bp (.cus s)) (.str s'::I (.ofNat (aW s C))::am t y n (ak d) (ap ks)) (am t y n (ak d) (ap ks))) (F:=eC (.ofNat c) (.ofNat i) C.length (aa o (.fsl false ms) (.fsl false ns) (.fsl false ls) (.rsl true 1 0 C.length 2)) (flat (C.map az)) (bp (.cus s)) (.str s'::I (.ofNat (aW s C))::am t y n (ak d) (ap ks)) (am t y n (ak d) (ap ks))) (lk:=[(0,0),(1,1),(2,2),(3,3),(4,4),(5,5)]) (lk':=[(0,0),(1,1),(2,2),(3,3),(4,4),(5,5)]) base0 ar (LsOk.no rfl) .refl ?_;rw[B4 (_c':=0),dA (by omega)];exact ai (fun _=>aD hob ⟨hp,he,⟨⟨rflTwoQ,rflTwoQ,ad⟩,⟨rflTwoQ,rflTwoQ,rflTwoQ,rflTwoQ,rflTwoQ,ad⟩,hR,⟨rfl,hes⟩,⟨rfl,kD s⟩,⟨rfl,hA⟩,⟨rfl,hT⟩,rflTwoQ,ad⟩,ih⟩) fun e=>absurd e (gL hlt)
  |true=>
   rw[hx] at ih he hle;have hle:c+1≤aW s C:=hle;have hi2:=nt (.tmp 33) (.tmp 35) (.ofNat c) (.ofNat (aW s C));rw[beqInt_false.2 (by simp only[bh];omega)] at hi2;refine ALp.round (A:=cu [(7,5,.ld (.str x.name)),(7,8,.res (.bool true)),(8,3,.res (.bool false))]) (V2:=eC (.ofNat (c+1)) (.ofNat (i+1)) C.length (aa o (.fsl false ms) (.fsl false ns) (.fsl false ls) (.rsl true 1 0 C.length 2)) (flat (C.map az)) (bp (.cus s)) (.str s'::I (.ofNat (aW s C))::am t y n (ak d) (ap ks)) (am t y n (ak d) (ap ks))) (F:=eC (.ofNat c) (.ofNat i) C.length (aa o (.fsl false ms) (.fsl false ns) (.fsl false ls) (.rsl true 1 0 C.length 2)) (flat (C.map az)) (bp (.cus s)) (.str s'::I (.ofNat (aW s C))::am t y n (ak d) (ap ks)) (am t y n (ak d) (ap ks))) (lk:=[(0,0),(1,1),(2,2),(3,3),(4,4),(5,5)]) (lk':=[(0,0),(1,1),(2,2),(3,3),(4,4),(5,5)]) base0 ar (LsOk.no rfl) .refl ?_;rw[I3,dA (p:=i) (by omega),dA (p:=c) (by omega)];exact ai (fun _=>aD hob ⟨hp,he,hi2,⟨⟨rflTwoQ,rflTwoQ,ad⟩,⟨rflTwoQ,rflTwoQ,rflTwoQ,rflTwoQ,rflTwoQ,ad⟩,hR,⟨rfl,hes⟩,⟨rfl,kD s⟩,⟨rfl,hA⟩,⟨rfl,hT⟩,rflTwoQ,ad⟩,ih⟩) fun e=>absurd e (gL hlt)
end
noncomputable section
abbrev xc (D K:List AV) (i:Nat) (n t y:Int) (s:List UInt8):=(2,some (Blk.cells [AV.str s,I (Int.ofNat i),I t,I y,I n,AV.fsl false D,AV.fsl false K]))
abbrev Ja:=(1,some (Blk.cells [AV.str [78,97,109,101],I 7,AV.bool true,AV.bool true,AV.str [65,77,68],AV.str [],I (Int.negSucc 0)]))
abbrev xe (D K:List AV) (n t y:Int):=(6,some (Blk.cells [I t,I y,I n,AV.fsl false D,AV.fsl false K]))
abbrev xf (Ns:List AV) (a:AV):=(AV.rsl true 15 0 (0+ab (a::Ns)) 1)
theorem Wn (o:Ob) (M L C a:AV) (Ns:List AV) (i:Nat) (s x:List UInt8) (t y n:Int) (D K:List AV) (Q:AV→ah→Prop):aH prog opts0 40 (cu [(15,5,.res (.bool false)),(17,6,.res (.str x))]) 81 [.agg (aa o M (.fsl false (a::Ns)) L C),aN .nam,.agg (.str s::I (.ofNat i)::am t y n D K)] [] 0 (fun v H _=>Q v H)=
 (aw (a7 1 (a::Ns)&&(((0+ab (a::Ns))*16).ble 140737488355328&&true)) (aE prog BinOp.eql 3 (Operand.tmp 69) (Operand.tmp 72) (I (Int.ofNat i)) (I (Int.ofNat (0+ab (a::Ns))))=some (.bool false)∧dM prog 23 9 (.fsl false D)=some (Eff.val (.str x))∧aw (dx (Int.ofNat i)&&((Int.ofNat i).toNat.blt (0+ab (a::Ns))&&true)) (aw ((0+(Int.ofNat i).toNat*1+1).ble (ab (flat (a::Ns)))) (aw (aY prog 33 (.agg (aa o M (xf Ns a) L C)) 37) (Q (.agg (aa o M (xf Ns a) L C)) [(15,some (Blk.cells (List.take (0+(Int.ofNat i).toNat*1) (flat (a::Ns))++AV.str x::List.drop (0+(Int.ofNat i).toNat*1+ab [AV.str x]) (flat (a::Ns))))),(xe D K n t y),(3,some (Blk.cells (aa o M (xf Ns a) L C))),(xc D K i n t y s),Ja,(0,some (Blk.cells (aa o M (xf Ns a) L C)))]))))):=by kernel_rfl
abbrev xg (Ns:List AV) (a:AV):=(AV.rsl true 27 0 (0+ab (a::Ns)+1) 1)
theorem Wo (o:Ob) (M L C a:AV) (Ns:List AV) (i:Nat) (s x:List UInt8) (t y n:Int) (D K:List AV) (Q:AV→ah→Prop):aH prog opts0 40 (cu [(15,5,.res (.bool true)),(17,6,.res (.str x))]) 81 [.agg (aa o M (.fsl false (a::Ns)) L C),aN .nam,.agg (.str s::I (.ofNat i)::am t y n D K)] [] 0 (fun v H _=>Q v H)=
 (aw (a7 1 (a::Ns)&&(((0+ab (a::Ns))*16).ble 140737488355328&&true)) (aE prog BinOp.eql 3 (Operand.tmp 69) (Operand.tmp 72) (I (Int.ofNat i)) (I (Int.ofNat (0+ab (a::Ns))))=some (.bool true)∧aw (((0+ab (a::Ns)+1)*16).ble 140737488355328&&true) (aw ((ab (flat (a::Ns))).beq ((0+ab (a::Ns))*1)) (dM prog 23 9 (.fsl false D)=some (Eff.val (.str x))∧aw (dx (Int.ofNat i)&&((Int.ofNat i).toNat.blt (0+ab (a::Ns)+1)&&true)) (aw ((0+(Int.ofNat i).toNat*1+1).ble (ab (flat (a::Ns)++[AV.str []]))) (aw (aY prog 33 (.agg (aa o M (xg Ns a) L C)) 37) (Q (.agg (aa o M (xg Ns a) L C)) [(27,some (Blk.cells (List.take (0+(Int.ofNat i).toNat*1) (flat (a::Ns)++[AV.str []])++AV.str x::List.drop (0+(Int.ofNat i).toNat*1+ab [AV.str x]) (flat (a::Ns)++[AV.str []])))),(15,none),(xe D K n t y),(3,some (Blk.cells (aa o M (xg Ns a) L C))),(xc D K i n t y s),Ja,(0,some (Blk.cells (aa o M (xg Ns a) L C)))]))))))):=by kernel_rfl
abbrev Jb:=(1,some (Blk.cells [AV.str [76,105,110,107],I 1,AV.bool true,AV.bool true,AV.str [65,77,68],AV.str [],I (Int.negSucc 0)]))
abbrev xh (Ls:List AV) (a:AV):=(AV.rsl true 31 0 (0+ab (a::Ls)) 2)
theorem Wp (o:Ob) (M N C a:AV) (Ls:List AV) (i:Nat) (s x:List UInt8) (t y n t0 y0 n0 t1 y1 n1:Int) (D K D0 K0 D1 K1:List AV) (Q:AV→ah→Prop):aH prog opts0 40 (cu [(26,5,.res (.bool false)),(28,6,.res (.fptr (am t0 y0 n0 D0 K0) 0)),(28,11,.res (.fptr (am t1 y1 n1 D1 K1) 0)),(28,14,.res (.str x))]) 81 [.agg (aa o M N (.fsl false (a::Ls)) C),aN .lnk,.agg (.str s::I (.ofNat i)::am t y n D K)] [] 0 (fun v H _=>Q v H)=
 (aw (a7 2 (a::Ls)&&(((0+ab (a::Ls))*24).ble 140737488355328&&true)) (aE prog BinOp.eql 3 (Operand.tmp 118) (Operand.tmp 121) (I (Int.ofNat i)) (I (Int.ofNat (0+ab (a::Ls))))=some (.bool false)∧aF prog 35 (.fsl false K) (I 0)=some (.fptr [I t0,I y0,I n0,.fsl false D0,.fsl false K0] 0)∧aF prog 35 (.fsl false K) (I 1)=some (.fptr [I t1,I y1,I n1,.fsl false D1,.fsl false K1] 0)∧dM prog 23 9 (.fsl false D1)=some (Eff.val (.str x))∧aw (dx (Int.ofNat i)&&((Int.ofNat i).toNat.blt (0+ab (a::Ls))&&true)) (aw ((0+(Int.ofNat i).toNat*2+2).ble (ab (flat (a::Ls)))) (aw (aY prog 33 (.agg (aa o M N (xh Ls a) C)) 37) (Q (.agg (aa o M N (xh Ls a) C)) [(31,some (Blk.cells (List.take (0+(Int.ofNat i).toNat*2) (flat (a::Ls))++I n0::AV.str x::List.drop (0+(Int.ofNat i).toNat*2+ab [I n0,.str x]) (flat (a::Ls))))),(xe D K n t y),(3,some (Blk.cells (aa o M N (xh Ls a) C))),(xc D K i n t y s),Jb,(0,some (Blk.cells (aa o M N (xh Ls a) C)))]))))):=by kernel_rfl
abbrev xi (Ls:List AV) (a:AV):=(AV.rsl true 44 0 (0+ab (a::Ls)+1) 2)
theorem Wq (o:Ob) (M N C a:AV) (Ls:List AV) (i:Nat) (s x:List UInt8) (t y n t0 y0 n0 t1 y1 n1:Int) (D K D0 K0 D1 K1:List AV) (Q:AV→ah→Prop):aH prog opts0 40 (cu [(26,5,.res (.bool true)),(28,6,.res (.fptr (am t0 y0 n0 D0 K0) 0)),(28,11,.res (.fptr (am t1 y1 n1 D1 K1) 0)),(28,14,.res (.str x))]) 81 [.agg (aa o M N (.fsl false (a::Ls)) C),aN .lnk,.agg (.str s::I (.ofNat i)::am t y n D K)] [] 0 (fun v H _=>Q v H)=
 (aw (a7 2 (a::Ls)&&(((0+ab (a::Ls))*24).ble 140737488355328&&true)) (aE prog BinOp.eql 3 (Operand.tmp 118) (Operand.tmp 121) (I (Int.ofNat i)) (I (Int.ofNat (0+ab (a::Ls))))=some (.bool true)∧aw (((0+ab (a::Ls)+1)*24).ble 140737488355328&&true) (aw ((ab (flat (a::Ls))).beq ((0+ab (a::Ls))*2)) (aF prog 35 (.fsl false K) (I 0)=some (.fptr [I t0,I y0,I n0,.fsl false D0,.fsl false K0] 0)∧aF prog 35 (.fsl false K) (I 1)=some (.fptr [I t1,I y1,I n1,.fsl false D1,.fsl false K1] 0)∧dM prog 23 9 (.fsl false D1)=some (Eff.val (.str x))∧aw (dx (Int.ofNat i)&&((Int.ofNat i).toNat.blt (0+ab (a::Ls)+1)&&true)) (aw ((0+(Int.ofNat i).toNat*2+2).ble (ab (flat (a::Ls)++[I 0,.str []]))) (aw (aY prog 33 (.agg (aa o M N (xi Ls a) C)) 37) (Q (.agg (aa o M N (xi Ls a) C)) [(44,some (Blk.cells (List.take (0+(Int.ofNat i).toNat*2) (flat (a::Ls)++[I 0,.str []])++I n0::AV.str x::List.drop (0+(Int.ofNat i).toNat*2+ab [I n0,.str x]) (flat (a::Ls)++[I 0,.str []])))),(31,none),(xe D K n t y),(3,some (Blk.cells (aa o M N (xi Ls a) C))),(xc D K i n t y s),Jb,(0,some (Blk.cells (aa o M N (xi Ls a) C)))]))))))):=by kernel_rfl
theorem jF {sz:Nat}:∀ {E:List AV},(∀e∈E,e.cells.length=sz)→(flat E).length=E.length*sz
 |[],_=>(Nat.zero_mul sz).symm
 |e::r,h=>by
  have ih:=jF (E:=r) fun x hx=>h x (by simp[hx]);rw[flat,List.length_append,h e (by simp),ih,lConQ,Nat.add_mul,Nat.one_mul,Nat.add_comm]
theorem xj {sz i:Nat} {E:List AV} (h:∀e∈E,e.cells.length=sz) (hi:i<E.length) {x:AV} (hx:x.cells.length=sz):(flat E).take (0+(Int.ofNat i).toNat*sz)++(x.cells++(flat E).drop (0+(Int.ofNat i).toNat*sz+ab x.cells))=flat (b8 E i x):=by
 have e:E=E.take i++(E[i]::E.drop (i+1)):=by rw[←List.drop_eq_getElem_cons hi,List.take_append_drop]
 have h1:(flat (E.take i)).length=i*sz:=by
  rw[jF fun x hx=>h x (List.mem_of_mem_take hx),List.length_take,Nat.min_eq_left (by omega)]
 have h2:(E[i]).cells.length=sz:=h _ (List.getElem_mem hi);have e2:flat E=flat (E.take i)++((E[i]).cells++flat (E.drop (i+1))):=by
  conv=>lhs;rw[e]
  rw[ea];rfl
 unfold b8;rw[ea,e2];simp only[Nat.zero_add,Int.toNat_natCast,bh,aM,hx];rw[←h1,List.take_append_of_le_length (Nat.le_refl _),List.take_length,List.drop_append,List.drop_of_length_le (by omega),List.nil_append,Nat.add_sub_cancel_left,List.drop_append,List.drop_of_length_le (by omega),h2,Nat.sub_self,List.drop_zero,List.nil_append];rfl
theorem uh {sz i:Nat} {E:List AV} (h:∀e∈E,e.cells.length=sz) (hi:i<E.length):Nat.ble (0+(Int.ofNat i).toNat*sz+sz) (ab (flat E))=true:=Nat.ble_eq_true_of_le (by
 rw[aM,jF h];simp only[Nat.zero_add,Int.toNat_natCast,bh];have:=Nat.mul_le_mul_right sz (show i+1≤E.length from hi)
 rw[Nat.add_mul,Nat.one_mul] at this;exact this)
theorem ui {i n:Nat} (h:i<n):(dx (Int.ofNat i)&&(Nat.blt (Int.ofNat i).toNat n&&true))=true:=by
 have h1:Nat.blt (Int.ofNat i).toNat n=true:=blt_iff.2 (by simpa using h);rw[h1];rfl
section
variable {o:Ob} {ms ns ls cs:List AV} {s:List UInt8} {t y n:Int} {d:List UInt8} {ks:List It}
theorem Wr (hM:ae ms=true) (hL:ae ls=true) (hC:ae cs=true) (x:List UInt8):∀ (l:List (List UInt8)) (j:Nat),l.length≤6→j<l.length→SC 81 [.agg (aa o (.fsl false ms) (.fsl false (l.map .str)) (.fsl false ls) (.fsl false cs)),aN .nam,aK ⟨s,.ofNat j,.mk t y n x ks⟩] (.agg (aa o (.fsl false ms) (.fsl false ((b8 l j x).map .str)) (.fsl false ls) (.fsl false cs)))
 |[],_,_,h=>absurd h (by simp)
 | a::r,j,hl,hj=>by
  have hN:=fN (a::r);have hN2:=fN (b8 (a::r) j x);have hg:∀e∈(a::r).map AV.str,e.cells.length=1:=fun e he=>by obtain ⟨_,_,rfl⟩:=List.mem_map.1 he;rfl
  have hlen:(0+ab (AV.str a::r.map .str))=r.length+1:=by rw[aM,Nat.zero_add,lConQ,List.length_map]
  simp only[lConQ] at hl hj;have hask:(a7 1 (AV.str a::r.map .str)&&(Nat.ble ((0+ab (AV.str a::r.map .str))*16) 140737488355328&&true))=true:=by
   have h1:a7 1 (AV.str a::r.map .str)=true:=io hg;have h2:Nat.ble ((0+ab (AV.str a::r.map .str))*16) 140737488355328=true:=Nat.ble_eq_true_of_le (by rw[hlen];omega);rw[h1,h2];rfl
  have heq:=nt (.tmp 69) (.tmp 72) (.ofNat j) (.ofNat (0+ab (AV.str a::r.map .str)));rw[beqInt_false.2 (by rw[hlen];simp only[bh];omega)] at heq;have hput:=xj (E:=(a::r).map AV.str) (x:= .str x) hg (by rw[List.length_map];exact hj) rfl;have hble:=uh (E:=(a::r).map AV.str) (i:=j) hg (by rw[List.length_map];exact hj);have em:b8 ((a::r).map AV.str) j (.str x)=(b8 (a::r) j x).map .str:=by unfold b8;simp only[List.map_append,List.map_take,List.map_cons,List.map_drop]
  rw[em] at hput;have hidx:=ui (i:=j) (n:=0+ab (AV.str a::r.map .str)) (by rw[hlen];exact hj);refine dg (A:=cu [(15,5,.res (.bool false)),(17,6,.res (.str x))]) base0 ar (aG (LsOk.no rfl)) (gy o hM hN hL hC _ _) ?_;rw[cT,List.map_cons];rw[Wn];refine aD hask ⟨heq,l7 x,aD hidx (aD hble (aD (B6 o _ _ _ _ _) (l8 hM (Frz.row (es:=(b8 (a::r) j x).map .str) rfl rfl hput ?_ (fun e he=>by obtain ⟨_,_,rfl⟩:=List.mem_map.1 he;exact rflTwoQ) hN2) (.closed _ hL) (.closed _ hC) (c9 o (M:= .fsl false ms) (N:= .fsl false _) (L:= .fsl false ls) (C:= .fsl false cs) hM hN2 hL hC))))⟩;rw[hlen,List.length_map];unfold b8;simp only[List.length_append,List.length_take,lConQ,List.length_drop];omega
theorem Jc {α:Type} (l:List α) (z x:α):b8 (l++[z]) l.length x=l++[x]:=by
 unfold b8;simp
theorem Wt (hM:ae ms=true) (hL:ae ls=true) (hC:ae cs=true) (x:List UInt8):∀l:List (List UInt8),l.length<6→SC 81 [.agg (aa o (.fsl false ms) (.fsl false (l.map .str)) (.fsl false ls) (.fsl false cs)),aN .nam,aK ⟨s,.ofNat l.length,.mk t y n x ks⟩] (.agg (aa o (.fsl false ms) (.fsl false ((l++[x]).map .str)) (.fsl false ls) (.fsl false cs)))
 |[],_=>Wj hM hL hC x
 | a::r,hl=>by
  have hN:=fN (a::r);have hN2:=fN ((a::r)++[x]);have hg:∀e∈(a::r).map AV.str,e.cells.length=1:=fun e he=>by obtain ⟨_,_,rfl⟩:=List.mem_map.1 he;rfl
  have hg2:∀e∈(a::r).map AV.str++[.str []],e.cells.length=1:=fun e he=>by
   rcases List.mem_append.1 he with he|he
   ·exact hg e he
   ·rw[List.mem_singleton] at he;subst he;rfl
  have hlen:(0+ab (AV.str a::r.map .str))=r.length+1:=by rw[aM,Nat.zero_add,lConQ,List.length_map]
  simp only[lConQ] at hl⊢;have hask:(a7 1 (AV.str a::r.map .str)&&(Nat.ble ((0+ab (AV.str a::r.map .str))*16) 140737488355328&&true))=true:=by
   have h1:a7 1 (AV.str a::r.map .str)=true:=io hg;have h2:Nat.ble ((0+ab (AV.str a::r.map .str))*16) 140737488355328=true:=Nat.ble_eq_true_of_le (by rw[hlen];omega);rw[h1,h2];rfl
  have heq:=nt (.tmp 69) (.tmp 72) (.ofNat (r.length+1)) (.ofNat (0+ab (AV.str a::r.map .str)));rw[beqInt_iff.2 (by rw[hlen])] at heq;have hput:=xj (E:=(a::r).map AV.str++[.str []]) (i:=r.length+1) (x:= .str x) hg2 (by simp) rfl;have hble:=uh (E:=(a::r).map AV.str++[.str []]) (i:=r.length+1) hg2 (by simp);have em:b8 ((a::r).map AV.str++[.str []]) (r.length+1) (.str x)=((a::r)++[x]).map .str:=by
   have:=Jc ((a::r).map AV.str) (.str []) (.str x);rw[List.length_map,lConQ] at this;rw[this,List.map_append];rfl
  rw[em,ea] at hput;rw[ea] at hble;have hidx:=ui (i:=r.length+1) (n:=0+ab (AV.str a::r.map .str)+1) (by rw[hlen];omega);have hask2:(Nat.ble ((0+ab (AV.str a::r.map .str)+1)*16) 140737488355328&&true)=true:=by
   rw[hlen,Nat.ble_eq_true_of_le (by omega)];rfl
  have hbeq:Nat.beq (ab (flat (AV.str a::r.map .str))) ((0+ab (AV.str a::r.map .str))*1)=true:=by
   have h1:=jF hg;rw[List.length_map,lConQ] at h1;rw[beq_iff,hlen,aM];exact h1
  refine dg (A:=cu [(15,5,.res (.bool true)),(17,6,.res (.str x))]) base0 ar (aG (LsOk.no rfl)) (gy o hM hN hL hC _ _) ?_;rw[cT,List.map_cons];rw[Wo];refine aD hask ⟨heq,aD hask2 (aD hbeq ⟨l7 x,aD hidx (aD hble (aD (B6 o _ _ _ _ _) (l8 hM (Frz.row (es:=((a::r)++[x]).map .str) rfl rfl hput ?_ (fun e he=>by obtain ⟨_,_,rfl⟩:=List.mem_map.1 he;exact rflTwoQ) hN2) (.closed _ hL) (.closed _ hC) (c9 o (M:= .fsl false ms) (N:= .fsl false _) (L:= .fsl false ls) (C:= .fsl false cs) hM hN2 hL hC))))⟩)⟩;rw[hlen];simp
theorem Wu (hM:ae ms=true) (hN:ae ns=true) (hC:ae cs=true) (x:List UInt8) (t0 y0 n0 t1 y1 n1:Int) (d0:List UInt8) (k0 k1:List It):∀ (l:List Lk) (j:Nat),l.length≤8→j<l.length→SC 81 [.agg (aa o (.fsl false ms) (.fsl false ns) (.fsl false (l.map aL)) (.fsl false cs)),aN .lnk,aK ⟨s,.ofNat j,.mk t y n d [.mk t0 y0 n0 d0 k0,.mk t1 y1 n1 x k1]⟩] (.agg (aa o (.fsl false ms) (.fsl false ns) (.fsl false ((b8 l j ⟨n0,x⟩).map aL)) (.fsl false cs)))
 |[],_,_,h=>absurd h (by simp)
 | a::r,j,hl,hj=>by
  have hL:=jN (a::r);have hL2:=jN (b8 (a::r) j ⟨n0,x⟩);have hg:∀e∈(a::r).map aL,e.cells.length=2:=fun e he=>by obtain ⟨_,_,rfl⟩:=List.mem_map.1 he;rfl
  have hlen:(0+ab (aL a::r.map aL))=r.length+1:=by rw[aM,Nat.zero_add,lConQ,List.length_map]
  have g0:=cQ (f:=false) (ks:=[.mk t0 y0 n0 d0 k0,.mk t1 y1 n1 x k1]) (i:=0) rfl;have g1:=cQ (f:=false) (ks:=[.mk t0 y0 n0 d0 k0,.mk t1 y1 n1 x k1]) (i:=1) rfl;simp only[lConQ] at hl hj;have hask:(a7 2 (aL a::r.map aL)&&(Nat.ble ((0+ab (aL a::r.map aL))*24) 140737488355328&&true))=true:=by
   have h1:a7 2 (aL a::r.map aL)=true:=io hg;have h2:Nat.ble ((0+ab (aL a::r.map aL))*24) 140737488355328=true:=Nat.ble_eq_true_of_le (by rw[hlen];omega);rw[h1,h2];rfl
  have heq:=nt (.tmp 118) (.tmp 121) (.ofNat j) (.ofNat (0+ab (aL a::r.map aL)));rw[beqInt_false.2 (by rw[hlen];simp only[bh];omega)] at heq;have hput:=xj (E:=(a::r).map aL) (x:=aL ⟨n0,x⟩) hg (by rw[List.length_map];exact hj) rfl;have hble:=uh (E:=(a::r).map aL) (i:=j) hg (by rw[List.length_map];exact hj);have em:b8 ((a::r).map aL) j (aL ⟨n0,x⟩)=(b8 (a::r) j ⟨n0,x⟩).map aL:=by unfold b8;simp only[List.map_append,List.map_take,List.map_cons,List.map_drop]
  rw[em] at hput;have hidx:=ui (i:=j) (n:=0+ab (aL a::r.map aL)) (by rw[hlen];exact hj);refine dg (A:=cu [(26,5,.res (.bool false)),(28,6,.res (.fptr (am t0 y0 n0 (ak d0) (ap k0)) 0)),(28,11,.res (.fptr (am t1 y1 n1 (ak x) (ap k1)) 0)),(28,14,.res (.str x))]) base0 ar (aG (LsOk.no rfl)) (gy o hM hN hL hC _ _) ?_;rw[cT,List.map_cons];rw[Wp];refine aD hask ⟨heq,g0,g1,l7 x,aD hidx (aD hble (aD (B7 o _ _ _ _ _) (l8 hM (.closed _ hN) (Frz.row (es:=(b8 (a::r) j ⟨n0,x⟩).map aL) rfl rfl hput ?_ (fun e he=>by obtain ⟨_,_,rfl⟩:=List.mem_map.1 he;exact rflTwoQ) hL2) (.closed _ hC) (c9 o (M:= .fsl false ms) (N:= .fsl false ns) (L:= .fsl false _) (C:= .fsl false cs) hM hN hL2 hC))))⟩;rw[hlen,List.length_map];unfold b8;simp only[List.length_append,List.length_take,lConQ,List.length_drop];omega
theorem Wv (hM:ae ms=true) (hN:ae ns=true) (hC:ae cs=true) (x:List UInt8) (t0 y0 n0 t1 y1 n1:Int) (d0:List UInt8) (k0 k1:List It):∀l:List Lk,l.length<8→SC 81 [.agg (aa o (.fsl false ms) (.fsl false ns) (.fsl false (l.map aL)) (.fsl false cs)),aN .lnk,aK ⟨s,.ofNat l.length,.mk t y n d [.mk t0 y0 n0 d0 k0,.mk t1 y1 n1 x k1]⟩] (.agg (aa o (.fsl false ms) (.fsl false ns) (.fsl false ((l++[(⟨n0,x⟩:Lk)]).map aL)) (.fsl false cs)))
 |[],_=>Wl hM hN hC x t0 y0 n0 t1 y1 n1 d0 k0 k1
 | a::r,hl=>by
  have hL:=jN (a::r);have hL2:=jN ((a::r)++[(⟨n0,x⟩:Lk)]);have hg:∀e∈(a::r).map aL,e.cells.length=2:=fun e he=>by obtain ⟨_,_,rfl⟩:=List.mem_map.1 he;rfl
  have hlen:(0+ab (aL a::r.map aL))=r.length+1:=by rw[aM,Nat.zero_add,lConQ,List.length_map]
  have g0:=cQ (f:=false) (ks:=[.mk t0 y0 n0 d0 k0,.mk t1 y1 n1 x k1]) (i:=0) rfl;have g1:=cQ (f:=false) (ks:=[.mk t0 y0 n0 d0 k0,.mk t1 y1 n1 x k1]) (i:=1) rfl;simp only[lConQ] at hl⊢;have hask:(a7 2 (aL a::r.map aL)&&(Nat.ble ((0+ab (aL a::r.map aL))*24) 140737488355328&&true))=true:=by
   have h1:a7 2 (aL a::r.map aL)=true:=io hg;have h2:Nat.ble ((0+ab (aL a::r.map aL))*24) 140737488355328=true:=Nat.ble_eq_true_of_le (by rw[hlen];omega);rw[h1,h2];rfl
  have hg2:∀e∈(a::r).map aL++[aL ⟨0,[]⟩],e.cells.length=2:=fun e he=>by
   rcases List.mem_append.1 he with he|he
   ·exact hg e he
   ·rw[List.mem_singleton] at he;subst he;rfl
  have heq:=nt (.tmp 118) (.tmp 121) (.ofNat (r.length+1)) (.ofNat (0+ab (aL a::r.map aL)));rw[beqInt_iff.2 (by rw[hlen])] at heq;have hput:=xj (E:=(a::r).map aL++[aL ⟨0,[]⟩]) (i:=r.length+1) (x:=aL ⟨n0,x⟩) hg2 (by simp) rfl;have hble:=uh (E:=(a::r).map aL++[aL ⟨0,[]⟩]) (i:=r.length+1) hg2 (by simp);have em:b8 ((a::r).map aL++[aL ⟨0,[]⟩]) (r.length+1) (aL ⟨n0,x⟩)=((a::r)++[(⟨n0,x⟩:Lk)]).map aL:=by
   have:=Jc ((a::r).map aL) (aL ⟨0,[]⟩) (aL ⟨n0,x⟩);rw[List.length_map,lConQ] at this;rw[this,List.map_append];rfl
  rw[em,ea] at hput;rw[ea] at hble;have hidx:=ui (i:=r.length+1) (n:=0+ab (aL a::r.map aL)+1) (by rw[hlen];omega);have hask2:(Nat.ble ((0+ab (aL a::r.map aL)+1)*24) 140737488355328&&true)=true:=by
   rw[hlen,Nat.ble_eq_true_of_le (by omega)];rfl
  have hbeq:Nat.beq (ab (flat (aL a::r.map aL))) ((0+ab (aL a::r.map aL))*2)=true:=by
   have h1:=jF hg;rw[List.length_map,lConQ] at h1;rw[beq_iff,hlen,aM];exact h1
  refine dg (A:=cu [(26,5,.res (.bool true)),(28,6,.res (.fptr (am t0 y0 n0 (ak d0) (ap k0)) 0)),(28,11,.res (.fptr (am t1 y1 n1 (ak x) (ap k1)) 0)),(28,14,.res (.str x))]) base0 ar (aG (LsOk.no rfl)) (gy o hM hN hL hC _ _) ?_;rw[cT,List.map_cons];rw[Wq];refine aD hask ⟨heq,aD hask2 (aD hbeq ⟨g0,g1,l7 x,aD hidx (aD hble (aD (B7 o _ _ _ _ _) (l8 hM (.closed _ hN) (Frz.row (es:=((a::r)++[(⟨n0,x⟩:Lk)]).map aL) rfl rfl hput ?_ (fun e he=>by obtain ⟨_,_,rfl⟩:=List.mem_map.1 he;exact rflTwoQ) hL2) (.closed _ hC) (c9 o (M:= .fsl false ms) (N:= .fsl false ns) (L:= .fsl false _) (C:= .fsl false cs) hM hN hL2 hC))))⟩)⟩;rw[hlen];simp
end
end
theorem Ca {α:Type} (l:List α) (x:α):b8 l l.length x=l++[x]:=by
 simp[b8]
theorem Ww (o:Ob) (s:List UInt8):iw o s (bT s o.cust 0).length=o.cust.length:=by
 simp[iw]
theorem Wx {o:Ob} {k:Kd} (h:ci k=true):dk o k=(aA o k).length:=by
 rw[dk,h]
 match aA o k with
 |[]=>rfl
 |[_]=>rfl
 |_::_::_=>rfl
set_option maxRecDepth 20000
section
variable {o:Ob} {ms ns ls:List AV} {s s':List UInt8} {t y n:Int} {d:List UInt8} {ks:List It}
theorem Cb:bW (dI prog 81) 6=[aJ prog 81 6]:=by kernel_rfl
theorem Wy {c:Int} {_R _A _T:List AV} {Q:AExit→St→Prop} {st:St} (hM:ae ms=true) (hN:ae ns=true) (hL:ae ls=true) (h:B5 (aa o (.fsl false ms) (.fsl false ns) (.fsl false ls) (.fsl true [])) (bp (.cus s)) (.str s'::I c::am t y n (ak d) (ap ks)) (am t y n (ak d) (ap ks)) st Q):AWp prog opts0.glob 0 (.loop (aJ prog 81 6)) st Q:=by
 have hA:ae (.str s'::I c::am t y n (ak d) (ap ks))=true:=by
  have:=fZ ⟨s',c,.mk t y n d ks⟩;exact this
 have hT:ae (am t y n (ak d) (ap ks))=true:=by
  have:=cG (.mk t y n d ks);exact this
 have hR:br [(0,0),(1,1),(2,2),(3,3),(4,4)] (aa o (.fsl false ms) (.fsl false ns) (.fsl false ls) (.fsl true [])) (aa o (.fsl false ms) (.fsl false ns) (.fsl false ls) (.fsl true [])):=bA (o:=o) hM (.same _ hN) (.same _ hL) (.same _ rfl);refine .seen base0.glob h.1 ?_;refine ALp.round (A:=cu []) (V2:=kB 0 0 (aa o (.fsl false ms) (.fsl false ns) (.fsl false ls) (.fsl true [])) (bp (.cus s)) (.str s'::I c::am t y n (ak d) (ap ks)) (am t y n (ak d) (ap ks))) (F:=kB 0 0 (aa o (.fsl false ms) (.fsl false ns) (.fsl false ls) (.fsl true [])) (bp (.cus s)) (.str s'::I c::am t y n (ak d) (ap ks)) (am t y n (ak d) (ap ks))) (lk:=[]) (lk':=[(0,0),(1,1),(2,2),(3,3),(4,4)]) base0 ar (LsOk.no rfl) .refl ?_;rw[V7];exact ⟨⟨⟨rflTwoQ,rflTwoQ,ad⟩,⟨rflTwoQ,rflTwoQ,rflTwoQ,rflTwoQ,rflTwoQ,ad⟩,hR,⟨rfl,kD s⟩,⟨rfl,hA⟩,⟨rfl,hT⟩,rflTwoQ,ad⟩,h.2⟩
theorem fc {s:List UInt8} (h:iA (.cus s)) {j:Kd} (hj:j∈kinds) (p q:Operand):aE prog .eql 9 p q (.str s) (.str (aC j))=some (.bool false):=by
 rw[ug,lZ h hj]
-- CASES
theorem Wz (hn:iA (.cus s)) (hM:ae ms=true) (hN:ae ns=true) (hL:ae ls=true) (x:List UInt8):SC 81 [.agg (aa o (.fsl false ms) (.fsl false ns) (.fsl false ls) (.fsl false [])),aN (.cus s),aK ⟨s',.ofNat (aW s []),.mk t y n x ks⟩] (.agg (aa o (.fsl false ms) (.fsl false ns) (.fsl false ls) (.fsl false [az ⟨s,x⟩]))):=by
 have hA:ae (.str s'::I 0::am t y n (ak x) (ap ks))=true:=by
  have:=fZ ⟨s',0,.mk t y n x ks⟩;exact this
 have hT:ae (am t y n (ak x) (ap ks))=true:=by
  have:=cG (.mk t y n x ks);exact this
 refine dg (A:=aB [(13,2,.res (.bool false)),(18,2,.res (.bool false)),(20,2,.res (.bool false)),(22,2,.res (.bool false)),(24,2,.res (.bool false)),(29,2,.res (.bool false)),(12,6,.res (.str x))] [(6,B5 (aa o (.fsl false ms) (.fsl false ns) (.fsl false ls) (.fsl true [])) (bp (.cus s)) (.str s'::I 0::am t y n (ak x) (ap ks)) (am t y n (ak x) (ap ks)))] aR [] []) base0 ar
  (aG (LsOk.at1 rfl Cb fun st Q hs=>Wy (s:=s) (s':=s') (_R:=[]) (_A:=[]) (_T:=[]) hM hN hL hs)) (gy o hM hN hL rfl _ _) ?_
 rw[cT];show aH _ _ _ _ _ [_,_,.agg (.str s'::I 0::am t y n (ak x) (ap ks))] _ _ _;rw[V8 (_c:=0)];refine ⟨fc hn (j:= .nam) (by simp[kinds]) _ _,fc hn (j:= .alg) (by simp[kinds]) _ _,fc hn (j:= .len) (by simp[kinds]) _ _,fc hn (j:= .mask) (by simp[kinds]) _ _,fc hn (j:= .lnk) (by simp[kinds]) _ _,fc hn (j:= .lim) (by simp[kinds]) _ _,⟨⟨rflTwoQ,rflTwoQ,ad⟩,⟨rflTwoQ,rflTwoQ,rflTwoQ,rflTwoQ,rflTwoQ,ad⟩,bA (o:=o) hM (.same _ hN) (.same _ hL) (.same _ rfl),⟨rfl,kD s⟩,⟨rfl,hA⟩,⟨rfl,hT⟩,rflTwoQ,ad⟩,l7 x,aD (B8 o _ _ _ _ _) (l8 hM (.closed _ hN) (.closed _ hL) (Frz.row (es:=[az ⟨s,x⟩]) rfl rfl rfl rfl (fun e he=> ?_) rfl) (c9 o (M:= .fsl false ms) (N:= .fsl false ns) (L:= .fsl false ls) (C:= .fsl false _) hM hN hL rfl))⟩;simp only[mConQ,List.not_mem_nil,or_false] at he;subst he;exact rflTwoQ
theorem WA (hn:iA (.cus s)) (hM:ae ms=true) (hN:ae ns=true) (hL:ae ls=true) (x:List UInt8):∀l:List Cu,l.length<6→SC 81 [.agg (aa o (.fsl false ms) (.fsl false ns) (.fsl false ls) (.fsl false (l.map az))),aN (.cus s),aK ⟨s',.ofNat (aW s l),.mk t y n x ks⟩] (.agg (aa o (.fsl false ms) (.fsl false ns) (.fsl false ls) (.fsl false ((l++[(⟨s,x⟩:Cu)]).map az))))
 |[],_=>Wz hn hM hN hL x
 | a::r,hb=>by
  have hC:=iQ (a::r);have hC2:=iQ (a::r++[(⟨s,x⟩:Cu)]);have hes:=fa (a::r);have hes2:flat ((a::r).map az)++flat [az ⟨s,x⟩]=flat ((a::r++[(⟨s,x⟩:Cu)]).map az):=by rw[List.map_append,ea];rfl
  have hl1:ab [az ⟨s,x⟩]=1:=rfl;have hl2:(a::r).length+ab [az ⟨s,x⟩]=((a::r++[(⟨s,x⟩:Cu)]).map az).length:=by rw[hl1,List.length_map,List.length_append];rfl
  have hask2:(a7 2 [az ⟨s,x⟩]&&(Nat.ble (((a::r).length+ab [az ⟨s,x⟩])*32) 140737488355328&&(bq (flat [az ⟨s,x⟩])&&true)))=true:=by
   have h2:Nat.ble (((a::r).length+ab [az ⟨s,x⟩])*32) 140737488355328=true:=Nat.ble_eq_true_of_le (by rw[hl1];omega);rw[h2];rfl
  have hg:∀e∈(a::r).map az,e.cells.length=2:=fun e he=>by obtain ⟨_,_,rfl⟩:=List.mem_map.1 he;rfl
  have hlen:(0+ab (az a::r.map az))=(a::r).length:=by rw[aM,Nat.zero_add,lConQ,List.length_map,lConQ]
  have hA:ae (.str s'::I (.ofNat (aW s (a::r)))::am t y n (ak x) (ap ks))=true:=by
   have:=fZ ⟨s',(.ofNat (aW s (a::r))),.mk t y n x ks⟩;exact this
  have hT:ae (am t y n (ak x) (ap ks))=true:=by
   have:=cG (.mk t y n x ks);exact this
  have hbeq:Nat.beq (ab (flat ((a::r).map az))) ((a::r).length*2)=true:=by
   have h1:=jF hg;rw[List.length_map] at h1;rw[beq_iff,aM];exact h1
  have hask:(a7 2 (az a::r.map az)&&(Nat.ble ((0+ab (az a::r.map az))*32) 140737488355328&&true))=true:=by
   have h1:a7 2 (az a::r.map az)=true:=io hg;have h2:Nat.ble ((0+ab (az a::r.map az))*32) 140737488355328=true:=Nat.ble_eq_true_of_le (by rw[hlen];omega);rw[h1,h2];rfl
  refine dg (A:=aB [(13,2,.res (.bool false)),(18,2,.res (.bool false)),(20,2,.res (.bool false)),(22,2,.res (.bool false)),(24,2,.res (.bool false)),(29,2,.res (.bool false)),(12,6,.res (.str x))] [(6,I4 (.ofNat (aW s (a::r))) (a::r).length (aa o (.fsl false ms) (.fsl false ns) (.fsl false ls) (.rsl true 1 0 (a::r).length 2)) (flat ((a::r).map az)) (bp (.cus s)) (.str s'::I (.ofNat (aW s (a::r)))::am t y n (ak x) (ap ks)) (am t y n (ak x) (ap ks)))] aR [] []) base0 ar
   (aG (LsOk.at1 rfl Cb fun st Q hs=> .seen base0.glob hs.1 (Wm (C:=a::r) (by omega) hM hN hL hs.2 (a::r).length 0 (Nat.zero_add _)))) (gy o hM hN hL hC _ _) ?_
  rw[cT,List.map_cons];rw[V9,hlen];rw[hlen] at hask;refine ⟨fc hn (j:= .nam) (by simp[kinds]) _ _,fc hn (j:= .alg) (by simp[kinds]) _ _,fc hn (j:= .len) (by simp[kinds]) _ _,fc hn (j:= .mask) (by simp[kinds]) _ _,fc hn (j:= .lnk) (by simp[kinds]) _ _,fc hn (j:= .lim) (by simp[kinds]) _ _,aD hask ⟨⟨⟨rflTwoQ,rflTwoQ,ad⟩,⟨rflTwoQ,rflTwoQ,rflTwoQ,rflTwoQ,rflTwoQ,ad⟩,bA (o:=o) hM (.same _ hN) (.same _ hL) (.rsl _ _ _ _ _ _ rfl),⟨rfl,hes⟩,⟨rfl,kD s⟩,⟨rfl,hA⟩,⟨rfl,hT⟩,rflTwoQ,ad⟩,l7 x,aD hask2 (aD hbeq (aD (B8 o _ _ _ _ _) (l8 hM (.closed _ hN) (.closed _ hL) (Frz.row (es:=(a::r++[(⟨s,x⟩:Cu)]).map az) rfl rfl hes2 hl2 (fun e he=>by obtain ⟨_,_,rfl⟩:=List.mem_map.1 he;exact rflTwoQ) hC2) (c9 o (M:= .fsl false ms) (N:= .fsl false ns) (L:= .fsl false ls) (C:= .fsl false _) hM hN hL hC2))))⟩⟩
end
theorem Cc {k:Kd} (hk:dR k=true) (hn:iA k) {o:Ob} (hr:jm o k=true) {v:It} (hv:dL v k=true) (s:List UInt8) {i:Int} (hi:ci k=true→i= .ofNat (aA o k).length):
  SC 81 [au o,aN k,aK ⟨s,i,v⟩] (au (b9 o (aA o k).length v k)):=by
 have hM:=fA o;have hN:=eJ o;have hL:=eK o;have hC:=fg o;unfold au ax;cases k with
 |alg=>
  obtain ⟨t,y,n,d,ks⟩:=v;exact Wa hM hN hL hC i
 |len=>
  obtain ⟨t,y,n,d,ks⟩:=v;exact Wb hM hN hL hC i
 |mask=>
  obtain ⟨t,y,n,d,ks⟩:=v;exact Wc hM hN hL hC i
 | dat j=>
  obtain ⟨t,y,n,d,ks⟩:=v;have hk4:j=1∨j=2∨j=3∨j=4:=by
   simp only[dR,lz,Bool.and_eq_true,Nat.ble_eq] at hk;omega
  rcases hk4 with rfl|rfl|rfl|rfl
  ·exact Wd hM hN hL hC i
  ·exact We hM hN hL hC i
  ·exact Wf hM hN hL hC i
  ·exact Wg hM hN hL hC i
 |lim=>
  simp only[dL,Bool.and_eq_true] at hv;obtain ⟨t,y,n,d,ks⟩:=v;have hl:=hv.2;simp only[cC] at hl
  match ks,hl with
  |[⟨t0,y0,n0,d0,k0⟩,⟨t1,y1,n1,d1,k1⟩,⟨t2,y2,n2,d2,k2⟩],_=>exact Wi hM hN hL hC i t0 y0 n0 t1 y1 n1 t2 y2 n2 d0 d1 d2 k0 k1 k2
 |nam=>
  obtain ⟨t,y,n,d,ks⟩:=v;have hlen:(aA o .nam).length=o.names.length:=by simp[aA]
  rw[hi rfl,hlen];have h6:o.names.length<6:=blt_iff.1 hr;have:=Wt (o:=o) (s:=s) (t:=t) (y:=y) (n:=n) (ks:=ks) hM hL hC d o.names h6;simp only[b9,Ca,gg];exact this
 | lnk=>
  simp only[dL,eA,Bool.and_eq_true] at hv;obtain ⟨t,y,n,d,ks⟩:=v;have hl:=hv.2;simp only[cC] at hl;have hlen:(aA o .lnk).length=o.links.length:=by simp[aA]
  rw[hi rfl,hlen];have h8:o.links.length<8:=blt_iff.1 hr
  match ks,hl with
  |[⟨t0,y0,n0,d0,k0⟩,⟨t1,y1,n1,d1,k1⟩],_=>
   have:=Wv (o:=o) (s:=s) (t:=t) (y:=y) (n:=n) (d:=d) hM hN hC d1 t0 y0 n0 t1 y1 n1 d0 k0 k1 o.links h8;simp only[b9,Ca];exact this
 |cus c=>
  obtain ⟨t,y,n,d,ks⟩:=v;have hlen:(aA o (.cus c)).length=aW c o.cust:=by simp only[aA,List.length_map];rfl
  have hpl:=qD o c;have h6:o.cust.length<6:=blt_iff.1 hr;rw[hi rfl,hlen];have:=WA (o:=o) (s:=c) (s':=s) (t:=t) (y:=y) (n:=n) (ks:=ks) hn hM hN hL d o.cust h6;rw[←hlen,hpl];rw[←hlen,hpl] at this;simp only[b9,Ww,Ca,gg];exact this
 |_=>cases hk
noncomputable section
def rm (c i:Int) (_m:Nat) (O es R A T:List AV):View:=⟨[(8,I c),(9,I i)],[(3,.ptr 0 0),(4,.ptr 2 0),(5,.ptr 3 0),(6,.ptr 5 0),(7,.ptr 4 0)],[(0,.cells O,.rel),(1,.cells es,.whole),(2,.cells R,.whole),(3,.cells A,.whole),(4,.cells T,.whole),(5,.cells O,.rel)],6,179⟩
def Jd (c p:Int) (m:Nat) (O es es' R A T:List AV):bV:=fun st Q=>dr 0 [(0,0),(1,39),(2,1),(3,2),(4,6),(5,3)] (eC 0 0 m O es R A T) st∧Q .ret (rm c p m O es' R A T).st
abbrev xk (s:List UInt8):=[AV.str s,I 7,AV.bool true,AV.bool true,AV.str [65,77,68],AV.str [],I (Int.negSucc 0)]
abbrev xl (D K:List AV) (ix n t y:Int) (s':List UInt8):=[AV.str s',I ix,I t,I y,I n,AV.fsl false D,AV.fsl false K]
@[simp] abbrev Cd (D K:List AV) (ix n t y:Int) (s':List UInt8):=((xl D K ix n t y s')=(xl D K ix n t y s')∧ae (xl D K ix n t y s')=true)
@[simp] abbrev Ce (D K:List AV) (n t y:Int):=([I t,I y,I n,AV.fsl false D,AV.fsl false K]=[I t,I y,I n,AV.fsl false D,AV.fsl false K]∧ae [I t,I y,I n,AV.fsl false D,AV.fsl false K]=true)
abbrev iB (L M N:AV) (m:Nat) (o:Ob):=(aa o M N L (AV.rsl true 1 0 m 2))
@[simp] abbrev Cf (s:List UInt8):=((xk s)=(xk s)∧ae (xk s)=true)
theorem WB (o:Ob) (M N L a:AV) (Us es:List AV) (m:Nat) (s s':List UInt8) (ix t y n c p:Int) (D K:List AV) (Q:AV→ah→Prop):aH prog opts0 40 (aB [(13,2,.res (.bool false)),(18,2,.res (.bool false)),(20,2,.res (.bool false)),(22,2,.res (.bool false)),(24,2,.res (.bool false)),(29,2,.res (.bool false))] [(6,Jd c p m (aa o M N L (.rsl true 1 0 m 2)) (flat (a::Us)) es (bp (.cus s)) (.str s'::I ix::am t y n D K) (am t y n D K))] aR [] []) 81 [.agg (aa o M N L (.fsl false (a::Us))),aN (.cus s),.agg (.str s'::I ix::am t y n D K)] [] 0 (fun v H _=>Q v H)=
 (aE prog BinOp.eql 9 (Operand.tmp 61) (Operand.const (Value.string {data:={toList:=[78,97,109,101]}})) (.str s) (.str [78,97,109,101])=some (.bool false)∧aE prog BinOp.eql 9 (Operand.tmp 89) (Operand.const (Value.string {data:={toList:=ic}})) (.str s) (.str ic)=some (.bool false)∧aE prog BinOp.eql 9 (Operand.tmp 96) (Operand.const (Value.string {data:={toList:=ig}})) (.str s) (.str ig)=some (.bool false)∧aE prog BinOp.eql 9 (Operand.tmp 103) (Operand.const (Value.string {data:={toList:=gQ}})) (.str s) (.str gQ)=some (.bool false)∧aE prog BinOp.eql 9 (Operand.tmp 110) (Operand.const (Value.string {data:={toList:=[76,105,110,107]}})) (.str s) (.str [76,105,110,107])=some (.bool false)∧aE prog BinOp.eql 9 (Operand.tmp 148) (Operand.const (Value.string {data:={toList:=dt}})) (.str s) (.str dt)=some (.bool false)∧aw (a7 2 (a::Us)&&(((0+ab (a::Us))*32).ble 140737488355328&&true)) ((((I 0=I 0∧true=true)∧(I 0=I 0∧true=true)∧True)∧((some 0=some 0∧0=0)∧(some 1=some 1∧0=0)∧(some 2=some 2∧0=0)∧(some 3=some 3∧0=0)∧(some 6=some 6∧0=0)∧True)∧br [(0,0),(1,39),(2,1),(3,2),(4,6),(5,3)] (iB L M N m o) (aa o M N L (.rsl true 39 0 (0+ab (a::Us)) 2))∧(flat (a::Us)=flat (a::Us)∧ae (flat (a::Us))=true)∧(Cf s)∧(Cd D K ix n t y s')∧(Ce D K n t y)∧(zL=zL∧true=true)∧True)∧Q (.agg (iB L M N m o)) [(0,some (Blk.cells (iB L M N m o))),(1,some (Blk.cells es)),(2,some (Blk.cells (xk s))),(3,some (Blk.cells (xl D K ix n t y s'))),(4,some (Blk.cells [I t,I y,I n,.fsl false D,.fsl false K])),(5,some (Blk.cells (iB L M N m o)))])):=by kernel_rfl
@[simp] abbrev Je:=((some 0=some 0∧0=0)∧(some 2=some 2∧0=0)∧(some 3=some 3∧0=0)∧(some 5=some 5∧0=0)∧(some 4=some 4∧0=0)∧True)
@[simp] abbrev Jf (c:Int) (i:Nat):=((I c=I c∧ag (I c)=true)∧(I (Int.ofNat i)=I (Int.ofNat i)∧ag (I (Int.ofNat i))=true)∧True)
theorem WC (o:Ob) (M N L:AV) (s s' x nm:List UInt8) (i m:Nat) (ix t y n c:Int) (D K es es':List AV) (Nx:Prop) (Q:AExit→St→Prop):aP prog opts0 40 (cu [(7,5,.ld (.str nm)),(7,8,.res (.bool true)),(8,3,.res (.bool true)),(9,5,.res (.str x))]) (aJ prog 81 6) (eC c (.ofNat i) m (aa o M N L (.rsl true 1 0 m 2)) es (bp (.cus s)) (.str s'::I ix::am t y n D K) (am t y n D K)).st (cb 0 [] (kB c 0 [] [] [] []) Nx [(0,0),(1,1),(2,2),(3,3),(4,4),(5,5)] (rm c (.ofNat i) m (aa o M N L (.rsl true 1 0 m 2)) es' (bp (.cus s)) (.str s'::I ix::am t y n D K) (am t y n D K)) Q)=
 (ac (ay (Int.ofNat i) (Int.ofNat m)) (aw (dx (Int.ofNat i)&&((Int.ofNat i).toNat.blt m&&true)) (bZ prog 9 es (0+(Int.ofNat i).toNat*2+0)=some (.str nm)∧aE prog BinOp.eql 9 (Operand.tmp 29) (Operand.tmp 31) (.str nm) (.str s)=some (.bool true)∧aE prog BinOp.eql 3 (Operand.tmp 33) (Operand.tmp 35) (I c) (I ix)=some (.bool true)∧dM prog 23 9 (.fsl false D)=some (Eff.val (.str x))∧aw (dx (Int.ofNat i)&&((Int.ofNat i).toNat.blt m&&true)) (aw ((0+(Int.ofNat i).toNat*2+1+1).ble (ab es)) (aw (aY prog 33 (.agg (iB L M N m o)) 37) (((Jf c i)∧Je∧br [(0,0),(1,1),(2,2),(3,3),(4,4),(5,5)] (iB L M N m o) (iB L M N m o)∧(List.take (0+(Int.ofNat i).toNat*2+1) es++AV.str x::List.drop (0+(Int.ofNat i).toNat*2+1+ab [AV.str x]) es=es'∧ae es'=true)∧(Cf s)∧(Cd D K ix n t y s')∧(Ce D K n t y)∧br [(0,0),(1,1),(2,2),(3,3),(4,4),(5,5)] (iB L M N m o) (iB L M N m o)∧True)∧Q AExit.ret (rm c (Int.ofNat i) m (iB L M N m o) es' (bp (Kd.cus s)) (.str s'::I ix::am t y n D K) (am t y n D K)).st))))) (((Jf c i)∧Je∧br [(0,0),(1,1),(2,2),(3,3),(4,4),(5,5)] (iB L M N m o) (iB L M N m o)∧(es=es'∧ae es'=true)∧(Cf s)∧(Cd D K ix n t y s')∧(Ce D K n t y)∧br [(0,0),(1,1),(2,2),(3,3),(4,4),(5,5)] (iB L M N m o) zL∧True)∧Q (AExit.exit 1) (rm c (Int.ofNat i) m (iB L M N m o) es' (bp (Kd.cus s)) (.str s'::I ix::am t y n D K) (am t y n D K)).st)):=by kernel_rfl
end
noncomputable section
def rn (c0 c1:List AV) (Ls O':List AV) (th pl fu tw so:Bool):bz:=aB [(8,13,.res (.fptr c0 0)),(8,19,.res (.fptr c1 0))] [] (fY [(17,fun _=>some (.fsl false Ls)),(115,fun _=>some (.bool th)),(79,fun _=>some (.bool pl)),(116,fun _=>some (.bool fu)),(80,fun _=>some (.bool tw)),(81,fun _=>some (.agg O')),(49,fun _=>some (.bool so))]) [64] []
abbrev nv (C' L' M' N':AV) (p:Ob):=(aY prog 33 (AV.agg (aa p M' N' L' C')) 37)
abbrev ny:=(AV.tuple [AV.agg zL,I 7])
abbrev rp (D K:List AV) (i n t y:Int) (s:List UInt8):=[AV.str s,I i,I t,I y,I n,AV.fsl false D,AV.fsl false K]
theorem WD (nm ch st:List UInt8) (ty da:Int) (se:Bool) (s:List UInt8) (i t y n t0 y0 n0 t1 y1 n1:Int) (D K D0 K0 D1 K1 Ls:List AV) (o p:Ob) (M N L C M' N' L' C':AV) (th pl fu tw so:Bool) (Q:AV→Prop):aH prog opts0 40 (rn (am t0 y0 n0 D0 K0) (am t1 y1 n1 D1 K1) Ls (aa p M' N' L' C') th pl fu tw so) 65 [.agg (aa o M N L C),.agg [.str nm,I ty,.bool true,.bool se,.str ch,.str st,I da],.agg (.str s::I i::am t y n D K)] [] 0 (fun v _ _=>Q v)=
 (SC 17 [AV.agg (aa o M N L C),.str s] (.fsl false Ls)∧ac (!ao i (Int.ofNat (ab Ls))) (Q (.tuple [AV.agg zL,I 14])) (SC 79 [AV.agg [AV.str nm,I ty,.bool true,.bool se,.str ch,.str st,I da],.agg [I t,I y,I n,.fsl false D,.fsl false K]] (.bool pl)∧ac (!pl) (Q ny) (ac (aI nm dt) (aF prog 35 (.fsl false K) (I 0)=some (.fptr [I t0,I y0,I n0,.fsl false D0,.fsl false K0] 0)∧aF prog 35 (.fsl false K) (I 1)=some (.fptr [I t1,I y1,I n1,.fsl false D1,.fsl false K1] 0)∧ac (!ao n0 n1) (Q ny) (SC 116 [AV.agg (aa o M N L C),.str s] (.bool fu)∧ac fu (Q (.tuple [AV.agg zL,I 12])) (SC 80 [AV.agg (aa o M N L C),.agg (rp D K i n t y s),I (Int.negSucc 0)] (.bool tw)∧ac tw (Q (.tuple [AV.agg zL,I 11])) (SC 81 [AV.agg (aa o M N L C),.agg [AV.str nm,I ty,.bool true,.bool se,.str ch,.str st,I da],.agg (rp D K i n t y s)] (.agg (aa p M' N' L' C'))∧aw (nv C' L' M' N' p) (SC 49 [AV.agg (aa p M' N' L' C')] (.bool so)∧ac (!so) (Q ny) (aw (nv C' L' M' N' p) (Q (.tuple [AV.agg (aa p M' N' L' C'),I 0])))))))) (SC 116 [AV.agg (aa o M N L C),.str s] (.bool fu)∧ac fu (Q (.tuple [AV.agg zL,I 12])) (SC 80 [AV.agg (aa o M N L C),.agg (rp D K i n t y s),I (Int.negSucc 0)] (.bool tw)∧ac tw (Q (.tuple [AV.agg zL,I 11])) (SC 81 [AV.agg (aa o M N L C),.agg [AV.str nm,I ty,.bool true,.bool se,.str ch,.str st,I da],.agg (rp D K i n t y s)] (.agg (aa p M' N' L' C'))∧aw (nv C' L' M' N' p) (SC 49 [AV.agg (aa p M' N' L' C')] (.bool so)∧ac (!so) (Q ny) (aw (nv C' L' M' N' p) (Q (.tuple [AV.agg (aa p M' N' L' C'),I 0])))))))))):=by kernel_rfl
theorem Cg (nm ch st:List UInt8) (ty da:Int) (se:Bool) (s:List UInt8) (i t y n t0 y0 n0 t1 y1 n1:Int) (D K D0 K0 D1 K1 Ls:List AV) (o p:Ob) (M N L C M' N' L' C':AV) (th pl fu tw so:Bool) (Q:AV→Prop):aH prog opts0 40 (rn (am t0 y0 n0 D0 K0) (am t1 y1 n1 D1 K1) Ls (aa p M' N' L' C') th pl fu tw so) 65 [.agg (aa o M N L C),.agg [.str nm,I ty,.bool false,.bool se,.str ch,.str st,I da],.agg (.str s::I i::am t y n D K)] [] 0 (fun v _ _=>Q v)=
 (SC 17 [AV.agg (aa o M N L C),.str s] (.fsl false Ls)∧ac (!ao i 0) (Q (.tuple [AV.agg zL,I 14])) (SC 115 [AV.agg (aa o M N L C),.str s] (.bool th)∧ac th (Q (.tuple [AV.agg zL,I 11])) (SC 79 [AV.agg [AV.str nm,I ty,.bool false,.bool se,.str ch,.str st,I da],.agg [I t,I y,I n,.fsl false D,.fsl false K]] (.bool pl)∧ac (!pl) (Q ny) (ac (aI nm dt) (aF prog 35 (.fsl false K) (I 0)=some (.fptr [I t0,I y0,I n0,.fsl false D0,.fsl false K0] 0)∧aF prog 35 (.fsl false K) (I 1)=some (.fptr [I t1,I y1,I n1,.fsl false D1,.fsl false K1] 0)∧ac (!ao n0 n1) (Q ny) (SC 81 [AV.agg (aa o M N L C),.agg [AV.str nm,I ty,.bool false,.bool se,.str ch,.str st,I da],.agg (rp D K i n t y s)] (.agg (aa p M' N' L' C'))∧aw (nv C' L' M' N' p) (SC 49 [AV.agg (aa p M' N' L' C')] (.bool so)∧ac (!so) (Q ny) (aw (nv C' L' M' N' p) (Q (.tuple [AV.agg (aa p M' N' L' C'),I 0])))))) (SC 81 [AV.agg (aa o M N L C),.agg [AV.str nm,I ty,.bool false,.bool se,.str ch,.str st,I da],.agg (rp D K i n t y s)] (.agg (aa p M' N' L' C'))∧aw (nv C' L' M' N' p) (SC 49 [AV.agg (aa p M' N' L' C')] (.bool so)∧ac (!so) (Q ny) (aw (nv C' L' M' N' p) (Q (.tuple [AV.agg (aa p M' N' L' C'),I 0]))))))))):=by kernel_rfl
end
set_option maxRecDepth 20000
def xm:Option Kd→AV
 |some k=> .tuple [aN k,.bool true]
 |none=> .tuple [o5,.bool false]
def uj (c:Bool) (s:List UInt8):Option Kd:=match g8 s kinds with
 |some k=>some k
 |none=>match c with
  |true=>some (.cus s)
  |false=>none
theorem Ch {c:Bool} {s:List UInt8} (h:c=true→∀k∈kinds,aC k≠s):uj c s=ec c s:=by
 cases c with
 |true=>rw[uj,BJ (h rfl)];rfl
 |false=>
  rw[uj];show _=g8 s kinds;cases g8 s kinds<;>rfl
theorem Ci {c:Bool} {s:List UInt8} (hc:SC 114 [.str s] (.bool c)):SC 63 [.str s] (xm (uj c s)):=by
 refine bG (A:=HS c) base0 ar (aG (LsOk.no rfl)) rfl ?_;rw[TT];refine And.intro tL ?_;simp only[uj]
 repeat' first|refine And.intro hc ?_|refine ai (fun _=> ?_) (fun _=> ?_)
 all_goals
  simp only[kinds,g8,aC,Ap, *];exact td rfl rfl
theorem WE {o:Ob} {k:Kd} {v:It} (h:ci k=true):eA o v k=dL v k:=by cases k<;>first|rfl|cases h
theorem Jg {o:Ob} {k:Kd} {v:It} (h:k≠ .lim):eA o v k=dL v k:=by cases k<;>first|rfl|exact absurd rfl h
theorem Jh {o:Ob} {k:Kd} (h:ci k=false) (i j:Nat) (v:It):b9 o i v k=b9 o j v k:=by cases k<;>first|rfl|cases h
theorem WF {o:Ob} {k:Kd} {v:It} {b:Int} (h:ci k=true):jP o k v b=gI v b (aA o k) 0:=by rw[jP,h,Bool.true_and]
theorem Cj {k:Kd} (h:ci k=true) (hn:iA k):aI (aC k) (aC .lim)=false:=by
 cases k with
 |nam=>rfl
 |lnk=>rfl
 |cus s=>exact lZ hn (by simp[kinds])
 |_=>cases h
theorem Ck {o:Ob} {k:Kd} {v:It} {j:Nat} {so:Bool} (h:gk (b9 o j v k)=so):(so=false→eg o k j v=(zO,7))∧(so=true→eg o k j v=(b9 o j v k,0)):=by
 subst h;unfold eg;exact ⟨fun e=>by rw[e],fun e=>by rw[e]⟩
section
variable {o:Ob} {k:Kd} {s:List UInt8}
theorem WG (hof:SC 17 [au o,.str s] (.fsl false ((bo s (aA o k) 0).map aK))) (hs:s=aC k) (hm:ci k=true) (hk:dR k=true) (hn:iA k) (hg:jQ o k) (hcu:∀c,k= .cus c→SC 114 [.str c] (.bool true)) (i:Int) (v:It) (hv:cY v):
  SC 65 [au o,aN k,aK ⟨s,i,v⟩] (cJ (fR o k ⟨s,i,v⟩)):=by
 have hcl:ae [au o,aN k,aK ⟨s,i,v⟩]=true:=cS o (by simp[ae,fZ,BW]);have hpl:=BX hk hn v hv;have hfu:=VT (o:=o) hn hm hcu;have htw:=IZ hof hg i v (-1);have hwi:=fun hr hv' hi=>Cc hk hn (o:=o) hr (v:=v) hv' s (i:=i) hi;have hso:=AY (b9 o (aA o k).length v k);have hle:=Ck (o:=o) (k:=k) (v:=v) (j:=(aA o k).length) rfl;have hlm:=Cj hm hn;have hlen:ab ((bo s (aA o k) 0).map aK)=(aA o k).length:=by rw[aM,List.length_map,gK]
 have hfp:=fq (b9 o (aA o k).length v k);subst hs;unfold fR;simp only[hm,Wx hm,WE hm,WF hm,Bool.not_true,Bool.false_and];generalize b9 o (aA o k).length v k=p at hwi hso hle hfp⊢;obtain ⟨t,y,n,d,ks⟩:=v;refine bG (A:=rn (am 0 0 0 [] []) (am 0 0 0 [] []) ((bo (aC k) (aA o k) 0).map aK) (ax p) false (dL (.mk t y n d ks) k) (!jm o k) (gI (.mk t y n d ks) (-1) (aA o k) 0) (gk p)) base0 ar (aG (LsOk.no rfl)) hcl ?_;rw[bJ] at hpl;rw[cT] at htw hwi⊢;unfold au at*
 unfold ax aN bp at*
 rw[hm] at hpl hwi⊢;rw[WD,hlen];refine ⟨hof,ai (fun e=> ?_) fun e=>⟨hpl,ai (fun e2=> ?_) fun e2=>mF hlm ⟨hfu,ai (fun e3=> ?_) fun e3=>⟨htw,ai (fun e4=> ?_) fun e4=>⟨hwi ?_ ?_ ?_,aD hfp ⟨hso,ai (fun e5=> ?_) fun e5=>aD hfp ?_⟩⟩⟩⟩⟩⟩
 ·rw[Bool.not_eq_true'] at e;rw[e];exact bd 14
 ·rw[Bool.not_eq_false'] at e;rw[Bool.not_eq_true'] at e2;rw[e,e2];exact bd 7
 ·rw[Bool.not_eq_false'] at e e2;rw[Bool.not_eq_true'] at e3;rw[e,e2,e3];exact bd 12
 ·rw[Bool.not_eq_false'] at e e2 e3;rw[e,e2,e3,e4];exact bd 11
 ·rw[Bool.not_eq_false'] at e3;exact e3
 ·rw[Bool.not_eq_false'] at e2;exact e2
 ·rw[Bool.not_eq_false'] at e;exact fun _=>beqInt_iff.1 e
 ·rw[Bool.not_eq_false'] at e e2 e3;rw[Bool.not_eq_true'] at e5;rw[e,e2,e3,e4];dsimp only;rw[hle.1 e5];exact bd 7
 ·rw[Bool.not_eq_false'] at e e2 e3 e5;rw[e,e2,e3,e4];dsimp only;rw[hle.2 e5];exact gm p 0
theorem WH (hof:SC 17 [au o,.str s] (.fsl false ((bo s (aA o k) 0).map aK))) (hs:s=aC k) (hm:ci k=false) (hk:dR k=true) (hn:iA k) (i:Int) (v:It) (hv:cY v):
  SC 65 [au o,aN k,aK ⟨s,i,v⟩] (cJ (fR o k ⟨s,i,v⟩)):=by
 have hcl:ae [au o,aN k,aK ⟨s,i,v⟩]=true:=cS o (by simp[ae,fZ,BW]);have hpl:=BX hk hn v hv;have hth:=VR hof hs hm hk;have hroom:jm o k=true:=by cases k<;>first|rfl|cases hm
 have hwi:=fun hv'=>Cc hk hn (o:=o) hroom (v:=v) hv' s (i:=i) (fun e=>by rw[hm] at e;cases e);rw[Jh hm (aA o k).length 0] at hwi;have hso:=AY (b9 o 0 v k);have hle:=Ck (o:=o) (k:=k) (v:=v) (j:=0) rfl;have hfp:=fq (b9 o 0 v k);unfold fR;simp only[hm,hroom,jP,Bool.not_false,Bool.true_and,Bool.false_and]
 by_cases hk2:k= .lim
 ·subst hk2;subst hs;have hth0:ay 0 (.ofNat (dk o .lim))=false→o.lh=false:=fun e=>by
   cases hl:o.lh with
   |false=>rfl
   | true=>
    have:dk o .lim=1:=by
     show oY false 1 (cV o.lh (qw o))=1;rw[hl];rfl
    rw[this] at e;cases e
  generalize b9 o 0 v .lim=p at hwi hso hle hfp⊢;simp only[eA];simp only[dL] at hpl hwi;obtain ⟨t,y,n,d,ks⟩:=v;simp only[cC] at hpl hwi⊢;have hbad:ef ks=false→SC 65 [au o,aN .lim,aK ⟨aC .lim,i,.mk t y n d ks⟩] (cJ (match ao i 0 with|false=>(zO,14)|true=>match ay 0 (.ofNat (dk o .lim)) with|true=>(zO,11)|false=>match dy (.mk t y n d ks) 4325387 1&&(ef ks&&(o.lh||tz ks)) with|false=>(zO,7)|true=>eg o .lim 0 (.mk t y n d ks))):=fun hl=>by
   rw[hl] at hpl⊢;rw[Bool.and_false] at hpl;rw[Bool.false_and,Bool.and_false];refine bG (A:=rn (am 0 0 0 [] []) (am 0 0 0 [] []) ((bo (aC .lim) (aA o .lim) 0).map aK) (ax p) (ay 0 (.ofNat (dk o .lim))) false false false (gk p)) base0 ar (aG (LsOk.no rfl)) hcl ?_;rw[bJ] at hpl;rw[cT];unfold au at*
   unfold ax aN bp at*
   rw[show ci .lim=false from rfl] at hpl⊢
   rw[Cg];refine ⟨hof,ai (fun e=> ?_) fun e=>⟨hth,ai (fun e1=> ?_) fun e1=>⟨hpl,mT rfl ?_⟩⟩⟩
   ·rw[Bool.not_eq_true'] at e;rw[e];exact bd 14
   ·rw[Bool.not_eq_false'] at e;rw[e,e1];exact bd 11
   ·rw[Bool.not_eq_false'] at e;rw[e,e1];exact bd 7
  match ks,hbad,hcl,hpl,hwi with
  | [⟨t0,y0,n0,d0,k0⟩,⟨t1,y1,n1,d1,k1⟩,⟨t2,y2,n2,d2,k2⟩],_,hcl,hpl,hwi=>
   have g0:=cQ (f:=false) (ks:=[.mk t0 y0 n0 d0 k0,.mk t1 y1 n1 d1 k1,.mk t2 y2 n2 d2 k2]) (i:=0) rfl;have g1:=cQ (f:=false) (ks:=[.mk t0 y0 n0 d0 k0,.mk t1 y1 n1 d1 k1,.mk t2 y2 n2 d2 k2]) (i:=1) rfl;have hfull:tz [.mk t0 y0 n0 d0 k0,.mk t1 y1 n1 d1 k1,.mk t2 y2 n2 d2 k2]=ao n1 n0:=rfl;rw[hfull];revert hpl hwi;generalize (dy (.mk t y n d [.mk t0 y0 n0 d0 k0,.mk t1 y1 n1 d1 k1,.mk t2 y2 n2 d2 k2]) 4325387 1)=sh;generalize ef [.mk t0 y0 n0 d0 k0,.mk t1 y1 n1 d1 k1,.mk t2 y2 n2 d2 k2]=li;intro hpl hwi;have hcomm:ao n0 n1=ao n1 n0:=by
    cases h1:ao n1 n0 with
    |true=>rw[beqInt_iff.1 h1];exact beqInt_iff.2 rfl
    |false=>exact beqInt_false.2 fun e=>beqInt_false.1 h1 e.symm
   refine bG (A:=rn (am t0 y0 n0 (ak d0) (ap k0)) (am t1 y1 n1 (ak d1) (ap k1)) ((bo (aC .lim) (aA o .lim) 0).map aK) (ax p) (ay 0 (.ofNat (dk o .lim))) (sh&&li) false false (gk p)) base0 ar (aG (LsOk.no rfl)) hcl ?_;rw[bJ] at hpl;rw[cT] at hwi⊢;unfold au at*
   unfold ax aN bp at*
   rw[show ci .lim=false from rfl] at hpl hwi⊢
   rw[Cg];refine ⟨hof,ai (fun e=> ?_) fun e=>⟨hth,ai (fun e1=> ?_) fun e1=>⟨hpl,ai (fun e2=> ?_) fun e2=>mT rfl ⟨g0,g1,ai (fun e3=> ?_) fun e3=>⟨hwi ?_,aD hfp ⟨hso,ai (fun e5=> ?_) fun e5=>aD hfp ?_⟩⟩⟩⟩⟩⟩
   ·rw[Bool.not_eq_true'] at e;rw[e];exact bd 14
   ·rw[Bool.not_eq_false'] at e;rw[e,e1];exact bd 11
   ·rw[Bool.not_eq_false'] at e;rw[Bool.not_eq_true'] at e2;rw[e,e1,hth0 e1,←Bool.and_assoc,e2];exact bd 7
   ·rw[Bool.not_eq_false'] at e e2;rw[Bool.not_eq_true'] at e3;rw[e,e1,hth0 e1,←Bool.and_assoc,e2,←hcomm,e3];exact bd 7
   ·rw[Bool.not_eq_false'] at e2;exact e2
   ·rw[Bool.not_eq_false'] at e e2 e3;rw[Bool.not_eq_true'] at e5;rw[e,e1,hth0 e1,←Bool.and_assoc,e2,←hcomm,e3];dsimp only[Bool.false_or,Bool.true_and];rw[hle.1 e5];exact bd 7
   ·rw[Bool.not_eq_false'] at e e2 e3 e5;rw[e,e1,hth0 e1,←Bool.and_assoc,e2,←hcomm,e3];dsimp only[Bool.false_or,Bool.true_and];rw[hle.2 e5];exact gm p 0
  |[],hbad,_,_,_=>exact hbad rfl
  |[_],hbad,_,_,_=>exact hbad rfl
  |[_,_],hbad,_,_,_=>exact hbad rfl
  |_::_::_::_::_,hbad,_,_,_=>exact hbad rfl
 ·have hlm:aI (aC k) (aC .lim)=false:=by
   cases k with
   |lim=>exact absurd rfl hk2
   |alg=>rfl
   |len=>rfl
   |mask=>rfl
   | dat j=>
    have hk4:j=1∨j=2∨j=3∨j=4:=by
     simp only[dR,lz,Bool.and_eq_true,Nat.ble_eq] at hk;omega
    rcases hk4 with rfl|rfl|rfl|rfl<;>rfl
   |nam=>cases hm
   |lnk=>cases hm
   |cus c=>cases hm
   |_=>cases hk
  subst hs;rw[Jg hk2];generalize b9 o 0 v k=p at hwi hso hle hfp⊢;obtain ⟨t,y,n,d,ks⟩:=v;refine bG (A:=rn (am 0 0 0 [] []) (am 0 0 0 [] []) ((bo (aC k) (aA o k) 0).map aK) (ax p) (ay 0 (.ofNat (dk o k))) (dL (.mk t y n d ks) k) false false (gk p)) base0 ar (aG (LsOk.no rfl)) hcl ?_;rw[bJ] at hpl;rw[cT] at hwi⊢;unfold au at*
  unfold ax aN bp at*
  rw[hm] at hpl hwi⊢;rw[Cg];refine ⟨hof,ai (fun e=> ?_) fun e=>⟨hth,ai (fun e1=> ?_) fun e1=>⟨hpl,ai (fun e2=> ?_) fun e2=>mF hlm ⟨hwi ?_,aD hfp ⟨hso,ai (fun e5=> ?_) fun e5=>aD hfp ?_⟩⟩⟩⟩⟩
  ·rw[Bool.not_eq_true'] at e;rw[e];exact bd 14
  ·rw[Bool.not_eq_false'] at e;rw[e,e1];exact bd 11
  ·rw[Bool.not_eq_false'] at e;rw[Bool.not_eq_true'] at e2;rw[e,e1,e2];exact bd 7
  ·rw[Bool.not_eq_false'] at e2;exact e2
  ·rw[Bool.not_eq_false'] at e e2;rw[Bool.not_eq_true'] at e5;rw[e,e1,e2];dsimp only;rw[hle.1 e5];exact bd 7
  ·rw[Bool.not_eq_false'] at e e2 e5;rw[e,e1,e2];dsimp only;rw[hle.2 e5];exact gm p 0
end
theorem Cl {c:Bool} {s:List UInt8} {k:Kd} (h:c=true→∀j∈kinds,aC j≠s) (hk:ec c s=some k):iA k:=by
 intro c' e;subst e;cases c with
 |true=>
  have e:=Option.some.inj hk;cases e;exact h rfl
 |false=>
  have:=(wr (show g8 s kinds=some (.cus c') from hk)).1
  simp[kinds] at this
theorem Ji {c:Bool} {s c':List UInt8} (hk:ec c s=some (.cus c')):c=true∧s=c':=by
 cases c with
 |true=>
  have e:=Option.some.inj hk;cases e;exact rflTwoQ
 |false=>
  have:=(wr (show g8 s kinds=some (.cus c') from hk)).1
  simp[kinds] at this
end Go.Proofs.YtjhggnebkfpgcaaGreatDoor
