import Derived.Test.YtlljinebapfdaaaGreatDoorQ2
import Derived.KernelRfl
import Derived.Test.YtlljinebapfdaaaGreatDoorQ1
import Derived.Test.YtlljinebapfdaaaGreatDoorG5
namespace Go.Proofs.YtlljinebapfdaaaGreatDoor
open Go Go.RowKit
open Go.Proofs.Abs
theorem BW {s:List UInt8}:∀ {l:List Kd} {k:Kd},jw s l=some k→k∈l∧iy k=s
 |[],_,h=>by cases h
 | a::r,k,h=>by
  simp only[jw] at h
  split at h
  ·rename_i e
   cases h
   exact ⟨by simp,beqBytes_iff.1 e⟩
  ·obtain ⟨h1,h2⟩:=BW h
   exact ⟨by simp[h1],h2⟩
def BX (s:List UInt8) (l:List Cu):Nat:=(l.filter fun c=>ag c.name s).length
def q8:List Cu→List Cu→List At
 |_,[]=>[]
 |pre,c::r=>⟨c.name,.ofNat (BX c.name pre),gy c.text⟩::q8 (pre++[c]) r
def q9 (o:Ob):List Kd→List At
 |[]=>[]
 |k::r=>vK (iy k) (aL o k) 0++q9 o r
def BZ (o:Ob):List At:=q9 o kinds++q8 [] o.cust
structure B0 (c:Bool) (s:List UInt8) (o:Ob):Prop where
 t:c=true→∀k∈kinds,iy k≠s
 f:c=false→∀x∈o.cust,x.name≠s
theorem B1 {o:Ob} (hg:∀k,ox o k):∀l:List Kd,(q9 o l).length≤1000*l.length
 |[]=>Nat.le_refl _
 |a::t=>by
  have:=B1 hg t
  have h:=(hg a).n
  rw[q9,List.length_append,BV,List.length_cons]
  omega
def KT (c:Cu) (n:Nat):AV:= .agg [.str c.name,I (.ofNat n),I 4325387,I 7,I 0,.fsl false (aj c.text),.nilsl]
def oD:List Cu→List Cu→List AV
 |_,[]=>[]
 |pre,c::r=>KT c (BX c.name pre)::oD (pre++[c]) r
theorem B2:∀ (l q:List Cu),(oD q l).length=l.length
 |[],_=>rfl
 |a::r,q=>by rw[oD,List.length_cons,List.length_cons,B2 r]
theorem B3:∀ (l q:List Cu),WkE (oD q l) ((q8 q l).map aW)
 |[],_=> .nil
 |a::r,q=>by
  rw[oD,q8,List.map_cons]
  refine WkE.consA ?_ (B3 r _)
  simp only[gy,bA]
  (repeat (first|exact Wk.refl _|exact WkL.refl _|exact Wk.nil|exact Wk.row|exact WkE.refl _|exact WkL.nil|exact WkE.nil|apply Wk.agg|apply Wk.tuple|apply WkL.cons|apply Wk.rows|apply WkE.consA))
theorem re {p:Nat} (h:p≤1000000):az .i64 (Int.ofNat p+1)=Int.ofNat (p+1):=eS (by simp;omega) (by simp;omega)
theorem gC (l:List It):ae (flat (af l))=true:=oa (cY l) fun e he=>by
 rw[ir] at he
 obtain ⟨x,_,rfl⟩:=List.mem_map.1 he
 have:=cD x
 cases x
 exact this
def B4:It:= .mk 0 0 0 [] []
noncomputable section
abbrev kJ (D K:List AV) (n t y:Int):=[I t,I y,I n,AV.fsl false D,AV.fsl false K]
theorem KU (t y n:Int) (D K:List AV) (Q:AV→Prop):aq Tryz.prog opts0 40 (ak [] [] (bq [(218,.agg (am t y n D K))]) [] []) 177 [.agg [I 0,I 0,I 0,.nilsl,.fsl true [.agg (am t y n D K)]],I t] [] 0 (fun v _ _=>Q v)=
  (aa (ah t t) (SC 218 [AV.agg (kJ D K n t y)] (AV.agg (kJ D K n t y))∧Q (AV.tuple [AV.agg (kJ D K n t y),AV.bool true])) (Q (AV.tuple [AV.agg [I 0,I 0,I 0,AV.nilsl,AV.nilsl],AV.bool false]))):=by kernel_rfl
theorem KV (t y n:Int) (D K:List AV) (Q:AV→Prop):aq Tryz.prog opts0 40 (ak [] [] (bq [(177,.tuple [.agg (am t y n D K),.bool true])]) [] []) 222 [.agg (am t y n D K)] [] 0 (fun v _ _=>Q v)=
  (SC 177 [AV.agg [I 0,I 0,I 0,AV.nilsl,AV.fsl true [AV.agg (kJ D K n t y)]],I t] (AV.tuple [AV.agg (kJ D K n t y),AV.bool true])∧Q (AV.agg (kJ D K n t y))):=by kernel_rfl
def KW (r0 r1 r2:Bool):List AV→Option AV
 | [_,.int _ (.ofNat n),_]=>match Nat.beq n 4325384 with
  |true=>some (.bool r0)
  |false=>match Nat.beq n 4325386 with
   |true=>some (.bool r1)
   |false=>some (.bool r2)
 |_=>none
def rg (r0 r1 r2:Bool) (c0 c1 cl:List AV) (s:List UInt8) (v:AV):aV:=ak [(4,2,.res (.fptr c0 0)),(4,10,.res (.fptr cl 0)),(8,2,.res (.fptr c1 0)),(12,2,.res (.str s))] []
 (de [(221,KW r0 r1 r2),(222,fun _=>some v)]) [] []
abbrev kK:=(AV.tuple [AV.agg [AV.str [],I 0,I 0,I 0,I 0,AV.nilsl,AV.nilsl],AV.bool false])
abbrev oE (Dl Kl:List AV) (nl tl yl:Int):=[I tl,I yl,I nl,AV.fsl false Dl,AV.fsl false Kl]
theorem vM (r0 r1 r2:Bool) (s:List UInt8) (t y n t0 y0 n0 t1 y1 n1 tl yl nl:Int) (D K D0 K0 D1 K1 Dl Kl:List AV) (Q:AV→Prop):aq Tryz.prog opts0 40 (rg r0 r1 r2 (am t0 y0 n0 D0 K0) (am t1 y1 n1 D1 K1) (am tl yl nl Dl Kl) s (.agg (am tl yl nl Dl Kl))) 179 [.agg (am t y n D K)] [] 0 (fun v _ _=>Q v)=
  (SC 221 [AV.agg (kJ D K n t y),I 4325384,I 1] (AV.bool r0)∧aa (!r0) (Q kK) (aa (au (Int.ofNat (ac K)) 2) (Q kK) (aa (au 3 (Int.ofNat (ac K))) (Q kK) (aQ Tryz.prog 31 (AV.fsl false K) (I 0)=some (AV.fptr [I t0,I y0,I n0,AV.fsl false D0,AV.fsl false K0] 0)∧aQ Tryz.prog 31 (AV.fsl false K) (I (az IntKind.i64 (Int.ofNat (ac K)-1)))=some (AV.fptr (oE Dl Kl nl tl yl) 0)∧SC 221 [AV.agg [I t0,I y0,I n0,AV.fsl false D0,AV.fsl false K0],I 4325386,I 7] (AV.bool r1)∧aa (!r1) (Q kK) (aa (!ah tl 4325387) (Q kK) (aa (ah (Int.ofNat (ac K)) 3) (aQ Tryz.prog 31 (AV.fsl false K) (I 1)=some (AV.fptr [I t1,I y1,I n1,AV.fsl false D1,AV.fsl false K1] 0)∧SC 221 [AV.agg [I t1,I y1,I n1,AV.fsl false D1,AV.fsl false K1],I 4325385,I 2] (AV.bool r2)∧aa (!r2) (Q kK) (aa (!au 0 n1) (Q kK) (ei Tryz.prog 23 9 (AV.fsl false D0)=some (Eff.val (AV.str s))∧SC 222 [AV.agg (oE Dl Kl nl tl yl)] (AV.agg (oE Dl Kl nl tl yl))∧Q (AV.tuple [AV.agg [AV.str s,I n1,I tl,I yl,I nl,AV.fsl false Dl,AV.fsl false Kl],AV.bool true])))) (ei Tryz.prog 23 9 (AV.fsl false D0)=some (Eff.val (AV.str s))∧SC 222 [AV.agg (oE Dl Kl nl tl yl)] (AV.agg (oE Dl Kl nl tl yl))∧Q (AV.tuple [AV.agg [AV.str s,I 0,I tl,I yl,I nl,AV.fsl false Dl,AV.fsl false Kl],AV.bool true])))))))):=by kernel_rfl
end
def jJ:It→Int
 | .mk t _ _ _ _=>t
def gD:List It→Option At
 |[k0,v]=>match b8 k0 4325386 7&&ah (jJ v) 4325387 with
  |true=>some ⟨dO k0,0,v⟩
  |false=>none
 |[k0,k1,v]=>match b8 k0 4325386 7&&(ah (jJ v) 4325387&&(b8 k1 4325385 2&&au 0 (cj k1))) with
  |true=>some ⟨dO k0,cj k1,v⟩
  |false=>none
 |_=>none
def ce (x:It):Option At:=match b8 x 4325384 1 with
 |true=>gD (bf x)
 |false=>none
def B5:At:=⟨[],0,B4⟩
def vN:Option At→AV
 |some a=> .tuple [aW a,.bool true]
 |none=> .tuple [aW B5,.bool false]
theorem gE:cZ (vN none) (.tuple [.agg [.str [],I 0,I 0,I 0,I 0,.nilsl,.nilsl],.bool false]):=by
 refine ⟨rfl,.tuple (.cons (.agg ?_) (.refl _))⟩
 simp only[B5,B4]
 (repeat (first|exact Wk.refl _|exact WkL.refl _|exact Wk.nil|exact Wk.row|exact WkE.refl _|exact WkL.nil|exact WkE.nil|apply Wk.agg|apply Wk.tuple|apply WkL.cons|apply Wk.rows|apply WkE.consA))
theorem B6 {t y n i:Int} {d s:List UInt8} {ks:List It}:cZ (vN (some ⟨s,i,.mk t y n d ks⟩)) (.tuple [.agg (.str s::I i::am t y n (aj d) (af ks)),.bool true]):=by
 refine dZ ?_
 have:=mj ⟨s,i,.mk t y n d ks⟩
 show (ad (aW ⟨s,i,.mk t y n d ks⟩)&&true)=true
 rw[this];rfl
theorem vO (ks:List It):ac (af ks)=ks.length:=by rw[aC,fx]
theorem vP {t y n:Int} {d:List UInt8} {ks:List It} (h:bO aR (.mk t y n d ks)):∀x∈ks,bO aR x:=okIs_iff.1 h.2.2
theorem B7 {t y n:Int} {D K:List AV} (hc:SC 218 [.agg (am t y n D K)] (.agg (am t y n D K))) (hcl:ad (.agg (am t y n D K))=true):SC 177 [.agg [I 0,I 0,I 0,.nilsl,.fsl true [.agg (am t y n D K)]],I t] (.tuple [.agg (am t y n D K),.bool true]):=by
 refine bt (A:=ak [] [] (bq [(218,.agg (am t y n D K))]) [] []) base0 ap (ar (LsOk.no rfl)) (by simp only[ae,ad] at hcl⊢;simp only[hcl,Bool.and_self]) ?_
 rw[KU]
 exact ao (fun _=>⟨hc,dZ (by simp only[ad,ae] at hcl⊢;simp only[hcl,Bool.and_self])⟩) fun e=>by rw[beqInt_false] at e;exact absurd rfl e
theorem B8 {x:It} (h:bO aR x):SC 222 [aD x] (aD x):=by
 have hc:=uX x h
 have hcl:=cD x
 obtain ⟨t,y,n,d,ks⟩:=x
 rw[bh] at hc hcl⊢
 refine bt (A:=ak [] [] (bq [(177,.tuple [.agg (am t y n (aj d) (af ks)),.bool true])]) [] []) base0 ap (ar (LsOk.no rfl)) (by simp only[ae,hcl,Bool.and_self]) ?_
 rw[KV]
 exact ⟨B7 hc hcl,dZ hcl⟩
theorem B9 {n:Nat} (h:0<n) (h':n≤4):az .i64 (Int.ofNat n-1)= .ofNat (n-1):=by
 rw[eS (by simp only[Int.ofNat_eq_natCast];omega) (by simp only[Int.ofNat_eq_natCast];omega)]
 simp only[Int.ofNat_eq_natCast];omega
theorem Ca (d:List UInt8):ei Tryz.prog 23 9 (.fsl false (aj d))=some (.val (.str d)):=GC (e:=5) (by kernel_rfl) (by kernel_rfl) (by kernel_rfl)
section
variable {t y n:Int} {d:List UInt8} {ks:List It}
theorem KX (h:ks.length<2∨3<ks.length):ce (.mk t y n d ks)=none:=by
 unfold ce
 split
 ·match ks,h with
  |[],_=>rfl
  |[_],_=>rfl
  |[_,_],h=>simp at h
  |[_,_,_],h=>simp at h
  |_::_::_::_::_,_=>rfl
 ·rfl
theorem Cb (h:b8 (.mk t y n d ks) 4325384 1=false):ce (.mk t y n d ks)=none:=by unfold ce;rw[h]
set_option maxRecDepth 20000 in
theorem KY {x:It} (h:bO aR x):SC 179 [aD x] (vN (ce x)):=by
 have hcl:=cD x
 have hs:=ju x 4325384 1
 obtain ⟨t,y,n,d,ks⟩:=x
 have hl:=vO ks
 have hok:=vP h
 by_cases hb:ks.length<2∨3<ks.length
 ·have hr:=KX (t:=t) (y:=y) (n:=n) (d:=d) hb
  refine bt (A:=rg (b8 (.mk t y n d ks) 4325384 1) false false (am 0 0 0 [] []) (am 0 0 0 [] []) (am 0 0 0 [] []) [] (.agg (am 0 0 0 [] []))) base0 ap (ar (LsOk.no rfl)) (by simp only[ae,hcl,Bool.and_self]) ?_
  rw[bh] at hs⊢
  rw[vM,hl,hr]
  refine ⟨hs,ao (fun _=>gE) fun _=>ao (fun _=>gE) fun e2=>ao (fun _=>gE) fun e3=> ?_⟩
  have e2:=ltInt_false.1 e2
  have e3:=ltInt_false.1 e3
  simp only[Int.ofNat_eq_natCast] at e2 e3
  omega
 ·match ks,hb,hok with
  |[⟨t0,y0,n0,d0,l0⟩,⟨t1,y1,n1,d1,l1⟩],_,hok=>
   have s0:=ju (.mk t0 y0 n0 d0 l0) 4325386 7
   have i0:=cE (f:=false) (ks:=[.mk t0 y0 n0 d0 l0,.mk t1 y1 n1 d1 l1]) (i:=0) rfl
   have i1:=cE (f:=false) (ks:=[.mk t0 y0 n0 d0 l0,.mk t1 y1 n1 d1 l1]) (i:=1) rfl
   have hc:=B8 (hok (.mk t1 y1 n1 d1 l1) (by simp))
   refine bt (A:=rg (b8 (.mk t y n d [.mk t0 y0 n0 d0 l0,.mk t1 y1 n1 d1 l1]) 4325384 1) (b8 (.mk t0 y0 n0 d0 l0) 4325386 7) false (am t0 y0 n0 (aj d0) (af l0)) (am 0 0 0 [] []) (am t1 y1 n1 (aj d1) (af l1)) d0 (.agg (am t1 y1 n1 (aj d1) (af l1)))) base0 ap (ar (LsOk.no rfl)) (by simp only[ae,hcl,Bool.and_self]) ?_
   rw[bh] at hs⊢
   rw[bh] at s0 hc
   rw[vM,hl,B9 (by simp) (by simp)]
   refine ⟨hs,ao (fun e=> ?_) fun e=>ao (fun e2=>absurd e2 (show ¬au (.ofNat 2) 2=true by decide)) fun _=>ao (fun e3=>absurd e3 (show ¬au 3 (.ofNat 2)=true by decide)) fun _=>⟨i0,i1,s0,ao (fun e4=> ?_) fun e4=>ao (fun e5=> ?_) fun e5=>ao (fun e6=>absurd e6 (show ¬ah (.ofNat 2) 3=true by decide)) fun _=>⟨Ca d0,hc, ?_⟩⟩⟩
   ·rw[Cb (by simpa using e)];exact gE
   all_goals rw[Bool.not_eq_false'] at e
   ·rw[show ce (.mk t y n d [.mk t0 y0 n0 d0 l0,.mk t1 y1 n1 d1 l1])=none from by simp only[ce,e,bf,gD,(by simpa using e4:b8 (.mk t0 y0 n0 d0 l0) 4325386 7=false),Bool.false_and]];exact gE
   ·rw[show ce (.mk t y n d [.mk t0 y0 n0 d0 l0,.mk t1 y1 n1 d1 l1])=none from by simp only[ce,e,bf,gD,jJ,(by simpa using e5:ah t1 4325387=false),Bool.and_false]];exact gE
   ·rw[show ce (.mk t y n d [.mk t0 y0 n0 d0 l0,.mk t1 y1 n1 d1 l1])=some ⟨d0,0,.mk t1 y1 n1 d1 l1⟩ from by simp only[ce,e,bf,gD,jJ,dO,(by simpa using e4:b8 (.mk t0 y0 n0 d0 l0) 4325386 7=true),(by simpa using e5:ah t1 4325387=true),Bool.and_self]];exact B6
  |[⟨t0,y0,n0,d0,l0⟩,⟨t1,y1,n1,d1,l1⟩,⟨t2,y2,n2,d2,l2⟩],_,hok=>
   have s0:=ju (.mk t0 y0 n0 d0 l0) 4325386 7
   have s1:=ju (.mk t1 y1 n1 d1 l1) 4325385 2
   have i0:=cE (f:=false) (ks:=[.mk t0 y0 n0 d0 l0,.mk t1 y1 n1 d1 l1,.mk t2 y2 n2 d2 l2]) (i:=0) rfl
   have i1:=cE (f:=false) (ks:=[.mk t0 y0 n0 d0 l0,.mk t1 y1 n1 d1 l1,.mk t2 y2 n2 d2 l2]) (i:=1) rfl
   have i2:=cE (f:=false) (ks:=[.mk t0 y0 n0 d0 l0,.mk t1 y1 n1 d1 l1,.mk t2 y2 n2 d2 l2]) (i:=2) rfl
   have hc:=B8 (hok (.mk t2 y2 n2 d2 l2) (by simp))
   refine bt (A:=rg (b8 (.mk t y n d [.mk t0 y0 n0 d0 l0,.mk t1 y1 n1 d1 l1,.mk t2 y2 n2 d2 l2]) 4325384 1) (b8 (.mk t0 y0 n0 d0 l0) 4325386 7) (b8 (.mk t1 y1 n1 d1 l1) 4325385 2) (am t0 y0 n0 (aj d0) (af l0)) (am t1 y1 n1 (aj d1) (af l1)) (am t2 y2 n2 (aj d2) (af l2)) d0 (.agg (am t2 y2 n2 (aj d2) (af l2)))) base0 ap (ar (LsOk.no rfl)) (by simp only[ae,hcl,Bool.and_self]) ?_
   rw[bh] at hs⊢
   rw[bh] at s0 s1 hc
   rw[vM,hl,B9 (by simp) (by simp)]
   refine ⟨hs,ao (fun e=> ?_) fun e=>ao (fun e2=>absurd e2 (show ¬au (.ofNat 3) 2=true by decide)) fun _=>ao (fun e3=>absurd e3 (show ¬au 3 (.ofNat 3)=true by decide)) fun _=>⟨i0,i2,s0,ao (fun e4=> ?_) fun e4=>ao (fun e5=> ?_) fun e5=>ao (fun _=>⟨i1,s1,ao (fun e7=> ?_) fun e7=>ao (fun e8=> ?_) fun e8=>⟨Ca d0,hc, ?_⟩⟩) fun e6=>absurd e6 (show ¬ah (.ofNat 3) 3=false by decide)⟩⟩
   ·rw[Cb (by simpa using e)];exact gE
   all_goals rw[Bool.not_eq_false'] at e
   ·rw[show ce (.mk t y n d [.mk t0 y0 n0 d0 l0,.mk t1 y1 n1 d1 l1,.mk t2 y2 n2 d2 l2])=none from by simp only[ce,e,bf,gD,(by simpa using e4:b8 (.mk t0 y0 n0 d0 l0) 4325386 7=false),Bool.false_and]];exact gE
   ·rw[show ce (.mk t y n d [.mk t0 y0 n0 d0 l0,.mk t1 y1 n1 d1 l1,.mk t2 y2 n2 d2 l2])=none from by simp only[ce,e,bf,gD,jJ,(by simpa using e5:ah t2 4325387=false),Bool.false_and,Bool.and_false]];exact gE
   ·rw[show ce (.mk t y n d [.mk t0 y0 n0 d0 l0,.mk t1 y1 n1 d1 l1,.mk t2 y2 n2 d2 l2])=none from by simp only[ce,e,bf,gD,(by simpa using e7:b8 (.mk t1 y1 n1 d1 l1) 4325385 2=false),Bool.false_and,Bool.and_false]];exact gE
   ·rw[show ce (.mk t y n d [.mk t0 y0 n0 d0 l0,.mk t1 y1 n1 d1 l1,.mk t2 y2 n2 d2 l2])=none from by simp only[ce,e,bf,gD,cj,(by simpa using e8:au 0 n1=false),Bool.and_false]];exact gE
   ·rw[show ce (.mk t y n d [.mk t0 y0 n0 d0 l0,.mk t1 y1 n1 d1 l1,.mk t2 y2 n2 d2 l2])=some ⟨d0,n1,.mk t2 y2 n2 d2 l2⟩ from by simp only[ce,e,bf,gD,jJ,dO,cj,(by simpa using e4:b8 (.mk t0 y0 n0 d0 l0) 4325386 7=true),(by simpa using e5:ah t2 4325387=true),(by simpa using e7:b8 (.mk t1 y1 n1 d1 l1) 4325385 2=true),(by simpa using e8:au 0 n1=true),Bool.and_self]];exact B6
  |[],hb,_=>exact absurd (.inl (by simp)) hb
  |[_],hb,_=>exact absurd (.inl (by simp)) hb
  |_::_::_::_::_,hb,_=>exact absurd (.inr (by simp)) hb
end
def Cc:List AV:=[.str [],I 0,I 0,I 0,I 0,.nilsl,I 0,.bool false,I 0,.bool false,I 0,.bool false,I 0,.bool false,I 0,.bool false,I 0,.bool false,I 0,.bool false,I 0,.bool false,I 0,.bool false,I 0,.bool false,I 0,I 0,.str [],.nilsl,.nilsl,.nilsl,.bool false,I 0,I 0,I 0,.bool false]
theorem KZ {i n:Nat} (h:i<n):(eB (Int.ofNat i)&&(Nat.blt (Int.ofNat i).toNat n&&true))=true:=by
 have h1:Nat.blt (Int.ofNat i).toNat n=true:=blt_iff.2 (by simpa using h)
 rw[h1];rfl
theorem K3 {c:Bool} {s c':List UInt8} (hk:gx c s=some (.cus c')):c=true∧s=c':=by
 cases c with
 |true=>
  have e:=Option.some.inj hk
  cases e
  exact ⟨rfl,rfl⟩
 |false=>
  have:=(BW (show jw s kinds=some (.cus c') from hk)).1
  simp[kinds] at this
theorem rh (o:Ob):a9 Tryz.prog 51 (.agg (aB o)) 37=true:=by kernel_rfl
structure SetI (o:Ob):Prop where
 ok:Okay o
 c:∀x∈o.cust,x.name∈fO∧dv x.name=true
theorem SetI.cus {o:Ob} (h:SetI o) {s:List UInt8} (hs:s∈fO):B0 (dv s) s o:=
 ⟨fun hc=>(by decide:∀s∈fO,dv s=true→∀k∈kinds,iy k≠s) s hs hc,fun hc x hx e=>by
  have:=(h.c x hx).2
  rw[e,hc] at this
  cases this⟩
theorem SetI.len {o:Ob} (h:SetI o):(BZ o).length≤90000:=by
 have h1:=B1 h.ok.g kinds
 have h2:=B2 o.cust []
 have h4:=(B3 o.cust []).len
 have h5:=h.ok.fit.c
 rw[h2,List.length_map] at h4
 rw[show kinds.length=20 from rfl] at h1
 rw[BZ,List.length_append]
 omega
def ri (o p:Ob) (c:Bool) (s:List UInt8):Prop:=∀x∈p.cust,x∈o.cust∨(x.name=s∧c=true)
theorem K4 {o:Ob} {k:Kd} {j:Nat} {v:It} {c:Bool} {s:List UInt8} (hk:gx c s=some k):ri o (c8 o j v k) c s:=by
 have same:∀p:Ob,p.cust=o.cust→ri o p c s:=fun p e x hx=> .inl (by rw[e] at hx;exact hx)
 cases k with
 |cus c'=>
  obtain ⟨e1,e2⟩:=K3 hk
  intro x hx
  rcases q6 hx with hx|rfl
  ·exact .inl hx
  ·exact .inr ⟨e2.symm,e1⟩
 |dat k=>
  refine same _ ?_
  simp only[c8]
  unfold dA
  split<;>rfl
 |_=>exact same _ rfl
theorem K5 {o:Ob} {k:Kd} {a:At} {c:Bool} (hk:gx c a.name=some k):(dB o k a).2=0→ri o (dB o k a).1 c a.name:=by
 unfold dB
 split
 ·intro h;cases h
 split
 ·intro h;cases h
 split
 ·intro h;cases h
 split
 ·intro h;cases h
 split
 ·intro h;cases h
 ·unfold dI
  split
  ·exact fun _=>K4 hk
  ·intro h;cases h
theorem K6 {c:Bool} {o:Ob} {a:At}:(cG c o a).2=0→ri o (cG c o a).1 c a.name:=by
 unfold cG
 cases hk:gx c a.name with
 |none=>intro h;cases h
 |some k=>
  dsimp only
  split
  ·intro h;cases h
  ·exact K5 hk
theorem K7:dQ zO:=⟨by simp[zO],by simp[zO],by simp[zO],by simp[zO,aR]⟩
theorem K8 {p:Ob × Int} (h:p.2=0→Okay p.1) (hz:p.2≠0→p.1=zO):dQ p.1:=by
 by_cases e:p.2=0
 ·exact (h e).fit
 ·rw[hz e];exact K7
theorem K9 {o:Ob} {k:Kd} {j:Nat} {v:It}:(dI o k j v).2≠0→(dI o k j v).1=zO:=by
 unfold dI
 split
 ·intro h;exact absurd rfl h
 ·exact fun _=>rfl
theorem La {o:Ob} {k:Kd} {a:At}:(dB o k a).2≠0→(dB o k a).1=zO:=by
 unfold dB
 split
 ·exact fun _=>rfl
 split
 ·exact fun _=>rfl
 split
 ·exact fun _=>rfl
 split
 ·exact fun _=>rfl
 split
 ·exact fun _=>rfl
 ·exact K9
theorem Lb {c:Bool} {o:Ob} {a:At}:(cG c o a).2≠0→(cG c o a).1=zO:=by
 unfold cG
 split
 ·exact fun _=>rfl
 split
 ·exact fun _=>rfl
 ·exact La
theorem Lc:∀s∈texts,SC 235 [.str s] (.bool (dv s)):=by
 simp only[texts,List.forall_mem_cons]
 refine ⟨?_, ?_, ?_, ?_, ?_, ?_, ?_, ?_, ?_, ?_, ?_, ?_, ?_, ?_, ?_, ?_, ?_, ?_,fun _ h=>by cases h⟩<;>exact bd rfl (by kernel_rfl) rfl
def vQ (s:List UInt8):Prop:=s∈fO∨s∈texts
theorem Ld {s:List UInt8} (h:vQ s):SC 235 [.str s] (.bool (dv s)):=h.elim (AY s) (Lc s)
theorem Cd:∀s∈texts,dv s=false:=by decide
theorem SetI.nm {o:Ob} (h:SetI o) {s:List UInt8} (hs:vQ s):B0 (dv s) s o:=by
 rcases hs with hs|hs
 ·exact h.cus hs
 ·have hc:=Cd s hs
  refine ⟨fun e=> ?_,fun _ x hx e=> ?_⟩
  ·rw[hc] at e;cases e
  ·have:=(h.c x hx).2
   rw[e,hc] at this
   cases this
structure iP (a:At):Prop where
 n:vQ a.name
 v:ec a.v
theorem Ce {o:Ob} (h:SetI o) {a:At} (ha:iP a) (h0:(cG (dv a.name) o a).2=0):SetI (cG (dv a.name) o a).1:=by
 refine ⟨(KR h.ok ha.v h0).1,fun x hx=> ?_⟩
 rcases K6 h0 x hx with hx|⟨e1,e2⟩
 ·exact h.c x hx
 ·rcases ha.n with hs|hs
  ·rw[e1];exact ⟨hs,e2⟩
  ·rw[Cd _ hs] at e2;cases e2
def dk:Ob→List At→Ob × Int
 |o,[]=>(o,0)
 |o,a::r=>match ah (cG (dv a.name) o a).2 0 with
  |true=>dk (cG (dv a.name) o a).1 r
  |false=>(zO,(cG (dv a.name) o a).2)
theorem vR:∀ (l:List At) {o:Ob},SetI o→(∀a∈l,iP a)→(dk o l).2=0→SetI (dk o l).1
 |[],_,h,_,_=>h
 | a::r,o,h,ha,h0=>by
  unfold dk at h0⊢
  cases hb:ah (cG (dv a.name) o a).2 0 with
  |true=>
   rw[hb] at h0
   exact vR r (Ce h (ha a (by simp)) (beqInt_iff.1 hb)) (fun x hx=>ha x (by simp[hx])) h0
  |false=>
   rw[hb] at h0
   exact absurd h0 (beqInt_false.1 hb)
theorem vS:∀ (l:List At) {o:Ob},(dk o l).2≠0→(dk o l).1=zO
 |[],_,h=>absurd rfl h
 |a::r,o,h=>by
  unfold dk at h⊢
  cases hb:ah (cG (dv a.name) o a).2 0 with
  |true=>rw[hb] at h;exact vS r h
  |false=>rfl
theorem Le {l:List At} {o:Ob} (h:SetI o) (ha:∀a∈l,iP a):dQ (dk o l).1:=K8 (p:=dk o l) (fun e=>(vR l h ha e).ok) (vS l)
def ed:List It→Option (List At)
 |[]=>some []
 | x::r=>match ce x with
  |some a=>match ed r with
   |some l=>some (a::l)
   |none=>none
  |none=>none
structure TiOk (x:It):Prop where
 k:bO aR x
 a:∀a,ce x=some a→iP a
theorem Cf:∀ {l:List It},(∀x∈l,TiOk x)→∀ {L:List At},ed l=some L→∀a∈L,iP a
 |[],_,_,h,a,ha=>by cases h;cases ha
 | x::r,hl,_,h,a,ha=>by
  unfold ed at h
  cases hx:ce x with
  |none=>rw[hx] at h;cases h
  | some b=>
   rw[hx] at h
   cases hr:ed r with
   |none=>rw[hr] at h;cases h
   |some l=>
    rw[hr] at h
    cases h
    rcases List.mem_cons.1 ha with rfl|ha
    ·exact (hl x (by simp)).a _ hx
    ·exact Cf (fun y hy=>hl y (by simp[hy])) hr a ha
def bS (s:List UInt8) (v:It):It:= .mk 4325384 1 0 [] [.mk 4325386 7 0 s [],v]
theorem TiOk.of_set {s:List UInt8} (hs:s∈fO) {v:It} (hv:ec v) (hk:bO aR v) (hl:s.length≤1000):TiOk (bS s v):=⟨⟨by simp[aR],by simp[aR],⟨⟨Nat.le_trans hl (by simp[aR]),by simp[aR],trivial⟩,hk,trivial⟩⟩,fun a ha=>by
 unfold ce bS at ha
 split at ha
 ·simp only[bf,gD] at ha
  split at ha
  ·cases ha;exact ⟨.inl hs,hv⟩
  ·cases ha
 ·cases ha⟩
noncomputable section
def gF (tag ty:Int):AV:= .agg [I tag,I ty,.bool false,.bool true]
def Cg (tag ty:Int) (K:List AV) (i:Nat):List (Nat × AV):=[(1,.fsl true [gF tag ty]),(7,I 0),(19,.fsl false K),(20,I (.ofNat (ac K))),(21,I (.ofNat i))]
def dm (tag ty:Int) (K:List AV) (i:Nat):View:=⟨Cg tag ty K i,[(6,.rsl true 0 0 1 1)],[(0,.cells [.nilsl],.whole)],2,90⟩
def dS (tag ty:Int) (K:List AV) (i k:Nat) (es:List AV):View:=⟨Cg tag ty K i,[(6,.rsl true 0 0 1 1)],[(0,.cells [.rsl true 1 0 k 5],.rel),(1,.cells es,.whole)],2,90⟩
def dC (r:Int):View:=⟨[(4,.nilsl),(5,I r)],[],[],2,90⟩
def jK (t y n:Int) (D L:List AV) (r:Int):aV:=ak [(7,0,.res (.fptr (am t y n D L) 0))] [] (de [(109,fun _=>some (I r)),(110,fun _=>some (.agg (am t y n D L)))]) [] []
theorem Ch (tag ty t:Int) (Q:AV→Prop):aq Tryz.prog opts0 40 aX 109 [.fsl true [gF tag ty],I 0,I t] [] 0 (fun v _ _=>Q v)=
  (aa (ah tag t) (Q (I 0)) (Q (I (Int.negSucc 0)))):=by kernel_rfl
abbrev oF (D K:List AV) (n t y:Int):=[I t,I y,I n,AV.fsl false D,AV.fsl false K]
theorem Lf (t y n:Int) (D K:List AV) (Q:AV→Prop):aq Tryz.prog opts0 40 (ak [] [] (bq [(177,.tuple [.agg (am t y n D K),.bool true])]) [] []) 110 [.agg (am t y n D K)] [] 0 (fun v _ _=>Q v)=
  (SC 177 [AV.agg [I 0,I 0,I 0,AV.nilsl,AV.fsl true [AV.agg (oF D K n t y)]],I t] (AV.tuple [AV.agg (oF D K n t y),AV.bool true])∧Q (AV.agg (oF D K n t y))):=by kernel_rfl
abbrev iQ (tag ty:Int):=[I tag,I ty,AV.bool false,AV.bool true]
abbrev iR (D L:List AV) (n t y:Int):=[I t,I y,I n,AV.fsl false D,AV.fsl false L]
@[simp] abbrev Ci (D K L:List AV) (Q:AExit→St→Prop) (i:Nat) (n t tag ty y:Int):=(aQ Tryz.prog 31 (AV.fsl false K) (I (Int.ofNat i))=some (AV.fptr (iR D L n t y) 0)∧SC 109 [AV.fsl true [AV.agg (iQ tag ty)],I 0,I t] (I (Int.negSucc 0))∧(((AV.nilsl=AV.nilsl∧true=true)∧(I 4=I 4∧true=true)∧True)∧True∧True)∧Q AExit.ret (dC 4).st)
theorem Lg (tag ty:Int) (K:List AV) (i:Nat) (t y n:Int) (D L:List AV) (Nx:Prop) (Q:AExit→St→Prop):aN Tryz.prog opts0 40 (jK t y n D L (-1)) (aJ Tryz.prog 50 7) (dm tag ty K i).st (bP 0 [(0,0)] (dm tag ty K i) Nx [] (dC 4) Q)=
  (aa (au (Int.ofNat i) (Int.ofNat (ac K))) (Ci D K L Q i n t tag ty y) (((False∧False∧True)∧True∧True)∧Q (AExit.exit 0) (dC 4).st)):=by kernel_rfl
theorem Lh (tag ty:Int) (K:List AV) (i k:Nat) (es:List AV) (t y n:Int) (D L:List AV) (Nx:Prop) (Q:AExit→St→Prop):aN Tryz.prog opts0 40 (jK t y n D L (-1)) (aJ Tryz.prog 50 7) (dS tag ty K i (k+1) es).st (bP 0 [(0,0)] (dm tag ty K i) Nx [] (dC 4) Q)=
  (aa (au (Int.ofNat i) (Int.ofNat (ac K))) (Ci D K L Q i n t tag ty y) (((False∧False∧True)∧True∧True)∧Q (AExit.exit 0) (dC 4).st)):=by kernel_rfl
@[simp] abbrev rj (tag ty:Int):=(AV.fsl true [AV.agg (iQ tag ty)]=AV.fsl true [AV.agg (iQ tag ty)]∧ad (AV.fsl true [AV.agg (iQ tag ty)])=true)
@[simp] abbrev rk (K:List AV):=(I (Int.ofNat (ac K))=I (Int.ofNat (ac K))∧ad (I (Int.ofNat (ac K)))=true)
@[simp] abbrev rl (K:List AV):=(AV.fsl false K=AV.fsl false K∧ad (AV.fsl false K)=true)
@[simp] abbrev rm:=((true=true∧some 0=some 0∧0=0∧1=1∧1=1)∧True)
@[simp] abbrev oG:=(I 0=I 0∧true=true)
@[simp] abbrev Cj:=(((AV.nilsl=AV.nilsl∧true=true)∧(I 7=I 7∧true=true)∧True)∧True∧True)
theorem Li (tag ty:Int) (K:List AV) (i j:Nat) (es:List AV) (t y n:Int) (D L:List AV) (Nx:Prop) (Q:AExit→St→Prop):aN Tryz.prog opts0 40 (jK t y n D L 0) (aJ Tryz.prog 50 7) (dm tag ty K i).st (bP 0 [(0,0),(1,50)] (dS tag ty K j 1 es) Nx [] (dC 7) Q)=
  (aa (au (Int.ofNat i) (Int.ofNat (ac K))) (aQ Tryz.prog 31 (AV.fsl false K) (I (Int.ofNat i))=some (AV.fptr (iR D L n t y) 0)∧SC 109 [AV.fsl true [AV.agg (iQ tag ty)],I 0,I t] (I 0)∧aa (!ah y ty) (Cj∧Q AExit.ret (dC 7).st) (SC 110 [AV.agg (iR D L n t y)] (AV.agg (iR D L n t y))∧(((rj tag ty)∧oG∧(rl K)∧(rk K)∧(I (az IntKind.i64 (Int.ofNat i+1))=I (Int.ofNat j)∧ad (I (Int.ofNat j))=true)∧True)∧rm∧fL [(0,0),(1,50)] [AV.rsl true 1 0 1 5] [AV.rsl true 50 0 1 5]∧((iR D L n t y)=es∧ae es=true)∧True)∧Nx)) (((False∧False∧True)∧True∧True)∧Q (AExit.exit 0) (dC 7).st)):=by kernel_rfl
abbrev vT:=[I 0,I 0,I 0,AV.nilsl,AV.nilsl]
theorem Lj (tag ty:Int) (K:List AV) (i j k k':Nat) (es es':List AV) (t y n:Int) (D L:List AV) (Nx:Prop) (Q:AExit→St→Prop):aN Tryz.prog opts0 40 (jK t y n D L 0) (aJ Tryz.prog 50 7) (dS tag ty K i (k+1) es).st (bP 0 [(0,0),(1,50)] (dS tag ty K j k' es') Nx [] (dC 7) Q)=
  (aa (au (Int.ofNat i) (Int.ofNat (ac K))) (aQ Tryz.prog 31 (AV.fsl false K) (I (Int.ofNat i))=some (AV.fptr (iR D L n t y) 0)∧SC 109 [AV.fsl true [AV.agg (iQ tag ty)],I 0,I t] (I 0)∧aa (!ah y ty) (Cj∧Q AExit.ret (dC 7).st) (SC 110 [AV.agg (iR D L n t y)] (AV.agg (iR D L n t y))∧ax (((k+1+1)*72).ble 140737488355328&&true) (ax ((ac es).beq ((k+1)*5)) (ax (eB (Int.ofNat (k+1))&&((Int.ofNat (k+1)).toNat.blt (k+1+1)&&true)) (ax ((0+(Int.ofNat (k+1)).toNat*5+5).ble (ac (es++vT))) ((((rj tag ty)∧oG∧(rl K)∧(rk K)∧(I (az IntKind.i64 (Int.ofNat i+1))=I (Int.ofNat j)∧ad (I (Int.ofNat j))=true)∧True)∧rm∧fL [(0,0),(1,50)] [AV.rsl true 1 0 k' 5] [AV.rsl true 50 0 (k+1+1) 5]∧(List.take (0+(Int.ofNat (k+1)).toNat*5) (es++vT)++I t::I y::I n::AV.fsl false D::AV.fsl false L::List.drop (0+(Int.ofNat (k+1)).toNat*5+ac (iR D L n t y)) (es++vT)=es'∧ae es'=true)∧True)∧Nx)))))) (((False∧False∧True)∧True∧True)∧Q (AExit.exit 0) (dC 7).st)):=by kernel_rfl
@[simp] abbrev Ck (K:List AV) (i:Nat) (tag ty:Int):=((rj tag ty)∧oG∧(rl K)∧(rk K)∧(I (Int.ofNat i)=I (Int.ofNat i)∧ad (I (Int.ofNat i))=true)∧True)
theorem Ll (tag ty:Int) (K:List AV) (i:Nat) (Nx:Prop) (Q:AExit→St→Prop):aN Tryz.prog opts0 40 (ak [(6,0,.res (.bool false))] [] aA [] []) (aJ Tryz.prog 50 7) (dm tag ty K i).st (bP 0 [(0,0)] (dm tag ty K i) Nx [(0,0)] (dm tag ty K i) Q)=
  (aU Tryz.prog BinOp.lss 3 (Operand.tmp 21) (Operand.tmp 20) (I (Int.ofNat i)) (I (Int.ofNat (ac K)))=some (AV.bool false)∧((Ck K i tag ty)∧rm∧([AV.nilsl]=[AV.nilsl]∧true=true)∧True)∧Q (AExit.exit 0) (dm tag ty K i).st):=by kernel_rfl
theorem Lm (tag ty:Int) (K:List AV) (i k:Nat) (es:List AV) (Nx:Prop) (Q:AExit→St→Prop):aN Tryz.prog opts0 40 (ak [(6,0,.res (.bool false))] [] aA [] []) (aJ Tryz.prog 50 7) (dS tag ty K i k es).st (bP 0 [(0,0)] (dm tag ty K i) Nx [(0,0),(1,1)] (dS tag ty K i k es) Q)=
  (aU Tryz.prog BinOp.lss 3 (Operand.tmp 21) (Operand.tmp 20) (I (Int.ofNat i)) (I (Int.ofNat (ac K)))=some (AV.bool false)∧((Ck K i tag ty)∧rm∧fL [(0,0),(1,1)] [AV.rsl true 1 0 k 5] [AV.rsl true 1 0 k 5]∧(es=es∧ae es=true)∧True)∧Q (AExit.exit 0) (dS tag ty K i k es).st):=by kernel_rfl
def mA (tag ty:Int) (K:List AV) (e:AExit) (F:View):bL:=fun st Q=>dd 0 [(0,8)] (dm tag ty K 0) st∧Q e F.st
abbrev rn:=(AV.tuple [AV.nilsl,I 4])
theorem Ln (tag ty:Int) (t y n:Int) (D K:List AV) (Q:AV→Prop):aq Tryz.prog opts0 40 (ak [] [(7,fun _ _=>False)] aA [] []) 50 [.agg (am t y n D K),.fsl true [gF tag ty]] [] 0 (fun v _ _=>Q v)=
  (ax (!ah y 1) (Q rn)):=by kernel_rfl
@[simp] abbrev vU (K:List AV) (tag ty:Int):=(((rj tag ty)∧oG∧(rl K)∧(rk K)∧oG∧True)∧((true=true∧some 8=some 8∧0=0∧1=(Int.ofNat (ac [AV.agg (iQ tag ty)])).toNat∧1=1)∧True)∧([AV.nilsl]=[AV.nilsl]∧true=true)∧True)
theorem Lo (tag ty:Int) (t y n r:Int) (D K:List AV) (Q:AV→Prop):aq Tryz.prog opts0 40 (ak [] [(7,mA tag ty K .ret (dC r))] aA [] []) 50 [.agg (am t y n D K),.fsl true [gF tag ty]] [] 0 (fun v _ _=>Q v)=
  (aa (!ah y 1) (Q rn) ((vU K tag ty)∧Q (AV.tuple [AV.nilsl,I r]))):=by kernel_rfl
theorem Lp (tag ty:Int) (t y n:Int) (D K:List AV) (i:Nat) (Q:AV→ab→Prop):aq Tryz.prog opts0 40 (ak [] [(7,mA tag ty K (.exit 0) (dm tag ty K i))] aA [] []) 50 [.agg (am t y n D K),.fsl true [gF tag ty]] [] 0 (fun v H _=>Q v H)=
  (aa (!ah y 1) (Q rn [(0,some (Blk.cells (oF D K n t y)))]) ((vU K tag ty)∧Q (AV.tuple [AV.rsl true 0 0 1 1,I 0]) [(9,some (Blk.cells (iQ tag ty))),(0,some (Blk.cells [AV.nilsl]))])):=by kernel_rfl
theorem Lq (tag ty:Int) (t y n:Int) (D K:List AV) (i k:Nat) (es:List AV) (Q:AV→ab→Prop):aq Tryz.prog opts0 40 (ak [] [(7,mA tag ty K (.exit 0) (dS tag ty K i k es))] aA [] []) 50 [.agg (am t y n D K),.fsl true [gF tag ty]] [] 0 (fun v H _=>Q v H)=
  (aa (!ah y 1) (Q rn [(0,some (Blk.cells (oF D K n t y)))]) ((vU K tag ty)∧Q (AV.tuple [AV.rsl true 0 0 1 1,I 0]) [(9,some (Blk.cells (iQ tag ty))),(0,some (Blk.cells [AV.rsl true 1 0 k 5])),(1,some (Blk.cells es))])):=by kernel_rfl
end
noncomputable section
-- the program's parts
def Cl (K:List AV) (i:Nat):List (Nat × AV):=[(23,.fsl false K),(24,I (.ofNat (ac K))),(25,I (.ofNat i))]
def cP (K:List AV) (i:Nat):View:=⟨(6,.nilsl)::Cl K i,[],[],1,42⟩
def dT (K:List AV) (i k:Nat) (es:List AV):View:=⟨Cl K i,[(6,.rsl true 0 0 k 7)],[(0,.cells es,.whole)],1,42⟩
def ptR:View:=⟨[(2,.nilsl),(3,I 7)],[],[],1,42⟩
def jL (t y n:Int) (D L:List AV) (s:List UInt8) (ix at' ay an:Int) (AD AL:List AV) (ok:Bool):aV:=ak [(7,0,.res (.fptr (am t y n D L) 0))] [] (de [(179,fun _=>some (.tuple [.agg (.str s::I ix::am at' ay an AD AL),.bool ok]))]) [] []
abbrev jM (D L:List AV) (n t y:Int):=[I t,I y,I n,AV.fsl false D,AV.fsl false L]
@[simp] abbrev vV:=(AV.nilsl=AV.nilsl∧true=true)
@[simp] abbrev Cm:=((vV∧(I 7=I 7∧true=true)∧True)∧True∧True)
theorem Lr (K:List AV) (i:Nat) (t y n:Int) (D L:List AV) (s:List UInt8) (ix at' ay an:Int) (AD AL:List AV) (Nx:Prop) (Q:AExit→St→Prop):aN Tryz.prog opts0 40 (jL t y n D L s ix at' ay an AD AL false) (aJ Tryz.prog 112 7) (cP K i).st (bP 0 [] (cP K i) Nx [] ptR Q)=
  (aa (au (Int.ofNat i) (Int.ofNat (ac K))) (aQ Tryz.prog 31 (AV.fsl false K) (I (Int.ofNat i))=some (AV.fptr (jM D L n t y) 0)∧SC 179 [AV.agg (jM D L n t y)] (AV.tuple [AV.agg [AV.str s,I ix,I at',I ay,I an,AV.fsl false AD,AV.fsl false AL],AV.bool false])∧Cm∧Q AExit.ret ptR.st) (((False∧False∧True)∧True∧True)∧Q (AExit.exit 0) ptR.st)):=by kernel_rfl
theorem Lt (K:List AV) (i k:Nat) (es:List AV) (t y n:Int) (D L:List AV) (s:List UInt8) (ix at' ay an:Int) (AD AL:List AV) (Nx:Prop) (Q:AExit→St→Prop):aN Tryz.prog opts0 40 (jL t y n D L s ix at' ay an AD AL false) (aJ Tryz.prog 112 7) (dT K i k es).st (bP 0 [] (cP K i) Nx [] ptR Q)=
  (aa (au (Int.ofNat i) (Int.ofNat (ac K))) (aQ Tryz.prog 31 (AV.fsl false K) (I (Int.ofNat i))=some (AV.fptr (jM D L n t y) 0)∧SC 179 [AV.agg (jM D L n t y)] (AV.tuple [AV.agg [AV.str s,I ix,I at',I ay,I an,AV.fsl false AD,AV.fsl false AL],AV.bool false])∧Cm∧Q AExit.ret ptR.st) (((False∧False∧True)∧True∧True)∧Q (AExit.exit 0) ptR.st)):=by kernel_rfl
@[simp] abbrev rp (K:List AV):=(I (Int.ofNat (ac K))=I (Int.ofNat (ac K))∧ad (I (Int.ofNat (ac K)))=true)
@[simp] abbrev rq (K:List AV):=(AV.fsl false K=AV.fsl false K∧ad (AV.fsl false K)=true)
theorem Lu (K:List AV) (i j:Nat) (es:List AV) (t y n:Int) (D L:List AV) (s:List UInt8) (ix at' ay an:Int) (AD AL:List AV) (Nx:Prop) (Q:AExit→St→Prop):aN Tryz.prog opts0 40 (jL t y n D L s ix at' ay an AD AL true) (aJ Tryz.prog 112 7) (cP K i).st (bP 0 [(0,19)] (dT K j 1 es) Nx [] ptR Q)=
  (aa (au (Int.ofNat i) (Int.ofNat (ac K))) (aQ Tryz.prog 31 (AV.fsl false K) (I (Int.ofNat i))=some (AV.fptr (jM D L n t y) 0)∧SC 179 [AV.agg (jM D L n t y)] (AV.tuple [AV.agg [AV.str s,I ix,I at',I ay,I an,AV.fsl false AD,AV.fsl false AL],AV.bool true])∧(((rq K)∧(rp K)∧(I (az IntKind.i64 (Int.ofNat i+1))=I (Int.ofNat j)∧ad (I (Int.ofNat j))=true)∧True)∧((true=true∧some 19=some 19∧0=0∧1=ac [AV.agg [AV.str s,I ix,I at',I ay,I an,AV.fsl false AD,AV.fsl false AL]]∧7=7)∧True)∧(flat [AV.agg [AV.str s,I ix,I at',I ay,I an,AV.fsl false AD,AV.fsl false AL]]=es∧ae es=true)∧True)∧Nx) (((False∧False∧True)∧True∧True)∧Q (AExit.exit 0) ptR.st)):=by kernel_rfl
theorem Lv (K:List AV) (i j k k':Nat) (es es':List AV) (t y n:Int) (D L:List AV) (s:List UInt8) (ix at' ay an:Int) (AD AL:List AV) (Nx:Prop) (Q:AExit→St→Prop):aN Tryz.prog opts0 40 (jL t y n D L s ix at' ay an AD AL true) (aJ Tryz.prog 112 7) (dT K i (k+1) es).st (bP 0 [(0,19)] (dT K j k' es') Nx [] ptR Q)=
  (aa (au (Int.ofNat i) (Int.ofNat (ac K))) (aQ Tryz.prog 31 (AV.fsl false K) (I (Int.ofNat i))=some (AV.fptr (jM D L n t y) 0)∧SC 179 [AV.agg (jM D L n t y)] (AV.tuple [AV.agg [AV.str s,I ix,I at',I ay,I an,AV.fsl false AD,AV.fsl false AL],AV.bool true])∧ax (bT 7 [AV.agg [AV.str s,I ix,I at',I ay,I an,AV.fsl false AD,AV.fsl false AL]]&&(((k+1+ac [AV.agg [AV.str s,I ix,I at',I ay,I an,AV.fsl false AD,AV.fsl false AL]])*96).ble 140737488355328&&(bu (flat [AV.agg [AV.str s,I ix,I at',I ay,I an,AV.fsl false AD,AV.fsl false AL]])&&true))) (ax ((ac es).beq ((k+1)*7)) ((((rq K)∧(rp K)∧(I (az IntKind.i64 (Int.ofNat i+1))=I (Int.ofNat j)∧ad (I (Int.ofNat j))=true)∧True)∧((true=true∧some 19=some 19∧0=0∧k'=k+1+ac [AV.agg [AV.str s,I ix,I at',I ay,I an,AV.fsl false AD,AV.fsl false AL]]∧7=7)∧True)∧(es++flat [AV.agg [AV.str s,I ix,I at',I ay,I an,AV.fsl false AD,AV.fsl false AL]]=es'∧ae es'=true)∧True)∧Nx))) (((False∧False∧True)∧True∧True)∧Q (AExit.exit 0) ptR.st)):=by kernel_rfl
@[simp] abbrev vW (i:Nat):=(I (Int.ofNat i)=I (Int.ofNat i)∧ad (I (Int.ofNat i))=true)
theorem Lw (K:List AV) (i:Nat) (Nx:Prop) (Q:AExit→St→Prop):aN Tryz.prog opts0 40 (ak [(6,0,.res (.bool false))] [] aA [] []) (aJ Tryz.prog 112 7) (cP K i).st (bP 0 [] (cP K i) Nx [] (cP K i) Q)=
  (aU Tryz.prog BinOp.lss 3 (Operand.tmp 25) (Operand.tmp 24) (I (Int.ofNat i)) (I (Int.ofNat (ac K)))=some (AV.bool false)∧((vV∧(rq K)∧(rp K)∧(vW i)∧True)∧True∧True)∧Q (AExit.exit 0) (cP K i).st):=by kernel_rfl
theorem Lx (K:List AV) (i k:Nat) (es:List AV) (Nx:Prop) (Q:AExit→St→Prop):aN Tryz.prog opts0 40 (ak [(6,0,.res (.bool false))] [] aA [] []) (aJ Tryz.prog 112 7) (dT K i k es).st (bP 0 [] (cP K i) Nx [(0,0)] (dT K i k es) Q)=
  (aU Tryz.prog BinOp.lss 3 (Operand.tmp 25) (Operand.tmp 24) (I (Int.ofNat i)) (I (Int.ofNat (ac K)))=some (AV.bool false)∧(((rq K)∧(rp K)∧(vW i)∧True)∧((true=true∧some 0=some 0∧0=0∧k=k∧7=7)∧True)∧(es=es∧ae es=true)∧True)∧Q (AExit.exit 0) (dT K i k es).st):=by kernel_rfl
def mB (K:List AV) (e:AExit) (F:View):bL:=fun st Q=>dd 0 [] (cP K 0) st∧Q e F.st
abbrev rt (D K:List AV) (n t y:Int):=[AV.agg [I t,I y,I n,AV.fsl false D,AV.fsl false K],AV.fsl true [AV.agg [I 4325384,I 1,AV.bool false,AV.bool true]]]
theorem Ly (t y n r:Int) (D K:List AV) (Q:AV→Prop):aq Tryz.prog opts0 40 (ak [(2,1,.res (.bool true))] [] (bq [(50,.tuple [.nilsl,I r])]) [] []) 112 [.agg (am t y n D K)] [] 0 (fun v _ _=>Q v)=
  (SC 50 (rt D K n t y) (AV.tuple [AV.nilsl,I r])∧aU Tryz.prog BinOp.neq 3 (Operand.tmp 18) (Operand.const (Value.int IntKind.i64 0)) (I r) (I 0)=some (AV.bool true)∧Q (AV.tuple [AV.nilsl,I r])):=by kernel_rfl
@[simp] abbrev vX (L:List AV):=((vV∧(AV.fsl false L=AV.fsl false L∧ad (AV.fsl false L)=true)∧(I (Int.ofNat (ac L))=I (Int.ofNat (ac L))∧ad (I (Int.ofNat (ac L)))=true)∧(I 0=I 0∧true=true)∧True)∧True∧True)
abbrev vY (L:List AV):=(bq [(50,AV.tuple [AV.fsl false [AV.fsl false L],I 0])])
abbrev vZ (L:List AV):=(AV.tuple [AV.fsl false [AV.fsl false L],I 0])
theorem Lz (t y n:Int) (D K L:List AV) (Q:AV→Prop):aq Tryz.prog opts0 40 (ak [] [(7,mB L .ret ptR)] (vY L) [] []) 112 [.agg (am t y n D K)] [] 0 (fun v _ _=>Q v)=
  (SC 50 (rt D K n t y) (vZ L)∧(vX L)∧Q (AV.tuple [AV.nilsl,I 7])):=by kernel_rfl
theorem LA (t y n:Int) (D K L:List AV) (i:Nat) (Q:AV→Prop):aq Tryz.prog opts0 40 (ak [] [(7,mB L (.exit 0) (cP L i))] (vY L) [] []) 112 [.agg (am t y n D K)] [] 0 (fun v _ _=>Q v)=
  (SC 50 (rt D K n t y) (vZ L)∧(vX L)∧Q (AV.tuple [AV.nilsl,I 0])):=by kernel_rfl
theorem LB (t y n:Int) (D K L:List AV) (i k:Nat) (es:List AV) (Q:AV→ab→Prop):aq Tryz.prog opts0 40 (ak [] [(7,mB L (.exit 0) (dT L i k es))] (vY L) [] []) 112 [.agg (am t y n D K)] [] 0 (fun v H _=>Q v H)=
  (SC 50 (rt D K n t y) (vZ L)∧(vX L)∧Q (AV.tuple [AV.rsl true 0 0 k 7,I 0]) [(0,some (Blk.cells es))]):=by kernel_rfl
-- the program's template
def dU (As:List AV) (r:Int) (i:Nat) (O:List AV):View:=⟨[(7,I r),(15,.fsl false As),(16,I (.ofNat (ac As))),(17,I (.ofNat i))],[(2,.ptr 0 0),(4,.ptr 1 0)],[(0,.cells O,.whole),(1,.cells Cc,.whole)],2,36⟩
def fD (r:Int) (O:List AV):View:=⟨[(7,I r)],[(2,.ptr 0 0),(4,.ptr 1 0)],[(0,.cells O,.whole),(1,.cells Cc,.whole)],2,36⟩
def ru (s:List UInt8) (ix t y n:Int) (D L:List AV) (P:List AV) (e:Int) (b:Bool):aV:=ak [(4,0,.res (.fptr (.str s::I ix::am t y n D L) 0)),(5,1,.res (.bool b))] [] (de [(178,fun _=>some (.tuple [.agg P,I e]))]) [] []
@[simp] abbrev v5 (As:List AV):=(I (Int.ofNat (ac As))=I (Int.ofNat (ac As))∧ad (I (Int.ofNat (ac As)))=true)
@[simp] abbrev v6 (As:List AV):=(AV.fsl false As=AV.fsl false As∧ad (AV.fsl false As)=true)
@[simp] abbrev Cn:=((some 0=some 0∧0=0)∧(some 1=some 1∧0=0)∧True)
theorem LC (As:List AV) (r e e':Int) (i j:Nat) (O':List AV) (o p:Ob) (M N L C M' N' L' C':AV) (s:List UInt8) (ix t y n:Int) (D K:List AV) (Nx:Prop) (Q:AExit→St→Prop):aN Tryz.prog opts0 40 (ru s ix t y n D K (ai p M' N' L' C') e false) (aJ Tryz.prog 111 4) (dU As r i (ai o M N L C)).st (bP 0 [(0,0),(1,1)] (dU As e' j O') Nx [] (dU As r i []) Q)=
  (aa (au (Int.ofNat i) (Int.ofNat (ac As))) (aQ Tryz.prog 212 (AV.fsl false As) (I (Int.ofNat i))=some (AV.fptr [AV.str s,I ix,I t,I y,I n,AV.fsl false D,AV.fsl false K] 0)∧aU Tryz.prog BinOp.neq 3 (Operand.tmp 21) (Operand.const (Value.int IntKind.i64 0)) (I r) (I 0)=some (AV.bool false)∧SC 178 [AV.agg (ai o M N L C),AV.agg [AV.str s,I ix,I t,I y,I n,AV.fsl false D,AV.fsl false K]] (AV.tuple [AV.agg (ai p M' N' L' C'),I e])∧ax (a9 Tryz.prog 51 (AV.agg (ai p M' N' L' C')) 37) ((((I e=I e'∧ad (I e')=true)∧(v6 As)∧(v5 As)∧(I (az IntKind.i64 (Int.ofNat i+1))=I (Int.ofNat j)∧ad (I (Int.ofNat j))=true)∧True)∧Cn∧((ai p M' N' L' C')=O'∧ae O'=true)∧(zL=zL∧true=true)∧True)∧Nx)) ((((I r=I r∧ad (I r)=true)∧(v6 As)∧(v5 As)∧(vW i)∧True)∧((none=some 0∧0=0)∧(none=some 1∧0=0)∧True)∧False∧False∧True)∧Q (AExit.exit 0) (dU As r i []).st)):=by kernel_rfl
@[simp] abbrev v7 (C L M N:AV) (o:Ob) (r:Int):=(((I r=I r∧ad (I r)=true)∧True)∧Cn∧((ai o M N L C)=(ai o M N L C)∧ae (ai o M N L C)=true)∧(zL=zL∧true=true)∧True)
theorem LD (As:List AV) (r:Int) (i:Nat) (o:Ob) (M N L C:AV) (s:List UInt8) (ix t y n:Int) (D K:List AV) (Nx:Prop) (Q:AExit→St→Prop):aN Tryz.prog opts0 40 (ru s ix t y n D K [] 0 true) (aJ Tryz.prog 111 4) (dU As r i (ai o M N L C)).st (bP 0 [] (dU As r i []) Nx [(0,0),(1,1)] (fD r (ai o M N L C)) Q)=
  (aa (au (Int.ofNat i) (Int.ofNat (ac As))) (aQ Tryz.prog 212 (AV.fsl false As) (I (Int.ofNat i))=some (AV.fptr [AV.str s,I ix,I t,I y,I n,AV.fsl false D,AV.fsl false K] 0)∧aU Tryz.prog BinOp.neq 3 (Operand.tmp 21) (Operand.const (Value.int IntKind.i64 0)) (I r) (I 0)=some (AV.bool true)∧(v7 C L M N o r)∧Q (AExit.exit 0) (fD r (ai o M N L C)).st) ((v7 C L M N o r)∧Q (AExit.exit 0) (fD r (ai o M N L C)).st)):=by kernel_rfl
theorem Co (As:List AV) (r:Int) (i:Nat) (o:Ob) (M N L C:AV) (Nx:Prop) (Q:AExit→St→Prop):aN Tryz.prog opts0 40 (ak [(3,0,.res (.bool false))] [] aA [] []) (aJ Tryz.prog 111 4) (dU As r i (ai o M N L C)).st (bP 0 [] (dU As r i []) Nx [(0,0),(1,1)] (fD r (ai o M N L C)) Q)=
  (aU Tryz.prog BinOp.lss 3 (Operand.tmp 17) (Operand.tmp 16) (I (Int.ofNat i)) (I (Int.ofNat (ac As)))=some (AV.bool false)∧(v7 C L M N o r)∧Q (AExit.exit 0) (fD r (ai o M N L C)).st):=by kernel_rfl
def Cp (As O:List AV) (F:View):bL:=fun st Q=>dd 0 [(0,0),(1,2)] (dU As 0 0 O) st∧Q (.exit 0) F.st
theorem LE (o:Ob) (M N L C:AV) (t y n r:Int) (D K:List AV) (Q:AV→Prop):aq Tryz.prog opts0 40 (ak [(8,1,.res (.bool true))] [] (bq [(112,.tuple [.nilsl,I r])]) [] []) 111 [.agg (ai o M N L C),.agg (am t y n D K)] [] 0 (fun v _ _=>Q v)=
  (SC 112 [AV.agg [I t,I y,I n,AV.fsl false D,AV.fsl false K]] (AV.tuple [AV.nilsl,I r])∧aU Tryz.prog BinOp.neq 3 (Operand.tmp 30) (Operand.const (Value.int IntKind.i64 0)) (I r) (I 0)=some (AV.bool true)∧Q (AV.tuple [AV.agg zL,I r])):=by kernel_rfl
theorem LF (o p:Ob) (M N L C M' N' L' C':AV) (t y n r:Int) (D K As:List AV) (Q:AV→Prop):aq Tryz.prog opts0 40 (ak [] [(4,Cp As (ai o M N L C) (fD r (ai p M' N' L' C')))] (de [(112,fun _=>some (.tuple [.fsl false As,I 0])),(25,fun _=>some (.agg (ai p M' N' L' C')))]) [] []) 111 [.agg (ai o M N L C),.agg (am t y n D K)] [] 0 (fun v _ _=>Q v)=
  (SC 112 [AV.agg [I t,I y,I n,AV.fsl false D,AV.fsl false K]] (AV.tuple [AV.fsl false As,I 0])∧(((I 0=I 0∧true=true)∧(v6 As)∧(v5 As)∧(I 0=I 0∧true=true)∧True)∧((some 0=some 0∧0=0)∧(some 2=some 2∧0=0)∧True)∧((ai o M N L C)=(ai o M N L C)∧ae (ai o M N L C)=true)∧(zL=zL∧true=true)∧True)∧aa (!ah r 0) (Q (AV.tuple [AV.agg zL,I r])) (SC 25 [AV.agg (ai p M' N' L' C')] (AV.agg (ai p M' N' L' C'))∧ax (a9 Tryz.prog 51 (AV.agg (ai p M' N' L' C')) 37) (Q (AV.tuple [AV.agg (ai p M' N' L' C'),I 0])))):=by kernel_rfl
-- the reference's template
end
noncomputable section
abbrev rv (s:List UInt8):=[I 4325386,I 7,I 0,AV.fsl false (aj s),AV.nilsl]
abbrev rx (D K:List AV) (n t y:Int) (s:List UInt8):=[I 4325384,I 1,I 0,AV.nilsl,AV.rsl true 35 0 (ac [AV.agg (rv s)]+ac [AV.agg [I t,I y,I n,AV.fsl false D,AV.fsl false K]]) 5]
theorem LG (s:List UInt8) (t y n:Int) (D K:List AV) (Q:AV→ab→Prop):aq Tryz.prog opts0 40 (ak [] [] aA [44,45,18] []) 19 [.str s,.agg (am t y n D K)] [] 0 (fun v H _=>Q v H)=
  (Q (AV.agg (rx D K n t y s)) [(35,some (Blk.cells (flat [AV.agg (rv s)]++flat [AV.agg [I t,I y,I n,AV.fsl false D,AV.fsl false K]]))),(22,some (Blk.cells [I 4325384,I 1,I 0,AV.nilsl,AV.fsl true [AV.agg (rv s)]])),(16,some (Blk.cells (rv s))),(14,some (Blk.cells (rx D K n t y s))),(8,some (Blk.cells (rx D K n t y s))),(7,some (Blk.cells [AV.str s,I 0,I t,I y,I n,AV.fsl false D,AV.fsl false K])),(1,some (Blk.cells (rx D K n t y s))),(0,some (Blk.cells [I t,I y,I n,AV.fsl false D,AV.fsl false K]))]):=by kernel_rfl
def oH (r:AV):List AV:=[I 4325521,I 1,I 0,.nilsl,r]
def ck (Rs:List AV) (i k:Nat) (es:List AV):View:=⟨[(2,.fsl false Rs),(10,I (.ofNat i))],[(8,.ptr 7 0),(9,.ptr 6 0)],[(6,.cells (oH (.rsl true 8 0 k 5)),.rel),(7,.cells [I 0,I 0,I 0,.nilsl,.nilsl],.whole),(8,.cells es,.whole)],9,80⟩
def Cq (y:Rw) (p:Int) (s:List UInt8) (vt vy vn ut uy un:Int) (vD vL uD uL:List AV):aV:=ak [(9,3,.res (.bool true)),(9,6,.res (.bool true)),(11,2,.res (.fptr (uY y) 0)),(12,4,.res (.str s))] [] (de [(6,fun _=>some (I p)),(21,fun _=>some (.agg (am vt vy vn vD vL))),(19,fun _=>some (.agg (am ut uy un uD uL)))]) [] []
abbrev v8:=[I 0,I 0,I 0,AV.nilsl,AV.nilsl]
@[simp] abbrev mC:=(v8=v8∧true=true)
abbrev oI (uD uL:List AV) (un ut uy:Int):=[AV.agg [I ut,I uy,I un,AV.fsl false uD,AV.fsl false uL]]
@[simp] abbrev v9 (Rs:List AV):=(AV.fsl false Rs=AV.fsl false Rs∧ad (AV.fsl false Rs)=true)
@[simp] abbrev Cr:=((some 7=some 7∧0=0)∧(some 6=some 6∧0=0)∧True)
theorem LH (Rs:List AV) (i j k k':Nat) (es es':List AV) (y:Rw) (p:Int) (s:List UInt8) (vt vy vn ut uy un:Int) (vD vL uD uL:List AV) (Nx:Prop) (Q:AExit→St→Prop):aN Tryz.prog opts0 40 (Cq y p s vt vy vn ut uy un vD vL uD uL) (aJ Tryz.prog 8 10) (ck Rs i (k+1) es).st (bP 0 [(6,6),(7,7),(8,37)] (ck Rs j k' es') Nx [] (ck Rs i k []) Q)=
  (aU Tryz.prog BinOp.lss 3 (Operand.tmp 50) (Operand.tmp 52) (I (Int.ofNat i)) (I (Int.ofNat (ac Rs)))=some (AV.bool true)∧aU Tryz.prog BinOp.lss 3 (Operand.tmp 55) (Operand.const (Value.int IntKind.i64 4)) (I (Int.ofNat i)) (I 4)=some (AV.bool true)∧aQ Tryz.prog 22 (AV.fsl false Rs) (I (Int.ofNat i))=some (AV.fptr [I y.1,I y.2,I y.3,I y.4] 0)∧SC 6 [I y.1,I 10] (I p)∧cL Tryz.prog 76 (AV.agg [AV.str [78,97,109,101],AV.str [65,99,116,105,118,97,116,105,111,110,32,68,97,116,101],AV.str [65,99,116,105,118,97,116,105,111,110,32,68,97,116,101],AV.str [68,101,97,99,116,105,118,97,116,105,111,110,32,68,97,116,101],AV.str [85,115,97,103,101,32,76,105,109,105,116,115],AV.str [120,45,97],AV.str [80,114,111,99,101,115,115,32,83,116,97,114,116,32,68,97,116,101],AV.str [80,114,111,116,101,99,116,32,83,116,111,112,32,68,97,116,101],AV.str [76,105,110,107],AV.str [83,116,97,116,101]]) (I p)=some (AV.str s)∧SC 21 [AV.str s,AV.agg [I y.1,I y.2,I y.3,I y.4]] (AV.agg [I vt,I vy,I vn,AV.fsl false vD,AV.fsl false vL])∧SC 19 [AV.str s,AV.agg [I vt,I vy,I vn,AV.fsl false vD,AV.fsl false vL]] (AV.agg [I ut,I uy,I un,AV.fsl false uD,AV.fsl false uL])∧ax (bT 5 (oI uD uL un ut uy)&&(((k+1+ac (oI uD uL un ut uy))*72).ble 140737488355328&&(bu (flat (oI uD uL un ut uy))&&true))) (ax ((ac es).beq ((k+1)*5)) ((((v9 Rs)∧(I (az IntKind.i64 (Int.ofNat i+1))=I (Int.ofNat j)∧ad (I (Int.ofNat j))=true)∧True)∧Cr∧fL [(6,6),(7,7),(8,37)] [I 4325521,I 1,I 0,AV.nilsl,AV.rsl true 8 0 k' 5] [I 4325521,I 1,I 0,AV.nilsl,AV.rsl true 37 0 (k+1+ac (oI uD uL un ut uy)) 5]∧mC∧(es++flat (oI uD uL un ut uy)=es'∧ae es'=true)∧True)∧Nx))):=by kernel_rfl
@[simp] abbrev Ct (Rs es:List AV) (i k:Nat):=(((v9 Rs)∧(I (Int.ofNat i)=I (Int.ofNat i)∧ad (I (Int.ofNat i))=true)∧True)∧Cr∧fL [(6,6),(7,7),(8,8)] [I 4325521,I 1,I 0,AV.nilsl,AV.rsl true 8 0 k 5] [I 4325521,I 1,I 0,AV.nilsl,AV.rsl true 8 0 k 5]∧mC∧(es=es∧ae es=true)∧True)
theorem LI (Rs:List AV) (i k:Nat) (es:List AV) (Nx:Prop) (Q:AExit→St→Prop):aN Tryz.prog opts0 40 (ak [(9,3,.res (.bool false))] [] aA [] []) (aJ Tryz.prog 8 10) (ck Rs i k es).st (bP 0 [] (ck Rs i k []) Nx [(6,6),(7,7),(8,8)] (ck Rs i k es) Q)=
  (aU Tryz.prog BinOp.lss 3 (Operand.tmp 50) (Operand.tmp 52) (I (Int.ofNat i)) (I (Int.ofNat (ac Rs)))=some (AV.bool false)∧(Ct Rs es i k)∧Q (AExit.exit 0) (ck Rs i k es).st):=by kernel_rfl
theorem LJ (Rs:List AV) (i k:Nat) (es:List AV) (Nx:Prop) (Q:AExit→St→Prop):aN Tryz.prog opts0 40 (ak [(9,3,.res (.bool true)),(9,6,.res (.bool false))] [] aA [] []) (aJ Tryz.prog 8 10) (ck Rs i k es).st (bP 0 [] (ck Rs i k []) Nx [(6,6),(7,7),(8,8)] (ck Rs i k es) Q)=
  (aU Tryz.prog BinOp.lss 3 (Operand.tmp 50) (Operand.tmp 52) (I (Int.ofNat i)) (I (Int.ofNat (ac Rs)))=some (AV.bool true)∧aU Tryz.prog BinOp.lss 3 (Operand.tmp 55) (Operand.const (Value.int IntKind.i64 4)) (I (Int.ofNat i)) (I 4)=some (AV.bool false)∧(Ct Rs es i k)∧Q (AExit.exit 0) (ck Rs i k es).st):=by kernel_rfl
def jN (Rs:List AV) (b k:Nat) (es:List AV) (F:View):bL:=fun st Q=>dd 0 [(6,2),(7,0),(8,b)] (ck Rs 0 k es) st∧Q (.exit 0) F.st
def LK (a0 a1 a2:AV):List AV→Option AV
 | [.str s,_]=>match Nat.beq s.length 23 with
  |true=>some a0
  |false=>match Nat.beq s.length 20 with
   |true=>some a1
   |false=>some a2
 |_=>none
def jO (l:List (Nat × bL)) (b1 b2 b3:Bool) (p m:Int) (a0 a1 a2:AV):aV:=ak [(2,2,.res (.bool b1)),(4,2,.res (.bool b2)),(6,2,.res (.bool b3)),(7,5,.res (I m))] l (de [(6,fun _=>some (I p)),(19,LK a0 a1 a2)]) [18,20] []
abbrev mD (kk:Nat):=[I 4325521,I 1,I 0,AV.nilsl,AV.rsl true 8 0 kk 5]
abbrev ry (es':List AV) (kk:Nat):=[(7,some (Blk.cells (mD kk))),(6,some (Blk.cells (mD kk))),(7,some (Blk.cells v8)),(8,some (Blk.cells es'))]
abbrev wd (m:Int):=[AV.str [67,114,121,112,116,111,103,114,97,112,104,105,99,32,85,115,97,103,101,32,77,97,115,107],AV.agg [I 4325387,I 2,I m,AV.nilsl,AV.nilsl]]
abbrev we (al:Int):=[AV.str [67,114,121,112,116,111,103,114,97,112,104,105,99,32,65,108,103,111,114,105,116,104,109],AV.agg [I 4325387,I 5,I al,AV.nilsl,AV.nilsl]]
@[simp] abbrev rz (Rs:List AV):=((v9 Rs)∧(I 0=I 0∧true=true)∧True)
abbrev wg (le:Int):=[AV.str [67,114,121,112,116,111,103,114,97,112,104,105,99,32,76,101,110,103,116,104],AV.agg [I 4325387,I 2,I le,AV.nilsl,AV.nilsl]]
@[simp] abbrev rA:=((some 0=some 0∧0=0)∧(some 2=some 2∧0=0)∧True)
abbrev mE (D0 L0:List AV) (n0 t0 y0:Int):=[I t0,I y0,I n0,AV.fsl false D0,AV.fsl false L0]
abbrev mF (D1 L1:List AV) (n1 t1 y1:Int):=[I t1,I y1,I n1,AV.fsl false D1,AV.fsl false L1]
abbrev mG (D2 L2:List AV) (n2 t2 y2:Int):=[I t2,I y2,I n2,AV.fsl false D2,AV.fsl false L2]
abbrev wi (D0 D1 D2 L0 L1 L2:List AV) (n0 n1 n2 t0 t1 t2 y0 y1 y2:Int):=[I t0,I y0,I n0,AV.fsl false D0,AV.fsl false L0,I t1,I y1,I n1,AV.fsl false D1,AV.fsl false L1,I t2,I y2,I n2,AV.fsl false D2,AV.fsl false L2]
abbrev wj:=(AV.agg [I 396,I 396,I 12,I 384,I 4,I 0])
theorem LL (Rs:List AV) (p m lack al le:Int) (D0 D1 D2 L0 L1 L2:List AV) (t0 y0 n0 t1 y1 n1 t2 y2 n2:Int) (ii kk:Nat) (es':List AV) (Q:AV→ab→Nat→Prop):aq Tryz.prog opts0 40 (jO [(10,jN Rs 57 3 (am t0 y0 n0 D0 L0++(am t1 y1 n1 D1 L1++am t2 y2 n2 D2 L2)) (ck Rs ii kk es'))] true true true p m (.agg (am t0 y0 n0 D0 L0)) (.agg (am t1 y1 n1 D1 L1)) (.agg (am t2 y2 n2 D2 L2))) 8 [I al,I le,.fsl false Rs,I lack] [] 0 Q=
  (aU Tryz.prog BinOp.neq 3 (Operand.tmp 15) (Operand.const (Value.int IntKind.i64 1)) (I (lack.tmod 11)) (I 1)=some (AV.bool true)∧SC 19 (we al) (AV.agg (mE D0 L0 n0 t0 y0))∧aU Tryz.prog BinOp.neq 3 (Operand.tmp 26) (Operand.const (Value.int IntKind.i64 2)) (I (lack.tmod 11)) (I 2)=some (AV.bool true)∧SC 19 (wg le) (AV.agg (mF D1 L1 n1 t1 y1))∧aU Tryz.prog BinOp.neq 3 (Operand.tmp 37) (Operand.const (Value.int IntKind.i64 3)) (I (lack.tmod 11)) (I 3)=some (AV.bool true)∧SC 6 [I lack,I 6] (I p)∧cL Tryz.prog 73 wj (I p)=some (I m)∧SC 19 (wd m) (AV.agg (mG D2 L2 n2 t2 y2))∧((rz Rs)∧rA∧fL [(6,2),(7,0),(8,57)] [I 4325521,I 1,I 0,AV.nilsl,AV.rsl true 8 0 3 5] [I 4325521,I 1,I 0,AV.nilsl,AV.rsl true 57 0 (ac [AV.agg (mE D0 L0 n0 t0 y0)]+ac [AV.agg (mF D1 L1 n1 t1 y1)]+ac [AV.agg (mG D2 L2 n2 t2 y2)]) 5]∧mC∧((wi D0 D1 D2 L0 L1 L2 n0 n1 n2 t0 t1 t2 y0 y1 y2)=(wi D0 D1 D2 L0 L1 L2 n0 n1 n2 t0 t1 t2 y0 y1 y2)∧ae (wi D0 D1 D2 L0 L1 L2 n0 n1 n2 t0 t1 t2 y0 y1 y2)=true)∧True)∧Q (AV.agg (mD kk)) (ry es' kk) 11):=by kernel_rfl
abbrev wl:=[I 4325521,I 1,I 0,AV.nilsl,AV.rsl true 8 0 2 5]
theorem LM (Rs:List AV) (p m lack al le:Int) (D0 D1 D2 L0 L1 L2:List AV) (t0 y0 n0 t1 y1 n1 t2 y2 n2:Int) (ii kk:Nat) (es':List AV) (Q:AV→ab→Nat→Prop):aq Tryz.prog opts0 40 (jO [(10,jN Rs 42 2 (am t1 y1 n1 D1 L1++am t2 y2 n2 D2 L2) (ck Rs ii kk es'))] false true true p m (.agg (am t0 y0 n0 D0 L0)) (.agg (am t1 y1 n1 D1 L1)) (.agg (am t2 y2 n2 D2 L2))) 8 [I al,I le,.fsl false Rs,I lack] [] 0 Q=
  (aU Tryz.prog BinOp.neq 3 (Operand.tmp 15) (Operand.const (Value.int IntKind.i64 1)) (I (lack.tmod 11)) (I 1)=some (AV.bool false)∧aU Tryz.prog BinOp.neq 3 (Operand.tmp 26) (Operand.const (Value.int IntKind.i64 2)) (I (lack.tmod 11)) (I 2)=some (AV.bool true)∧SC 19 (wg le) (AV.agg (mF D1 L1 n1 t1 y1))∧aU Tryz.prog BinOp.neq 3 (Operand.tmp 37) (Operand.const (Value.int IntKind.i64 3)) (I (lack.tmod 11)) (I 3)=some (AV.bool true)∧SC 6 [I lack,I 6] (I p)∧cL Tryz.prog 73 wj (I p)=some (I m)∧SC 19 (wd m) (AV.agg (mG D2 L2 n2 t2 y2))∧((rz Rs)∧rA∧fL [(6,2),(7,0),(8,42)] wl [I 4325521,I 1,I 0,AV.nilsl,AV.rsl true 42 0 (ac [AV.agg (mF D1 L1 n1 t1 y1)]+ac [AV.agg (mG D2 L2 n2 t2 y2)]) 5]∧mC∧([I t1,I y1,I n1,AV.fsl false D1,AV.fsl false L1,I t2,I y2,I n2,AV.fsl false D2,AV.fsl false L2]=[I t1,I y1,I n1,AV.fsl false D1,AV.fsl false L1,I t2,I y2,I n2,AV.fsl false D2,AV.fsl false L2]∧ae [I t1,I y1,I n1,AV.fsl false D1,AV.fsl false L1,I t2,I y2,I n2,AV.fsl false D2,AV.fsl false L2]=true)∧True)∧Q (AV.agg (mD kk)) (ry es' kk) 11):=by kernel_rfl
theorem LN (Rs:List AV) (p m lack al le:Int) (D0 D1 D2 L0 L1 L2:List AV) (t0 y0 n0 t1 y1 n1 t2 y2 n2:Int) (ii kk:Nat) (es':List AV) (Q:AV→ab→Nat→Prop):aq Tryz.prog opts0 40 (jO [(10,jN Rs 42 2 (am t0 y0 n0 D0 L0++am t2 y2 n2 D2 L2) (ck Rs ii kk es'))] true false true p m (.agg (am t0 y0 n0 D0 L0)) (.agg (am t1 y1 n1 D1 L1)) (.agg (am t2 y2 n2 D2 L2))) 8 [I al,I le,.fsl false Rs,I lack] [] 0 Q=
  (aU Tryz.prog BinOp.neq 3 (Operand.tmp 15) (Operand.const (Value.int IntKind.i64 1)) (I (lack.tmod 11)) (I 1)=some (AV.bool true)∧SC 19 (we al) (AV.agg (mE D0 L0 n0 t0 y0))∧aU Tryz.prog BinOp.neq 3 (Operand.tmp 26) (Operand.const (Value.int IntKind.i64 2)) (I (lack.tmod 11)) (I 2)=some (AV.bool false)∧aU Tryz.prog BinOp.neq 3 (Operand.tmp 37) (Operand.const (Value.int IntKind.i64 3)) (I (lack.tmod 11)) (I 3)=some (AV.bool true)∧SC 6 [I lack,I 6] (I p)∧cL Tryz.prog 73 wj (I p)=some (I m)∧SC 19 (wd m) (AV.agg (mG D2 L2 n2 t2 y2))∧((rz Rs)∧rA∧fL [(6,2),(7,0),(8,42)] wl [I 4325521,I 1,I 0,AV.nilsl,AV.rsl true 42 0 (ac [AV.agg (mE D0 L0 n0 t0 y0)]+ac [AV.agg (mG D2 L2 n2 t2 y2)]) 5]∧mC∧([I t0,I y0,I n0,AV.fsl false D0,AV.fsl false L0,I t2,I y2,I n2,AV.fsl false D2,AV.fsl false L2]=[I t0,I y0,I n0,AV.fsl false D0,AV.fsl false L0,I t2,I y2,I n2,AV.fsl false D2,AV.fsl false L2]∧ae [I t0,I y0,I n0,AV.fsl false D0,AV.fsl false L0,I t2,I y2,I n2,AV.fsl false D2,AV.fsl false L2]=true)∧True)∧Q (AV.agg (mD kk)) (ry es' kk) 11):=by kernel_rfl
theorem LO (Rs:List AV) (p m lack al le:Int) (D0 D1 D2 L0 L1 L2:List AV) (t0 y0 n0 t1 y1 n1 t2 y2 n2:Int) (ii kk:Nat) (es':List AV) (Q:AV→ab→Nat→Prop):aq Tryz.prog opts0 40 (jO [(10,jN Rs 36 2 (am t0 y0 n0 D0 L0++am t1 y1 n1 D1 L1) (ck Rs ii kk es'))] true true false p m (.agg (am t0 y0 n0 D0 L0)) (.agg (am t1 y1 n1 D1 L1)) (.agg (am t2 y2 n2 D2 L2))) 8 [I al,I le,.fsl false Rs,I lack] [] 0 Q=
  (aU Tryz.prog BinOp.neq 3 (Operand.tmp 15) (Operand.const (Value.int IntKind.i64 1)) (I (lack.tmod 11)) (I 1)=some (AV.bool true)∧SC 19 (we al) (AV.agg (mE D0 L0 n0 t0 y0))∧aU Tryz.prog BinOp.neq 3 (Operand.tmp 26) (Operand.const (Value.int IntKind.i64 2)) (I (lack.tmod 11)) (I 2)=some (AV.bool true)∧SC 19 (wg le) (AV.agg (mF D1 L1 n1 t1 y1))∧aU Tryz.prog BinOp.neq 3 (Operand.tmp 37) (Operand.const (Value.int IntKind.i64 3)) (I (lack.tmod 11)) (I 3)=some (AV.bool false)∧((rz Rs)∧rA∧fL [(6,2),(7,0),(8,36)] wl [I 4325521,I 1,I 0,AV.nilsl,AV.rsl true 36 0 (ac [AV.agg (mE D0 L0 n0 t0 y0)]+ac [AV.agg (mF D1 L1 n1 t1 y1)]) 5]∧mC∧([I t0,I y0,I n0,AV.fsl false D0,AV.fsl false L0,I t1,I y1,I n1,AV.fsl false D1,AV.fsl false L1]=[I t0,I y0,I n0,AV.fsl false D0,AV.fsl false L0,I t1,I y1,I n1,AV.fsl false D1,AV.fsl false L1]∧ae [I t0,I y0,I n0,AV.fsl false D0,AV.fsl false L0,I t1,I y1,I n1,AV.fsl false D1,AV.fsl false L1]=true)∧True)∧Q (AV.agg (mD kk)) (ry es' kk) 11):=by kernel_rfl
end
def rB:It→Int
 | .mk _ y _ _ _=>y
def gY (tag ty:Int):List It→Int
 |[]=>0
 | x::r=>match ah tag (jJ x) with
  |false=>4
  |true=>match ah (rB x) ty with
   |false=>7
   |true=>gY tag ty r
def jP (tag ty:Int) (x:It):Int:=match ah (rB x) 1 with
 |false=>4
 |true=>gY tag ty (bf x)
def wm (tag ty:Int) (x:It):AV:=match ah (jP tag ty x) 0 with
 |true=> .tuple [.fsl false [.fsl false (af (bf x))],I 0]
 |false=> .tuple [.nilsl,I (jP tag ty x)]
theorem LP {es z x:List AV} {n:Nat} (h:es.length=n) (hz:z.length=x.length):List.take n (es++z)++(x++List.drop (n+ac x) (es++z))=es++x:=by
 subst h
 rw[aC,←hz,←List.length_append,List.drop_length,List.append_nil,List.take_left]
theorem wn {lk:List (Nat × Nat)} {a b:AV} (h:RenV lk a b):fL lk [a] [b]:=⟨by simp only[RenL];exact ⟨h,trivial⟩⟩
theorem LQ {tag ty t:Int} (h:ah tag t=true):SC 109 [.fsl true [gF tag ty],I 0,I t] (I 0):=by
 refine bt (A:=aX) base0 ci (ar (LsOk.no rfl)) rfl ?_
 rw[Ch]
 exact ao (fun _=>dZ rfl) fun e=>by rw[h] at e;cases e
theorem LR {tag ty t:Int} (h:ah tag t=false):SC 109 [.fsl true [gF tag ty],I 0,I t] (I (-1)):=by
 refine bt (A:=aX) base0 ci (ar (LsOk.no rfl)) rfl ?_
 rw[Ch]
 exact ao (fun e=>by rw[h] at e;cases e) fun _=>dZ rfl
theorem rC {x:It} (h:bO aR x):SC 110 [aD x] (aD x):=by
 have hc:=uX x h
 have hcl:=cD x
 obtain ⟨t,y,n,d,ks⟩:=x
 rw[bh] at hc hcl⊢
 refine bt (A:=ak [] [] (bq [(177,.tuple [.agg (am t y n (aj d) (af ks)),.bool true])]) [] []) base0 ap (ar (LsOk.no rfl)) (by simp only[ae,hcl,Bool.and_self]) ?_
 rw[Lf]
 exact ⟨B7 hc hcl,dZ hcl⟩
section
variable {tag ty:Int} {ks:List It}
noncomputable def Cv (tag ty:Int) (ks:List It):Nat→View
 |0=>dm tag ty (af ks) 0
 |i+1=>dS tag ty (af ks) (i+1) (i+1) (b9 ks (i+1))
def kL (tag ty:Int) (ks:List It) (Q:AExit→St→Prop):Prop:=match ah (gY tag ty ks) 0 with
 |true=>Q (.exit 0) (Cv tag ty ks ks.length).st
 |false=>Q .ret (dC (gY tag ty ks)).st
theorem Cw {Q:AExit→St→Prop} (hb:ks.length≤90000) (hok:∀x∈ks,bO aR x) (hq:kL tag ty ks Q):∀m i:Nat,i+m=ks.length→gY tag ty (ks.drop i)=gY tag ty ks→ALp Tryz.prog opts0.glob 0 (aJ Tryz.prog 50 7) (Cv tag ty ks i).st Q:=by
 have hK:ae (af ks)=true:=cY ks
 have hlen:=vO ks
 have hL:ad (.fsl true [gF tag ty])=true:=rfl
 intro m
 induction m with
 | zero=>
  intro i hi hp
  rw[Nat.add_zero] at hi
  subst hi
  rw[List.drop_length] at hp
  have h0:ah (gY tag ty ks) 0=true:=by rw[←hp];rfl
  unfold kL at hq
  rw[h0] at hq
  have hf:aU Tryz.prog .lss 3 (.tmp 21) (.tmp 20) (I (.ofNat ks.length)) (I (.ofNat (ac (af ks))))=some (.bool false):=jG (by rw[hlen];omega)
  revert hq hf
  cases ks.length with
  |zero=>
   intro hq hf
   refine ALp.round (A:=ak [(6,0,.res (.bool false))] [] aA [] []) (V2:=dm tag ty (af ks) 0) (F:=dm tag ty (af ks) 0) (lk:=[(0,0)]) (lk':=[(0,0)]) base0 ap (LsOk.no rfl) .refl ?_
   show aN Tryz.prog opts0 40 _ _ (dm tag ty (af ks) 0).st _
   rw[Ll]
   exact ⟨hf,⟨⟨⟨rfl,rfl⟩,⟨rfl,rfl⟩,⟨rfl,hK⟩,⟨rfl,rfl⟩,⟨rfl,rfl⟩,trivial⟩,⟨⟨rfl,rfl,rfl,rfl,rfl⟩,trivial⟩,⟨rfl,rfl⟩,trivial⟩,hq⟩
  |succ i=>
   intro hq hf
   have hE:ae (b9 ks (i+1))=true:=ob
   refine ALp.round (A:=ak [(6,0,.res (.bool false))] [] aA [] []) (V2:=dm tag ty (af ks) (i+1)) (F:=dS tag ty (af ks) (i+1) (i+1) (b9 ks (i+1))) (lk:=[(0,0)]) (lk':=[(0,0),(1,1)]) base0 ap (LsOk.no rfl) .refl ?_
   show aN Tryz.prog opts0 40 _ _ (dS tag ty (af ks) (i+1) (i+1) (b9 ks (i+1))).st _
   rw[Lm]
   exact ⟨hf,⟨⟨⟨rfl,rfl⟩,⟨rfl,rfl⟩,⟨rfl,hK⟩,⟨rfl,rfl⟩,⟨rfl,rfl⟩,trivial⟩,⟨⟨rfl,rfl,rfl,rfl,rfl⟩,trivial⟩,wn (.rsl _ _ _ _ _ _ rfl),⟨rfl,hE⟩,trivial⟩,hq⟩
 | succ m ih=>
  intro i hi hp
  have hlt:i<ks.length:=by omega
  have g:=List.getElem?_eq_getElem hlt
  have hx:=hok _ (List.getElem_mem hlt)
  have hs:=uV g
  have ih:=ih (i+1) (by omega)
  rw[List.drop_eq_getElem_cons hlt] at hp
  revert g hx hs hp
  generalize ks[i]=x
  intro hp g hx hs
  have hc:=rC hx
  obtain ⟨t,y,n,d,l⟩:=x
  have hi0:=cE (f:=false) g
  rw[bh] at hc
  have no {p:Prop} (h:au (.ofNat i) (.ofNat (ac (af ks)))=false):p:=by
   have h:=ltInt_false.1 h
   rw[hlen] at h
   simp only[Int.ofNat_eq_natCast] at h
   omega
  have hw:az .i64 (Int.ofNat i+1)=Int.ofNat (i+1):=re (by omega)
  simp only[gY,jJ,rB] at hp
  cases htag:ah tag t with
  | false=>
   rw[htag] at hp
   have hpl:=LR (ty:=ty) htag
   unfold kL at hq
   rw[←hp] at hq
   cases i with
   |zero=>
    refine ALp.round (A:=jK t y n (aj d) (af l) (-1)) (V2:=dm tag ty (af ks) 0) (F:=dC 4) (lk:=[(0,0)]) (lk':=[]) base0 ap (LsOk.no rfl) .refl ?_
    show aN Tryz.prog opts0 40 _ _ (dm tag ty (af ks) 0).st _
    rw[Lg]
    exact ao (fun _=>⟨hi0,hpl,⟨⟨⟨rfl,rfl⟩,⟨rfl,rfl⟩,trivial⟩,trivial,trivial⟩,hq⟩) no
   |succ i=>
    refine ALp.round (A:=jK t y n (aj d) (af l) (-1)) (V2:=dm tag ty (af ks) (i+1)) (F:=dC 4) (lk:=[(0,0)]) (lk':=[]) base0 ap (LsOk.no rfl) .refl ?_
    show aN Tryz.prog opts0 40 _ _ (dS tag ty (af ks) (i+1) (i+1) (b9 ks (i+1))).st _
    rw[Lh]
    exact ao (fun _=>⟨hi0,hpl,⟨⟨⟨rfl,rfl⟩,⟨rfl,rfl⟩,trivial⟩,trivial,trivial⟩,hq⟩) no
  | true=>
   rw[htag] at hp
   have hpl:=LQ (ty:=ty) htag
   have hE:ae (b9 ks (i+1))=true:=ob
   have hn:ah y ty=true→ALp Tryz.prog opts0.glob 0 (aJ Tryz.prog 50 7) (dS tag ty (af ks) (i+1) (i+1) (b9 ks (i+1))).st Q:=fun e=>by
    rw[e] at hp
    exact ih hp
   have hr:(!ah y ty)=true→Q .ret (dC 7).st:=fun e=>by
    rw[Bool.not_eq_true'] at e
    rw[e] at hp
    unfold kL at hq
    rw[←hp] at hq
    exact hq
   cases i with
   |zero=>
    refine ALp.round (A:=jK t y n (aj d) (af l) 0) (V2:=dS tag ty (af ks) 1 1 (b9 ks 1)) (F:=dC 7) (lk:=[(0,0),(1,50)]) (lk':=[]) base0 ap (LsOk.no rfl) .refl ?_
    show aN Tryz.prog opts0 40 _ _ (dm tag ty (af ks) 0).st _
    rw[Li,hw]
    exact ao (fun _=>⟨hi0,hpl,ao (fun e=>⟨⟨⟨⟨rfl,rfl⟩,⟨rfl,rfl⟩,trivial⟩,trivial,trivial⟩,hr e⟩) fun e=>⟨hc,⟨⟨⟨rfl,rfl⟩,⟨rfl,rfl⟩,⟨rfl,hK⟩,⟨rfl,rfl⟩,⟨rfl,rfl⟩,trivial⟩,⟨⟨rfl,rfl,rfl,rfl,rfl⟩,trivial⟩,wn (.rsl _ _ _ _ _ _ rfl),⟨hs,hE⟩,trivial⟩,hn (by simpa using e)⟩⟩) no
   | succ i=>
    have hel:(b9 ks (i+1)).length=(i+1)*5:=Af (by omega)
    have he:=LP (es:=b9 ks (i+1)) (z:=[I 0,I 0,I 0,.nilsl,.nilsl]) (x:=am t y n (aj d) (af l)) (n:=0+(Int.ofNat (i+1)).toNat*5) (by rw[hel];simp) rfl
    refine ALp.round (A:=jK t y n (aj d) (af l) 0) (V2:=dS tag ty (af ks) (i+1+1) (i+1+1) (b9 ks (i+1+1))) (F:=dC 7) (lk:=[(0,0),(1,50)]) (lk':=[]) base0 ap (LsOk.no rfl) .refl ?_
    show aN Tryz.prog opts0 40 _ _ (dS tag ty (af ks) (i+1) (i+1) (b9 ks (i+1))).st _
    rw[Lj,hw]
    refine ao (fun _=>⟨hi0,hpl,ao (fun e=>⟨⟨⟨⟨rfl,rfl⟩,⟨rfl,rfl⟩,trivial⟩,trivial,trivial⟩,hr e⟩) fun e=>⟨hc,br ?_ (br ?_ (br ?_ (br ?_ ⟨⟨⟨⟨rfl,rfl⟩,⟨rfl,rfl⟩,⟨rfl,hK⟩,⟨rfl,rfl⟩,⟨rfl,rfl⟩,trivial⟩,⟨⟨rfl,rfl,rfl,rfl,rfl⟩,trivial⟩,wn (.rsl _ _ _ _ _ _ rfl),⟨he.trans ?_,hE⟩,trivial⟩,hn (by simpa using e)⟩)))⟩⟩) no
    ·rw[Nat.ble_eq_true_of_le (by omega)];rfl
    ·rw[beq_iff,aC,hel]
    ·exact KZ (by omega)
    ·refine Nat.ble_eq_true_of_le ?_
     rw[aC,List.length_append,hel]
     simp
    ·exact hs
theorem rD:bX (dG Tryz.prog 50) 7=[aJ Tryz.prog 50 7]:=by kernel_rfl
end
theorem LS {x:It} {tag ty:Int}:ae [aD x,.fsl true [gF tag ty]]=true:=by
 simp only[ae,cD x,Bool.true_and]
 rfl
theorem LT {H:ab} {id:Nat} (hg:hget H id=some (.cells [.nilsl])):jr (.tuple [.fsl false [.fsl false []],I 0]) (.tuple [.rsl true id 0 1 1,I 0]) H:=by
 refine ⟨_,(Frz.tuple (.cons (Frz.row (es:=[.nilsl]) rfl hg rfl rfl (fun e he=>by rw[List.mem_singleton] at he;subst he;exact ⟨rfl,rfl⟩) rfl) (.closed [I 0] rfl))).out,rfl,.tuple (.cons (.rows (.cons ?_ .nil)) (.refl _))⟩
 simp only[AV.cells]
 (repeat (first|exact Wk.refl _|exact WkL.refl _|exact Wk.nil|exact Wk.row|exact WkE.refl _|exact WkL.nil|exact WkE.nil|apply Wk.agg|apply Wk.tuple|apply WkL.cons|apply Wk.rows|apply WkE.consA))
theorem LU {H:ab} {ks:List It} {id jd:Nat} {cs:List AV} (hg:hget H id=some (.cells [.rsl true jd 0 ks.length 5])) (hh:hget H jd=some (.cells cs)) (hc:cs=flat (af ks)):jr (.tuple [.fsl false [.fsl false (af ks)],I 0]) (.tuple [.rsl true id 0 1 1,I 0]) H:=by
 have hK:=cY ks
 refine ⟨_,(Frz.tuple (.cons (Frz.rsl (es:=[.rsl true jd 0 ks.length 5]) rfl hg rfl (.cons (Frz.row (es:=af ks) rfl hh hc (fx ks).symm uU hK) .nil)) (.closed [I 0] rfl))).out, ?_,.refl _⟩
 simp only[ad,ae,hK,Bool.and_self]
theorem LV (ks:List It):b9 ks ks.length=flat (af ks):=by rw[b9,List.take_length]
set_option maxRecDepth 20000 in
theorem LW {tag ty:Int} {x:It} (h:bO aR x) (hl:(bf x).length≤90000):SC 50 [aD x,.fsl true [gF tag ty]] (wm tag ty x):=by
 have hcl:=LS (x:=x) (tag:=tag) (ty:=ty)
 obtain ⟨t,y,n,d,ks⟩:=x
 have hok:=vP h
 have hK:=cY ks
 simp only[bf] at hl
 simp only[wm,jP,rB,bf]
 have hs:(I 0=I 0∧ad (I 0)=true)∧True:=⟨⟨rfl,rfl⟩,trivial⟩
 cases hy:ah y 1 with
 |false=>
  refine bt (A:=ak [] [(7,fun _ _=>False)] aA [] []) base0 ap (ar (LsOk.at1 rfl rD fun st Q hs=>hs.elim)) hcl ?_
  rw[bh,Ln]
  exact ao (fun _=>dZ rfl) fun e=>by rw[hy] at e;cases e
 | true=>
  have ny {p:Prop} (e:(!ah y 1)=true):p:=by rw[hy] at e;cases e
  cases h0:ah (gY tag ty ks) 0 with
  | false=>
   refine bt (A:=ak [] [(7,mA tag ty (af ks) .ret (dC (gY tag ty ks)))] aA [] []) base0 ap
    (ar (LsOk.at1 rfl rD fun st Q hs=> .seen base0.glob hs.1 (Cw (tag:=tag) (ty:=ty) (ks:=ks) hl hok (by unfold kL;rw[h0];exact hs.2) ks.length 0 (Nat.zero_add _) rfl))) hcl ?_
   rw[bh,Lo]
   exact ao ny fun _=>⟨⟨⟨⟨rfl,rfl⟩,⟨rfl,rfl⟩,⟨rfl,hK⟩,⟨rfl,rfl⟩,⟨rfl,rfl⟩,trivial⟩,⟨⟨rfl,rfl,rfl,rfl,rfl⟩,trivial⟩,⟨rfl,rfl⟩,trivial⟩,dZ rfl⟩
  | true=>
   have hlp:= @Cw tag ty ks
   cases ks with
   | nil=>
    refine fu (A:=ak [] [(7,mA tag ty (af []) (.exit 0) (dm tag ty (af []) 0))] aA [] []) base0 ap
     (ar (LsOk.at1 rfl rD fun st Q hs=> .seen base0.glob hs.1 (hlp hl hok (by unfold kL;rw[h0];exact hs.2) 0 0 rfl rfl))) hcl ?_
    rw[bh,Lp]
    exact ao ny fun _=>⟨⟨⟨⟨rfl,rfl⟩,⟨rfl,rfl⟩,⟨rfl,hK⟩,⟨rfl,rfl⟩,⟨rfl,rfl⟩,trivial⟩,⟨⟨rfl,rfl,rfl,rfl,rfl⟩,trivial⟩,⟨rfl,rfl⟩,trivial⟩,LT rfl⟩
   | cons a r=>
    refine fu (A:=ak [] [(7,mA tag ty (af (a::r)) (.exit 0) (dS tag ty (af (a::r)) (r.length+1) (r.length+1) (b9 (a::r) (r.length+1))))] aA [] []) base0 ap
     (ar (LsOk.at1 rfl rD fun st Q hs=> .seen base0.glob hs.1 (hlp hl hok (by unfold kL;rw[h0];exact hs.2) (r.length+1) 0 (Nat.zero_add _) rfl))) hcl ?_
    rw[bh,Lq]
    exact ao ny fun _=>⟨⟨⟨⟨rfl,rfl⟩,⟨rfl,rfl⟩,⟨rfl,hK⟩,⟨rfl,rfl⟩,⟨rfl,rfl⟩,trivial⟩,⟨⟨rfl,rfl,rfl,rfl,rfl⟩,trivial⟩,⟨rfl,rfl⟩,trivial⟩,LU rfl rfl (LV (a::r))⟩
theorem Cx {a b c:Bool} (ha:a=true) (hb:b=true) (hc:c=true):(a&&(b&&(c&&true)))=true:=by rw[ha,hb,hc];rfl
theorem kM (p q:Operand) (x y:Int):aU Tryz.prog .neq 3 p q (I x) (I y)=some (.bool (!ah x y)):=by kernel_rfl
theorem Cy:∀l:List At,(flat (l.map aW)).length=l.length*7
 |[]=>rfl
 |a::r=>by
  obtain ⟨s,i,t,y,n,d,ks⟩:=a
  have:=Cy r
  show (flat (r.map aW)).length+1+1+1+1+1+1+1=(r.length+1)*7
  omega
theorem Cz (l:List At):ae (flat (l.map aW))=true:=oa (jI l) fun e he=>by
 obtain ⟨a,_,rfl⟩:=List.mem_map.1 he
 exact mj a
theorem LX:∀l:List At,∀e∈l.map aW,dM 7 e:=fun l e he=>by
 obtain ⟨⟨s,i,t,y,n,d,ks⟩,_,rfl⟩:=List.mem_map.1 he
 exact ⟨rfl,rfl⟩
theorem LY (l:List At) (a:At):flat (l.map aW)++flat [aW a]=flat ((l++[a]).map aW):=by rw[List.map_append,nW];rfl
section
variable {ks:List It}
noncomputable def rE (K:List AV) (i:Nat):List At→View
 |[]=>cP K i
 |a::r=>dT K i (r.length+1) (flat ((a::r).map aW))
def wo (ks:List It) (L:List At) (o:Option (List At)) (Q:AExit→St→Prop):Prop:=match o with
 |none=>Q .ret ptR.st
 |some l=>Q (.exit 0) (rE (af ks) ks.length (L++l)).st
theorem LZ {Q:AExit→St→Prop} (hb:ks.length≤90000) (hok:∀x∈ks,bO aR x):∀ (m i:Nat) (L:List At),i+m=ks.length→L.length=i→wo ks L (ed (ks.drop i)) Q→ALp Tryz.prog opts0.glob 0 (aJ Tryz.prog 112 7) (rE (af ks) i L).st Q:=by
 have hK:ae (af ks)=true:=cY ks
 have hlen:=vO ks
 intro m
 induction m with
 | zero=>
  intro i L hi hL hq
  rw[Nat.add_zero] at hi
  subst hi
  rw[List.drop_length] at hq
  have hq:Q (.exit 0) (rE (af ks) ks.length (L++[])).st:=hq
  rw[List.append_nil] at hq
  have hf:aU Tryz.prog .lss 3 (.tmp 25) (.tmp 24) (I (.ofNat ks.length)) (I (.ofNat (ac (af ks))))=some (.bool false):=jG (by rw[hlen];omega)
  cases L with
  |nil=>
   refine ALp.round (A:=ak [(6,0,.res (.bool false))] [] aA [] []) (V2:=cP (af ks) 0) (F:=cP (af ks) ks.length) (lk:=[]) (lk':=[]) base0 ap (LsOk.no rfl) .refl ?_
   show aN Tryz.prog opts0 40 _ _ (cP (af ks) ks.length).st (bP 0 [] (cP (af ks) 0) _ [] (cP (af ks) ks.length) Q)
   rw[show cP (af ks) 0=cP (af ks) ks.length by rw[show ks.length=0 from hL.symm]]
   rw[Lw]
   exact ⟨hf,⟨⟨⟨rfl,rfl⟩,⟨rfl,hK⟩,⟨rfl,rfl⟩,⟨rfl,rfl⟩,trivial⟩,trivial,trivial⟩,hq⟩
  |cons a r=>
   refine ALp.round (A:=ak [(6,0,.res (.bool false))] [] aA [] []) (V2:=cP (af ks) ks.length) (F:=dT (af ks) ks.length (r.length+1) (flat ((a::r).map aW))) (lk:=[]) (lk':=[(0,0)]) base0 ap (LsOk.no rfl) .refl ?_
   show aN Tryz.prog opts0 40 _ _ (dT (af ks) ks.length (r.length+1) (flat ((a::r).map aW))).st _
   rw[Lx]
   exact ⟨hf,⟨⟨⟨rfl,hK⟩,⟨rfl,rfl⟩,⟨rfl,rfl⟩,trivial⟩,⟨⟨rfl,rfl,rfl,rfl,rfl⟩,trivial⟩,⟨rfl,Cz (a::r)⟩,trivial⟩,hq⟩
 | succ m ih=>
  intro i L hi hL hq
  have hlt:i<ks.length:=by omega
  have g:=List.getElem?_eq_getElem hlt
  have hx:=hok _ (List.getElem_mem hlt)
  have ih:=ih (i+1)
  rw[List.drop_eq_getElem_cons hlt] at hq
  revert g hx hq
  generalize ks[i]=x
  intro hq g hx
  have hr:=KY hx
  obtain ⟨t,y,n,d,l⟩:=x
  have hi0:=cE (f:=false) g
  rw[bh] at hr
  have no {p:Prop} (h:au (.ofNat i) (.ofNat (ac (af ks)))=false):p:=by
   have h:=ltInt_false.1 h
   rw[hlen] at h
   simp only[Int.ofNat_eq_natCast] at h
   omega
  have hw:az .i64 (Int.ofNat i+1)=Int.ofNat (i+1):=re (by omega)
  simp only[ed] at hq
  cases hrd:ce (.mk t y n d l) with
  | none=>
   rw[hrd] at hq hr
   have hq:Q .ret ptR.st:=hq
   cases L with
   |nil=>
    refine ALp.round (A:=jL t y n (aj d) (af l) [] 0 0 0 0 [] [] false) (V2:=cP (af ks) i) (F:=ptR) (lk:=[]) (lk':=[]) base0 ap (LsOk.no rfl) .refl ?_
    show aN Tryz.prog opts0 40 _ _ (cP (af ks) i).st _
    rw[Lr]
    exact ao (fun _=>⟨hi0,hr,⟨⟨⟨rfl,rfl⟩,⟨rfl,rfl⟩,trivial⟩,trivial,trivial⟩,hq⟩) no
   |cons a r=>
    refine ALp.round (A:=jL t y n (aj d) (af l) [] 0 0 0 0 [] [] false) (V2:=cP (af ks) i) (F:=ptR) (lk:=[]) (lk':=[]) base0 ap (LsOk.no rfl) .refl ?_
    show aN Tryz.prog opts0 40 _ _ (dT (af ks) i (r.length+1) (flat ((a::r).map aW))).st _
    rw[Lt]
    exact ao (fun _=>⟨hi0,hr,⟨⟨⟨rfl,rfl⟩,⟨rfl,rfl⟩,trivial⟩,trivial,trivial⟩,hq⟩) no
  | some a=>
   rw[hrd] at hq hr
   have hq:wo ks (L++[a]) (ed (ks.drop (i+1))) Q:=by
    revert hq
    unfold wo
    cases ed (ks.drop (i+1)) with
    |none=>exact id
    |some l'=>
     intro hq
     show Q (.exit 0) (rE (af ks) ks.length (L++[a]++l')).st
     rw[List.append_assoc];exact hq
   have hn:=ih (L++[a]) (by omega) (by rw[List.length_append,hL];rfl) hq
   have hsn:=LY L a
   have hcl:=Cz (L++[a])
   obtain ⟨s,ix,t',y',n',d',k'⟩:=a
   cases L with
   |nil=>
    refine ALp.round (A:=jL t y n (aj d) (af l) s ix t' y' n' (aj d') (af k') true) (V2:=dT (af ks) (i+1) 1 (flat [aW ⟨s,ix,.mk t' y' n' d' k'⟩])) (F:=ptR) (lk:=[(0,19)]) (lk':=[]) base0 ap (LsOk.no rfl) .refl ?_
    show aN Tryz.prog opts0 40 _ _ (cP (af ks) i).st _
    rw[Lu,hw]
    exact ao (fun _=>⟨hi0,hr,⟨⟨⟨rfl,hK⟩,⟨rfl,rfl⟩,⟨rfl,rfl⟩,trivial⟩,⟨⟨rfl,rfl,rfl,rfl,rfl⟩,trivial⟩,⟨rfl,hcl⟩,trivial⟩,hn⟩) no
   | cons b r=>
    have hfl:=Cy (b::r)
    have hrl:r.length+1=i:=hL
    refine ALp.round (A:=jL t y n (aj d) (af l) s ix t' y' n' (aj d') (af k') true) (V2:=dT (af ks) (i+1) (r.length+1+1) (flat (((b::r)++[(⟨s,ix,.mk t' y' n' d' k'⟩:At)]).map aW))) (F:=ptR) (lk:=[(0,19)]) (lk':=[]) base0 ap (LsOk.no rfl) .refl ?_
    show aN Tryz.prog opts0 40 _ _ (dT (af ks) i (r.length+1) (flat ((b::r).map aW))).st _
    rw[Lv,hw]
    have hn:ALp Tryz.prog opts0.glob 0 (aJ Tryz.prog 112 7) (dT (af ks) (i+1) (r.length+1+1) (flat (((b::r)++[(⟨s,ix,.mk t' y' n' d' k'⟩:At)]).map aW))).st Q:=by
     have e:(r++[(⟨s,ix,.mk t' y' n' d' k'⟩:At)]).length=r.length+1:=by rw[List.length_append];rfl
     rw[←e]
     exact hn
    have h1:Nat.ble ((r.length+1+ac [AV.agg (.str s::I ix::am t' y' n' (aj d') (af k'))])*96) 140737488355328=true:=Nat.ble_eq_true_of_le (by rw[show ac [AV.agg (.str s::I ix::am t' y' n' (aj d') (af k'))]=1 from rfl];omega)
    refine ao (fun _=>⟨hi0,hr,br (Cx rfl h1 rfl) (br (by rw[beq_iff,aC,hfl];rfl) ⟨⟨⟨⟨rfl,hK⟩,⟨rfl,rfl⟩,⟨rfl,rfl⟩,trivial⟩,⟨⟨rfl,rfl,rfl,rfl,rfl⟩,trivial⟩,⟨hsn,hcl⟩,trivial⟩,hn⟩)⟩) no
theorem wq:bX (dG Tryz.prog 112) 7=[aJ Tryz.prog 112 7]:=by kernel_rfl
end
def dJ (x:It):Int × List At:=match ah (jP 4325384 1 x) 0 with
 |false=>(jP 4325384 1 x,[])
 |true=>match ed (bf x) with
  |none=>(7,[])
  |some l=>(0,l)
def rF (p:Int × List At):AV:=match ah p.1 0 with
 |true=> .tuple [.fsl false (p.2.map aW),I 0]
 |false=> .tuple [.nilsl,I p.1]
set_option maxRecDepth 20000 in
theorem CA {x:It} (h:bO aR x) (hl:(bf x).length≤90000):SC 112 [aD x] (rF (dJ x)):=by
 have hcl:ae [aD x]=true:=by simp only[ae,cD x,Bool.and_self]
 have hp:=LW (tag:=4325384) (ty:=1) h hl
 obtain ⟨t,y,n,d,ks⟩:=x
 have hok:=vP h
 have hK:=cY ks
 simp only[bf] at hl
 simp only[wm,bf] at hp
 simp only[dJ,bf]
 rw[bh] at hp hcl⊢
 cases h0:ah (jP 4325384 1 (.mk t y n d ks)) 0 with
 |false=>
  rw[h0] at hp
  have hne:=kM (.tmp 18) (.const (Value.int IntKind.i64 0)) (jP 4325384 1 (.mk t y n d ks)) 0
  rw[h0] at hne
  refine bt (A:=ak [(2,1,.res (.bool true))] [] (bq [(50,.tuple [.nilsl,I (jP 4325384 1 (.mk t y n d ks))])]) [] []) base0 ap (ar (LsOk.no rfl)) hcl ?_
  rw[Ly]
  simp only[rF,h0]
  exact ⟨hp,hne,dZ rfl⟩
 | true=>
  rw[h0] at hp
  have hlp:= @LZ ks
  cases hr:ed ks with
  | none=>
   refine bt (A:=ak [] [(7,mB (af ks) .ret ptR)] (bq [(50,.tuple [.fsl false [.fsl false (af ks)],I 0])]) [] []) base0 ap
    (ar (LsOk.at1 rfl wq fun st Q hs=> .seen base0.glob hs.1 (hlp hl hok ks.length 0 [] (Nat.zero_add _) rfl (by rw[List.drop_zero,hr];exact hs.2)))) hcl ?_
   rw[Lz]
   exact ⟨hp,⟨⟨⟨rfl,rfl⟩,⟨rfl,hK⟩,⟨rfl,rfl⟩,⟨rfl,rfl⟩,trivial⟩,trivial,trivial⟩,dZ rfl⟩
  | some L=>
   cases L with
   | nil=>
    refine bt (A:=ak [] [(7,mB (af ks) (.exit 0) (cP (af ks) ks.length))] (bq [(50,.tuple [.fsl false [.fsl false (af ks)],I 0])]) [] []) base0 ap
     (ar (LsOk.at1 rfl wq fun st Q hs=> .seen base0.glob hs.1 (hlp hl hok ks.length 0 [] (Nat.zero_add _) rfl (by rw[List.drop_zero,hr];exact hs.2)))) hcl ?_
    rw[LA]
    exact ⟨hp,⟨⟨⟨rfl,rfl⟩,⟨rfl,hK⟩,⟨rfl,rfl⟩,⟨rfl,rfl⟩,trivial⟩,trivial,trivial⟩,rfl,.tuple (.cons .nil (.refl _))⟩
   | cons a r=>
    refine fu (A:=ak [] [(7,mB (af ks) (.exit 0) (dT (af ks) ks.length (r.length+1) (flat ((a::r).map aW))))] (bq [(50,.tuple [.fsl false [.fsl false (af ks)],I 0])]) [] []) base0 ap
     (ar (LsOk.at1 rfl wq fun st Q hs=> .seen base0.glob hs.1 (hlp hl hok ks.length 0 [] (Nat.zero_add _) rfl (by rw[List.drop_zero,hr];exact hs.2)))) hcl ?_
    rw[LB]
    have hA:=jI (a::r)
    refine ⟨hp,⟨⟨⟨rfl,rfl⟩,⟨rfl,hK⟩,⟨rfl,rfl⟩,⟨rfl,rfl⟩,trivial⟩,trivial,trivial⟩,_,(Frz.tuple (.cons (Frz.row (es:=(a::r).map aW) rfl rfl rfl (by simp) (LX _) hA) (.closed [I 0] rfl))).out, ?_,.refl _⟩
    simp only[ad,ae,hA,Bool.and_self]
end Go.Proofs.YtlljinebapfdaaaGreatDoor
namespace Go.Proofs.YtlljinebapfdaaaGreatDoor
set_option maxRecDepth 20000
open Go Go.RowKit
open Go.Proofs.Abs
def iS (o:Ob) (x:It):Ob × Int:=match ah (dJ x).1 0 with
 |false=>(zO,(dJ x).1)
 |true=>dk o (dJ x).2
theorem wr {l:List At} {i:Nat} {s:List UInt8} {ix t y n:Int} {d:List UInt8} {ks:List It} (hx:l[i]? =some ⟨s,ix,.mk t y n d ks⟩):aQ Tryz.prog 212 (.fsl false (l.map aW)) (I (.ofNat i))=some (.fptr (.str s::I ix::am t y n (aj d) (af ks)) 0):=
 l5 (v:=aW ⟨s,ix,.mk t y n d ks⟩) (e:=131) (sz:=7) (by kernel_rfl) (by kernel_rfl) (by rw[List.getElem?_map,hx];rfl) rfl
section
variable {l:List At}
theorem L3 {Q:AExit→St→Prop} {i:Nat} {o:Ob} {r:Int} (hr:ah r 0=false) (hq:Q (.exit 0) (fD r (aB o)).st):ALp Tryz.prog opts0.glob 0 (aJ Tryz.prog 111 4) (dU (l.map aW) r i (aB o)).st Q:=by
 have hA:=jI l
 have hO:=bR o
 have hlen:ac (l.map aW)=l.length:=by rw[aC,List.length_map]
 have hne:=kM (.tmp 21) (.const (Value.int IntKind.i64 0)) r 0
 rw[hr] at hne
 by_cases hi:i<l.length
 ·have g:=List.getElem?_eq_getElem hi
  revert g
  generalize l[i]=a
  intro g
  obtain ⟨s,ix,t,y,n,d,ks⟩:=a
  refine ALp.round (A:=ru s ix t y n (aj d) (af ks) [] 0 true) (V2:=dU (l.map aW) r i []) (F:=fD r (aB o)) (lk:=[]) (lk':=[(0,0),(1,1)]) base0 ap (LsOk.no rfl) .refl ?_
  unfold aB at hO hq⊢
  rw[LD]
  exact ao (fun _=>⟨wr g,hne,⟨⟨⟨rfl,rfl⟩,trivial⟩,⟨⟨rfl,rfl⟩,⟨rfl,rfl⟩,trivial⟩,⟨rfl,hO⟩,⟨rfl,rfl⟩,trivial⟩,hq⟩) fun e=>by
   have e:=ltInt_false.1 e
   rw[hlen] at e
   simp only[Int.ofNat_eq_natCast] at e
   omega
 ·refine ALp.round (A:=ak [(3,0,.res (.bool false))] [] aA [] []) (V2:=dU (l.map aW) r i []) (F:=fD r (aB o)) (lk:=[]) (lk':=[(0,0),(1,1)]) base0 ap (LsOk.no rfl) .refl ?_
  unfold aB at hO hq⊢
  rw[Co]
  exact ⟨jG (by rw[hlen];simp only[Int.ofNat_eq_natCast];omega),⟨⟨⟨rfl,rfl⟩,trivial⟩,⟨⟨rfl,rfl⟩,⟨rfl,rfl⟩,trivial⟩,⟨rfl,hO⟩,⟨rfl,rfl⟩,trivial⟩,hq⟩
theorem L4 {Q:AExit→St→Prop} (hb:l.length≤90000) (ha:∀a∈l,iP a):∀ (m i:Nat) (o:Ob),i+m=l.length→SetI o→Q (.exit 0) (fD (dk o (l.drop i)).2 (aB (dk o (l.drop i)).1)).st→ALp Tryz.prog opts0.glob 0 (aJ Tryz.prog 111 4) (dU (l.map aW) 0 i (aB o)).st Q:=by
 have hA:=jI l
 have hlen:ac (l.map aW)=l.length:=by rw[aC,List.length_map]
 intro m
 induction m with
 |zero=>
  intro i o hi h hq
  rw[Nat.add_zero] at hi
  subst hi
  rw[List.drop_length] at hq
  have hO:=bR o
  have hq:Q (.exit 0) (fD 0 (aB o)).st:=hq
  refine ALp.round (A:=ak [(3,0,.res (.bool false))] [] aA [] []) (V2:=dU (l.map aW) 0 l.length []) (F:=fD 0 (aB o)) (lk:=[]) (lk':=[(0,0),(1,1)]) base0 ap (LsOk.no rfl) .refl ?_
  unfold aB at hO hq⊢
  rw[Co]
  exact ⟨jG (by rw[hlen];exact Int.le_refl _),⟨⟨⟨rfl,rfl⟩,trivial⟩,⟨⟨rfl,rfl⟩,⟨rfl,rfl⟩,trivial⟩,⟨rfl,hO⟩,⟨rfl,rfl⟩,trivial⟩,hq⟩
 | succ m ih=>
  intro i o hi h hq
  have hlt:i<l.length:=by omega
  have g:=List.getElem?_eq_getElem hlt
  have hat:=ha _ (List.getElem_mem hlt)
  rw[List.drop_eq_getElem_cons hlt] at hq
  revert g hat hq
  generalize l[i]=a
  intro hq g hat
  have h1:=KJ (a:=a) h.ok.fit (Ld hat.n) h.ok.g hat.v
  have hI:=Ce h hat
  have hz:=Lb (c:=dv a.name) (o:=o) (a:=a)
  have hO:=bR o
  have hw:az .i64 (Int.ofNat i+1)=Int.ofNat (i+1):=re (by omega)
  have hne:=kM (.tmp 21) (.const (Value.int IntKind.i64 0)) 0 0
  have ih:=ih (i+1)
  simp only[dk] at hq
  revert h1 hI hz hq
  generalize cG (dv a.name) o a=p
  obtain ⟨p,e⟩:=p
  intro hq h1 hI hz
  simp only at hI hz hq
  have fp:=rh p
  have hP:=bR p
  have hn:ALp Tryz.prog opts0.glob 0 (aJ Tryz.prog 111 4) (dU (l.map aW) e (i+1) (aB p)).st Q:=by
   cases he:ah e 0 with
   |true=>
    rw[he] at hq
    have e0:=beqInt_iff.1 he
    subst e0
    exact ih p (by omega) (hI rfl) hq
   |false=>
    rw[he] at hq
    rw[hz (beqInt_false.1 he)]
    exact L3 he hq
  obtain ⟨s,ix,t,y,n,d,ks⟩:=a
  rw[oz] at h1
  unfold eY aw at h1
  refine ALp.round (A:=ru s ix t y n (aj d) (af ks) (aB p) e false) (V2:=dU (l.map aW) e (i+1) (aB p)) (F:=dU (l.map aW) 0 i []) (lk:=[(0,0),(1,1)]) (lk':=[]) base0 ap (LsOk.no rfl) .refl ?_
  unfold aB at hO hP fp hn h1⊢
  rw[LC,hw]
  exact ao (fun _=>⟨wr g,hne,h1,br fp ⟨⟨⟨⟨rfl,rfl⟩,⟨rfl,hA⟩,⟨rfl,rfl⟩,⟨rfl,rfl⟩,trivial⟩,⟨⟨rfl,rfl⟩,⟨rfl,rfl⟩,trivial⟩,⟨rfl,hP⟩,⟨rfl,rfl⟩,trivial⟩,hn⟩⟩) fun e=>by
   have e:=ltInt_false.1 e
   rw[hlen] at e
   simp only[Int.ofNat_eq_natCast] at e
   omega
theorem L5:bX (dG Tryz.prog 111) 4=[aJ Tryz.prog 111 4]:=by kernel_rfl
end
theorem L6 (o:Ob) (x:It):ae [aw o,aD x]=true:=dR o (c:=[aD x]) (by simp only[ae,cD x,Bool.and_self])
theorem L7 {o:Ob} (ho:SetI o) {x:It} (h:bO aR x) (hl:(bf x).length≤90000) (hlp:(dJ x).2.length≤90000) (ha:∀a∈(dJ x).2,iP a):SC 111 [aw o,aD x] (eY (iS o x)):=by
 have hp:=CA h hl
 have hcl:=L6 o x
 have hO:=bR o
 unfold iS
 revert hp hlp ha
 generalize dJ x=q
 obtain ⟨r,l⟩:=q
 intro hlp ha hp
 simp only[rF] at hp
 simp only at hlp ha⊢
 obtain ⟨t,y,n,d,ks⟩:=x
 rw[bh] at hp hcl⊢
 have hne:=kM (.tmp 30) (.const (Value.int IntKind.i64 0)) r 0
 cases h0:ah r 0 with
 |false=>
  rw[h0] at hp hne
  refine bt (A:=ak [(8,1,.res (.bool true))] [] (bq [(112,.tuple [.nilsl,I r])]) [] []) base0 ap (ar (LsOk.no rfl)) hcl ?_
  unfold aw aB
  rw[LE]
  exact ⟨hp,hne,fC r⟩
 | true=>
  rw[h0] at hp
  have hA:=jI l
  have hlp':= @L4 l
  have hfit:=Le ho ha
  have hz:=vS l (o:=o)
  revert hfit hz hlp'
  generalize hq:dk o l=q
  obtain ⟨p,e⟩:=q
  intro hlp' hfit hz
  simp only at hfit hz
  have hcp:=ow hfit
  have fp:=rh p
  refine bt (A:=ak [] [(4,Cp (l.map aW) (aB o) (fD e (aB p)))] (de [(112,fun _=>some (.tuple [.fsl false (l.map aW),I 0])),(25,fun _=>some (.agg (aB p)))]) [] []) base0 ap
   (ar (LsOk.at1 rfl L5 fun st Q hs=> .seen base0.glob hs.1 (hlp' hlp ha l.length 0 o (Nat.zero_add _) ho (by rw[List.drop_zero,hq];exact hs.2)))) hcl ?_
  have eo:=oy p 0
  unfold aw at hcp⊢
  unfold aB at hO hcp fp eo⊢
  rw[LF]
  refine ⟨hp,⟨⟨⟨rfl,rfl⟩,⟨rfl,hA⟩,⟨rfl,rfl⟩,⟨rfl,rfl⟩,trivial⟩,⟨⟨rfl,rfl⟩,⟨rfl,rfl⟩,trivial⟩,⟨rfl,hO⟩,⟨rfl,rfl⟩,trivial⟩,ao (fun e1=> ?_) fun e1=>⟨hcp,br fp ?_⟩⟩
  ·rw[Bool.not_eq_true'] at e1
   have hz:=hz (beqInt_false.1 e1)
   subst hz
   exact fC e
  ·rw[Bool.not_eq_false'] at e1
   have e0:=beqInt_iff.1 e1
   subst e0
   exact eo
def dn:List UInt8:=[67,114,121,112,116,111,103,114,97,112,104,105,99,32,76,101,110,103,116,104]
def dV (le:Int) (x:It):Prop:=TiOk x∧∃s v,x=bS s v∧(s=dn→v=aP 2 le)
abbrev tF (s:List UInt8) (v:It):List AV:=am 4325384 1 0 (aj []) (af [.mk 4325386 7 0 s [],v])
theorem CB (s:List UInt8) (v:It):SC 19 [.str s,aD v] (.agg (tF s v)):=by
 have hv:=cD v
 obtain ⟨t,y,n,d,ks⟩:=v
 have hcl:ae [.str s,aD (.mk t y n d ks)]=true:=by simp only[ae,ad,hv,Bool.and_self]
 refine fu (A:=ak [] [] aA [44,45,18] []) base0 ap (ar (LsOk.no rfl)) hcl ?_
 rw[bh] at hv⊢
 rw[LG]
 have hes:ae [.agg [I 4325386,I 7,I 0,.fsl false (aj s),.nilsl],.agg (am t y n (aj d) (af ks))]=true:=by
  simp only[ae,hv,Bool.and_self,Bool.and_true]
  simp[ad,ae]
 refine ⟨_,(Frz.agg (.cons (.closed _ rfl) (.cons (.closed _ rfl) (.cons (.closed _ rfl) (.cons (.closed _ rfl) (.cons (Frz.row (es:=[.agg [I 4325386,I 7,I 0,.fsl false (aj s),.nilsl],.agg (am t y n (aj d) (af ks))]) rfl rfl rfl rfl ?_ hes) .nil)))))).out, ?_, ?_⟩
 ·intro e he
  simp only[List.mem_cons,List.not_mem_nil,or_false] at he
  rcases he with rfl|rfl<;>exact ⟨rfl,rfl⟩
 ·show ad (.agg [I 4325384,I 1,I 0,.nilsl,.fsl false [.agg [I 4325386,I 7,I 0,.fsl false (aj s),.nilsl],.agg (am t y n (aj d) (af ks))]])=true
  have:ad (.fsl false [.agg [I 4325386,I 7,I 0,.fsl false (aj s),.nilsl],.agg (am t y n (aj d) (af ks))])=true:=hes
  simp only[ad,ae,Bool.true_and] at this⊢
  simpa using this
 ·refine .agg ?_
  simp only[tF,am,af,aD,aj]
  (repeat (first|exact Wk.refl _|exact WkL.refl _|exact Wk.nil|exact Wk.row|exact WkE.refl _|exact WkL.nil|exact WkE.nil|apply Wk.agg|apply Wk.tuple|apply WkL.cons|apply Wk.rows|apply WkE.consA))
theorem ws (s:List UInt8) (y n:Int):SC 19 [.str s,.agg [I 4325387,I y,I n,.nilsl,.nilsl]] (.agg (tF s (aP y n))):=by
 refine (CB s (aP y n)).wkA (.cons (.refl _) (.cons (.agg ?_) .nil))
 simp only[af,aj]
 (repeat (first|exact Wk.refl _|exact WkL.refl _|exact Wk.nil|exact Wk.row|exact WkE.refl _|exact WkL.nil|exact WkE.nil|apply Wk.agg|apply Wk.tuple|apply WkL.cons|apply Wk.rows|apply WkE.consA))
theorem L8 (ks:List It):ac (flat (af ks))=ks.length*5:=by rw[aC,uW]
theorem L9 {l:List Rw} {i:Nat} {r:Rw} (hx:l[i]? =some r):aQ Tryz.prog 22 (.fsl false (l.map cb)) (I (.ofNat i))=some (.fptr (uY r) 0):=l5 (v:=cb r) (e:=75) (sz:=4) (by kernel_rfl) (by kernel_rfl) (by rw[List.getElem?_map,hx];rfl) rfl
theorem kN {lk:List (Nat × Nat)} {a b:AV} (h:RenV lk a b):fL lk (oH a) (oH b):=⟨by simp only[oH,RenL];exact ⟨.same _ rfl,.same _ rfl,.same _ rfl,.same _ rfl,h,trivial⟩⟩
theorem Ma {p:Int} (h0:0≤p) (h1:p<10):∃s:List UInt8,(s∈fO∧s.length≤1000∧s≠dn)∧cL Tryz.prog 76 (.agg [.str [78,97,109,101],.str [65,99,116,105,118,97,116,105,111,110,32,68,97,116,101],.str [65,99,116,105,118,97,116,105,111,110,32,68,97,116,101],.str [68,101,97,99,116,105,118,97,116,105,111,110,32,68,97,116,101],.str [85,115,97,103,101,32,76,105,109,105,116,115],.str [120,45,97],.str [80,114,111,99,101,115,115,32,83,116,97,114,116,32,68,97,116,101],.str [80,114,111,116,101,99,116,32,83,116,111,112,32,68,97,116,101],.str [76,105,110,107],.str [83,116,97,116,101]]) (I p)=some (.str s):=by
 have:p=0∨p=1∨p=2∨p=3∨p=4∨p=5∨p=6∨p=7∨p=8∨p=9:=by omega
 rcases this with rfl|rfl|rfl|rfl|rfl|rfl|rfl|rfl|rfl|rfl
 ·exact ⟨[78,97,109,101],by decide,by kernel_rfl⟩
 ·exact ⟨[65,99,116,105,118,97,116,105,111,110,32,68,97,116,101],by decide,by kernel_rfl⟩
 ·exact ⟨[65,99,116,105,118,97,116,105,111,110,32,68,97,116,101],by decide,by kernel_rfl⟩
 ·exact ⟨[68,101,97,99,116,105,118,97,116,105,111,110,32,68,97,116,101],by decide,by kernel_rfl⟩
 ·exact ⟨[85,115,97,103,101,32,76,105,109,105,116,115],by decide,by kernel_rfl⟩
 ·exact ⟨[120,45,97],by decide,by kernel_rfl⟩
 ·exact ⟨[80,114,111,99,101,115,115,32,83,116,97,114,116,32,68,97,116,101],by decide,by kernel_rfl⟩
 ·exact ⟨[80,114,111,116,101,99,116,32,83,116,111,112,32,68,97,116,101],by decide,by kernel_rfl⟩
 ·exact ⟨[76,105,110,107],by decide,by kernel_rfl⟩
 ·exact ⟨[83,116,97,116,101],by decide,by kernel_rfl⟩
theorem Mb {p:Int} (h0:0≤p) (h1:p<6):∃m:Int,cL Tryz.prog 73 (.agg [I 396,I 396,I 12,I 384,I 4,I 0]) (I p)=some (I m):=by
 have:p=0∨p=1∨p=2∨p=3∨p=4∨p=5:=by omega
 rcases this with rfl|rfl|rfl|rfl|rfl|rfl
 ·exact ⟨396,by kernel_rfl⟩
 ·exact ⟨396,by kernel_rfl⟩
 ·exact ⟨12,by kernel_rfl⟩
 ·exact ⟨384,by kernel_rfl⟩
 ·exact ⟨4,by kernel_rfl⟩
 ·exact ⟨0,by kernel_rfl⟩
theorem rG {le:Int} {l:List Rw}:∀ (m i:Nat) (ks:List It),i+m=min l.length 4→ks≠[]→ks.length≤3+i→(∀x∈ks,dV le x)→∃ks':List It,ks'≠[]∧ks'.length≤7∧(∀x∈ks',dV le x)∧∀Q:AExit→St→Prop,Q (.exit 0) (ck (l.map cb) (min l.length 4) ks'.length (flat (af ks'))).st→ALp Tryz.prog opts0.glob 0 (aJ Tryz.prog 8 10) (ck (l.map cb) i ks.length (flat (af ks))).st Q:=by
 have hR:=oA l
 have hlen:ac (l.map cb)=l.length:=by rw[aC,List.length_map]
 intro m
 induction m with
 | zero=>
  intro i ks hi hne hk ha
  rw[Nat.add_zero] at hi
  subst hi
  refine ⟨ks,hne,by omega,ha,fun Q hq=> ?_⟩
  have hE:=gC ks
  by_cases h4:l.length<4+1
  ·by_cases h5:l.length=min l.length 4
   ·refine ALp.round (A:=ak [(9,3,.res (.bool false))] [] aA [] []) (V2:=ck (l.map cb) (min l.length 4) ks.length []) (F:=ck (l.map cb) (min l.length 4) ks.length (flat (af ks))) (lk:=[]) (lk':=[(6,6),(7,7),(8,8)]) base0 ap (LsOk.no rfl) .refl ?_
    rw[LI]
    exact ⟨jG (by rw[hlen];simp only[Int.ofNat_eq_natCast];omega),⟨⟨⟨rfl,hR⟩,⟨rfl,rfl⟩,trivial⟩,⟨⟨rfl,rfl⟩,⟨rfl,rfl⟩,trivial⟩,kN (.rsl _ _ _ _ _ _ rfl),⟨rfl,rfl⟩,⟨rfl,hE⟩,trivial⟩,hq⟩
   ·omega
  ·refine ALp.round (A:=ak [(9,3,.res (.bool true)),(9,6,.res (.bool false))] [] aA [] []) (V2:=ck (l.map cb) (min l.length 4) ks.length []) (F:=ck (l.map cb) (min l.length 4) ks.length (flat (af ks))) (lk:=[]) (lk':=[(6,6),(7,7),(8,8)]) base0 ap (LsOk.no rfl) .refl ?_
   rw[LJ]
   exact ⟨mz (by rw[hlen];simp only[Int.ofNat_eq_natCast];omega),jG (by simp only[Int.ofNat_eq_natCast];omega),⟨⟨⟨rfl,hR⟩,⟨rfl,rfl⟩,trivial⟩,⟨⟨rfl,rfl⟩,⟨rfl,rfl⟩,trivial⟩,kN (.rsl _ _ _ _ _ _ rfl),⟨rfl,rfl⟩,⟨rfl,hE⟩,trivial⟩,hq⟩
 | succ m ih=>
  intro i ks hi hne hk ha
  have hlt:i<l.length:=by omega
  have h4:i<4:=by omega
  have g:=List.getElem?_eq_getElem hlt
  revert g
  generalize l[i]=y
  intro g
  have hpk:=mh y.k (m:=10) (by decide) (by decide)
  obtain ⟨s,⟨hs,hsl,hsn⟩,hix⟩:=Ma (p:=y.k%10) (Int.emod_nonneg _ (by decide)) (Int.emod_lt_of_pos _ (by decide))
  have hv:=G7 s y
  have hvt:=KS s y
  have hvo:=Ha s y
  revert hv hvt hvo
  generalize iw s y=v
  intro hv hvt hvo
  have hst:=CB s v
  have hnew:dV le (bS s v):=⟨.of_set hs hvt hvo hsl,s,v,rfl,fun e=>absurd e hsn⟩
  obtain ⟨ks',k1,k2,k3,k4⟩:=ih (i+1) (ks++[bS s v]) (by omega) (by simp) (by rw[List.length_append,List.length_singleton];omega) (fun x hx=>by
   rcases List.mem_append.1 hx with hx|hx
   ·exact ha x hx
   ·rw[List.mem_singleton] at hx;subst hx;exact hnew)
  refine ⟨ks',k1,k2,k3,fun Q hq=> ?_⟩
  have hn:=k4 Q hq
  have hE:=gC (ks++[bS s v])
  have hfl:flat (af ks)++flat [.agg (tF s v)]=flat (af (ks++[bS s v])):=by rw[Ae,nW];rfl
  have hl5:=L8 ks
  have hw:az .i64 (Int.ofNat i+1)=Int.ofNat (i+1):=re (by omega)
  have hll:(ks++[bS s v]).length=ks.length+1:=by rw[List.length_append];rfl
  rw[hll] at hn
  obtain ⟨vt,vy,vn,vd,vk⟩:=v
  rw[bh] at hv hst
  cases ks with
  |nil=>exact absurd rfl hne
  |cons a r=>
   have h1:Nat.ble ((r.length+1+ac [AV.agg (tF s (.mk vt vy vn vd vk))])*72) 140737488355328=true:=Nat.ble_eq_true_of_le (by rw[show ac [AV.agg (tF s (.mk vt vy vn vd vk))]=1 from rfl];simp only[List.length_cons] at hk;omega)
   refine ALp.round (A:=Cq y (y.k%10) s vt vy vn 4325384 1 0 (aj vd) (af vk) (aj []) (af [.mk 4325386 7 0 s [],.mk vt vy vn vd vk])) (V2:=ck (l.map cb) (i+1) (r.length+1+1) (flat (af (a::r++[bS s (.mk vt vy vn vd vk)])))) (F:=ck (l.map cb) i r.length []) (lk:=[(6,6),(7,7),(8,37)]) (lk':=[]) base0 ap (LsOk.no rfl) .refl ?_
   show aN Tryz.prog opts0 40 _ _ (ck (l.map cb) i (r.length+1) (flat (af (a::r)))).st _
   rw[LH,hw]
   exact ⟨mz (by rw[hlen];simp only[Int.ofNat_eq_natCast];omega),mz (by simp only[Int.ofNat_eq_natCast];omega),L9 g,hpk,hix,hv,hst,br (Cx rfl h1 rfl) (br (by rw[beq_iff,hl5];rfl) ⟨⟨⟨⟨rfl,hR⟩,⟨rfl,rfl⟩,trivial⟩,⟨⟨rfl,rfl⟩,⟨rfl,rfl⟩,trivial⟩,kN (.rsl _ _ _ _ _ _ rfl),⟨rfl,rfl⟩,⟨hfl,hE⟩,trivial⟩,hn⟩)⟩
theorem rH:bX (dG Tryz.prog 8) 10=[aJ Tryz.prog 8 10]:=by kernel_rfl
end Go.Proofs.YtlljinebapfdaaaGreatDoor
namespace Go.Proofs.YtlljinebapfdaaaGreatDoor
open Go Go.RowKit
open Go.Proofs.Abs
theorem rI {h:ab} {ks:List It} (hg:hget h 8=some (.cells (flat (af ks)))):jr (aD (.mk 4325521 1 0 [] ks)) (.agg (oH (.rsl true 8 0 ks.length 5))) h:=by
 refine ⟨_,(Frz.agg (.cons (.closed _ rfl) (.cons (.closed _ rfl) (.cons (.closed _ rfl) (.cons (.closed _ rfl) (.cons (Frz.row (es:=af ks) rfl hg rfl (by rw[fx]) uU (cY ks)) .nil)))))).out, ?_, ?_⟩
 ·show ad (.agg [I 4325521,I 1,I 0,.nilsl,.fsl false (af ks)])=true
  have:=cY ks
  simp only[ad,ae,this,Bool.and_self]
 ·refine .agg ?_
  simp only[aj]
  (repeat (first|exact Wk.refl _|exact WkL.refl _|exact Wk.nil|exact Wk.row|exact WkE.refl _|exact WkL.nil|exact WkE.nil|apply Wk.agg|apply Wk.tuple|apply WkL.cons|apply Wk.rows|apply WkE.consA))
def ef:List UInt8:=[67,114,121,112,116,111,103,114,97,112,104,105,99,32,65,108,103,111,114,105,116,104,109]
def eK:List UInt8:=[67,114,121,112,116,111,103,114,97,112,104,105,99,32,85,115,97,103,101,32,77,97,115,107]
theorem wt {s:List UInt8} (hs:s∈fO) (hl:s.length≤1000) (y n:Int):TiOk (bS s (aP y n)):= .of_set hs ⟨(by decide:([]:List UInt8)∈texts),trivial⟩ (kI y n) hl
def CC (le:Int) (ks:List It):Prop:=ks≠[]∧ks.length≤7∧∀x∈ks,dV le x
theorem wu {le:Int} {a b:It} (ha:dV le a) (hb:dV le b):∀x∈[a,b],dV le x:=fun x hx=>by
 simp only[List.mem_cons,List.not_mem_nil,or_false] at hx
 rcases hx with rfl|rfl
 ·exact ha
 ·exact hb
theorem Mc {le:Int} {a b c:It} (ha:dV le a) (hb:dV le b) (hc:dV le c):∀x∈[a,b,c],dV le x:=fun x hx=>by
 simp only[List.mem_cons,List.not_mem_nil,or_false] at hx
 rcases hx with rfl|rfl|rfl
 ·exact ha
 ·exact hb
 ·exact hc
theorem rJ (le:Int) (l:List Rw) (lack:Int):ae [I 3,I le,.fsl false (l.map cb),I lack]=true:=by
 have:=oA l
 simp only[ae,ad,this,Bool.and_self]
abbrev CD (le:Int) (l:List Rw) (lack:Int) (ks:List It):Prop:=SC 8 [I 3,I le,.fsl false (l.map cb),I lack] (aD (.mk 4325521 1 0 [] ks))
set_option maxRecDepth 20000 in
theorem Md (le:Int) (l:List Rw) (lack:Int):∃ks:List It,CC le ks∧CD le l lack ks:=by
 have hR:=oA l
 have e1:=kM (.tmp 15) (.const (Value.int IntKind.i64 1)) (lack.tmod 11) 1
 have e2:=kM (.tmp 26) (.const (Value.int IntKind.i64 2)) (lack.tmod 11) 2
 have e3:=kM (.tmp 37) (.const (Value.int IntKind.i64 3)) (lack.tmod 11) 3
 have hpk:=mh lack (m:=6) (by decide) (by decide)
 obtain ⟨m,hm⟩:=Mb (p:=lack%6) (Int.emod_nonneg _ (by decide)) (Int.emod_lt_of_pos _ (by decide))
 have s0:=ws ef 5 3
 have s1:=ws dn 2 le
 have s2:=ws eK 2 m
 have t0:dV le (bS ef (aP 5 3)):=⟨wt (by decide) (by decide) 5 3,_,_,rfl,fun e=>absurd e (by decide)⟩
 have t1:dV le (bS dn (aP 2 le)):=⟨wt (by decide) (by decide) 2 le,_,_,rfl,fun _=>rfl⟩
 have t2:dV le (bS eK (aP 2 m)):=⟨wt (by decide) (by decide) 2 m,_,_,rfl,fun e=>absurd e (by decide)⟩
 have c0:=gC [bS ef (aP 5 3)]
 have neq (a b:Int) (h:a≠b):(!ah a b)=true:=by rw[beqInt_false.2 h];rfl
 by_cases h1:lack.tmod 11=1
 ·rw[h1] at e1 e2 e3
  obtain ⟨ks,k1,k2,k3,k4⟩:=rG (l:=l) (min l.length 4) 0 [bS dn (aP 2 le),bS eK (aP 2 m)] (Nat.zero_add _) (by simp) (by simp) (wu t1 t2)
  refine ⟨ks,⟨k1,k2,k3⟩, ?_⟩
  have hE:=gC ks
  have c:=gC [bS dn (aP 2 le),bS eK (aP 2 m)]
  refine fu (A:=jO [(10,jN (l.map cb) 42 2 (tF dn (aP 2 le)++tF eK (aP 2 m)) (ck (l.map cb) (min l.length 4) ks.length (flat (af ks))))] false true true (lack%6) m (.agg (tF ef (aP 5 3))) (.agg (tF dn (aP 2 le))) (.agg (tF eK (aP 2 m)))) base0 ap
   (ar (LsOk.at1 rfl rH fun st Q hs=> .seen base0.glob hs.1 (k4 Q hs.2))) (rJ le l lack) ?_
  rw[LM,h1]
  exact ⟨e1,e2,s1,e3,hpk,hm,s2,⟨⟨⟨rfl,hR⟩,⟨rfl,rfl⟩,trivial⟩,⟨⟨rfl,rfl⟩,⟨rfl,rfl⟩,trivial⟩,kN (.rsl _ _ _ _ _ _ rfl),⟨rfl,rfl⟩,⟨rfl,c⟩,trivial⟩,rI rfl⟩
 ·rw [neq _ _ h1] at e1
  by_cases h2:lack.tmod 11=2
  ·rw[h2] at e1 e2 e3
   obtain ⟨ks,k1,k2,k3,k4⟩:=rG (l:=l) (min l.length 4) 0 [bS ef (aP 5 3),bS eK (aP 2 m)] (Nat.zero_add _) (by simp) (by simp) (wu t0 t2)
   refine ⟨ks,⟨k1,k2,k3⟩, ?_⟩
   have hE:=gC ks
   have c:=gC [bS ef (aP 5 3),bS eK (aP 2 m)]
   refine fu (A:=jO [(10,jN (l.map cb) 42 2 (tF ef (aP 5 3)++tF eK (aP 2 m)) (ck (l.map cb) (min l.length 4) ks.length (flat (af ks))))] true false true (lack%6) m (.agg (tF ef (aP 5 3))) (.agg (tF dn (aP 2 le))) (.agg (tF eK (aP 2 m)))) base0 ap
    (ar (LsOk.at1 rfl rH fun st Q hs=> .seen base0.glob hs.1 (k4 Q hs.2))) (rJ le l lack) ?_
   rw[LN,h2]
   exact ⟨e1,s0,e2,e3,hpk,hm,s2,⟨⟨⟨rfl,hR⟩,⟨rfl,rfl⟩,trivial⟩,⟨⟨rfl,rfl⟩,⟨rfl,rfl⟩,trivial⟩,kN (.rsl _ _ _ _ _ _ rfl),⟨rfl,rfl⟩,⟨rfl,c⟩,trivial⟩,rI rfl⟩
  ·rw[neq _ _ h2] at e2
   by_cases h3:lack.tmod 11=3
   ·rw[h3] at e1 e2 e3
    obtain ⟨ks,k1,k2,k3,k4⟩:=rG (l:=l) (min l.length 4) 0 [bS ef (aP 5 3),bS dn (aP 2 le)] (Nat.zero_add _) (by simp) (by simp) (wu t0 t1)
    refine ⟨ks,⟨k1,k2,k3⟩, ?_⟩
    have hE:=gC ks
    have c:=gC [bS ef (aP 5 3),bS dn (aP 2 le)]
    refine fu (A:=jO [(10,jN (l.map cb) 36 2 (tF ef (aP 5 3)++tF dn (aP 2 le)) (ck (l.map cb) (min l.length 4) ks.length (flat (af ks))))] true true false (lack%6) m (.agg (tF ef (aP 5 3))) (.agg (tF dn (aP 2 le))) (.agg (tF eK (aP 2 m)))) base0 ap
     (ar (LsOk.at1 rfl rH fun st Q hs=> .seen base0.glob hs.1 (k4 Q hs.2))) (rJ le l lack) ?_
    rw[LO,h3]
    exact ⟨e1,s0,e2,s1,e3,⟨⟨⟨rfl,hR⟩,⟨rfl,rfl⟩,trivial⟩,⟨⟨rfl,rfl⟩,⟨rfl,rfl⟩,trivial⟩,kN (.rsl _ _ _ _ _ _ rfl),⟨rfl,rfl⟩,⟨rfl,c⟩,trivial⟩,rI rfl⟩
   ·rw[neq _ _ h3] at e3
    obtain ⟨ks,k1,k2,k3,k4⟩:=rG (l:=l) (min l.length 4) 0 [bS ef (aP 5 3),bS dn (aP 2 le),bS eK (aP 2 m)] (Nat.zero_add _) (by simp) (by simp) (Mc t0 t1 t2)
    refine ⟨ks,⟨k1,k2,k3⟩, ?_⟩
    have hE:=gC ks
    have c:=gC [bS ef (aP 5 3),bS dn (aP 2 le),bS eK (aP 2 m)]
    refine fu (A:=jO [(10,jN (l.map cb) 57 3 (tF ef (aP 5 3)++(tF dn (aP 2 le)++tF eK (aP 2 m))) (ck (l.map cb) (min l.length 4) ks.length (flat (af ks))))] true true true (lack%6) m (.agg (tF ef (aP 5 3))) (.agg (tF dn (aP 2 le))) (.agg (tF eK (aP 2 m)))) base0 ap
     (ar (LsOk.at1 rfl rH fun st Q hs=> .seen base0.glob hs.1 (k4 Q hs.2))) (rJ le l lack) ?_
    rw[LL]
    exact ⟨e1,s0,e2,s1,e3,hpk,hm,s2,⟨⟨⟨rfl,hR⟩,⟨rfl,rfl⟩,trivial⟩,⟨⟨rfl,rfl⟩,⟨rfl,rfl⟩,trivial⟩,kN (.rsl _ _ _ _ _ _ rfl),⟨rfl,rfl⟩,⟨rfl,c⟩,trivial⟩,rI rfl⟩
def CE:List AV→Option AV
 |a::_=>some a
 |[]=>none
noncomputable def CF:aV:=ak [] [] (de [(25,CE)]) [119,183,230,184,231] []
theorem Me (o:Ob) (M N L C:AV) (t:Int) (Q:AV→Prop):aq Tryz.prog opts0 40 CF 56 [.agg ((ai o M N L C).set 6 (I 1)),I t] [] 0 (fun v _ _=>Q v)=
  (SC 25 [AV.agg (ai {o with st:=1} M N L C)] (AV.agg (ai {o with st:=1} M N L C))∧ax (a9 Tryz.prog 51 (AV.agg (ai {o with st:=1} M N L C)) 37) (aa (!o.d1.1) (SC 25 [AV.agg (ai {o with st:=1,d0:=⟨true,t⟩,d9:=⟨true,t⟩} M N L C)] (AV.agg (ai {o with st:=1,d0:=⟨true,t⟩,d9:=⟨true,t⟩} M N L C))∧ax (a9 Tryz.prog 51 (AV.agg (ai {o with st:=1,d0:=⟨true,t⟩,d9:=⟨true,t⟩} M N L C)) 37) (ax (a9 Tryz.prog 51 (AV.agg (ai {o with st:=1,d0:=⟨true,t⟩,d9:=⟨true,t⟩} M N L C)) 37) (Q (AV.agg (ai {o with st:=1,d0:=⟨true,t⟩,d9:=⟨true,t⟩} M N L C))))) (aa (au t o.d1.2) (SC 25 [AV.agg (ai {o with st:=1,d0:=⟨true,t⟩,d9:=⟨true,t⟩} M N L C)] (AV.agg (ai {o with st:=1,d0:=⟨true,t⟩,d9:=⟨true,t⟩} M N L C))∧ax (a9 Tryz.prog 51 (AV.agg (ai {o with st:=1,d0:=⟨true,t⟩,d9:=⟨true,t⟩} M N L C)) 37) (ax (a9 Tryz.prog 51 (AV.agg (ai {o with st:=1,d0:=⟨true,t⟩,d9:=⟨true,t⟩} M N L C)) 37) (Q (AV.agg (ai {o with st:=1,d0:=⟨true,t⟩,d9:=⟨true,t⟩} M N L C))))) (aa (!o.d4.1) (SC 25 [AV.agg (ai {o with st:=1,d0:=⟨true,t⟩,d9:=⟨true,t⟩} M N L C)] (AV.agg (ai {o with st:=1,d0:=⟨true,t⟩,d9:=⟨true,t⟩} M N L C))∧ax (a9 Tryz.prog 51 (AV.agg (ai {o with st:=1,d0:=⟨true,t⟩,d9:=⟨true,t⟩} M N L C)) 37) (ax (a9 Tryz.prog 51 (AV.agg (ai {o with st:=1,d0:=⟨true,t⟩,d9:=⟨true,t⟩} M N L C)) 37) (ax (a9 Tryz.prog 51 (AV.agg (ai {o with st:=1,d0:=⟨true,t⟩,d9:=⟨true,t⟩} M N L C)) 37) (ax (a9 Tryz.prog 51 (AV.agg (ai {o with st:=2,d0:=⟨true,t⟩,d9:=⟨true,t⟩} M N L C)) 37) (ax (a9 Tryz.prog 51 (AV.agg (ai {o with st:=2,d0:=⟨true,t⟩,d9:=⟨true,t⟩} M N L C)) 37) (Q (AV.agg (ai {o with st:=2,d0:=⟨true,t⟩,d9:=⟨true,t⟩} M N L C)))))))) (aa (au t o.d4.2) (SC 25 [AV.agg (ai {o with st:=1,d0:=⟨true,t⟩,d9:=⟨true,t⟩} M N L C)] (AV.agg (ai {o with st:=1,d0:=⟨true,t⟩,d9:=⟨true,t⟩} M N L C))∧ax (a9 Tryz.prog 51 (AV.agg (ai {o with st:=1,d0:=⟨true,t⟩,d9:=⟨true,t⟩} M N L C)) 37) (ax (a9 Tryz.prog 51 (AV.agg (ai {o with st:=1,d0:=⟨true,t⟩,d9:=⟨true,t⟩} M N L C)) 37) (ax (a9 Tryz.prog 51 (AV.agg (ai {o with st:=1,d0:=⟨true,t⟩,d9:=⟨true,t⟩} M N L C)) 37) (ax (a9 Tryz.prog 51 (AV.agg (ai {o with st:=2,d0:=⟨true,t⟩,d9:=⟨true,t⟩} M N L C)) 37) (ax (a9 Tryz.prog 51 (AV.agg (ai {o with st:=2,d0:=⟨true,t⟩,d9:=⟨true,t⟩} M N L C)) 37) (Q (AV.agg (ai {o with st:=2,d0:=⟨true,t⟩,d9:=⟨true,t⟩} M N L C)))))))) (SC 25 [AV.agg (ai {o with st:=1,d0:=⟨true,t⟩,d9:=⟨true,t⟩} M N L C)] (AV.agg (ai {o with st:=1,d0:=⟨true,t⟩,d9:=⟨true,t⟩} M N L C))∧ax (a9 Tryz.prog 51 (AV.agg (ai {o with st:=1,d0:=⟨true,t⟩,d9:=⟨true,t⟩} M N L C)) 37) (ax (a9 Tryz.prog 51 (AV.agg (ai {o with st:=1,d0:=⟨true,t⟩,d9:=⟨true,t⟩} M N L C)) 37) (ax (a9 Tryz.prog 51 (AV.agg (ai {o with st:=1,d0:=⟨true,t⟩,d9:=⟨true,t⟩} M N L C)) 37) (ax (a9 Tryz.prog 51 (AV.agg (ai {o with st:=3,d0:=⟨true,t⟩,d9:=⟨true,t⟩} M N L C)) 37) (ax (a9 Tryz.prog 51 (AV.agg (ai {o with st:=3,d0:=⟨true,t⟩,d9:=⟨true,t⟩} M N L C)) 37) (Q (AV.agg (ai {o with st:=3,d0:=⟨true,t⟩,d9:=⟨true,t⟩} M N L C))))))))))))):=by kernel_rfl
noncomputable section
def rK (g:List UInt8→Bool):List AV→Option AV
 |[.str s]=>some (.bool (g s))
 |_=>none
def Mf (g:Bool→Int→Bool):List AV→Option AV
 |[.agg [.bool h,.int _ t]]=>some (.bool (g h t))
 |_=>none
def bF (b:Bool):List AV→Option AV:=fun _=>some (.bool b)
def CG:aV:=ak [] [] aA [187] []
@[simp] abbrev wv (h:Bool) (t:Int):=(AV.bool (decide (h=false)&&(ah t 0&&true)))
theorem Mg (h:Bool) (t:Int) (Q:AV→Prop):aq Tryz.prog opts0 40 CG 185 [.agg [.bool h,I t]] [] 0 (fun v _ _=>Q v)=
  (aa h (aa (!au t (Int.negSucc 1099511627775)) (aa (!au 1099511627776 t) (Q (AV.bool true)) (Q (wv h t))) (Q (wv h t))) (Q (wv h t))):=by kernel_rfl
theorem Mh (h:Bool) (a b c:Int) (Q:AV→Prop):aq Tryz.prog opts0 40 CG 193 [.agg [.bool h,I a,I b,I c]] [] 0 (fun v _ _=>Q v)=
  (aa (decide (h=false)&&(ah a 0&&(ah b 0&&(ah c 0&&true)))) (Q (AV.bool true)) (aa h (aa (!au a 1) (aa (!au 1099511627776 a) (aa (!au b 0) (aa (!au a b) (aa (!au c 1) (Q (AV.bool !au 2 c)) (Q (AV.bool false))) (Q (AV.bool false))) (Q (AV.bool false))) (Q (AV.bool false))) (Q (AV.bool false))) (Q (AV.bool false)))):=by kernel_rfl
theorem Mi (g:List UInt8→Bool) (t:Int) (s:List UInt8) (Q:AV→Prop):aq Tryz.prog opts0 40 (ak [] [] (de [(186,rK g)]) [187] []) 190 [.agg [I t,.str s]] [] 0 (fun v _ _=>Q v)=
  (aa (!au t 101) (aa (!au 110 t) (SC 186 [AV.str s] (AV.bool (g s))∧Q (AV.bool (g s))) (Q (AV.bool false))) (Q (AV.bool false))):=by kernel_rfl
theorem Mj (g g':List UInt8→Bool) (s t:List UInt8) (Q:AV→Prop):aq Tryz.prog opts0 40 (ak [] [] (de [(186,rK g),(235,rK g')]) [] []) 192 [.agg [.str s,.str t]] [] 0 (fun v _ _=>Q v)=
  (SC 235 [AV.str s] (AV.bool (g' s))∧aa (g' s) (SC 186 [AV.str t] (AV.bool (g t))∧Q (AV.bool (g t))) (Q (AV.bool false))):=by kernel_rfl
def mH (o:Ob) (M N L C:AV):List AV:= .str [49]::I 2::((ai o M N L C).drop 2).set 26 (.str [])
def Mk (g:Bool→Int→Bool) (t:List UInt8→Bool) (n l c m:Bool):aV:=ak [] [] (de [(185,Mf g),(186,rK t),(188,bF n),(189,bF l),(191,bF c),(193,bF m)]) [187] []
theorem Ml (p:Ob) (M Ns Ls Cs:List AV) (g:Bool→Int→Bool) (t:List UInt8→Bool) (n l c m:Bool) (Q:AV→Prop):aq Tryz.prog opts0 40 (Mk g t n l c m) 120 [.agg (mH p (.fsl false M) (.fsl false Ns) (.fsl false Ls) (.fsl false Cs))] [] 0 (fun v _ _=>Q v)=
  (SC 185 [AV.agg [AV.bool p.d0.1,I p.d0.2]] (AV.bool (g p.d0.1 p.d0.2))∧aa (!g p.d0.1 p.d0.2) (Q (AV.bool false)) (SC 185 [AV.agg [AV.bool p.d1.1,I p.d1.2]] (AV.bool (g p.d1.1 p.d1.2))∧aa (!g p.d1.1 p.d1.2) (Q (AV.bool false)) (SC 185 [AV.agg [AV.bool p.d2.1,I p.d2.2]] (AV.bool (g p.d2.1 p.d2.2))∧aa (!g p.d2.1 p.d2.2) (Q (AV.bool false)) (SC 185 [AV.agg [AV.bool p.d3.1,I p.d3.2]] (AV.bool (g p.d3.1 p.d3.2))∧aa (!g p.d3.1 p.d3.2) (Q (AV.bool false)) (SC 185 [AV.agg [AV.bool p.d4.1,I p.d4.2]] (AV.bool (g p.d4.1 p.d4.2))∧aa (!g p.d4.1 p.d4.2) (Q (AV.bool false)) (SC 185 [AV.agg [AV.bool p.d5.1,I p.d5.2]] (AV.bool (g p.d5.1 p.d5.2))∧aa (!g p.d5.1 p.d5.2) (Q (AV.bool false)) (SC 185 [AV.agg [AV.bool p.d6.1,I p.d6.2]] (AV.bool (g p.d6.1 p.d6.2))∧aa (!g p.d6.1 p.d6.2) (Q (AV.bool false)) (SC 185 [AV.agg [AV.bool p.d7.1,I p.d7.2]] (AV.bool (g p.d7.1 p.d7.2))∧aa (!g p.d7.1 p.d7.2) (Q (AV.bool false)) (SC 185 [AV.agg [AV.bool p.d8.1,I p.d8.2]] (AV.bool (g p.d8.1 p.d8.2))∧aa (!g p.d8.1 p.d8.2) (Q (AV.bool false)) (SC 185 [AV.agg [AV.bool p.d9.1,I p.d9.2]] (AV.bool (g p.d9.1 p.d9.2))∧aa (!g p.d9.1 p.d9.2) (Q (AV.bool false)) (SC 186 [AV.str [49]] (AV.bool (t [49]))∧aa (t [49]) (aa (!au p.3 0) (aa (!au 100 p.3) (aa (!au p.4 0) (aa (!au 100000 p.4) (aa (!au p.5 0) (aa (!au 1048575 p.5) (aa (!au 128 (Int.ofNat (ac M))) (aa (!au p.7 1) (aa (!au 6 p.7) (aa (!au p.18 0) (aa (!au 7 p.18) (SC 188 [AV.fsl false Ns,I 6,AV.func (Fn.func 186) [] []] (AV.bool n)∧aa n (SC 189 [AV.fsl false Ls,I 8,AV.func (Fn.func 190) [] []] (AV.bool l)∧aa l (SC 191 [AV.fsl false Cs,I 6,AV.func (Fn.func 192) [] []] (AV.bool c)∧aa c (SC 193 [AV.agg [AV.bool p.23,I p.24,I p.25,I p.26]] (AV.bool m)∧Q (AV.bool m)) (Q (AV.bool false))) (Q (AV.bool false))) (Q (AV.bool false))) (Q (AV.bool false))) (Q (AV.bool false))) (Q (AV.bool false))) (Q (AV.bool false))) (Q (AV.bool false))) (Q (AV.bool false))) (Q (AV.bool false))) (Q (AV.bool false))) (Q (AV.bool false))) (Q (AV.bool false))) (Q (AV.bool false))) (Q (AV.bool false))))))))))))):=by kernel_rfl
end
end Go.Proofs.YtlljinebapfdaaaGreatDoor
