import Derived.Test.YtjhggnebkfpgcaaGreatDoorQ6
import Derived.KernelRfl
namespace Go.Proofs.YtjhggnebkfpgcaaGreatDoor
set_option maxRecDepth 20000
open Go Go.RowKit _root_.Go.Proofs.Tryz
open Go.Proofs.Abs
section
variable {o:Ob} {ms ns ls:List AV} {s s':List UInt8} {t y n:Int} {d:List UInt8} {ks:List It} {Q:AExit→St→Prop}
theorem WI {C:List Cu} {p:Nat} (hb:C.length≤1000) (hp:p<C.length) (hM:ae ms=true) (hN:ae ns=true) (hL:ae ls=true)
  (hq:ALp prog opts0.glob 0 (aJ prog 81 6) (eC (.ofNat (aW s (C.take p))) (.ofNat p) C.length (aa o (.fsl false ms) (.fsl false ns) (.fsl false ls) (.rsl true 1 0 C.length 2)) (flat (C.map az)) (bp (.cus s)) (.str s'::I (.ofNat (aW s (C.take p)))::am t y n (ak d) (ap ks)) (am t y n (ak d) (ap ks))).st Q):
  ∀m i:Nat,i+m=p→ALp prog opts0.glob 0 (aJ prog 81 6) (eC (.ofNat (aW s (C.take i))) (.ofNat i) C.length (aa o (.fsl false ms) (.fsl false ns) (.fsl false ls) (.rsl true 1 0 C.length 2)) (flat (C.map az)) (bp (.cus s)) (.str s'::I (.ofNat (aW s (C.take p)))::am t y n (ak d) (ap ks)) (am t y n (ak d) (ap ks))).st Q:=by
 have hes:=fa C;have hA:ae (.str s'::I (.ofNat (aW s (C.take p)))::am t y n (ak d) (ap ks))=true:=by
  have:=fZ ⟨s',.ofNat (aW s (C.take p)),.mk t y n d ks⟩;exact this
 have hT:ae (am t y n (ak d) (ap ks))=true:=by
  have:=cG (.mk t y n d ks);exact this
 have hR:br [(0,0),(1,1),(2,2),(3,3),(4,4),(5,5)] (aa o (.fsl false ms) (.fsl false ns) (.fsl false ls) (.rsl true 1 0 C.length 2)) (aa o (.fsl false ms) (.fsl false ns) (.fsl false ls) (.rsl true 1 0 C.length 2)):=bA (o:=o) hM (.same _ hN) (.same _ hL) (.rsl _ _ _ _ _ _ rfl);intro m
 induction m with
 |zero=>
  intro i hi;rw[Nat.add_zero] at hi;subst hi;exact hq
 | succ m ih=>
  intro i hi;have hlt:i<C.length:=by omega
  have g:=List.getElem?_eq_getElem hlt;have ih:=ih (i+1) (by omega);have hle:aW s (C.take (i+1))≤aW s (C.take p):=by
   have:=pg s (C.take p) (i+1);rw[List.take_take,Nat.min_eq_left (by omega)] at this;exact this
  have hbig:aW s (C.take p)≤1000:=Nat.le_trans (pg s C p) (Nat.le_trans (tY s C) hb);clear hq;revert hA ih hle hbig;generalize aW s (C.take p)=J;intro hA ih hle hbig;rw[iR g,qY] at ih hle;revert g ih hle;generalize C[i]=x;generalize aW s (C.take i)=c;intro g ih hle;have hp:=B9 g;have hob:(dx (Int.ofNat i)&&((Int.ofNat i).toNat.blt C.length&&true))=true:=by
   simp only[dx,Bool.true_and,Bool.and_true];exact blt_iff.2 hlt
  have he:=ug (.tmp 29) (.tmp 31) x.name s;cases hx:aI x.name s with
  |false=>
   rw[hx] at ih he;rw[Nat.add_zero] at ih;refine ALp.round (A:=cu [(7,5,.ld (.str x.name)),(7,8,.res (.bool false))]) (V2:=eC (.ofNat c) (.ofNat (i+1)) C.length (aa o (.fsl false ms) (.fsl false ns) (.fsl false ls) (.rsl true 1 0 C.length 2)) (flat (C.map az)) (bp (.cus s)) (.str s'::I (.ofNat J)::am t y n (ak d) (ap ks)) (am t y n (ak d) (ap ks))) (F:=eC (.ofNat c) (.ofNat i) C.length (aa o (.fsl false ms) (.fsl false ns) (.fsl false ls) (.rsl true 1 0 C.length 2)) (flat (C.map az)) (bp (.cus s)) (.str s'::I (.ofNat J)::am t y n (ak d) (ap ks)) (am t y n (ak d) (ap ks))) (lk:=[(0,0),(1,1),(2,2),(3,3),(4,4),(5,5)]) (lk':=[(0,0),(1,1),(2,2),(3,3),(4,4),(5,5)]) base0 ar (LsOk.no rfl) .refl ?_;rw[B4 (_c':=0),dA (by omega)];exact ai (fun _=>aD hob ⟨hp,he,⟨⟨rflTwoQ,rflTwoQ,ad⟩,⟨rflTwoQ,rflTwoQ,rflTwoQ,rflTwoQ,rflTwoQ,ad⟩,hR,⟨rfl,hes⟩,⟨rfl,kD s⟩,⟨rfl,hA⟩,⟨rfl,hT⟩,rflTwoQ,ad⟩,ih⟩) fun e=>absurd e (gL hlt)
  |true=>
   rw[hx] at ih he hle;have hle:c+1≤J:=hle;have hi2:=nt (.tmp 33) (.tmp 35) (.ofNat c) (.ofNat J);rw[beqInt_false.2 (by simp only[bh];omega)] at hi2;refine ALp.round (A:=cu [(7,5,.ld (.str x.name)),(7,8,.res (.bool true)),(8,3,.res (.bool false))]) (V2:=eC (.ofNat (c+1)) (.ofNat (i+1)) C.length (aa o (.fsl false ms) (.fsl false ns) (.fsl false ls) (.rsl true 1 0 C.length 2)) (flat (C.map az)) (bp (.cus s)) (.str s'::I (.ofNat J)::am t y n (ak d) (ap ks)) (am t y n (ak d) (ap ks))) (F:=eC (.ofNat c) (.ofNat i) C.length (aa o (.fsl false ms) (.fsl false ns) (.fsl false ls) (.rsl true 1 0 C.length 2)) (flat (C.map az)) (bp (.cus s)) (.str s'::I (.ofNat J)::am t y n (ak d) (ap ks)) (am t y n (ak d) (ap ks))) (lk:=[(0,0),(1,1),(2,2),(3,3),(4,4),(5,5)]) (lk':=[(0,0),(1,1),(2,2),(3,3),(4,4),(5,5)]) base0 ar (LsOk.no rfl) .refl ?_;rw[I3,dA (p:=i) (by omega),dA (p:=c) (by omega)];exact ai (fun _=>aD hob ⟨hp,he,hi2,⟨⟨rflTwoQ,rflTwoQ,ad⟩,⟨rflTwoQ,rflTwoQ,rflTwoQ,rflTwoQ,rflTwoQ,ad⟩,hR,⟨rfl,hes⟩,⟨rfl,kD s⟩,⟨rfl,hA⟩,⟨rfl,hT⟩,rflTwoQ,ad⟩,ih⟩) fun e=>absurd e (gL hlt)
theorem WJ {l:List Cu} {p:Nat} {s tx:List UInt8} (g:l[p]? =some ⟨s,tx⟩) (x:List UInt8):(flat (l.map az)).take (0+(Int.ofNat p).toNat*2+1)++(AV.str x::(flat (l.map az)).drop (0+(Int.ofNat p).toNat*2+1+ab [AV.str x]))=flat ((b8 l p (⟨s,x⟩:Cu)).map az):=by
 obtain ⟨hp,e0⟩:=List.getElem?_eq_some_iff.1 g;have e:l=l.take p++(⟨s,tx⟩::l.drop (p+1)):=by rw[←e0,←List.drop_eq_getElem_cons hp,List.take_append_drop]
 have hg:∀e∈(l.take p).map az,e.cells.length=2:=fun e he=>by obtain ⟨_,_,rfl⟩:=List.mem_map.1 he;rfl
 have hA:(flat ((l.take p).map az)).length=p*2:=by rw[jF hg,List.length_map,List.length_take,Nat.min_eq_left (by omega)]
 have e2:flat (l.map az)=(flat ((l.take p).map az)++[.str s])++(.str tx::flat ((l.drop (p+1)).map az)):=by
  conv=>lhs;rw[e]
  rw[List.map_append,ea,List.append_assoc];rfl
 have hB:(flat ((l.take p).map az)++[AV.str s]).length=p*2+1:=by rw[List.length_append,hA];rfl
 unfold b8;rw[e2];simp only[Nat.zero_add,Int.toNat_natCast,bh,aM,List.length_singleton];rw[←hB,List.take_append_of_le_length (Nat.le_refl _),List.take_length,List.drop_append,List.drop_of_length_le (by omega),List.nil_append,Nat.add_sub_cancel_left,List.map_append,ea,List.append_assoc];rfl
theorem WK (hn:iA (.cus s)) (hM:ae ms=true) (hN:ae ns=true) (hL:ae ls=true) (tx x:List UInt8):∀ (l:List Cu) (p:Nat),l.length≤6→l[p]? =some ⟨s,tx⟩→SC 81 [.agg (aa o (.fsl false ms) (.fsl false ns) (.fsl false ls) (.fsl false (l.map az))),aN (.cus s),aK ⟨s',.ofNat (aW s (l.take p)),.mk t y n x ks⟩] (.agg (aa o (.fsl false ms) (.fsl false ns) (.fsl false ls) (.fsl false ((b8 l p (⟨s,x⟩:Cu)).map az))))
 |[],_,_,h=>absurd h (by simp)
 | a::r,p,hb,g=>by
  have hp:p<(a::r).length:=(List.getElem?_eq_some_iff.1 g).1;have hC:=iQ (a::r);have hC2:=iQ (b8 (a::r) p (⟨s,x⟩:Cu));have hes:=fa (a::r);have hes2:=fa (b8 (a::r) p (⟨s,x⟩:Cu));have htx:=WJ g x;have hpn:=B9 g;have hg:∀e∈(a::r).map az,e.cells.length=2:=fun e he=>by obtain ⟨_,_,rfl⟩:=List.mem_map.1 he;rfl
  have hlen:(0+ab (az a::r.map az))=(a::r).length:=by rw[aM,Nat.zero_add,lConQ,List.length_map,lConQ]
  have hpl:(b8 (a::r) p (⟨s,x⟩:Cu)).length=(a::r).length:=by
   unfold b8;simp only[List.length_append,List.length_take,lConQ,List.length_drop] at hp⊢;omega
  have hble:=uh (E:=(a::r).map az) (i:=p) hg (by rw[List.length_map];exact hp);have hidx:=ui (i:=p) hp;have hA:ae (.str s'::I (.ofNat (aW s ((a::r).take p)))::am t y n (ak x) (ap ks))=true:=by
   have:=fZ ⟨s',(.ofNat (aW s ((a::r).take p))),.mk t y n x ks⟩;exact this
  have hT:ae (am t y n (ak x) (ap ks))=true:=by
   have:=cG (.mk t y n x ks);exact this
  have hR {lk:List (Nat × Nat)} (h:bF lk 1=some 1):br lk (aa o (.fsl false ms) (.fsl false ns) (.fsl false ls) (.rsl true 1 0 (a::r).length 2)) (aa o (.fsl false ms) (.fsl false ns) (.fsl false ls) (.rsl true 1 0 (a::r).length 2)):=bA (o:=o) hM (.same _ hN) (.same _ hL) (.rsl _ _ _ _ _ _ h);have hask:(a7 2 (az a::r.map az)&&(Nat.ble ((0+ab (az a::r.map az))*32) 140737488355328&&true))=true:=by
   have h1:a7 2 (az a::r.map az)=true:=io hg;have h2:Nat.ble ((0+ab (az a::r.map az))*32) 140737488355328=true:=Nat.ble_eq_true_of_le (by rw[hlen];omega);rw[h1,h2];rfl
  have hlt:ay (Int.ofNat p) (Int.ofNat (a::r).length)=true:=ltInt_iff.2 (by simp only[bh];omega);have hrun:∀Q:AExit→St→Prop,Q .ret (rm (.ofNat (aW s ((a::r).take p))) (.ofNat p) (a::r).length (aa o (.fsl false ms) (.fsl false ns) (.fsl false ls) (.rsl true 1 0 (a::r).length 2)) (flat ((b8 (a::r) p (⟨s,x⟩:Cu)).map az)) (bp (.cus s)) (.str s'::I (.ofNat (aW s ((a::r).take p)))::am t y n (ak x) (ap ks)) (am t y n (ak x) (ap ks))).st→ALp prog opts0.glob 0 (aJ prog 81 6) (eC (.ofNat (aW s ((a::r).take p))) (.ofNat p) (a::r).length (aa o (.fsl false ms) (.fsl false ns) (.fsl false ls) (.rsl true 1 0 (a::r).length 2)) (flat ((a::r).map az)) (bp (.cus s)) (.str s'::I (.ofNat (aW s ((a::r).take p)))::am t y n (ak x) (ap ks)) (am t y n (ak x) (ap ks))).st Q:=fun Q hq=>by
   refine ALp.round (A:=cu [(7,5,.ld (.str s)),(7,8,.res (.bool true)),(8,3,.res (.bool true)),(9,5,.res (.str x))]) (V2:=kB (.ofNat (aW s ((a::r).take p))) 0 [] [] [] []) (F:=rm (.ofNat (aW s ((a::r).take p))) (.ofNat p) (a::r).length (aa o (.fsl false ms) (.fsl false ns) (.fsl false ls) (.rsl true 1 0 (a::r).length 2)) (flat ((b8 (a::r) p (⟨s,x⟩:Cu)).map az)) (bp (.cus s)) (.str s'::I (.ofNat (aW s ((a::r).take p)))::am t y n (ak x) (ap ks)) (am t y n (ak x) (ap ks))) (lk:=[]) (lk':=[(0,0),(1,1),(2,2),(3,3),(4,4),(5,5)]) base0 ar (LsOk.no rfl) .refl ?_;rw[WC];have hi2:=nt (.tmp 33) (.tmp 35) (.ofNat (aW s ((a::r).take p))) (.ofNat (aW s ((a::r).take p)));rw[beqInt_iff.2 rfl] at hi2;have he:=ug (.tmp 29) (.tmp 31) s s;rw[beqBytes_iff.2 rfl] at he;refine ai (fun _=>aD hidx ⟨hpn,he,hi2,l7 x,aD hidx (aD hble (aD (B8 o _ _ _ _ _) ⟨⟨⟨rflTwoQ,rflTwoQ,ad⟩,⟨rflTwoQ,rflTwoQ,rflTwoQ,rflTwoQ,rflTwoQ,ad⟩,hR rfl,⟨htx,hes2⟩,⟨rfl,kD s⟩,⟨rfl,hA⟩,⟨rfl,hT⟩,hR rfl,ad⟩,hq⟩))⟩) fun e=>by rw[hlt] at e;cases e
  refine dg (A:=aB [(13,2,.res (.bool false)),(18,2,.res (.bool false)),(20,2,.res (.bool false)),(22,2,.res (.bool false)),(24,2,.res (.bool false)),(29,2,.res (.bool false))] [(6,Jd (.ofNat (aW s ((a::r).take p))) (.ofNat p) (a::r).length (aa o (.fsl false ms) (.fsl false ns) (.fsl false ls) (.rsl true 1 0 (a::r).length 2)) (flat ((a::r).map az)) (flat ((b8 (a::r) p (⟨s,x⟩:Cu)).map az)) (bp (.cus s)) (.str s'::I (.ofNat (aW s ((a::r).take p)))::am t y n (ak x) (ap ks)) (am t y n (ak x) (ap ks)))] aR [] []) base0 ar
   (aG (LsOk.at1 rfl Cb fun st Q hs=> .seen base0.glob hs.1 (WI (C:=a::r) (p:=p) (by omega) hp hM hN hL (hrun Q hs.2) p 0 (Nat.zero_add p)))) (gy o hM hN hL hC _ _) ?_
  rw[cT,List.map_cons];rw[WB,hlen];rw[hlen] at hask;refine ⟨fc hn (j:= .nam) (by simp[kinds]) _ _,fc hn (j:= .alg) (by simp[kinds]) _ _,fc hn (j:= .len) (by simp[kinds]) _ _,fc hn (j:= .mask) (by simp[kinds]) _ _,fc hn (j:= .lnk) (by simp[kinds]) _ _,fc hn (j:= .lim) (by simp[kinds]) _ _,aD hask ⟨⟨⟨rflTwoQ,rflTwoQ,ad⟩,⟨rflTwoQ,rflTwoQ,rflTwoQ,rflTwoQ,rflTwoQ,ad⟩,bA (o:=o) hM (.same _ hN) (.same _ hL) (.rsl _ _ _ _ _ _ rfl),⟨rfl,hes⟩,⟨rfl,kD s⟩,⟨rfl,hA⟩,⟨rfl,hT⟩,rflTwoQ,ad⟩,l8 hM (.closed _ hN) (.closed _ hL) (Frz.row (es:=(b8 (a::r) p (⟨s,x⟩:Cu)).map az) rfl rfl rfl (by rw[List.length_map,hpl]) (fun e he=>by obtain ⟨_,_,rfl⟩:=List.mem_map.1 he;exact rflTwoQ) hC2) (c9 o (M:= .fsl false ms) (N:= .fsl false ns) (L:= .fsl false ls) (C:= .fsl false _) hM hN hL hC2)⟩⟩
end
theorem Cm (s:List UInt8):∀ (l:List Cu) (k j:Nat),j<(bT s l k).length→∃p tx,(bT s l k)[j]? =some (k+p)∧l[p]? =some ⟨s,tx⟩∧aW s (l.take p)=j
 |[],_,_,h=>absurd h (by simp[bT])
 | c ::r,k,j,h=>by
  have ih:=Cm s r (k+1);unfold bT at h⊢;unfold aW at ih⊢;cases hc:aI c.name s with
  |false=>
   rw[hc] at h;obtain ⟨p,tx,h1,h2,h3⟩:=ih j h;refine ⟨p+1,tx, ?_,by simpa using h2, ?_⟩
   ·rw[h1];congr 1;omega
   ·rw[List.take_succ_cons,List.filter_cons,hc];exact h3
  | true=>
   rw[hc] at h;have hn:=beqBytes_iff.1 hc;cases j with
   |zero=>
    refine ⟨0,c.text,rfl, ?_,rfl⟩;obtain ⟨nm,tx⟩:=c;simp only at hn;subst hn;rfl
   | succ j=>
    obtain ⟨p,tx,h1,h2,h3⟩:=ih j (by simpa using h);refine ⟨p+1,tx, ?_,by simpa using h2, ?_⟩
    ·show (bT s r (k+1))[j]? =_;rw[h1];congr 1;omega
    ·rw[List.take_succ_cons,List.filter_cons,hc];show (List.filter _ _).length+1=j+1;rw[h3]
theorem WL {k:Kd} (hk:dR k=true) (hn:iA k) {o:Ob} (ho:cI o) {v:It} (hv:dL v k=true) (s:List UInt8) {j:Nat} (hj:j<(aA o k).length):
  SC 81 [au o,aN k,aK ⟨s,.ofNat j,v⟩] (au (b9 o j v k)):=by
 have hM:=fA o;have hN:=eJ o;have hL:=eK o;have hC:=fg o;have one:ci k=false→jm o k=true→SC 81 [au o,aN k,aK ⟨s,.ofNat j,v⟩] (au (b9 o j v k)):=fun hm hr=>by
  have:=Cc hk hn hr hv s (i:= .ofNat j) (fun e=>by rw[hm] at e;cases e);rw[Jh hm (aA o k).length j] at this;exact this
 cases k with
 |nam=>
  unfold au ax;obtain ⟨t,y,n,d,ks⟩:=v;have hlen:(aA o .nam).length=o.names.length:=by simp[aA]
  rw[hlen] at hj;exact Wr (o:=o) (s:=s) (t:=t) (y:=y) (n:=n) (ks:=ks) hM hL hC d o.names j ho.n hj
 | lnk=>
  unfold au ax;simp only[dL,eA,Bool.and_eq_true] at hv;obtain ⟨t,y,n,d,ks⟩:=v;have hl:=hv.2;simp only[cC] at hl;have hlen:(aA o .lnk).length=o.links.length:=by simp[aA]
  rw[hlen] at hj
  match ks,hl with
  |[⟨t0,y0,n0,d0,k0⟩,⟨t1,y1,n1,d1,k1⟩],_=>
   exact Wu (o:=o) (s:=s) (t:=t) (y:=y) (n:=n) (d:=d) hM hN hC d1 t0 y0 n0 t1 y1 n1 d0 k0 k1 o.links j ho.l hj
 | cus c=>
  unfold au ax;obtain ⟨t,y,n,d,ks⟩:=v;rw[qD o c] at hj;obtain ⟨p,tx,h1,h2,h3⟩:=Cm c o.cust 0 j hj;rw[Nat.zero_add] at h1;have:=WK (o:=o) (s:=c) (s':=s) (t:=t) (y:=y) (n:=n) (ks:=ks) hn hM hN hL tx d o.cust p ho.c h2;rw[h3] at this;have hp:iw o c j=p:=by
   unfold iw;rw[List.getElem?_append_left hj,h1];rfl
  simp only[b9,hp,gg];exact this
 |alg=>exact one rfl rfl
 |len=>exact one rfl rfl
 |mask=>exact one rfl rfl
 |dat k=>exact one rfl rfl
 |lim=>exact one rfl rfl
 |_=>cases hk
noncomputable section
theorem WM (o:Ob) (M N L C:AV) (nm ch:List UInt8) (ty da:Int) (ma se:Bool) (Q:AV→Prop):aH prog opts0 40 (cu []) 77 [.agg (aa o M N L C),.agg [.str nm,I ty,.bool ma,.bool se,.str ch,.str [],I da]] [] 0 (fun v _ _=>Q v)=
 (Q (.bool true)):=by kernel_rfl
def xn (h:Bool):bz:=aB [] [] (fY [(76,fun _=>some (.bool h))]) [] []
theorem WN (o:Ob) (M N L C:AV) (nm ch:List UInt8) (ty da:Int) (ma se h:Bool) (Q:AV→Prop):aH prog opts0 40 (xn h) 77 [.agg (aa o M N L C),.agg [.str nm,I ty,.bool ma,.bool se,.str ch,.str [112],I da]] [] 0 (fun v _ _=>Q v)=
 (ac (ao o.7 1) (Q (.bool true)) (ac (ao o.7 2) (SC 76 [AV.str [112],.int IntKind.u8 97] (.bool h)∧Q (.bool h)) (Q (.bool false)))):=by kernel_rfl
theorem WO (o:Ob) (M N L C:AV) (nm ch:List UInt8) (ty da:Int) (ma se h:Bool) (Q:AV→Prop):aH prog opts0 40 (xn h) 77 [.agg (aa o M N L C),.agg [.str nm,I ty,.bool ma,.bool se,.str ch,.str [112,97],I da]] [] 0 (fun v _ _=>Q v)=
 (ac (ao o.7 1) (Q (.bool true)) (ac (ao o.7 2) (SC 76 [AV.str [112,97],.int IntKind.u8 97] (.bool h)∧Q (.bool h)) (Q (.bool false)))):=by kernel_rfl
def Cn (row:AV) (f h m:Bool) (P:List AV) (e:Int):bz:=aB [] [] (fY [(63,fun _=>some (.tuple [row,.bool f])),(76,fun _=>some (.bool h)),(77,fun _=>some (.bool m)),(65,fun _=>some (.tuple [.agg P,I e]))]) [64,78] []
abbrev iC:=(AV.tuple [AV.agg zL,I 7])
abbrev ph (D K:List AV) (i n t y:Int) (s:List UInt8):=[AV.str s,I i,I t,I y,I n,AV.fsl false D,AV.fsl false K]
abbrev pj:=(AV.tuple [AV.agg zL,I 11])
abbrev rq (C' L' M' N':AV) (p:Ob):=(aY prog 33 (AV.agg (aa p M' N' L' C')) 37)
theorem Jj (nm ch st:List UInt8) (ty da e now:Int) (ma se f h m:Bool) (s:List UInt8) (i t y n:Int) (D K:List AV) (o p:Ob) (M N L C M' N' L' C':AV) (Q:AV→Prop):aH prog opts0 40 (Cn (.agg [.str nm,I ty,.bool ma,.bool se,.str ch,.str st,I da]) f h m (aa p M' N' L' C') e) 28 [.agg (aa o M N L C),.agg (.str s::I i::am t y n D K),I now] [] 0 (fun v _ _=>Q v)=
 (SC 63 [AV.str s] (.tuple [AV.agg [AV.str nm,I ty,.bool ma,.bool se,.str ch,.str st,I da],.bool f])∧ac (!f) (Q iC) (SC 76 [AV.str ch,.int IntKind.u8 65] (.bool h)∧ac (!h) (Q iC) (ac o.27 (Q (.tuple [AV.agg zL,I 13])) (SC 77 [AV.agg (aa o M N L C),.agg [AV.str nm,I ty,.bool ma,.bool se,.str ch,.str st,I da]] (.bool m)∧ac (!m) (Q pj) (SC 65 [AV.agg (aa o M N L C),.agg [AV.str nm,I ty,.bool ma,.bool se,.str ch,.str st,I da],.agg (ph D K i n t y s)] (.tuple [AV.agg (aa p M' N' L' C'),I e])∧aw (rq C' L' M' N' p) (ac (ao e 0) (aw (aY prog 33 (.agg (aa {p with d9:=⟨true,now⟩} M' N' L' C')) 37) (Q (.tuple [AV.agg (aa {p with d9:=⟨true,now⟩} M' N' L' C'),I e]))) (aw (rq C' L' M' N' p) (Q (.tuple [AV.agg (aa p M' N' L' C'),I e]))))))))):=by kernel_rfl
def uk (row:AV) (f h m pl tw so:Bool) (Ls P:List AV):bz:=aB [] [] (fY [(63,fun _=>some (.tuple [row,.bool f])),(76,fun _=>some (.bool h)),(17,fun _=>some (.fsl false Ls)),(77,fun _=>some (.bool m)),(79,fun _=>some (.bool pl)),(80,fun _=>some (.bool tw)),(81,fun _=>some (.agg P)),(49,fun _=>some (.bool so))]) [64,78] []
abbrev rt (ch nm st:List UInt8) (da ty:Int) (se:Bool):=[AV.str nm,I ty,AV.bool true,AV.bool se,AV.str ch,AV.str st,I da]
abbrev xp:=(AV.tuple [AV.agg zL,I 1])
theorem WP (nm ch st:List UInt8) (ty da now:Int) (se f h m pl tw so:Bool) (s:List UInt8) (i t y n:Int) (D K Ls:List AV) (o p:Ob) (M N L C M' N' L' C':AV) (Q:AV→Prop):aH prog opts0 40 (uk (.agg [.str nm,I ty,.bool true,.bool se,.str ch,.str st,I da]) f h m pl tw so Ls (aa p M' N' L' C')) 29 [.agg (aa o M N L C),.agg (.str s::I i::am t y n D K),I now] [] 0 (fun v _ _=>Q v)=
 (SC 63 [AV.str s] (.tuple [AV.agg (rt ch nm st da ty se),.bool f])∧ac (!f) (Q iC) (SC 76 [AV.str ch,.int IntKind.u8 77] (.bool h)∧ac (!h) (Q iC) (ac o.27 (Q (.tuple [AV.agg zL,I 13])) (SC 17 [AV.agg (aa o M N L C),.str s] (.fsl false Ls)∧ac (ay i 0) (Q xp) (ac (!ay i (Int.ofNat (ab Ls))) (Q xp) (SC 77 [AV.agg (aa o M N L C),.agg (rt ch nm st da ty se)] (.bool m)∧ac (!m) (Q pj) (ac (aI nm dt) (ac (!ao o.25 o.24) (Q pj) (SC 79 [AV.agg (rt ch nm st da ty se),.agg [I t,I y,I n,.fsl false D,.fsl false K]] (.bool pl)∧ac (!pl) (Q iC) (SC 80 [AV.agg (aa o M N L C),.agg (ph D K i n t y s),I i] (.bool tw)∧ac tw (Q pj) (SC 81 [AV.agg (aa o M N L C),.agg (rt ch nm st da ty se),.agg (ph D K i n t y s)] (.agg (aa p M' N' L' C'))∧aw (rq C' L' M' N' p) (SC 49 [AV.agg (aa p M' N' L' C')] (.bool so)∧ac (!so) (Q iC) (aw (aY prog 33 (.agg (aa {p with d9:=⟨true,now⟩} M' N' L' C')) 37) (Q (.tuple [AV.agg (aa {p with d9:=⟨true,now⟩} M' N' L' C'),I 0])))))))) (SC 79 [AV.agg (rt ch nm st da ty se),.agg [I t,I y,I n,.fsl false D,.fsl false K]] (.bool pl)∧ac (!pl) (Q iC) (SC 80 [AV.agg (aa o M N L C),.agg (ph D K i n t y s),I i] (.bool tw)∧ac tw (Q pj) (SC 81 [AV.agg (aa o M N L C),.agg (rt ch nm st da ty se),.agg (ph D K i n t y s)] (.agg (aa p M' N' L' C'))∧aw (rq C' L' M' N' p) (SC 49 [AV.agg (aa p M' N' L' C')] (.bool so)∧ac (!so) (Q iC) (aw (aY prog 33 (.agg (aa {p with d9:=⟨true,now⟩} M' N' L' C')) 37) (Q (.tuple [AV.agg (aa {p with d9:=⟨true,now⟩} M' N' L' C'),I 0])))))))))))))):=by kernel_rfl
abbrev ru (ch nm st:List UInt8) (da ty:Int) (se:Bool):=[AV.str nm,I ty,AV.bool false,AV.bool se,AV.str ch,AV.str st,I da]
theorem Jk (nm ch st:List UInt8) (ty da now:Int) (se f h m pl tw so:Bool) (s:List UInt8) (i t y n:Int) (D K Ls:List AV) (o p:Ob) (M N L C M' N' L' C':AV) (Q:AV→Prop):aH prog opts0 40 (uk (.agg [.str nm,I ty,.bool false,.bool se,.str ch,.str st,I da]) f h m pl tw so Ls (aa p M' N' L' C')) 29 [.agg (aa o M N L C),.agg (.str s::I i::am t y n D K),I now] [] 0 (fun v _ _=>Q v)=
 (SC 63 [AV.str s] (.tuple [AV.agg (ru ch nm st da ty se),.bool f])∧ac (!f) (Q iC) (SC 76 [AV.str ch,.int IntKind.u8 77] (.bool h)∧ac (!h) (Q iC) (ac o.27 (Q (.tuple [AV.agg zL,I 13])) (SC 17 [AV.agg (aa o M N L C),.str s] (.fsl false Ls)∧ac (ay i 0) (Q xp) (ac (!ay i (Int.ofNat (ab Ls))) (Q xp) (SC 77 [AV.agg (aa o M N L C),.agg (ru ch nm st da ty se)] (.bool m)∧ac (!m) (Q pj) (ac (aI nm dt) (ac (!ao o.25 o.24) (Q pj) (SC 79 [AV.agg (ru ch nm st da ty se),.agg [I t,I y,I n,.fsl false D,.fsl false K]] (.bool pl)∧ac (!pl) (Q iC) (SC 81 [AV.agg (aa o M N L C),.agg (ru ch nm st da ty se),.agg (ph D K i n t y s)] (.agg (aa p M' N' L' C'))∧aw (rq C' L' M' N' p) (SC 49 [AV.agg (aa p M' N' L' C')] (.bool so)∧ac (!so) (Q iC) (aw (aY prog 33 (.agg (aa {p with d9:=⟨true,now⟩} M' N' L' C')) 37) (Q (.tuple [AV.agg (aa {p with d9:=⟨true,now⟩} M' N' L' C'),I 0]))))))) (SC 79 [AV.agg (ru ch nm st da ty se),.agg [I t,I y,I n,.fsl false D,.fsl false K]] (.bool pl)∧ac (!pl) (Q iC) (SC 81 [AV.agg (aa o M N L C),.agg (ru ch nm st da ty se),.agg (ph D K i n t y s)] (.agg (aa p M' N' L' C'))∧aw (rq C' L' M' N' p) (SC 49 [AV.agg (aa p M' N' L' C')] (.bool so)∧ac (!so) (Q iC) (aw (aY prog 33 (.agg (aa {p with d9:=⟨true,now⟩} M' N' L' C')) 37) (Q (.tuple [AV.agg (aa {p with d9:=⟨true,now⟩} M' N' L' C'),I 0]))))))))))))):=by kernel_rfl
end
set_option maxRecDepth 20000
theorem nz:SC 76 [.str [],.int .u8 65] (.bool false):=aT rfl (by kernel_rfl) rfl
theorem nA:SC 76 [.str [],.int .u8 77] (.bool false):=aT rfl (by kernel_rfl) rfl
theorem nB:SC 76 [.str [],.int .u8 68] (.bool false):=aT rfl (by kernel_rfl) rfl
theorem WQ:SC 76 [.str [77],.int .u8 65] (.bool false):=aT rfl (by kernel_rfl) rfl
theorem WR:SC 76 [.str [77],.int .u8 77] (.bool true):=aT rfl (by kernel_rfl) rfl
theorem WS:SC 76 [.str [77],.int .u8 68] (.bool false):=aT rfl (by kernel_rfl) rfl
theorem Jl:SC 76 [.str [65,77],.int .u8 65] (.bool true):=aT rfl (by kernel_rfl) rfl
theorem Jm:SC 76 [.str [65,77],.int .u8 77] (.bool true):=aT rfl (by kernel_rfl) rfl
theorem Jn:SC 76 [.str [65,77],.int .u8 68] (.bool false):=aT rfl (by kernel_rfl) rfl
theorem rv:SC 76 [.str [65,77,68],.int .u8 65] (.bool true):=aT rfl (by kernel_rfl) rfl
theorem rx:SC 76 [.str [65,77,68],.int .u8 77] (.bool true):=aT rfl (by kernel_rfl) rfl
theorem ry:SC 76 [.str [65,77,68],.int .u8 68] (.bool true):=aT rfl (by kernel_rfl) rfl
theorem WT:SC 76 [.str [112],.int .u8 97] (.bool false):=aT rfl (by kernel_rfl) rfl
theorem WU:SC 76 [.str [112,97],.int .u8 97] (.bool true):=aT rfl (by kernel_rfl) rfl
theorem WV:∀k:Kd,SC 76 [.str (wC k),.int .u8 65] (.bool (dl (gJ k)))
 | .nam=>rv
 | .lnk=>rv
 | .lim=>rv
 | .cus _=>rv
 | .mask=>WQ
 | .dat 0=>nz
 | .dat 1=>Jl
 | .dat 2=>rv
 | .dat 3=>rv
 | .dat 4=>Jl
 | .dat (_+5)=>nz
 | .uid=>nz
 | .typ=>nz
 | .alg=>nz
 | .len=>nz
 | .sta=>nz
 | .why=>nz
theorem WW:∀k:Kd,SC 76 [.str (wC k),.int .u8 77] (.bool (dl (eh k)))
 | .nam=>rx
 | .lnk=>rx
 | .lim=>rx
 | .cus _=>rx
 | .mask=>WR
 | .dat 0=>nA
 | .dat 1=>Jm
 | .dat 2=>rx
 | .dat 3=>rx
 | .dat 4=>Jm
 | .dat (_+5)=>nA
 | .uid=>nA
 | .typ=>nA
 | .alg=>nA
 | .len=>nA
 | .sta=>nA
 | .why=>nA
theorem jY:∀k:Kd,SC 76 [.str (wC k),.int .u8 68] (.bool (dl (dm k)))
 | .nam=>ry
 | .lnk=>ry
 | .lim=>ry
 | .cus _=>ry
 | .mask=>WS
 | .dat 0=>nB
 | .dat 1=>Jn
 | .dat 2=>ry
 | .dat 3=>ry
 | .dat 4=>Jn
 | .dat (_+5)=>nB
 | .uid=>nB
 | .typ=>nB
 | .alg=>nB
 | .len=>nB
 | .sta=>nB
 | .why=>nB
def ei (o:Ob):List UInt8→Bool
 |[]=>true
 |[_]=>ao o.st 1
 |_=>ao o.st 1||ao o.st 2
theorem WX:∀k:Kd,dK k=[]∨dK k=[112]∨dK k=[112,97]
 | .dat 1=> .inr (.inl rfl)
 | .dat 2=> .inr (.inl rfl)
 | .dat 3=> .inr (.inr rfl)
 | .dat 4=> .inr (.inr rfl)
 | .dat 0=> .inl rfl
 | .dat (_+5)=> .inl rfl
 | .mask=> .inr (.inl rfl)
 | .nam=> .inl rfl
 | .lnk=> .inl rfl
 | .lim=> .inl rfl
 | .cus _=> .inl rfl
 | .uid=> .inl rfl
 | .typ=> .inl rfl
 | .alg=> .inl rfl
 | .len=> .inl rfl
 | .sta=> .inl rfl
 | .why=> .inl rfl
theorem jr (o:Ob) (k:Kd):SC 77 [au o,aN k] (.bool (ei o (dK k))):=by
 have hcl:ae [au o,aN k]=true:=cS o (by simp[ae,BW]);rcases WX k with h|h|h
 ·unfold au ax aN bp at*
  rw[h] at hcl⊢;refine bQ (A:=cu []) base0 ar (aG (LsOk.no rfl)) hcl rfl ?_;rw[WM];rfl
 ·unfold au ax aN bp at*
  rw[h] at hcl⊢;refine bQ (A:=xn false) base0 ar (aG (LsOk.no rfl)) hcl rfl ?_;rw[WN];unfold ei;refine ai (fun e=> ?_) fun e=>ai (fun e2=>⟨WT, ?_⟩) fun e2=> ?_
  all_goals first|rw[e]|skip
  all_goals rfl
 ·unfold au ax aN bp at*
  rw[h] at hcl⊢;refine bQ (A:=xn true) base0 ar (aG (LsOk.no rfl)) hcl rfl ?_;rw[WO];unfold ei;refine ai (fun e=> ?_) fun e=>ai (fun e2=>⟨WU, ?_⟩) fun e2=> ?_
  ·rw[e];rfl
  ·rw[e,e2];rfl
  ·rw[e,e2];rfl
theorem WY (o:Ob):∀k:Kd,dl (gJ k)=true→dz o (gJ k)=ei o (dK k)
 | .nam,h=>rfl
 | .lnk,h=>rfl
 | .lim,h=>rfl
 | .cus _,h=>rfl
 | .mask,h=>by cases h
 | .dat 0,h=>by cases h
 | .dat 1,h=>rfl
 | .dat 2,h=>rfl
 | .dat 3,h=>rfl
 | .dat 4,h=>rfl
 | .dat (_+5),h=>by cases h
 | .uid,h=>by cases h
 | .typ,h=>by cases h
 | .alg,h=>by cases h
 | .len,h=>by cases h
 | .sta,h=>by cases h
 | .why,h=>by cases h
theorem WZ (o:Ob):∀k:Kd,dl (eh k)=true→dz o (eh k)=(ei o (dK k)&&(match k with| .lim=>ao o.lc o.lt|_=>true))
 | .nam,h=>rfl
 | .lnk,h=>rfl
 | .lim,h=>rfl
 | .cus _,h=>rfl
 | .mask,h=>(Bool.and_true _).symm
 | .dat 0,h=>by cases h
 | .dat 1,h=>(Bool.and_true _).symm
 | .dat 2,h=>(Bool.and_true _).symm
 | .dat 3,h=>(Bool.and_true _).symm
 | .dat 4,h=>(Bool.and_true _).symm
 | .dat (_+5),h=>by cases h
 | .uid,h=>by cases h
 | .typ,h=>by cases h
 | .alg,h=>by cases h
 | .len,h=>by cases h
 | .sta,h=>by cases h
 | .why,h=>by cases h
theorem W0 {c:Bool} {o:Ob} (ho:cI o) (hb:(gq o).length≤90000) {a:At} (hc:SC 114 [.str a.name] (.bool c)) (hcu:qZ c a.name o) (hg:∀k,jQ o k) (ha:cY a.v) {k:Kd} (hk:ec c a.name=some k) (hs:dR k=true):SC 65 [au o,aN k,aK a] (cJ (fR o k a)):=by
 have hof:=w5 ho hb a.name;rw[wX hcu] at hof;unfold jS at hof;rw[hk] at hof
 dsimp only at hof
 have hn:=Cl hcu.t hk;have hnm:=(A9 hk).2;obtain ⟨s,i,v⟩:=a;simp only at hof hk hnm hc ha;cases hm:ci k with
 | true=>exact WG hof hnm.symm hm hs hn (hg k) (fun c' e=>by
   subst e;obtain ⟨e1,e2⟩:=Ji hk;rw[e1,e2] at hc;exact hc) i v ha
 |false=>exact WH hof hnm.symm hm hs hn i v ha
theorem W1 {o:Ob} {k:Kd} {j:Nat} {v:It} (h:(eg o k j v).2≠0):(eg o k j v).1=zO:=by
 unfold eg at*
 cases hs:gk (b9 o j v k) with
 |true=>rw[hs] at h;exact absurd rfl h
 |false=>rfl
theorem W2 {o:Ob} {k:Kd} {a:At} (h:(fR o k a).2≠0):(fR o k a).1=zO:=by
 unfold fR at*
 generalize ao a.idx (match ci k with|true=> .ofNat (dk o k)|false=>0)=b1 at*
 cases b1 with
 |false=>rfl
 | true=>
  generalize (!ci k&&ay 0 (.ofNat (dk o k)))=b2 at*
  cases b2 with
  |true=>rfl
  | false=>
   generalize eA o a.v k=b3 at*
   cases b3 with
   |false=>rfl
   | true=>
    generalize jm o k=b4 at*
    cases b4 with
    |false=>rfl
    |true=>
     generalize jP o k a.v (-1)=b5 at*
     cases b5 with
     |true=>rfl
     |false=>exact W1 h
theorem W3 {c:Bool} {o:Ob} (ho:cI o) (hb:(gq o).length≤90000) {a:At} {now:Int} (hc:SC 114 [.str a.name] (.bool c)) (hcu:qZ c a.name o) (hg:∀k,jQ o k) (ha:cY a.v):SC 28 [au o,aK a,I now] (cJ (hZ c o a now)):=by
 have hf:=Ci hc;rw[Ch hcu.t] at hf;have hcl:=wo o a (c:=[I now]) rfl;unfold hZ;cases hk:ec c a.name with
 |none=>
  rw[hk] at hf;obtain ⟨s,i,⟨t,y,n,d,ks⟩⟩:=a;rw[cT] at hcl⊢;refine bG (A:=Cn o5 false false false (ax o) 0) base0 ar (aG (LsOk.no rfl)) hcl ?_;unfold au ax o5;rw[Jj];exact ⟨hf,mT rfl (bd 7)⟩
 |some k=>
  rw[hk] at hf
  dsimp only at⊢
  have hha:=WV k;have hmy:=jr o k;have hlay:=fun hs=>W0 ho hb hc hcu hg ha hk hs;have hwh:=WY o k;have hmb:=W2 (o:=o) (k:=k) (a:=a);have cK:=Hl (k:=k);generalize fR o k a=la at hlay hmb⊢;obtain ⟨p,e'⟩:=la;have hfp:=fq p;have hfp2:=fq {p with d9:=⟨true,now⟩};obtain ⟨s,i,⟨t,y,n,d,ks⟩⟩:=a;rw[cT] at hcl hlay⊢;refine bG (A:=Cn (aN k) true (dl (gJ k)) (ei o (dK k)) (ax p) e') base0 ar (aG (LsOk.no rfl)) hcl ?_;unfold cJ au at hlay;unfold au at*
  unfold ax aN bp at*
  rw[Jj];refine ⟨hf,mF rfl ⟨hha,ai (fun e=> ?_) fun e=>ai (fun e1=> ?_) fun e1=>⟨hmy,ai (fun e2=> ?_) fun e2=>⟨hlay ?_,aD hfp (ai (fun e3=>aD hfp2 ?_) fun e3=>aD hfp ?_)⟩⟩⟩⟩
  ·rw[Bool.not_eq_true'] at e;rw[e];exact bd 7
  ·rw[Bool.not_eq_false'] at e;rw[e,e1];exact bd 13
  ·rw[Bool.not_eq_false'] at e;rw[Bool.not_eq_true'] at e2;rw[e,e1,hwh e,e2];exact bd 11
  ·rw[Bool.not_eq_false'] at e;exact cK e
  ·rw[Bool.not_eq_false'] at e e2;rw[e,e1,hwh e,e2];dsimp only[gn];rw[e3];rw[beqInt_iff.1 e3];exact gm {p with d9:=⟨true,now⟩} 0
  ·rw[Bool.not_eq_false'] at e e2;rw[e,e1,hwh e,e2];dsimp only[gn];rw[e3];have:=hmb (beqInt_false.1 e3);dsimp only at this;rw[this];exact gm zO e'
theorem W4 {c:Bool} {o:Ob} (ho:cI o) (hb:(gq o).length≤90000) {a:At} {now:Int} (hc:SC 114 [.str a.name] (.bool c)) (hcu:qZ c a.name o) (hg:∀k,jQ o k) (ha:cY a.v):SC 29 [au o,aK a,I now] (cJ (ia c o a now)):=by
 have hf:=Ci hc;rw[Ch hcu.t] at hf;have hcl:=wo o a (c:=[I now]) rfl;have hof:=w5 ho hb a.name;rw[wX hcu] at hof;unfold ia;unfold jS at hof;cases hk:ec c a.name with
 |none=>
  rw[hk] at hf;obtain ⟨s,i,⟨t,y,n,d,ks⟩⟩:=a;rw[cT] at hcl⊢;refine bG (A:=uk o5 false false false false false false [] (ax o)) base0 ar (aG (LsOk.no rfl)) hcl ?_;unfold au ax o5;rw[Jk];exact ⟨hf,mT rfl (bd 7)⟩
 | some k=>
  rw[hk] at hf hof
  dsimp only at hof⊢
  have hn:=Cl hcu.t hk;have hnm:=(A9 hk).2;have hha:=WW k;have hmy:=jr o k;have hwh:=WZ o k;have cK:=A8 (k:=k);obtain ⟨s,i,v⟩:=a;simp only at hof hk hnm hc ha;have hpl:dl (eh k)=true→SC 79 [aN k,aX v] (.bool (dL v k)):=fun e=>BX (cK e) hn v ha;have htw:=IZ hof (hg k) i v i;have hwi:dl (eh k)=true→ay i 0=false→ay i (.ofNat (aA o k).length)=true→dL v k=true→SC 81 [au o,aN k,aK ⟨s,i,v⟩] (au (b9 o i.toNat v k)):=fun e h1 h2 hr=>by
   have h1:=ltInt_false.1 h1;have h2:=ltInt_iff.1 h2;simp only[bh] at h1 h2;have:=WL (cK e) hn ho hr s (j:=i.toNat) (by omega);rw[show (Int.ofNat i.toNat:Int)=i from by simp only[bh];omega] at this
   exact this
  have hso:=AY (b9 o i.toNat v k);have hle:=Ck (o:=o) (k:=k) (v:=v) (j:=i.toNat) rfl;have hlen:ab ((bo s (aA o k) 0).map aK)=(aA o k).length:=by rw[aM,List.length_map,gK]
  have hlim:k≠ .lim→aI (aC k) (aC .lim)=true→False:=fun h1 h2=>by
   cases hm:ci k with
   |true=>rw[Cj hm hn] at h2;cases h2
   | false=>
    have:=beqBytes_iff.1 h2;cases k with
    |lim=>exact h1 rfl
    |dat j=>
     simp only[aC] at this
     match j,this with
     |0,h=>cases h
     |1,h=>cases h
     |2,h=>cases h
     |3,h=>cases h
     |4,h=>cases h
     |5,h=>cases h
     |6,h=>cases h
     |7,h=>cases h
     |8,h=>cases h
     |9,h=>cases h
     |_+10,h=>cases h
    |cus c=>cases hm
    |_=>cases this
  have hri:k≠ .lim→eA o v k=dL v k:=fun h=>Jg h;have hfp:=fq (b9 o i.toNat v k);have hfp2:=fq {b9 o i.toNat v k with d9:=⟨true,now⟩};subst hnm;have hch:(gk (b9 o i.toNat v k)=false→gn (eg o k i.toNat v) now=(zO,7))∧(gk (b9 o i.toNat v k)=true→gn (eg o k i.toNat v) now=({b9 o i.toNat v k with d9:=⟨true,now⟩},0)):=by
   constructor
   ·intro e;rw[hle.1 e];rfl
   ·intro e;rw[hle.2 e];rfl
  have hrig:ay i 0=false→ay i (.ofNat (aA o k).length)=true→eA o v k=dL v k:=fun h1 h2=>by
   by_cases hk2:k= .lim
   ·subst hk2;have hl:o.lh=true:=by
     cases hl:o.lh with
     |true=>rfl
     | false=>
      have h1:=ltInt_false.1 h1;have h2:=ltInt_iff.1 h2;have h3:(aA o .lim).length=0:=by
       show (cV o.lh (qw o)).length=0;rw[hl];rfl
      rw[h3] at h2;simp only[bh] at h1 h2;omega
    obtain ⟨t,y,n,d,ks⟩:=v;simp only[eA,dL,hl,Bool.true_or,Bool.and_true,cC]
   ·exact hri hk2
  have htwi:jP o k v i=(ci k&&gI v i (aA o k) 0):=rfl;rw[htwi];generalize gn (eg o k i.toNat v) now=ch at hch⊢;generalize b9 o i.toNat v k=p at hwi hso hch hfp hfp2;generalize eA o v k=rk at hrig⊢;cases hm:ci k with
  | true=>
   have hlm:=Cj hm hn;obtain ⟨t,y,n,d,ks⟩:=v;rw[bJ] at hpl;rw[cT] at hcl htw hwi⊢;refine bG (A:=uk (aN k) true (dl (eh k)) (ei o (dK k)) (dL (.mk t y n d ks) k) (gI (.mk t y n d ks) i (aA o k) 0) (gk p) ((bo (aC k) (aA o k) 0).map aK) (ax p)) base0 ar (aG (LsOk.no rfl)) hcl ?_;have hwk:dl (eh k)=true→dz o (eh k)=ei o (dK k):=fun e=>by
    rw[hwh e];cases k with
    |lim=>cases hm
    |_=>exact Bool.and_true _
   unfold xm aN bp at hf
   dsimp only at hf
   unfold au at*
   unfold ax aN bp at*
   rw[hm] at hf hpl hwi hmy⊢;rw[WP,hlen];refine ⟨hf,mF rfl ⟨hha,ai (fun e=> ?_) fun e=>ai (fun e1=> ?_) fun e1=>⟨hof,ai (fun e2=> ?_) fun e2=>ai (fun e3=> ?_) fun e3=>⟨hmy,ai (fun e4=> ?_) fun e4=>mF hlm ⟨hpl ?_,ai (fun e5=> ?_) fun e5=>⟨htw,ai (fun e6=> ?_) fun e6=>⟨hwi ?_ ?_ ?_ ?_,aD hfp ⟨hso,ai (fun e7=> ?_) fun e7=>aD hfp2 ?_⟩⟩⟩⟩⟩⟩⟩⟩
   all_goals try (rw[Bool.not_eq_false'] at e)
   all_goals try (rw[Bool.not_eq_false'] at e3)
   all_goals try (rw[Bool.not_eq_false'] at e4)
   all_goals try (rw[Bool.not_eq_false'] at e5)
   all_goals try (rw[Bool.not_eq_false'] at e7)
   ·rw[Bool.not_eq_true'] at e;rw[e];exact bd 7
   ·rw[e,e1];exact bd 13
   ·rw[e,e1,e2];exact bd 1
   ·rw[e,e1,e2,e3];exact bd 1
   ·rw[Bool.not_eq_true'] at e4;rw[e,e1,e2,e3,hwk e,e4];exact bd 11
   ·exact e
   ·rw[Bool.not_eq_true'] at e5;rw[e,e1,e2,e3,hwk e,e4,hrig e2 e3,e5];exact bd 7
   ·rw[e,e1,e2,e3,hwk e,e4,hrig e2 e3,e5,e6];exact bd 11
   ·exact e
   ·exact e2
   ·exact e3
   ·exact e5
   ·rw[Bool.not_eq_true'] at e7;rw[e,e1,e2,e3,hwk e,e4,hrig e2 e3,e5,e6];dsimp only[Bool.not_true,Bool.or_false];rw[hch.1 e7];exact bd 7
   ·rw[e,e1,e2,e3,hwk e,e4,hrig e2 e3,e5,e6];dsimp only[Bool.not_true,Bool.or_false];rw[hch.2 e7];exact gm {p with d9:=⟨true,now⟩} 0
  | false=>
   obtain ⟨t,y,n,d,ks⟩:=v;rw[bJ] at hpl;rw[cT] at hcl htw hwi⊢;refine bG (A:=uk (aN k) true (dl (eh k)) (ei o (dK k)) (dL (.mk t y n d ks) k) false (gk p) ((bo (aC k) (aA o k) 0).map aK) (ax p)) base0 ar (aG (LsOk.no rfl)) hcl ?_;unfold xm aN bp at hf
   dsimp only at hf
   unfold au at*
   unfold ax aN bp at*
   rw[hm] at hf hpl hwi hmy⊢;rw[Jk,hlen];refine ⟨hf,mF rfl ⟨hha,ai (fun e=> ?_) fun e=>ai (fun e1=> ?_) fun e1=>⟨hof,ai (fun e2=> ?_) fun e2=>ai (fun e3=> ?_) fun e3=>⟨hmy,ai (fun e4=> ?_) fun e4=>ai (fun el=>ai (fun e5=> ?_) fun e5=>⟨hpl ?_,ai (fun e6=> ?_) fun e6=>⟨hwi ?_ ?_ ?_ ?_,aD hfp ⟨hso,ai (fun e7=> ?_) fun e7=>aD hfp2 ?_⟩⟩⟩) (fun el=>⟨hpl ?_,ai (fun e6=> ?_) fun e6=>⟨hwi ?_ ?_ ?_ ?_,aD hfp ⟨hso,ai (fun e7=> ?_) fun e7=>aD hfp2 ?_⟩⟩⟩)⟩⟩⟩⟩
   all_goals try (rw[Bool.not_eq_false'] at e)
   all_goals try (rw[Bool.not_eq_false'] at e3)
   all_goals try (rw[Bool.not_eq_false'] at e4)
   all_goals try (rw[Bool.not_eq_false'] at e5)
   all_goals try (rw[Bool.not_eq_false'] at e6)
   all_goals try (rw[Bool.not_eq_false'] at e7)
   ·rw[Bool.not_eq_true'] at e;rw[e];exact bd 7
   ·rw[e,e1];exact bd 13
   ·rw[e,e1,e2];exact bd 1
   ·rw[e,e1,e2,e3];exact bd 1
   ·rw[Bool.not_eq_true'] at e4;rw[e,e1,e2,e3,hwh e,e4];exact bd 11
   -- a limit
   ·rw[Bool.not_eq_true'] at e5;have hk2:k= .lim:=Classical.byContradiction fun h=>hlim h el;subst hk2;rw[e,e1,e2,e3,hwh e,e4];dsimp only[Bool.true_and];rw[e5];exact bd 11
   ·exact e
   ·rw[Bool.not_eq_true'] at e6;have hk2:k= .lim:=Classical.byContradiction fun h=>hlim h el;subst hk2;rw[e,e1,e2,e3,hwh e,e4];dsimp only[Bool.true_and];rw[e5,hrig e2 e3,e6];exact bd 7
   ·exact e
   ·exact e2
   ·exact e3
   ·exact e6
   ·rw[Bool.not_eq_true'] at e7;have hk2:k= .lim:=Classical.byContradiction fun h=>hlim h el;subst hk2;rw[e,e1,e2,e3,hwh e,e4];dsimp only[Bool.true_and];rw[e5,hrig e2 e3,e6];dsimp only[Bool.false_and,Bool.not_true,Bool.or_false];rw[hch.1 e7];exact bd 7
   ·have hk2:k= .lim:=Classical.byContradiction fun h=>hlim h el;subst hk2;rw[e,e1,e2,e3,hwh e,e4];dsimp only[Bool.true_and];rw[e5,hrig e2 e3,e6];dsimp only[Bool.false_and,Bool.not_true,Bool.or_false];rw[hch.2 e7];exact gm {p with d9:=⟨true,now⟩} 0
   -- another one
   ·exact e
   ·rw[Bool.not_eq_true'] at e6;have hwk:dz o (eh k)=ei o (dK k):=by
     rw[hwh e];cases k with
     |lim=>cases el
     |_=>exact Bool.and_true _
    rw[e,e1,e2,e3,hwk,e4,hrig e2 e3,e6];exact bd 7
   ·exact e
   ·exact e2
   ·exact e3
   ·exact e6
   ·rw[Bool.not_eq_true'] at e7;have hwk:dz o (eh k)=ei o (dK k):=by
     rw[hwh e];cases k with
     |lim=>cases el
     |_=>exact Bool.and_true _
    rw[e,e1,e2,e3,hwk,e4,hrig e2 e3,e6];dsimp only[Bool.false_and,Bool.not_true,Bool.or_false];rw[hch.1 e7];exact bd 7
   ·have hwk:dz o (eh k)=ei o (dK k):=by
     rw[hwh e];cases k with
     |lim=>cases el
     |_=>exact Bool.and_true _
    rw[e,e1,e2,e3,hwk,e4,hrig e2 e3,e6];dsimp only[Bool.false_and,Bool.not_true,Bool.or_false];rw[hch.2 e7];exact gm {p with d9:=⟨true,now⟩} 0
noncomputable section
def dB (l:List (Nat × Nat × eW)) (ls:List (Nat × bV)) (row:AV) (f h m:Bool) (Ls:List AV):bz:=aB l ls (fY [(63,fun _=>some (.tuple [row,.bool f])),(76,fun _=>some (.bool h)),(17,fun _=>some (.fsl false Ls)),(77,fun _=>some (.bool m))]) [64,78] []
theorem W5 (nm ch st s:List UInt8) (ty da i now:Int) (ma se:Bool) (Ls:List AV) (o:Ob) (M N L C:AV) (Q:AV→Prop):aH prog opts0 40 (dB [] [] (.agg [.str nm,I ty,.bool ma,.bool se,.str ch,.str st,I da]) false false false Ls) 31 [.agg (aa o M N L C),.str s,I i,I now] [] 0 (fun v _ _=>Q v)=
 (SC 63 [AV.str s] (.tuple [AV.agg [AV.str nm,I ty,.bool ma,.bool se,.str ch,.str st,I da],.bool false])∧Q (.tuple [AV.agg zL,I 7])):=by kernel_rfl
theorem W6 (nm ch st s:List UInt8) (ty da i now:Int) (ma se:Bool) (Ls:List AV) (o:Ob) (M N L C:AV) (Q:AV→Prop):aH prog opts0 40 (dB [] [] (.agg [.str nm,I ty,.bool ma,.bool se,.str ch,.str st,I da]) true false false Ls) 31 [.agg (aa o M N L C),.str s,I i,I now] [] 0 (fun v _ _=>Q v)=
 (SC 63 [AV.str s] (.tuple [AV.agg [AV.str nm,I ty,.bool ma,.bool se,.str ch,.str st,I da],.bool true])∧SC 76 [AV.str ch,.int IntKind.u8 68] (.bool false)∧Q (.tuple [AV.agg zL,I 7])):=by kernel_rfl
abbrev jt:=[AV.str [65,77,68],AV.int IntKind.u8 68]
abbrev iY:=(AV.tuple [AV.agg zL,I 11])
abbrev ju:=(AV.tuple [AV.agg zL,I 13])
abbrev jZ:=(AV.tuple [AV.agg zL,I 1])
abbrev Jo:=[AV.str dt,I 1,AV.bool false,AV.bool true,AV.str [65,77,68],AV.str [],I (Int.negSucc 0)]
theorem W7 (i now:Int) (m:Bool) (Ls:List AV) (o:Ob) (M N L C:AV) (Q:AV→Prop):aH prog opts0 40 (dB [] [] (aN .lim) true true m Ls) 31 [.agg (aa o M N L C),.str (aC .lim),I i,I now] [] 0 (fun v _ _=>Q v)=
 (SC 63 [AV.str dt] (.tuple [AV.agg Jo,.bool true])∧SC 76 jt (.bool true)∧ac o.27 (Q ju) (SC 17 [AV.agg (aa o M N L C),.str dt] (.fsl false Ls)∧ac (ay i 0) (Q jZ) (ac (!ay i (Int.ofNat (ab Ls))) (Q jZ) (SC 77 [AV.agg (aa o M N L C),.agg Jo] (.bool m)∧ac (!m) (Q iY) (ac (!ao o.25 o.24) (Q iY) (aw (aY prog 33 (.agg (aa {o with lh:=false,lt:=0,lc:=0,lu:=0,d9:=⟨true,now⟩} M N L C)) 37) (Q (.tuple [AV.agg (aa {o with lh:=false,lt:=0,lc:=0,lu:=0,d9:=⟨true,now⟩} M N L C),I 0])))))))):=by kernel_rfl
abbrev Jp:=[AV.str kN,I 9,AV.bool false,AV.bool true,AV.str [65,77,68],AV.str [112],I 2]
theorem W8 (i now:Int) (m:Bool) (Ls:List AV) (o:Ob) (M N L C:AV) (Q:AV→Prop):aH prog opts0 40 (dB [] [] (aN (.dat 2)) true true m Ls) 31 [.agg (aa o M N L C),.str (aC (.dat 2)),I i,I now] [] 0 (fun v _ _=>Q v)=
 (SC 63 [AV.str kN] (.tuple [AV.agg Jp,.bool true])∧SC 76 jt (.bool true)∧ac o.27 (Q ju) (SC 17 [AV.agg (aa o M N L C),.str kN] (.fsl false Ls)∧ac (ay i 0) (Q jZ) (ac (!ay i (Int.ofNat (ab Ls))) (Q jZ) (SC 77 [AV.agg (aa o M N L C),.agg Jp] (.bool m)∧ac (!m) (Q iY) (aw (aY prog 33 (.agg (aa {o with d2:=⟨false,0⟩,d9:=⟨true,now⟩} M N L C)) 37) (Q (.tuple [AV.agg (aa {o with d2:=⟨false,0⟩,d9:=⟨true,now⟩} M N L C),I 0]))))))):=by kernel_rfl
abbrev Jq:=[AV.str kM,I 9,AV.bool false,AV.bool true,AV.str [65,77,68],AV.str [112,97],I 3]
theorem W9 (i now:Int) (m:Bool) (Ls:List AV) (o:Ob) (M N L C:AV) (Q:AV→Prop):aH prog opts0 40 (dB [] [] (aN (.dat 3)) true true m Ls) 31 [.agg (aa o M N L C),.str (aC (.dat 3)),I i,I now] [] 0 (fun v _ _=>Q v)=
 (SC 63 [AV.str kM] (.tuple [AV.agg Jq,.bool true])∧SC 76 jt (.bool true)∧ac o.27 (Q ju) (SC 17 [AV.agg (aa o M N L C),.str kM] (.fsl false Ls)∧ac (ay i 0) (Q jZ) (ac (!ay i (Int.ofNat (ab Ls))) (Q jZ) (SC 77 [AV.agg (aa o M N L C),.agg Jq] (.bool m)∧ac (!m) (Q iY) (aw (aY prog 33 (.agg (aa {o with d3:=⟨false,0⟩,d9:=⟨true,now⟩} M N L C)) 37) (Q (.tuple [AV.agg (aa {o with d3:=⟨false,0⟩,d9:=⟨true,now⟩} M N L C),I 0]))))))):=by kernel_rfl
abbrev kE:=[AV.str [78,97,109,101],I 7,AV.bool true,AV.bool true,AV.str [65,77,68],AV.str [],I (Int.negSucc 0)]
abbrev l9 (C L M:AV) (R:List AV) (o:Ob):=(aa o M (AV.fsl false R) L C)
abbrev rz (C L M:AV) (Q:AV→ah→Prop) (R:List AV) (o:Ob):=(Q jZ [(39,some (Blk.cells zL)),(8,some (Blk.cells kE)),(1,some (Blk.cells zL)),(0,some (Blk.cells (l9 C L M R o)))])
abbrev Co (C L M:AV) (R:List AV) (o:Ob):=[(26,some (Blk.cells zL)),(8,some (Blk.cells kE)),(1,some (Blk.cells zL)),(0,some (Blk.cells (l9 C L M R o)))]
abbrev Cp (C L M:AV) (R:List AV) (o:Ob):=[(58,some (Blk.cells zL)),(8,some (Blk.cells kE)),(1,some (Blk.cells zL)),(0,some (Blk.cells (l9 C L M R o)))]
abbrev nC (now:Int):=(Blk.cells [AV.bool true,I now])
abbrev rA:=(Eff.val (AV.fsl false []))
abbrev Cq:=(AV.tuple [AV.agg kE,AV.bool true])
theorem Xa (i now:Int) (m:Bool) (Ls:List AV) (o:Ob) (M L C:AV) (R:List AV) (Q:AV→ah→Prop):aH prog opts0 40 (dB [(22,4,.res (.fsl false [])),(22,10,.res (.fsl false []))] [] (aN .nam) true true m Ls) 31 [.agg (aa o M (.fsl false R) L C),.str (aC .nam),I i,I now] [] 0 (fun v H _=>Q v H)=
 (SC 63 [AV.str [78,97,109,101]] Cq∧SC 76 jt (.bool true)∧ac o.27 (Q ju (Co C L M R o)) (SC 17 [AV.agg (l9 C L M R o),.str [78,97,109,101]] (.fsl false Ls)∧ac (ay i 0) (rz C L M Q R o) (ac (!ay i (Int.ofNat (ab Ls))) (rz C L M Q R o) (SC 77 [AV.agg (l9 C L M R o),.agg kE] (.bool m)∧ac (!m) (Q iY (Cp C L M R o)) (cw prog 27 (.fsl false R) none (some (I i)) none=some rA∧cw prog 27 (.fsl false R) (some (I (aj IntKind.i64 (i+1)))) none none=some rA∧aw (aY prog 33 (.agg (aa {o with d9:=⟨true,now⟩} M (.fsl true []) L C)) 37) (Q (.tuple [AV.agg (aa {o with d9:=⟨true,now⟩} M (.fsl true []) L C),I 0]) [(75,some (nC now)),(8,some (Blk.cells kE)),(1,some (Blk.cells (aa {o with d9:=⟨true,now⟩} M (.fsl true []) L C))),(0,some (Blk.cells (aa {o with d9:=⟨true,now⟩} M (.fsl true []) L C)))])))))):=by kernel_rfl
abbrev xq (B:List AV) (b:List UInt8):=(AV.rsl true 67 0 (0+ab (AV.str b::B)) 1)
theorem Xb (i now:Int) (m:Bool) (Ls:List AV) (o:Ob) (M L C:AV) (R:List AV) (b:List UInt8) (B:List AV) (Q:AV→ah→Prop):aH prog opts0 40 (dB [(22,4,.res (.fsl false [])),(22,10,.res (.fsl false (.str b::B)))] [] (aN .nam) true true m Ls) 31 [.agg (aa o M (.fsl false R) L C),.str (aC .nam),I i,I now] [] 0 (fun v H _=>Q v H)=
 (SC 63 [AV.str [78,97,109,101]] Cq∧SC 76 jt (.bool true)∧ac o.27 (Q ju (Co C L M R o)) (SC 17 [AV.agg (l9 C L M R o),.str [78,97,109,101]] (.fsl false Ls)∧ac (ay i 0) (rz C L M Q R o) (ac (!ay i (Int.ofNat (ab Ls))) (rz C L M Q R o) (SC 77 [AV.agg (l9 C L M R o),.agg kE] (.bool m)∧ac (!m) (Q iY (Cp C L M R o)) (cw prog 27 (.fsl false R) none (some (I i)) none=some rA∧cw prog 27 (.fsl false R) (some (I (aj IntKind.i64 (i+1)))) none none=some (Eff.val (.fsl false (.str b::B)))∧aw (a7 1 (.str b::B)&&(((0+ab (.str b::B))*16).ble 140737488355328&&true)) (aw (aY prog 33 (.agg (aa {o with d9:=⟨true,now⟩} M (xq B b) L C)) 37) (Q (.tuple [AV.agg (aa {o with d9:=⟨true,now⟩} M (xq B b) L C),I 0]) [(75,some (nC now)),(67,some (Blk.cells (flat (.str b::B)))),(8,some (Blk.cells kE)),(1,some (Blk.cells (aa {o with d9:=⟨true,now⟩} M (xq B b) L C))),(0,some (Blk.cells (aa {o with d9:=⟨true,now⟩} M (xq B b) L C)))]))))))):=by kernel_rfl
abbrev xr (A B:List AV) (a:List UInt8):=(AV.rsl true 67 0 (0+ab (AV.str a::A)+ab B) 1)
theorem Xc (i now:Int) (m:Bool) (Ls:List AV) (o:Ob) (M L C:AV) (R:List AV) (a:List UInt8) (A B:List AV) (Q:AV→ah→Prop):aH prog opts0 40 (dB [(22,4,.res (.fsl false (.str a::A))),(22,10,.res (.fsl false B))] [] (aN .nam) true true m Ls) 31 [.agg (aa o M (.fsl false R) L C),.str (aC .nam),I i,I now] [] 0 (fun v H _=>Q v H)=
 (SC 63 [AV.str [78,97,109,101]] Cq∧SC 76 jt (.bool true)∧ac o.27 (Q ju (Co C L M R o)) (SC 17 [AV.agg (l9 C L M R o),.str [78,97,109,101]] (.fsl false Ls)∧ac (ay i 0) (rz C L M Q R o) (ac (!ay i (Int.ofNat (ab Ls))) (rz C L M Q R o) (SC 77 [AV.agg (l9 C L M R o),.agg kE] (.bool m)∧ac (!m) (Q iY (Cp C L M R o)) (cw prog 27 (.fsl false R) none (some (I i)) none=some (Eff.val (.fsl false (.str a::A)))∧aw (a7 1 (.str a::A)&&(((0+ab (.str a::A))*16).ble 140737488355328&&true)) (cw prog 27 (.fsl false R) (some (I (aj IntKind.i64 (i+1)))) none none=some (Eff.val (.fsl false B))∧aw (a7 1 B&&(((0+ab (.str a::A)+ab B)*16).ble 140737488355328&&(bq (flat B)&&true))) (aw ((ab (flat (.str a::A))).beq ((0+ab (.str a::A))*1)) (aw (aY prog 33 (.agg (aa {o with d9:=⟨true,now⟩} M (xr A B a) L C)) 37) (Q (.tuple [AV.agg (aa {o with d9:=⟨true,now⟩} M (xr A B a) L C),I 0]) [(75,some (nC now)),(67,some (Blk.cells (flat (.str a::A)++flat B))),(61,none),(8,some (Blk.cells kE)),(1,some (Blk.cells (aa {o with d9:=⟨true,now⟩} M (xr A B a) L C))),(0,some (Blk.cells (aa {o with d9:=⟨true,now⟩} M (xr A B a) L C)))]))))))))):=by kernel_rfl
abbrev kF:=[AV.str [76,105,110,107],I 1,AV.bool true,AV.bool true,AV.str [65,77,68],AV.str [],I (Int.negSucc 0)]
abbrev mc (C M N:AV) (R:List AV) (o:Ob):=(aa o M N (AV.fsl false R) C)
abbrev rB (C M N:AV) (Q:AV→ah→Prop) (R:List AV) (o:Ob):=(Q jZ [(39,some (Blk.cells zL)),(8,some (Blk.cells kF)),(1,some (Blk.cells zL)),(0,some (Blk.cells (mc C M N R o)))])
abbrev Cr (C M N:AV) (R:List AV) (o:Ob):=[(26,some (Blk.cells zL)),(8,some (Blk.cells kF)),(1,some (Blk.cells zL)),(0,some (Blk.cells (mc C M N R o)))]
abbrev Ct (C M N:AV) (R:List AV) (o:Ob):=[(58,some (Blk.cells zL)),(8,some (Blk.cells kF)),(1,some (Blk.cells zL)),(0,some (Blk.cells (mc C M N R o)))]
abbrev Cv:=(AV.tuple [AV.agg kF,AV.bool true])
theorem Xd (i now:Int) (m:Bool) (Ls:List AV) (o:Ob) (M N C:AV) (R:List AV) (Q:AV→ah→Prop):aH prog opts0 40 (dB [(24,4,.res (.fsl false [])),(24,10,.res (.fsl false []))] [] (aN .lnk) true true m Ls) 31 [.agg (aa o M N (.fsl false R) C),.str (aC .lnk),I i,I now] [] 0 (fun v H _=>Q v H)=
 (SC 63 [AV.str [76,105,110,107]] Cv∧SC 76 jt (.bool true)∧ac o.27 (Q ju (Cr C M N R o)) (SC 17 [AV.agg (mc C M N R o),.str [76,105,110,107]] (.fsl false Ls)∧ac (ay i 0) (rB C M N Q R o) (ac (!ay i (Int.ofNat (ab Ls))) (rB C M N Q R o) (SC 77 [AV.agg (mc C M N R o),.agg kF] (.bool m)∧ac (!m) (Q iY (Ct C M N R o)) (cw prog 28 (.fsl false R) none (some (I i)) none=some rA∧cw prog 28 (.fsl false R) (some (I (aj IntKind.i64 (i+1)))) none none=some rA∧aw (aY prog 33 (.agg (aa {o with d9:=⟨true,now⟩} M N (.fsl true []) C)) 37) (Q (.tuple [AV.agg (aa {o with d9:=⟨true,now⟩} M N (.fsl true []) C),I 0]) [(78,some (nC now)),(8,some (Blk.cells kF)),(1,some (Blk.cells (aa {o with d9:=⟨true,now⟩} M N (.fsl true []) C))),(0,some (Blk.cells (aa {o with d9:=⟨true,now⟩} M N (.fsl true []) C)))])))))):=by kernel_rfl
abbrev ul (B:List AV) (b:Lk):=(AV.agg [I b.1,AV.str b.2]::B)
abbrev xu (B:List AV) (b:Lk):=(AV.rsl true 70 0 (0+ab (ul B b)) 2)
theorem Xe (i now:Int) (m:Bool) (Ls:List AV) (o:Ob) (M N C:AV) (R:List AV) (b:Lk) (B:List AV) (Q:AV→ah→Prop):aH prog opts0 40 (dB [(24,4,.res (.fsl false [])),(24,10,.res (.fsl false (aL b::B)))] [] (aN .lnk) true true m Ls) 31 [.agg (aa o M N (.fsl false R) C),.str (aC .lnk),I i,I now] [] 0 (fun v H _=>Q v H)=
 (SC 63 [AV.str [76,105,110,107]] Cv∧SC 76 jt (.bool true)∧ac o.27 (Q ju (Cr C M N R o)) (SC 17 [AV.agg (mc C M N R o),.str [76,105,110,107]] (.fsl false Ls)∧ac (ay i 0) (rB C M N Q R o) (ac (!ay i (Int.ofNat (ab Ls))) (rB C M N Q R o) (SC 77 [AV.agg (mc C M N R o),.agg kF] (.bool m)∧ac (!m) (Q iY (Ct C M N R o)) (cw prog 28 (.fsl false R) none (some (I i)) none=some rA∧cw prog 28 (.fsl false R) (some (I (aj IntKind.i64 (i+1)))) none none=some (Eff.val (.fsl false (ul B b)))∧aw (a7 2 (ul B b)&&(((0+ab (ul B b))*24).ble 140737488355328&&true)) (aw (aY prog 33 (.agg (aa {o with d9:=⟨true,now⟩} M N (xu B b) C)) 37) (Q (.tuple [AV.agg (aa {o with d9:=⟨true,now⟩} M N (xu B b) C),I 0]) [(78,some (nC now)),(70,some (Blk.cells (flat (ul B b)))),(8,some (Blk.cells kF)),(1,some (Blk.cells (aa {o with d9:=⟨true,now⟩} M N (xu B b) C))),(0,some (Blk.cells (aa {o with d9:=⟨true,now⟩} M N (xu B b) C)))]))))))):=by kernel_rfl
abbrev nD (A:List AV) (a:Lk):=(AV.agg [I a.1,AV.str a.2]::A)
abbrev xv (A B:List AV) (a:Lk):=(AV.rsl true 70 0 (0+ab (nD A a)+ab B) 2)
theorem Xf (i now:Int) (m:Bool) (Ls:List AV) (o:Ob) (M N C:AV) (R:List AV) (a:Lk) (A B:List AV) (Q:AV→ah→Prop):aH prog opts0 40 (dB [(24,4,.res (.fsl false (aL a::A))),(24,10,.res (.fsl false B))] [] (aN .lnk) true true m Ls) 31 [.agg (aa o M N (.fsl false R) C),.str (aC .lnk),I i,I now] [] 0 (fun v H _=>Q v H)=
 (SC 63 [AV.str [76,105,110,107]] Cv∧SC 76 jt (.bool true)∧ac o.27 (Q ju (Cr C M N R o)) (SC 17 [AV.agg (mc C M N R o),.str [76,105,110,107]] (.fsl false Ls)∧ac (ay i 0) (rB C M N Q R o) (ac (!ay i (Int.ofNat (ab Ls))) (rB C M N Q R o) (SC 77 [AV.agg (mc C M N R o),.agg kF] (.bool m)∧ac (!m) (Q iY (Ct C M N R o)) (cw prog 28 (.fsl false R) none (some (I i)) none=some (Eff.val (.fsl false (nD A a)))∧aw (a7 2 (nD A a)&&(((0+ab (nD A a))*24).ble 140737488355328&&true)) (cw prog 28 (.fsl false R) (some (I (aj IntKind.i64 (i+1)))) none none=some (Eff.val (.fsl false B))∧aw (a7 2 B&&(((0+ab (nD A a)+ab B)*24).ble 140737488355328&&(bq (flat B)&&true))) (aw ((ab (flat (nD A a))).beq ((0+ab (nD A a))*2)) (aw (aY prog 33 (.agg (aa {o with d9:=⟨true,now⟩} M N (xv A B a) C)) 37) (Q (.tuple [AV.agg (aa {o with d9:=⟨true,now⟩} M N (xv A B a) C),I 0]) [(78,some (nC now)),(70,some (Blk.cells (flat (nD A a)++flat B))),(64,none),(8,some (Blk.cells kF)),(1,some (Blk.cells (aa {o with d9:=⟨true,now⟩} M N (xv A B a) C))),(0,some (Blk.cells (aa {o with d9:=⟨true,now⟩} M N (xv A B a) C)))]))))))))):=by kernel_rfl
def eS (s:List UInt8) (j now c i:Int) (O:List AV):View:=⟨[(1,.str s),(2,I j),(3,I now),(13,.nilsl),(14,I c),(15,I i)],[(4,.ptr 0 0),(8,.ptr 1 0)],[(0,.cells O,.whole),(1,.cells w9,.whole)],2,156⟩
def dp (s:List UInt8) (j now c i:Int) (k:Nat) (O es:List AV):View:=⟨[(1,.str s),(2,I j),(3,I now),(14,I c),(15,I i)],[(4,.ptr 0 0),(8,.ptr 1 0),(13,.rsl true 2 0 k 2)],[(0,.cells O,.whole),(1,.cells w9,.whole),(2,.cells es,.whole)],3,156⟩
def iD (x:Cu) (e g:Bool):bz:=aB [(16,3,.res (.fptr [.str x.name,.str x.text] 0)),(16,7,.res (.bool e)),(18,3,.res (.bool g)),(19,4,.res (.fptr [.str x.name,.str x.text] 0))] [] aR [] []
abbrev gN (Cs:List AV) (L M N:AV) (o:Ob):=(aa o M N L (AV.fsl false Cs))
@[simp] abbrev me (Cs:List AV) (L M N:AV) (o:Ob):=((gN Cs L M N o)=(gN Cs L M N o)∧ae (gN Cs L M N o)=true)
@[simp] abbrev mg (s:List UInt8):=(AV.str s=AV.str s∧ag (AV.str s)=true)
@[simp] abbrev mh (now:Int):=(I now=I now∧ag (I now)=true)
@[simp] abbrev nE:=(some 0=some 0∧0=0)
@[simp] abbrev nF:=(some 1=some 1∧0=0)
@[simp] abbrev nG (j:Int):=(I j=I j∧ag (I j)=true)
@[simp] abbrev Cw:=(AV.nilsl=AV.nilsl∧true=true)
@[simp] abbrev Cx (Cs:List AV) (L M N:AV) (Q:AExit→St→Prop) (c i j now:Int) (o:Ob) (s:List UInt8):=((((mg s)∧(nG j)∧(mh now)∧Cw∧(I c=I c∧ag (I c)=true)∧(I i=I i∧ag (I i)=true)∧True)∧(nE∧nF∧True)∧(me Cs L M N o)∧(zL=zL∧true=true)∧True)∧Q (AExit.exit 2) (eS s j now c i (gN Cs L M N o)).st)
abbrev fe (x:Cu):=[AV.str x.1,AV.str x.2]
abbrev eD (Cs:List AV) (L M N:AV) (o:Ob):=(aa o M N L (AV.fsl false Cs))
theorem Xg (s:List UInt8) (j now c c' i i':Int) (x:Cu) (o:Ob) (M N L:AV) (Cs:List AV) (k:Nat) (es:List AV) (Nx:Prop) (Q:AExit→St→Prop):aP prog opts0 40 (iD x false false) (aJ prog 31 15) (eS s j now c i (eD Cs L M N o)).st (cb 0 [(0,0),(1,1),(2,22)] (dp s j now c' i' k (eD Cs L M N o) es) Nx [(0,0),(1,1)] (eS s j now c i (eD Cs L M N o)) Q)=
 (ac (ay i (Int.ofNat (ab Cs))) (aF prog 29 (.fsl false Cs) (I i)=some (.fptr (fe x) 0)∧aE prog BinOp.eql 9 (Operand.tmp 86) (Operand.tmp 87) (.str x.1) (.str s)=some (.bool false)∧aF prog 29 (.fsl false Cs) (I i)=some (.fptr (fe x) 0)∧(((mg s)∧(nG j)∧(mh now)∧(I c=I c'∧ag (I c')=true)∧(I (aj IntKind.i64 (i+1))=I i'∧ag (I i')=true)∧True)∧(nE∧nF∧(true=true∧some 22=some 22∧0=0∧k=ab [AV.agg (fe x)]∧2=2)∧True)∧(me Cs L M N o)∧(zL=zL∧true=true)∧(flat [AV.agg (fe x)]=es∧ae es=true)∧True)∧Nx) (Cx Cs L M N Q c i j now o s)):=by kernel_rfl
@[simp] abbrev Jr (k:Nat):=(nE∧nF∧(true=true∧some 2=some 2∧0=0∧k=k∧2=2)∧True)
@[simp] abbrev Cy (Cs es:List AV) (L M N:AV) (Q:AExit→St→Prop) (c i j now:Int) (k:Nat) (o:Ob) (s:List UInt8):=((((mg s)∧(nG j)∧(mh now)∧(I c=I c∧ag (I c)=true)∧(I i=I i∧ag (I i)=true)∧True)∧(Jr k)∧(me Cs L M N o)∧(zL=zL∧true=true)∧(es=es∧ae es=true)∧True)∧Q (AExit.exit 2) (dp s j now c i k (gN Cs L M N o) es).st)
abbrev Js (k:Nat) (x:Cu):=(a7 2 [AV.agg (fe x)]&&(((k+ab [AV.agg (fe x)])*32).ble 140737488355328&&(bq (flat [AV.agg (fe x)])&&true)))
theorem Xh (s:List UInt8) (j now c c' i i':Int) (x:Cu) (o:Ob) (M N L:AV) (Cs:List AV) (k k':Nat) (es es':List AV) (Nx:Prop) (Q:AExit→St→Prop):aP prog opts0 40 (iD x false false) (aJ prog 31 15) (dp s j now c i k (eD Cs L M N o) es).st (cb 0 [(0,0),(1,1),(2,23)] (dp s j now c' i' k' (eD Cs L M N o) es') Nx [(0,0),(1,1),(2,2)] (dp s j now c i k (eD Cs L M N o) es) Q)=
 (ac (ay i (Int.ofNat (ab Cs))) (aF prog 29 (.fsl false Cs) (I i)=some (.fptr (fe x) 0)∧aE prog BinOp.eql 9 (Operand.tmp 86) (Operand.tmp 87) (.str x.1) (.str s)=some (.bool false)∧aF prog 29 (.fsl false Cs) (I i)=some (.fptr (fe x) 0)∧aw (Js k x) (aw ((ab es).beq (k*2)) ((((mg s)∧(nG j)∧(mh now)∧(I c=I c'∧ag (I c')=true)∧(I (aj IntKind.i64 (i+1))=I i'∧ag (I i')=true)∧True)∧(nE∧nF∧(true=true∧some 23=some 23∧0=0∧k'=k+ab [AV.agg (fe x)]∧2=2)∧True)∧(me Cs L M N o)∧(zL=zL∧true=true)∧(es++flat [AV.agg (fe x)]=es'∧ae es'=true)∧True)∧Nx))) (Cy Cs es L M N Q c i j now k o s)):=by kernel_rfl
theorem Xi (s:List UInt8) (j now c c' i i':Int) (x:Cu) (o:Ob) (M N L:AV) (Cs:List AV) (k:Nat) (es:List AV) (Nx:Prop) (Q:AExit→St→Prop):aP prog opts0 40 (iD x true false) (aJ prog 31 15) (eS s j now c i (eD Cs L M N o)).st (cb 0 [(0,0),(1,1),(2,29)] (dp s j now c' i' k (eD Cs L M N o) es) Nx [(0,0),(1,1)] (eS s j now c i (eD Cs L M N o)) Q)=
 (ac (ay i (Int.ofNat (ab Cs))) (aF prog 29 (.fsl false Cs) (I i)=some (.fptr (fe x) 0)∧aE prog BinOp.eql 9 (Operand.tmp 86) (Operand.tmp 87) (.str x.1) (.str s)=some (.bool true)∧aE prog BinOp.eql 3 (Operand.tmp 91) (Operand.tmp 93) (I (aj IntKind.i64 (c+1))) (I (aj IntKind.i64 (j+1)))=some (.bool false)∧aF prog 29 (.fsl false Cs) (I i)=some (.fptr (fe x) 0)∧(((mg s)∧(nG j)∧(mh now)∧(I (aj IntKind.i64 (c+1))=I c'∧ag (I c')=true)∧(I (aj IntKind.i64 (i+1))=I i'∧ag (I i')=true)∧True)∧(nE∧nF∧(true=true∧some 29=some 29∧0=0∧k=ab [AV.agg (fe x)]∧2=2)∧True)∧(me Cs L M N o)∧(zL=zL∧true=true)∧(flat [AV.agg (fe x)]=es∧ae es=true)∧True)∧Nx) (Cx Cs L M N Q c i j now o s)):=by kernel_rfl
theorem Xj (s:List UInt8) (j now c c' i i':Int) (x:Cu) (o:Ob) (M N L:AV) (Cs:List AV) (k k':Nat) (es es':List AV) (Nx:Prop) (Q:AExit→St→Prop):aP prog opts0 40 (iD x true false) (aJ prog 31 15) (dp s j now c i k (eD Cs L M N o) es).st (cb 0 [(0,0),(1,1),(2,30)] (dp s j now c' i' k' (eD Cs L M N o) es') Nx [(0,0),(1,1),(2,2)] (dp s j now c i k (eD Cs L M N o) es) Q)=
 (ac (ay i (Int.ofNat (ab Cs))) (aF prog 29 (.fsl false Cs) (I i)=some (.fptr (fe x) 0)∧aE prog BinOp.eql 9 (Operand.tmp 86) (Operand.tmp 87) (.str x.1) (.str s)=some (.bool true)∧aE prog BinOp.eql 3 (Operand.tmp 91) (Operand.tmp 93) (I (aj IntKind.i64 (c+1))) (I (aj IntKind.i64 (j+1)))=some (.bool false)∧aF prog 29 (.fsl false Cs) (I i)=some (.fptr (fe x) 0)∧aw (Js k x) (aw ((ab es).beq (k*2)) ((((mg s)∧(nG j)∧(mh now)∧(I (aj IntKind.i64 (c+1))=I c'∧ag (I c')=true)∧(I (aj IntKind.i64 (i+1))=I i'∧ag (I i')=true)∧True)∧(nE∧nF∧(true=true∧some 30=some 30∧0=0∧k'=k+ab [AV.agg (fe x)]∧2=2)∧True)∧(me Cs L M N o)∧(zL=zL∧true=true)∧(es++flat [AV.agg (fe x)]=es'∧ae es'=true)∧True)∧Nx))) (Cy Cs es L M N Q c i j now k o s)):=by kernel_rfl
theorem Jt (s:List UInt8) (j now c c' i i':Int) (x:Cu) (o:Ob) (M N L:AV) (Cs:List AV) (Nx:Prop) (Q:AExit→St→Prop):aP prog opts0 40 (iD x true true) (aJ prog 31 15) (eS s j now c i (eD Cs L M N o)).st (cb 0 [(0,0),(1,1)] (eS s j now c' i' (eD Cs L M N o)) Nx [(0,0),(1,1)] (eS s j now c i (eD Cs L M N o)) Q)=
 (ac (ay i (Int.ofNat (ab Cs))) (aF prog 29 (.fsl false Cs) (I i)=some (.fptr (fe x) 0)∧aE prog BinOp.eql 9 (Operand.tmp 86) (Operand.tmp 87) (.str x.1) (.str s)=some (.bool true)∧aE prog BinOp.eql 3 (Operand.tmp 91) (Operand.tmp 93) (I (aj IntKind.i64 (c+1))) (I (aj IntKind.i64 (j+1)))=some (.bool true)∧(((mg s)∧(nG j)∧(mh now)∧Cw∧(I (aj IntKind.i64 (c+1))=I c'∧ag (I c')=true)∧(I (aj IntKind.i64 (i+1))=I i'∧ag (I i')=true)∧True)∧(nE∧nF∧True)∧(me Cs L M N o)∧(zL=zL∧true=true)∧True)∧Nx) (Cx Cs L M N Q c i j now o s)):=by kernel_rfl
theorem Ju (s:List UInt8) (j now c c' i i':Int) (x:Cu) (o:Ob) (M N L:AV) (Cs:List AV) (k:Nat) (es:List AV) (Nx:Prop) (Q:AExit→St→Prop):aP prog opts0 40 (iD x true true) (aJ prog 31 15) (dp s j now c i k (eD Cs L M N o) es).st (cb 0 [(0,0),(1,1),(2,2)] (dp s j now c' i' k (eD Cs L M N o) es) Nx [(0,0),(1,1),(2,2)] (dp s j now c i k (eD Cs L M N o) es) Q)=
 (ac (ay i (Int.ofNat (ab Cs))) (aF prog 29 (.fsl false Cs) (I i)=some (.fptr (fe x) 0)∧aE prog BinOp.eql 9 (Operand.tmp 86) (Operand.tmp 87) (.str x.1) (.str s)=some (.bool true)∧aE prog BinOp.eql 3 (Operand.tmp 91) (Operand.tmp 93) (I (aj IntKind.i64 (c+1))) (I (aj IntKind.i64 (j+1)))=some (.bool true)∧(((mg s)∧(nG j)∧(mh now)∧(I (aj IntKind.i64 (c+1))=I c'∧ag (I c')=true)∧(I (aj IntKind.i64 (i+1))=I i'∧ag (I i')=true)∧True)∧(Jr k)∧(me Cs L M N o)∧(zL=zL∧true=true)∧(es=es∧ae es=true)∧True)∧Nx) (Cy Cs es L M N Q c i j now k o s)):=by kernel_rfl
def Jv (s:List UInt8) (j now c n:Int) (O:List AV):bV:=fun st Q=>dr 0 [(0,0),(1,1)] (eS s j now 0 0 O) st∧Q (.exit 2) (eS s j now c n O).st
def Jw (s:List UInt8) (j now c n:Int) (k:Nat) (O es:List AV):bV:=fun st Q=>dr 0 [(0,0),(1,1)] (eS s j now 0 0 O) st∧Q (.exit 2) (dp s j now c n k O es).st
abbrev j2 (s:List UInt8):=[AV.str s,I 7,AV.bool true,AV.bool true,AV.str [65,77,68],AV.str [],I (Int.negSucc 0)]
abbrev rD:=(AV.str dt)
theorem Xk (s:List UInt8) (i now:Int) (m:Bool) (Ls:List AV) (o:Ob) (M N L:AV) (Cs:List AV) (Q:AV→Prop):aH prog opts0 40 (dB [(21,1,.res (.bool false)),(23,1,.res (.bool false)),(25,1,.res (.bool false)),(9,7,.res (.bool false))] [(15,fun _ _=>False)] (aN (.cus s)) true true m Ls) 31 [.agg (eD Cs L M N o),.str s,I i,I now] [] 0 (fun v _ _=>Q v)=
 (SC 63 [AV.str s] (.tuple [AV.agg (j2 s),.bool true])∧SC 76 jt (.bool true)∧ac o.27 (Q ju) (SC 17 [AV.agg (gN Cs L M N o),.str s] (.fsl false Ls)∧ac (ay i 0) (Q jZ) (ac (!ay i (Int.ofNat (ab Ls))) (Q jZ) (SC 77 [AV.agg (gN Cs L M N o),.agg (j2 s)] (.bool m)∧ac (!m) (Q iY) (aE prog BinOp.eql 9 (Operand.tmp 59) (Operand.const (Value.string {data:={toList:=dt}})) (.str s) rD=some (.bool false)∧aE prog BinOp.eql 9 (Operand.tmp 106) (Operand.const (Value.string {data:={toList:=[78,97,109,101]}})) (.str s) (.str [78,97,109,101])=some (.bool false)∧aE prog BinOp.eql 9 (Operand.tmp 122) (Operand.const (Value.string {data:={toList:=[76,105,110,107]}})) (.str s) (.str [76,105,110,107])=some (.bool false)∧aE prog BinOp.eql 9 (Operand.tmp 138) (Operand.const (Value.string {data:={toList:=dt}})) (.str s) rD=some (.bool false)∧False))))):=by kernel_rfl
abbrev xw (Cs:List AV) (L M N:AV) (Q:AV→ah→Prop) (o:Ob) (s:List UInt8):=(Q jZ [(39,some (Blk.cells zL)),(8,some (Blk.cells (j2 s))),(1,some (Blk.cells zL)),(0,some (Blk.cells (gN Cs L M N o)))])
@[simp] abbrev Jx (Cs:List AV) (L M N:AV) (i now:Int) (o:Ob) (s:List UInt8):=(((mg s)∧(I i=I i∧ag (I i)=true)∧(mh now)∧Cw∧(I 0=I 0∧true=true)∧(I 0=I 0∧true=true)∧True)∧(nE∧nF∧True)∧(me Cs L M N o)∧(zL=zL∧true=true)∧True)
theorem Xl (s:List UInt8) (c n i now:Int) (m:Bool) (Ls:List AV) (o:Ob) (M N L:AV) (Cs:List AV) (Q:AV→ah→Prop):aH prog opts0 40 (dB [(21,1,.res (.bool false)),(23,1,.res (.bool false)),(25,1,.res (.bool false)),(9,7,.res (.bool false))] [(15,Jv s i now c n (eD Cs L M N o))] (aN (.cus s)) true true m Ls) 31 [.agg (eD Cs L M N o),.str s,I i,I now] [] 0 (fun v H _=>Q v H)=
 (SC 63 [AV.str s] (.tuple [AV.agg (j2 s),.bool true])∧SC 76 jt (.bool true)∧ac o.27 (Q ju [(26,some (Blk.cells zL)),(8,some (Blk.cells (j2 s))),(1,some (Blk.cells zL)),(0,some (Blk.cells (gN Cs L M N o)))]) (SC 17 [AV.agg (gN Cs L M N o),.str s] (.fsl false Ls)∧ac (ay i 0) (xw Cs L M N Q o s) (ac (!ay i (Int.ofNat (ab Ls))) (xw Cs L M N Q o s) (SC 77 [AV.agg (gN Cs L M N o),.agg (j2 s)] (.bool m)∧ac (!m) (Q iY [(58,some (Blk.cells zL)),(8,some (Blk.cells (j2 s))),(1,some (Blk.cells zL)),(0,some (Blk.cells (gN Cs L M N o)))]) (aE prog BinOp.eql 9 (Operand.tmp 59) (Operand.const (Value.string {data:={toList:=dt}})) (.str s) rD=some (.bool false)∧aE prog BinOp.eql 9 (Operand.tmp 106) (Operand.const (Value.string {data:={toList:=[78,97,109,101]}})) (.str s) (.str [78,97,109,101])=some (.bool false)∧aE prog BinOp.eql 9 (Operand.tmp 122) (Operand.const (Value.string {data:={toList:=[76,105,110,107]}})) (.str s) (.str [76,105,110,107])=some (.bool false)∧aE prog BinOp.eql 9 (Operand.tmp 138) (Operand.const (Value.string {data:={toList:=dt}})) (.str s) rD=some (.bool false)∧(Jx Cs L M N i now o s)∧aw (aY prog 33 (.agg (aa {o with d9:=⟨true,now⟩} M N L AV.nilsl)) 37) (Q (.tuple [AV.agg (aa {o with d9:=⟨true,now⟩} M N L AV.nilsl),I 0]) [(10,some (nC now)),(1,some (Blk.cells (aa {o with d9:=⟨true,now⟩} M N L AV.nilsl))),(0,some (Blk.cells (aa {o with d9:=⟨true,now⟩} M N L AV.nilsl))),(1,some (Blk.cells zL))])))))):=by kernel_rfl
theorem Xm (s:List UInt8) (c n i now:Int) (m:Bool) (Ls:List AV) (o:Ob) (M N L:AV) (Cs es:List AV) (k:Nat) (Q:AV→ah→Prop):aH prog opts0 40 (dB [(21,1,.res (.bool false)),(23,1,.res (.bool false)),(25,1,.res (.bool false)),(9,7,.res (.bool false))] [(15,Jw s i now c n k (eD Cs L M N o) es)] (aN (.cus s)) true true m Ls) 31 [.agg (eD Cs L M N o),.str s,I i,I now] [] 0 (fun v H _=>Q v H)=
 (SC 63 [AV.str s] (.tuple [AV.agg (j2 s),.bool true])∧SC 76 jt (.bool true)∧ac o.27 (Q ju [(26,some (Blk.cells zL)),(8,some (Blk.cells (j2 s))),(1,some (Blk.cells zL)),(0,some (Blk.cells (gN Cs L M N o)))]) (SC 17 [AV.agg (gN Cs L M N o),.str s] (.fsl false Ls)∧ac (ay i 0) (xw Cs L M N Q o s) (ac (!ay i (Int.ofNat (ab Ls))) (xw Cs L M N Q o s) (SC 77 [AV.agg (gN Cs L M N o),.agg (j2 s)] (.bool m)∧ac (!m) (Q iY [(58,some (Blk.cells zL)),(8,some (Blk.cells (j2 s))),(1,some (Blk.cells zL)),(0,some (Blk.cells (gN Cs L M N o)))]) (aE prog BinOp.eql 9 (Operand.tmp 59) (Operand.const (Value.string {data:={toList:=dt}})) (.str s) rD=some (.bool false)∧aE prog BinOp.eql 9 (Operand.tmp 106) (Operand.const (Value.string {data:={toList:=[78,97,109,101]}})) (.str s) (.str [78,97,109,101])=some (.bool false)∧aE prog BinOp.eql 9 (Operand.tmp 122) (Operand.const (Value.string {data:={toList:=[76,105,110,107]}})) (.str s) (.str [76,105,110,107])=some (.bool false)∧aE prog BinOp.eql 9 (Operand.tmp 138) (Operand.const (Value.string {data:={toList:=dt}})) (.str s) rD=some (.bool false)∧(Jx Cs L M N i now o s)∧aw (aY prog 33 (.agg (aa {o with d9:=⟨true,now⟩} M N L (.rsl true 2 0 k 2))) 37) (Q (.tuple [AV.agg (aa {o with d9:=⟨true,now⟩} M N L (.rsl true 2 0 k 2)),I 0]) [(11,some (nC now)),(1,some (Blk.cells (aa {o with d9:=⟨true,now⟩} M N L (.rsl true 2 0 k 2)))),(0,some (Blk.cells (aa {o with d9:=⟨true,now⟩} M N L (.rsl true 2 0 k 2)))),(1,some (Blk.cells zL)),(2,some (Blk.cells es))])))))):=by kernel_rfl
end
set_option maxRecDepth 20000
theorem rE {t e:TypeId} {sz j:Nat} {R:List AV} (h1:dW prog t=some e) (h2:ca prog e=some sz) (hh:jy sz R=true) (hj:j≤R.length):cw prog t (.fsl false R) none (some (I (.ofNat j))) none=some (.val (.fsl false (R.take j))):=by
 have h:oG prog t (.fsl false R) none (some (I (.ofNat j))) none=some (.obl (true&&(true&&(jy sz R&&(Nat.ble 0 j&&Nat.ble j (ab R))))) (.val (.fsl false ((R.drop 0).take (j-0))))):=by
  unfold oG;simp only[oE,kg,h1,h2];rfl
 have:=zl h;simp only[ES.ok] at this;have:=this (by rw[hh,aM];simp[hj]);simpa using this
theorem pm {t e:TypeId} {sz j:Nat} {R:List AV} (h1:dW prog t=some e) (h2:ca prog e=some sz) (hh:jy sz R=true) (hj:j≤R.length):cw prog t (.fsl false R) (some (I (.ofNat j))) none none=some (.val (.fsl false (R.drop j))):=by
 have h:oG prog t (.fsl false R) (some (I (.ofNat j))) none none=some (.obl (true&&(true&&(jy sz R&&(Nat.ble j (ab R)&&Nat.ble (ab R) (ab R))))) (.val (.fsl false ((R.drop j).take (ab R-j))))):=by
  unfold oG;simp only[oE,kg,h1,h2];rfl
 have:=zl h;simp only[ES.ok] at this;have:=this (by rw[hh,aM];simp[hj]);rw[aM,List.take_of_length_le (by simp)] at this;exact this
theorem rF:∀l:List (List UInt8),jy 1 (l.map AV.str)=true
 |[]=>rfl
 |_::_=>rfl
theorem rG:∀l:List Lk,jy 2 (l.map aL)=true
 |[]=>rfl
 |_::_=>rfl
theorem fw (r:Int) (H:ah):lp (cJ (zO,r)) (.tuple [.agg (aa zO .nilsl .nilsl .nilsl .nilsl),I r]) H:=⟨_,(Frz.closed _ rfl).out,rfl,Hb r⟩
theorem nH {o:Ob} {H:ah} {M N L C N' L' C':AV} {r:Int} {v:AV} (hM:ag M=true) (hN:Frz 0 H N N') (hL:Frz 0 H L L') (hC:Frz 0 H C C') (h:ae (aa o M N' L' C')=true) (hw:Wk (.tuple [.agg (aa o M N' L' C'),I r]) v):lp v (.tuple [.agg (aa o M N L C),I r]) H:=by
 refine ⟨_,(Frz.tuple (FrzL.cons (tU hM hN hL hC) (FrzL.closed [I r] rfl))).out, ?_,hw⟩;simp only[ag,ae,h,Bool.and_self]
def eE (o:Ob) (k:Kd) (i now:Int):Ob × Int:=match o.arch with
 |true=>(zO,13)
 | false=>match ay i 0|| !ay i (.ofNat (aA o k).length) with
  |true=>(zO,1)
  |false=>match dz o (dm k) with
   |false=>(zO,11)
   |true=>({dj o i.toNat k with d9:=⟨true,now⟩},0)
theorem jv {o:Ob} {k:Kd} {i now:Int} (h:o.arch=true):eE o k i now=(zO,13):=by unfold eE;rw[h]
theorem kG {o:Ob} {k:Kd} {i now:Int} (h:o.arch=false) (h1:ay i 0=true):eE o k i now=(zO,1):=by unfold eE;rw[h,h1];rfl
theorem kH {o:Ob} {k:Kd} {i now:Int} (h:o.arch=false) (h1:ay i 0=false) (h2:ay i (.ofNat (aA o k).length)=false):eE o k i now=(zO,1):=by unfold eE;rw[h,h1,h2];rfl
theorem Cz {o:Ob} {k:Kd} {i now:Int} (h:o.arch=false) (h1:ay i 0=false) (h2:ay i (.ofNat (aA o k).length)=true) (h3:dz o (dm k)=false):eE o k i now=(zO,11):=by unfold eE;rw[h,h1,h2,h3];rfl
theorem kI {o:Ob} {k:Kd} {i now:Int} (h:o.arch=false) (h1:ay i 0=false) (h2:ay i (.ofNat (aA o k).length)=true) (h3:dz o (dm k)=true):eE o k i now=({dj o i.toNat k with d9:=⟨true,now⟩},0):=by unfold eE;rw[h,h1,h2,h3];rfl
theorem pn {i:Int} {n:Nat} (h1:ay i 0=false) (h2:ay i (.ofNat n)=true):∃j,i= .ofNat j∧j<n:=by
 have h1:=ltInt_false.1 h1;have h2:=ltInt_iff.1 h2;simp only[bh] at h1 h2;exact ⟨i.toNat,by simp only[bh];omega,by omega⟩
theorem nJ (o:Ob) (M N L C:AV) (h:aY prog 33 (.agg (aa o M N L C)) 37=true):aY prog 33 (.agg (aa o M N L C)) 37=true:=h
theorem um {l:List AV} (h:ag (.fsl false l)=true):ae l=true:=h
theorem Jy:∀l:List (List UInt8),bq (flat (l.map AV.str))=true
 |[]=>rfl
 |_::r=>Jy r
theorem Jz:∀l:List Lk,bq (flat (l.map aL))=true
 |[]=>rfl
 |_::r=>Jz r
theorem Xn (l:List (List UInt8)):(flat (l.map AV.str)).length=l.length*1:=by rw[tT,List.length_map,Nat.mul_one]
theorem JA:∀l:List Lk,(flat (l.map aL)).length=l.length*2
 |[]=>rfl
 |_::r=>by
  have:=JA r;show (flat (r.map aL)).length+1+1=(r.length+1)*2;omega
section
variable {o:Ob} {i now:Int}
theorem Xo (hf:SC 63 [.str (aC .lim)] (.tuple [aN .lim,.bool true])) (hof:SC 17 [au o,.str (aC .lim)] (.fsl false ((bo (aC .lim) (aA o .lim) 0).map aK))):SC 31 [au o,.str (aC .lim),I i,I now] (cJ (eE o .lim i now)):=by
 have hlen:ab ((bo (aC .lim) (aA o .lim) 0).map aK)=(aA o .lim).length:=by rw[aM,List.length_map,gK]
 have hcl:=cS o (c:=[.str (aC .lim),I i,I now]) rfl;have hmy:=jr o .lim;have hha:=jY .lim;have hM:=fA o;have hN:=eJ o;have hL:=eK o;have hC:=fg o;have hfp:=fq {dj o i.toNat .lim with d9:=⟨true,now⟩};refine bG (A:=dB [] [] (aN .lim) true true (ei o (dK .lim)) ((bo (aC .lim) (aA o .lim) 0).map aK)) base0 ar (aG (LsOk.no rfl)) hcl ?_;unfold au ax at*
 rw[W7,hlen];refine ⟨hf,hha,ai (fun e1=> ?_) fun e1=>⟨hof,ai (fun e2=> ?_) fun e2=>ai (fun e3=> ?_) fun e3=>⟨hmy,ai (fun e4=> ?_) fun e4=>ai (fun e5=> ?_) fun e5=>aD hfp ?_⟩⟩⟩
 ·rw[jv e1];exact bd 13
 ·rw[kG e1 e2];exact bd 1
 ·rw[kH e1 e2 (by simpa using e3)];exact bd 1
 ·cases e4
 ·rw[Bool.not_eq_true'] at e5;have hw:dz o (dm .lim)=false:=e5;rw[Cz e1 e2 (by simpa using e3) hw];exact bd 11
 ·rw[Bool.not_eq_false'] at e5;have hw:dz o (dm .lim)=true:=e5;rw[kI e1 e2 (by simpa using e3) hw];exact gm {dj o i.toNat .lim with d9:=⟨true,now⟩} 0
theorem Xp (hf:SC 63 [.str (aC (.dat 2))] (.tuple [aN (.dat 2),.bool true])) (hof:SC 17 [au o,.str (aC (.dat 2))] (.fsl false ((bo (aC (.dat 2)) (aA o (.dat 2)) 0).map aK))):SC 31 [au o,.str (aC (.dat 2)),I i,I now] (cJ (eE o (.dat 2) i now)):=by
 have hlen:ab ((bo (aC (.dat 2)) (aA o (.dat 2)) 0).map aK)=(aA o (.dat 2)).length:=by rw[aM,List.length_map,gK]
 have hcl:=cS o (c:=[.str (aC (.dat 2)),I i,I now]) rfl;have hmy:=jr o (.dat 2);have hha:=jY (.dat 2);have hM:=fA o;have hN:=eJ o;have hL:=eK o;have hC:=fg o;have hfp:=fq {dj o i.toNat (.dat 2) with d9:=⟨true,now⟩};refine bG (A:=dB [] [] (aN (.dat 2)) true true (ei o (dK (.dat 2))) ((bo (aC (.dat 2)) (aA o (.dat 2)) 0).map aK)) base0 ar (aG (LsOk.no rfl)) hcl ?_;unfold au ax at*
 rw[W8,hlen];refine ⟨hf,hha,ai (fun e1=> ?_) fun e1=>⟨hof,ai (fun e2=> ?_) fun e2=>ai (fun e3=> ?_) fun e3=>⟨hmy,ai (fun e4=> ?_) fun e4=>aD hfp ?_⟩⟩⟩
 ·rw[jv e1];exact bd 13
 ·rw[kG e1 e2];exact bd 1
 ·rw[kH e1 e2 (by simpa using e3)];exact bd 1
 ·rw[Bool.not_eq_true'] at e4;have hw:dz o (dm (.dat 2))=false:=e4;rw[Cz e1 e2 (by simpa using e3) hw];exact bd 11
 ·rw[Bool.not_eq_false'] at e4;have hw:dz o (dm (.dat 2))=true:=e4;rw[kI e1 e2 (by simpa using e3) hw];exact gm {dj o i.toNat (.dat 2) with d9:=⟨true,now⟩} 0
theorem Xq (hf:SC 63 [.str (aC (.dat 3))] (.tuple [aN (.dat 3),.bool true])) (hof:SC 17 [au o,.str (aC (.dat 3))] (.fsl false ((bo (aC (.dat 3)) (aA o (.dat 3)) 0).map aK))):SC 31 [au o,.str (aC (.dat 3)),I i,I now] (cJ (eE o (.dat 3) i now)):=by
 have hlen:ab ((bo (aC (.dat 3)) (aA o (.dat 3)) 0).map aK)=(aA o (.dat 3)).length:=by rw[aM,List.length_map,gK]
 have hcl:=cS o (c:=[.str (aC (.dat 3)),I i,I now]) rfl;have hmy:=jr o (.dat 3);have hha:=jY (.dat 3);have hM:=fA o;have hN:=eJ o;have hL:=eK o;have hC:=fg o;have hfp:=fq {dj o i.toNat (.dat 3) with d9:=⟨true,now⟩};refine bG (A:=dB [] [] (aN (.dat 3)) true true (ei o (dK (.dat 3))) ((bo (aC (.dat 3)) (aA o (.dat 3)) 0).map aK)) base0 ar (aG (LsOk.no rfl)) hcl ?_;unfold au ax at*
 rw[W9,hlen];refine ⟨hf,hha,ai (fun e1=> ?_) fun e1=>⟨hof,ai (fun e2=> ?_) fun e2=>ai (fun e3=> ?_) fun e3=>⟨hmy,ai (fun e4=> ?_) fun e4=>aD hfp ?_⟩⟩⟩
 ·rw[jv e1];exact bd 13
 ·rw[kG e1 e2];exact bd 1
 ·rw[kH e1 e2 (by simpa using e3)];exact bd 1
 ·rw[Bool.not_eq_true'] at e4;have hw:dz o (dm (.dat 3))=false:=e4;rw[Cz e1 e2 (by simpa using e3) hw];exact bd 11
 ·rw[Bool.not_eq_false'] at e4;have hw:dz o (dm (.dat 3))=true:=e4;rw[kI e1 e2 (by simpa using e3) hw];exact gm {dj o i.toNat (.dat 3) with d9:=⟨true,now⟩} 0
theorem Xr (ho:cI o) (hf:SC 63 [.str (aC .nam)] (.tuple [aN .nam,.bool true])) (hof:SC 17 [au o,.str (aC .nam)] (.fsl false ((bo (aC .nam) (aA o .nam) 0).map aK))) (hA:o.names.take i.toNat=[]) (hB:o.names.drop (i.toNat+1)=[]):SC 31 [au o,.str (aC .nam),I i,I now] (cJ (eE o .nam i now)):=by
 have hlen:ab ((bo (aC .nam) (aA o .nam) 0).map aK)=(aA o .nam).length:=by rw[aM,List.length_map,gK]
 have hcl:=cS o (c:=[.str (aC .nam),I i,I now]) rfl;have hmy:=jr o .nam;have hha:=jY .nam;have hM:=fA o;have hN:=eJ o;have hL:=eK o;have hC:=fg o;have hsl:ay i 0=false→ay i (.ofNat (aA o .nam).length)=true→cw prog 27 (.fsl false (o.names.map .str)) none (some (I i)) none=some (.val (.fsl false []))∧cw prog 27 (.fsl false (o.names.map .str)) (some (I (aj .i64 (i+1)))) none none=some (.val (.fsl false []))∧cB o.names i.toNat=[]:=fun h1 h2=>by
  obtain ⟨j,e,hj⟩:=pn h1 h2;have hln:(aA o .nam).length=o.names.length:=by simp[aA]
  rw[hln] at hj;subst e;have hb:=ho.n;have e1:(Int.ofNat j).toNat=j:=rfl;rw[e1] at hA hB⊢;have s1:=rE (t:=27) (e:=9) (sz:=1) (R:=o.names.map AV.str) (j:=j) (by kernel_rfl) (by kernel_rfl) (rF _) (by rw[List.length_map];omega);have s2:=pm (t:=27) (e:=9) (sz:=1) (R:=o.names.map AV.str) (j:=j+1) (by kernel_rfl) (by kernel_rfl) (rF _) (by rw[List.length_map];omega);rw[←List.map_take,hA] at s1;rw[←List.map_drop,hB] at s2;rw[dA (by omega)];refine ⟨s1,s2, ?_⟩;unfold cB;rw[hA,hB];rfl
 have hbr:(o.names.drop (i.toNat+1)).length≤8:=by
  have:=ho.n;rw[List.length_drop];omega
 have hba:(o.names.take i.toNat).length≤8:=by
  have:=ho.n;rw[List.length_take];omega
 refine dg (A:=dB [(22,4,.res (.fsl false [])),(22,10,.res (.fsl false []))] [] (aN .nam) true true (ei o (dK .nam)) ((bo (aC .nam) (aA o .nam) 0).map aK)) base0 ar (aG (LsOk.no rfl)) hcl ?_;unfold au ax at*
 unfold bR at*
 rw[Xa,hlen];refine ⟨hf,hha,ai (fun e1=> ?_) fun e1=>⟨hof,ai (fun e2=> ?_) fun e2=>ai (fun e3=> ?_) fun e3=>⟨hmy,ai (fun e4=> ?_) fun e4=> ?_⟩⟩⟩
 ·rw[jv e1];exact fw 13 _
 ·rw[kG e1 e2];exact fw 1 _
 ·rw[kH e1 e2 (by simpa using e3)];exact fw 1 _
 ·cases e4
 ·rw[Bool.not_eq_false'] at e3;obtain ⟨s1,s2,hd⟩:=hsl e2 e3;have hw:dz o (dm .nam)=true:=rfl;have hp:(dj o i.toNat .nam)={o with names:=[]}:=by show {o with names:=cB o.names i.toNat}=_;rw[hd]
  rw[kI e1 e2 e3 hw,hp];refine ⟨s1,s2,aD (nJ {o with names:=[],d9:=⟨true,now⟩} _ (.fsl true []) _ _ rfl) ?_⟩;refine nH (o:={o with names:=[],d9:=⟨true,now⟩}) hM (.closed (.fsl true []) rfl) (.closed _ hL) (.closed _ hC) (c9 {o with names:=[],d9:=⟨true,now⟩} hM rfl hL hC) ?_;refine .tuple (.cons (.agg ?_) (.refl _));simp only[ax,aa,b7,bR,bS,bD]
  (repeat (first|exact Wk.refl _|exact WkL.refl _|exact Wk.nil|exact Wk.row|exact WkE.refl _|exact WkL.nil|exact WkE.nil|apply Wk.agg|apply Wk.tuple|apply WkL.cons|apply Wk.rows|apply WkE.consA))
theorem Xt (ho:cI o) (hf:SC 63 [.str (aC .nam)] (.tuple [aN .nam,.bool true])) (hof:SC 17 [au o,.str (aC .nam)] (.fsl false ((bo (aC .nam) (aA o .nam) 0).map aK))) (b:List UInt8) (B:List (List UInt8)) (hA:o.names.take i.toNat=[]) (hB:o.names.drop (i.toNat+1)=b::B):SC 31 [au o,.str (aC .nam),I i,I now] (cJ (eE o .nam i now)):=by
 have hlen:ab ((bo (aC .nam) (aA o .nam) 0).map aK)=(aA o .nam).length:=by rw[aM,List.length_map,gK]
 have hcl:=cS o (c:=[.str (aC .nam),I i,I now]) rfl;have hmy:=jr o .nam;have hha:=jY .nam;have hM:=fA o;have hN:=eJ o;have hL:=eK o;have hC:=fg o;have hsl:ay i 0=false→ay i (.ofNat (aA o .nam).length)=true→cw prog 27 (.fsl false (o.names.map .str)) none (some (I i)) none=some (.val (.fsl false []))∧cw prog 27 (.fsl false (o.names.map .str)) (some (I (aj .i64 (i+1)))) none none=some (.val (.fsl false (.str b::B.map .str)))∧cB o.names i.toNat=(b::B):=fun h1 h2=>by
  obtain ⟨j,e,hj⟩:=pn h1 h2;have hln:(aA o .nam).length=o.names.length:=by simp[aA]
  rw[hln] at hj;subst e;have hb:=ho.n;have e1:(Int.ofNat j).toNat=j:=rfl;rw[e1] at hA hB⊢;have s1:=rE (t:=27) (e:=9) (sz:=1) (R:=o.names.map AV.str) (j:=j) (by kernel_rfl) (by kernel_rfl) (rF _) (by rw[List.length_map];omega);have s2:=pm (t:=27) (e:=9) (sz:=1) (R:=o.names.map AV.str) (j:=j+1) (by kernel_rfl) (by kernel_rfl) (rF _) (by rw[List.length_map];omega);rw[←List.map_take,hA] at s1;rw[←List.map_drop,hB] at s2;rw[dA (by omega)];refine ⟨s1,s2, ?_⟩;unfold cB;rw[hA,hB];rfl
 have hbr:(o.names.drop (i.toNat+1)).length≤8:=by
  have:=ho.n;rw[List.length_drop];omega
 have hba:(o.names.take i.toNat).length≤8:=by
  have:=ho.n;rw[List.length_take];omega
 refine dg (A:=dB [(22,4,.res (.fsl false [])),(22,10,.res (.fsl false (.str b::B.map .str)))] [] (aN .nam) true true (ei o (dK .nam)) ((bo (aC .nam) (aA o .nam) 0).map aK)) base0 ar (aG (LsOk.no rfl)) hcl ?_;unfold au ax at*
 unfold bR at*
 rw[Xb,hlen];refine ⟨hf,hha,ai (fun e1=> ?_) fun e1=>⟨hof,ai (fun e2=> ?_) fun e2=>ai (fun e3=> ?_) fun e3=>⟨hmy,ai (fun e4=> ?_) fun e4=> ?_⟩⟩⟩
 ·rw[jv e1];exact fw 13 _
 ·rw[kG e1 e2];exact fw 1 _
 ·rw[kH e1 e2 (by simpa using e3)];exact fw 1 _
 ·cases e4
 ·rw[Bool.not_eq_false'] at e3;obtain ⟨s1,s2,hd⟩:=hsl e2 e3;have hw:dz o (dm .nam)=true:=rfl;have hp:(dj o i.toNat .nam)={o with names:=(b::B)}:=by show {o with names:=cB o.names i.toNat}=_;rw[hd]
  rw[kI e1 e2 e3 hw,hp];have hn:(b::B).length≤8:=hB▸hbr;refine ⟨s1,s2,aD ?_ (aD (nJ {o with names:=(b::B),d9:=⟨true,now⟩} _ (.rsl true _ 0 _ 1) _ _ rfl) ?_)⟩
  ·rw[Bool.and_eq_true,Bool.and_true];refine ⟨io fun e he=> ?_, ?_⟩
   ·have he:e∈((b::B).map AV.str):=he;obtain ⟨_,_,rfl⟩:=List.mem_map.1 he;rfl
   ·have:ab (AV.str b::B.map AV.str)=(b::B).length:=by rw[aM];simp
    rw[this];exact Nat.ble_eq_true_of_le (by omega)
  ·refine nH (o:={o with names:=(b::B),d9:=⟨true,now⟩}) hM (Frz.row (es:=(((b::B):List (List UInt8)).map AV.str)) rfl rfl rfl (by rw[aM,Nat.zero_add];simp) (fun e he=>by
   obtain ⟨_,_,rfl⟩:=List.mem_map.1 he;exact rflTwoQ) (by have:=eJ {o with names:=(b::B),d9:=⟨true,now⟩};exact um this)) (.closed _ hL) (.closed _ hC) (c9 {o with names:=(b::B),d9:=⟨true,now⟩} hM (eJ {o with names:=(b::B),d9:=⟨true,now⟩}) hL hC) (.refl _)
theorem Xu (ho:cI o) (hf:SC 63 [.str (aC .nam)] (.tuple [aN .nam,.bool true])) (hof:SC 17 [au o,.str (aC .nam)] (.fsl false ((bo (aC .nam) (aA o .nam) 0).map aK))) (a:List UInt8) (A:List (List UInt8)) (hA:o.names.take i.toNat=a::A):SC 31 [au o,.str (aC .nam),I i,I now] (cJ (eE o .nam i now)):=by
 have hlen:ab ((bo (aC .nam) (aA o .nam) 0).map aK)=(aA o .nam).length:=by rw[aM,List.length_map,gK]
 have hcl:=cS o (c:=[.str (aC .nam),I i,I now]) rfl;have hmy:=jr o .nam;have hha:=jY .nam;have hM:=fA o;have hN:=eJ o;have hL:=eK o;have hC:=fg o;have hsl:ay i 0=false→ay i (.ofNat (aA o .nam).length)=true→cw prog 27 (.fsl false (o.names.map .str)) none (some (I i)) none=some (.val (.fsl false (.str a::A.map .str)))∧cw prog 27 (.fsl false (o.names.map .str)) (some (I (aj .i64 (i+1)))) none none=some (.val (.fsl false ((o.names.drop (i.toNat+1)).map .str)))∧cB o.names i.toNat=((a::A)++o.names.drop (i.toNat+1)):=fun h1 h2=>by
  obtain ⟨j,e,hj⟩:=pn h1 h2;have hln:(aA o .nam).length=o.names.length:=by simp[aA]
  rw[hln] at hj;subst e;have hb:=ho.n;have e1:(Int.ofNat j).toNat=j:=rfl;rw[e1] at hA⊢;have s1:=rE (t:=27) (e:=9) (sz:=1) (R:=o.names.map AV.str) (j:=j) (by kernel_rfl) (by kernel_rfl) (rF _) (by rw[List.length_map];omega);have s2:=pm (t:=27) (e:=9) (sz:=1) (R:=o.names.map AV.str) (j:=j+1) (by kernel_rfl) (by kernel_rfl) (rF _) (by rw[List.length_map];omega);rw[←List.map_take,hA] at s1;rw[←List.map_drop] at s2;rw[dA (by omega)];refine ⟨s1,s2, ?_⟩;unfold cB;rw[hA]
 have hbr:(o.names.drop (i.toNat+1)).length≤8:=by
  have:=ho.n;rw[List.length_drop];omega
 have hba:(o.names.take i.toNat).length≤8:=by
  have:=ho.n;rw[List.length_take];omega
 refine dg (A:=dB [(22,4,.res (.fsl false (.str a::A.map .str))),(22,10,.res (.fsl false ((o.names.drop (i.toNat+1)).map .str)))] [] (aN .nam) true true (ei o (dK .nam)) ((bo (aC .nam) (aA o .nam) 0).map aK)) base0 ar (aG (LsOk.no rfl)) hcl ?_;unfold au ax at*
 unfold bR at*
 rw[Xc,hlen];refine ⟨hf,hha,ai (fun e1=> ?_) fun e1=>⟨hof,ai (fun e2=> ?_) fun e2=>ai (fun e3=> ?_) fun e3=>⟨hmy,ai (fun e4=> ?_) fun e4=> ?_⟩⟩⟩
 ·rw[jv e1];exact fw 13 _
 ·rw[kG e1 e2];exact fw 1 _
 ·rw[kH e1 e2 (by simpa using e3)];exact fw 1 _
 ·cases e4
 ·rw[Bool.not_eq_false'] at e3;obtain ⟨s1,s2,hd⟩:=hsl e2 e3;have hw:dz o (dm .nam)=true:=rfl;have hp:(dj o i.toNat .nam)={o with names:=((a::A)++o.names.drop (i.toNat+1))}:=by show {o with names:=cB o.names i.toNat}=_;rw[hd]
  rw[kI e1 e2 e3 hw,hp];have hn:(a::A).length≤8:=hA▸hba;have hla:ab (AV.str a::A.map AV.str)=(a::A).length:=by rw[aM];simp
  have hlb:ab ((o.names.drop (i.toNat+1)).map AV.str)=(o.names.drop (i.toNat+1)).length:=by rw[aM,List.length_map]
  refine ⟨s1,aD ?_ ⟨s2,aD ?_ (aD ?_ (aD (nJ {o with names:=((a::A)++o.names.drop (i.toNat+1)),d9:=⟨true,now⟩} _ (.rsl true _ 0 _ 1) _ _ rfl) ?_))⟩⟩
  ·rw[Bool.and_eq_true,Bool.and_true];refine ⟨io fun e he=> ?_, ?_⟩
   ·have he:e∈((a::A).map AV.str):=he;obtain ⟨_,_,rfl⟩:=List.mem_map.1 he;rfl
   ·rw[hla];exact Nat.ble_eq_true_of_le (by omega)
  ·rw[Bool.and_eq_true,Bool.and_eq_true,Bool.and_true];refine ⟨io fun e he=> ?_, ?_, ?_⟩
   ·obtain ⟨_,_,rfl⟩:=List.mem_map.1 he;rfl
   ·rw[hla,hlb];exact Nat.ble_eq_true_of_le (by omega)
   ·exact Jy _
  ·rw[beq_iff,aM,hla,Nat.zero_add];exact Xn (a::A)
  ·refine nH (o:={o with names:=((a::A)++o.names.drop (i.toNat+1)),d9:=⟨true,now⟩}) hM (Frz.row (es:=((((a::A)++o.names.drop (i.toNat+1)):List (List UInt8)).map AV.str)) rfl rfl (by rw[List.map_append,ea];rfl) (by rw[hla,hlb,Nat.zero_add,List.length_map,List.length_append]) (fun e he=>by
   obtain ⟨_,_,rfl⟩:=List.mem_map.1 he;exact rflTwoQ) (by have:=eJ {o with names:=((a::A)++o.names.drop (i.toNat+1)),d9:=⟨true,now⟩};exact um this)) (.closed _ hL) (.closed _ hC) (c9 {o with names:=((a::A)++o.names.drop (i.toNat+1)),d9:=⟨true,now⟩} hM (eJ {o with names:=((a::A)++o.names.drop (i.toNat+1)),d9:=⟨true,now⟩}) hL hC) (.refl _)
theorem Xv (ho:cI o) (hf:SC 63 [.str (aC .nam)] (.tuple [aN .nam,.bool true])) (hof:SC 17 [au o,.str (aC .nam)] (.fsl false ((bo (aC .nam) (aA o .nam) 0).map aK))):SC 31 [au o,.str (aC .nam),I i,I now] (cJ (eE o .nam i now)):=by
 cases hA:o.names.take i.toNat with
 |cons a A=>exact Xu ho hf hof a A hA
 |nil=>
  cases hB:o.names.drop (i.toNat+1) with
  |nil=>exact Xr ho hf hof hA hB
  |cons b B=>exact Xt ho hf hof b B hA hB
theorem Xw (ho:cI o) (hf:SC 63 [.str (aC .lnk)] (.tuple [aN .lnk,.bool true])) (hof:SC 17 [au o,.str (aC .lnk)] (.fsl false ((bo (aC .lnk) (aA o .lnk) 0).map aK))) (hA:o.links.take i.toNat=[]) (hB:o.links.drop (i.toNat+1)=[]):SC 31 [au o,.str (aC .lnk),I i,I now] (cJ (eE o .lnk i now)):=by
 have hlen:ab ((bo (aC .lnk) (aA o .lnk) 0).map aK)=(aA o .lnk).length:=by rw[aM,List.length_map,gK]
 have hcl:=cS o (c:=[.str (aC .lnk),I i,I now]) rfl;have hmy:=jr o .lnk;have hha:=jY .lnk;have hM:=fA o;have hN:=eJ o;have hL:=eK o;have hC:=fg o;have hsl:ay i 0=false→ay i (.ofNat (aA o .lnk).length)=true→cw prog 28 (.fsl false (o.links.map aL)) none (some (I i)) none=some (.val (.fsl false []))∧cw prog 28 (.fsl false (o.links.map aL)) (some (I (aj .i64 (i+1)))) none none=some (.val (.fsl false []))∧cB o.links i.toNat=[]:=fun h1 h2=>by
  obtain ⟨j,e,hj⟩:=pn h1 h2;have hln:(aA o .lnk).length=o.links.length:=by simp[aA]
  rw[hln] at hj;subst e;have hb:=ho.l;have e1:(Int.ofNat j).toNat=j:=rfl;rw[e1] at hA hB⊢;have s1:=rE (t:=28) (e:=99) (sz:=2) (R:=o.links.map aL) (j:=j) (by kernel_rfl) (by kernel_rfl) (rG _) (by rw[List.length_map];omega);have s2:=pm (t:=28) (e:=99) (sz:=2) (R:=o.links.map aL) (j:=j+1) (by kernel_rfl) (by kernel_rfl) (rG _) (by rw[List.length_map];omega);rw[←List.map_take,hA] at s1;rw[←List.map_drop,hB] at s2;rw[dA (by omega)];refine ⟨s1,s2, ?_⟩;unfold cB;rw[hA,hB];rfl
 have hbr:(o.links.drop (i.toNat+1)).length≤8:=by
  have:=ho.l;rw[List.length_drop];omega
 have hba:(o.links.take i.toNat).length≤8:=by
  have:=ho.l;rw[List.length_take];omega
 refine dg (A:=dB [(24,4,.res (.fsl false [])),(24,10,.res (.fsl false []))] [] (aN .lnk) true true (ei o (dK .lnk)) ((bo (aC .lnk) (aA o .lnk) 0).map aK)) base0 ar (aG (LsOk.no rfl)) hcl ?_;unfold au ax at*
 unfold bS at*
 rw[Xd,hlen];refine ⟨hf,hha,ai (fun e1=> ?_) fun e1=>⟨hof,ai (fun e2=> ?_) fun e2=>ai (fun e3=> ?_) fun e3=>⟨hmy,ai (fun e4=> ?_) fun e4=> ?_⟩⟩⟩
 ·rw[jv e1];exact fw 13 _
 ·rw[kG e1 e2];exact fw 1 _
 ·rw[kH e1 e2 (by simpa using e3)];exact fw 1 _
 ·cases e4
 ·rw[Bool.not_eq_false'] at e3;obtain ⟨s1,s2,hd⟩:=hsl e2 e3;have hw:dz o (dm .lnk)=true:=rfl;have hp:(dj o i.toNat .lnk)={o with links:=[]}:=by show {o with links:=cB o.links i.toNat}=_;rw[hd]
  rw[kI e1 e2 e3 hw,hp];refine ⟨s1,s2,aD (nJ {o with links:=[],d9:=⟨true,now⟩} _ _ (.fsl true []) _ rfl) ?_⟩;refine nH (o:={o with links:=[],d9:=⟨true,now⟩}) hM (.closed _ hN) (.closed (.fsl true []) rfl) (.closed _ hC) (c9 {o with links:=[],d9:=⟨true,now⟩} hM hN rfl hC) ?_;refine .tuple (.cons (.agg ?_) (.refl _));simp only[ax,aa,b7,bR,bS,bD]
  (repeat (first|exact Wk.refl _|exact WkL.refl _|exact Wk.nil|exact Wk.row|exact WkE.refl _|exact WkL.nil|exact WkE.nil|apply Wk.agg|apply Wk.tuple|apply WkL.cons|apply Wk.rows|apply WkE.consA))
theorem Xx (ho:cI o) (hf:SC 63 [.str (aC .lnk)] (.tuple [aN .lnk,.bool true])) (hof:SC 17 [au o,.str (aC .lnk)] (.fsl false ((bo (aC .lnk) (aA o .lnk) 0).map aK))) (b:Lk) (B:List (Lk)) (hA:o.links.take i.toNat=[]) (hB:o.links.drop (i.toNat+1)=b::B):SC 31 [au o,.str (aC .lnk),I i,I now] (cJ (eE o .lnk i now)):=by
 have hlen:ab ((bo (aC .lnk) (aA o .lnk) 0).map aK)=(aA o .lnk).length:=by rw[aM,List.length_map,gK]
 have hcl:=cS o (c:=[.str (aC .lnk),I i,I now]) rfl;have hmy:=jr o .lnk;have hha:=jY .lnk;have hM:=fA o;have hN:=eJ o;have hL:=eK o;have hC:=fg o;have hsl:ay i 0=false→ay i (.ofNat (aA o .lnk).length)=true→cw prog 28 (.fsl false (o.links.map aL)) none (some (I i)) none=some (.val (.fsl false []))∧cw prog 28 (.fsl false (o.links.map aL)) (some (I (aj .i64 (i+1)))) none none=some (.val (.fsl false (aL b::B.map aL)))∧cB o.links i.toNat=(b::B):=fun h1 h2=>by
  obtain ⟨j,e,hj⟩:=pn h1 h2;have hln:(aA o .lnk).length=o.links.length:=by simp[aA]
  rw[hln] at hj;subst e;have hb:=ho.l;have e1:(Int.ofNat j).toNat=j:=rfl;rw[e1] at hA hB⊢;have s1:=rE (t:=28) (e:=99) (sz:=2) (R:=o.links.map aL) (j:=j) (by kernel_rfl) (by kernel_rfl) (rG _) (by rw[List.length_map];omega);have s2:=pm (t:=28) (e:=99) (sz:=2) (R:=o.links.map aL) (j:=j+1) (by kernel_rfl) (by kernel_rfl) (rG _) (by rw[List.length_map];omega);rw[←List.map_take,hA] at s1;rw[←List.map_drop,hB] at s2;rw[dA (by omega)];refine ⟨s1,s2, ?_⟩;unfold cB;rw[hA,hB];rfl
 have hbr:(o.links.drop (i.toNat+1)).length≤8:=by
  have:=ho.l;rw[List.length_drop];omega
 have hba:(o.links.take i.toNat).length≤8:=by
  have:=ho.l;rw[List.length_take];omega
 refine dg (A:=dB [(24,4,.res (.fsl false [])),(24,10,.res (.fsl false (aL b::B.map aL)))] [] (aN .lnk) true true (ei o (dK .lnk)) ((bo (aC .lnk) (aA o .lnk) 0).map aK)) base0 ar (aG (LsOk.no rfl)) hcl ?_;unfold au ax at*
 unfold bS at*
 rw[Xe,hlen];refine ⟨hf,hha,ai (fun e1=> ?_) fun e1=>⟨hof,ai (fun e2=> ?_) fun e2=>ai (fun e3=> ?_) fun e3=>⟨hmy,ai (fun e4=> ?_) fun e4=> ?_⟩⟩⟩
 ·rw[jv e1];exact fw 13 _
 ·rw[kG e1 e2];exact fw 1 _
 ·rw[kH e1 e2 (by simpa using e3)];exact fw 1 _
 ·cases e4
 ·rw[Bool.not_eq_false'] at e3;obtain ⟨s1,s2,hd⟩:=hsl e2 e3;have hw:dz o (dm .lnk)=true:=rfl;have hp:(dj o i.toNat .lnk)={o with links:=(b::B)}:=by show {o with links:=cB o.links i.toNat}=_;rw[hd]
  rw[kI e1 e2 e3 hw,hp];have hn:(b::B).length≤8:=hB▸hbr;refine ⟨s1,s2,aD ?_ (aD (nJ {o with links:=(b::B),d9:=⟨true,now⟩} _ _ (.rsl true _ 0 _ 2) _ rfl) ?_)⟩
  ·rw[Bool.and_eq_true,Bool.and_true];refine ⟨io fun e he=> ?_, ?_⟩
   ·have he:e∈((b::B).map aL):=he;obtain ⟨_,_,rfl⟩:=List.mem_map.1 he;rfl
   ·have:ab (AV.agg [I b.ty,AV.str b.id]::B.map aL)=(b::B).length:=by rw[aM];simp
    rw[this];exact Nat.ble_eq_true_of_le (by omega)
  ·refine nH (o:={o with links:=(b::B),d9:=⟨true,now⟩}) hM (.closed _ hN) (Frz.row (es:=(((b::B):List (Lk)).map aL)) rfl rfl rfl (by rw[aM,Nat.zero_add];simp) (fun e he=>by
   obtain ⟨_,_,rfl⟩:=List.mem_map.1 he;exact rflTwoQ) (by have:=eK {o with links:=(b::B),d9:=⟨true,now⟩};exact um this)) (.closed _ hC) (c9 {o with links:=(b::B),d9:=⟨true,now⟩} hM hN (eK {o with links:=(b::B),d9:=⟨true,now⟩}) hC) (.refl _)
theorem Xy (ho:cI o) (hf:SC 63 [.str (aC .lnk)] (.tuple [aN .lnk,.bool true])) (hof:SC 17 [au o,.str (aC .lnk)] (.fsl false ((bo (aC .lnk) (aA o .lnk) 0).map aK))) (a:Lk) (A:List (Lk)) (hA:o.links.take i.toNat=a::A):SC 31 [au o,.str (aC .lnk),I i,I now] (cJ (eE o .lnk i now)):=by
 have hlen:ab ((bo (aC .lnk) (aA o .lnk) 0).map aK)=(aA o .lnk).length:=by rw[aM,List.length_map,gK]
 have hcl:=cS o (c:=[.str (aC .lnk),I i,I now]) rfl;have hmy:=jr o .lnk;have hha:=jY .lnk;have hM:=fA o;have hN:=eJ o;have hL:=eK o;have hC:=fg o;have hsl:ay i 0=false→ay i (.ofNat (aA o .lnk).length)=true→cw prog 28 (.fsl false (o.links.map aL)) none (some (I i)) none=some (.val (.fsl false (aL a::A.map aL)))∧cw prog 28 (.fsl false (o.links.map aL)) (some (I (aj .i64 (i+1)))) none none=some (.val (.fsl false ((o.links.drop (i.toNat+1)).map aL)))∧cB o.links i.toNat=((a::A)++o.links.drop (i.toNat+1)):=fun h1 h2=>by
  obtain ⟨j,e,hj⟩:=pn h1 h2;have hln:(aA o .lnk).length=o.links.length:=by simp[aA]
  rw[hln] at hj;subst e;have hb:=ho.l;have e1:(Int.ofNat j).toNat=j:=rfl;rw[e1] at hA⊢;have s1:=rE (t:=28) (e:=99) (sz:=2) (R:=o.links.map aL) (j:=j) (by kernel_rfl) (by kernel_rfl) (rG _) (by rw[List.length_map];omega);have s2:=pm (t:=28) (e:=99) (sz:=2) (R:=o.links.map aL) (j:=j+1) (by kernel_rfl) (by kernel_rfl) (rG _) (by rw[List.length_map];omega);rw[←List.map_take,hA] at s1;rw[←List.map_drop] at s2;rw[dA (by omega)];refine ⟨s1,s2, ?_⟩;unfold cB;rw[hA]
 have hbr:(o.links.drop (i.toNat+1)).length≤8:=by
  have:=ho.l;rw[List.length_drop];omega
 have hba:(o.links.take i.toNat).length≤8:=by
  have:=ho.l;rw[List.length_take];omega
 refine dg (A:=dB [(24,4,.res (.fsl false (aL a::A.map aL))),(24,10,.res (.fsl false ((o.links.drop (i.toNat+1)).map aL)))] [] (aN .lnk) true true (ei o (dK .lnk)) ((bo (aC .lnk) (aA o .lnk) 0).map aK)) base0 ar (aG (LsOk.no rfl)) hcl ?_;unfold au ax at*
 unfold bS at*
 rw[Xf,hlen];refine ⟨hf,hha,ai (fun e1=> ?_) fun e1=>⟨hof,ai (fun e2=> ?_) fun e2=>ai (fun e3=> ?_) fun e3=>⟨hmy,ai (fun e4=> ?_) fun e4=> ?_⟩⟩⟩
 ·rw[jv e1];exact fw 13 _
 ·rw[kG e1 e2];exact fw 1 _
 ·rw[kH e1 e2 (by simpa using e3)];exact fw 1 _
 ·cases e4
 ·rw[Bool.not_eq_false'] at e3;obtain ⟨s1,s2,hd⟩:=hsl e2 e3;have hw:dz o (dm .lnk)=true:=rfl;have hp:(dj o i.toNat .lnk)={o with links:=((a::A)++o.links.drop (i.toNat+1))}:=by show {o with links:=cB o.links i.toNat}=_;rw[hd]
  rw[kI e1 e2 e3 hw,hp];have hn:(a::A).length≤8:=hA▸hba;have hla:ab (AV.agg [I a.ty,AV.str a.id]::A.map aL)=(a::A).length:=by rw[aM];simp
  have hlb:ab ((o.links.drop (i.toNat+1)).map aL)=(o.links.drop (i.toNat+1)).length:=by rw[aM,List.length_map]
  refine ⟨s1,aD ?_ ⟨s2,aD ?_ (aD ?_ (aD (nJ {o with links:=((a::A)++o.links.drop (i.toNat+1)),d9:=⟨true,now⟩} _ _ (.rsl true _ 0 _ 2) _ rfl) ?_))⟩⟩
  ·rw[Bool.and_eq_true,Bool.and_true];refine ⟨io fun e he=> ?_, ?_⟩
   ·have he:e∈((a::A).map aL):=he;obtain ⟨_,_,rfl⟩:=List.mem_map.1 he;rfl
   ·rw[hla];exact Nat.ble_eq_true_of_le (by omega)
  ·rw[Bool.and_eq_true,Bool.and_eq_true,Bool.and_true];refine ⟨io fun e he=> ?_, ?_, ?_⟩
   ·obtain ⟨_,_,rfl⟩:=List.mem_map.1 he;rfl
   ·rw[hla,hlb];exact Nat.ble_eq_true_of_le (by omega)
   ·exact Jz _
  ·rw[beq_iff,aM,hla,Nat.zero_add];exact JA (a::A)
  ·refine nH (o:={o with links:=((a::A)++o.links.drop (i.toNat+1)),d9:=⟨true,now⟩}) hM (.closed _ hN) (Frz.row (es:=((((a::A)++o.links.drop (i.toNat+1)):List (Lk)).map aL)) rfl rfl (by rw[List.map_append,ea];rfl) (by rw[hla,hlb,Nat.zero_add,List.length_map,List.length_append]) (fun e he=>by
   obtain ⟨_,_,rfl⟩:=List.mem_map.1 he;exact rflTwoQ) (by have:=eK {o with links:=((a::A)++o.links.drop (i.toNat+1)),d9:=⟨true,now⟩};exact um this)) (.closed _ hC) (c9 {o with links:=((a::A)++o.links.drop (i.toNat+1)),d9:=⟨true,now⟩} hM hN (eK {o with links:=((a::A)++o.links.drop (i.toNat+1)),d9:=⟨true,now⟩}) hC) (.refl _)
theorem Xz (ho:cI o) (hf:SC 63 [.str (aC .lnk)] (.tuple [aN .lnk,.bool true])) (hof:SC 17 [au o,.str (aC .lnk)] (.fsl false ((bo (aC .lnk) (aA o .lnk) 0).map aK))):SC 31 [au o,.str (aC .lnk),I i,I now] (cJ (eE o .lnk i now)):=by
 cases hA:o.links.take i.toNat with
 |cons a A=>exact Xy ho hf hof a A hA
 |nil=>
  cases hB:o.links.drop (i.toNat+1) with
  |nil=>exact Xw ho hf hof hA hB
  |cons b B=>exact Xx ho hf hof b B hA hB
end
end Go.Proofs.YtjhggnebkfpgcaaGreatDoor
