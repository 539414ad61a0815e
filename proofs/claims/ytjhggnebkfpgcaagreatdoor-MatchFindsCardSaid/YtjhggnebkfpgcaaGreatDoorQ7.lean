import Derived.Test.YtjhggnebkfpgcaaGreatDoorQ6
import Derived.KernelRfl
import Derived.Test.YtjhggnebkfpgcaaGreatDoorQ5
import Derived.Test.YtjhggnebkfpgcaaGreatDoorQ4
namespace Go.Proofs.YtjhggnebkfpgcaaGreatDoor
set_option maxRecDepth 20000
open Go Go.RowKit
open Go.Proofs.Abs
theorem I7 {o:Ob}:∀ {l:List Ob} {k:Nat},k<kF o l→∃y,l[k]? =some y∧aP o y=false
 |[],_,h=>absurd h (Nat.not_lt_zero _)
 | y::r,k,h=>by
  rw[kF] at h
  cases hl:aP o y with
  |true=>rw[hl] at h;exact absurd h (Nat.not_lt_zero _)
  | false=>
   rw[hl] at h
   cases k with
   |zero=>exact ⟨y,rfl,hl⟩
   |succ k=>
    obtain ⟨z,h1,h2⟩:=I7 (o:=o) (l:=r) (k:=k) (by simp only at h;omega)
    exact ⟨z,h1,h2⟩
theorem I8 {o:Ob}:∀ {l:List Ob},kF o l<l.length→∃y,l[kF o l]? =some y∧aP o y=true
 |[],h=>absurd h (Nat.not_lt_zero _)
 | y::r,h=>by
  rw[kF] at h⊢
  cases hl:aP o y with
  |true=>exact ⟨y,rfl,hl⟩
  |false=>
   rw[hl] at h
   simp only[List.length_cons] at h
   obtain ⟨z,h1,h2⟩:=I8 (o:=o) (l:=r) (by omega)
   exact ⟨z,h1,h2⟩
section
variable {os out:List Ob} {Cs:List AV} {most:Int} {Q:AExit→St→Prop}
theorem UX (hb:out.length≤1000) (hC:ad Cs=true) {i:Nat} {o:Ob} (g:os[i]? =some o) (hd:o.d0.has=true) (hds:∀y∈out,y.d0.has=true)
  (hq:Q (.exit 2) (gb (.ofNat (kF o out)) (.ofNat i) most (os.map aj) Cs out.length (au out)).st):
  ∀m k,k+m=kF o out→ALp Tryz.prog opts0.glob 0 (ah Tryz.prog 59 8) (gb (.ofNat k) (.ofNat i) most (os.map aj) Cs out.length (au out)).st Q:=by
 have hO:=eW os
 have hF:=bw out
 have hx:=qo g
 have hkl:=Bk o out
 intro m
 induction m with
 | zero=>
  intro k hk
  have hk:k=kF o out:=by omega
  subst hk
  by_cases hlt:kF o out<out.length
  ·obtain ⟨y,hy,hl⟩:=I8 hlt
   have hs:=I1 hd (hds y (List.mem_of_getElem? hy))
   rw[hl] at hs
   refine ALp.round (A:=wv (ao o) (ao y) true) (V2:=gb 0 (.ofNat i) most (os.map aj) Cs out.length (au out)) (F:=gb (.ofNat (kF o out)) (.ofNat i) most (os.map aj) Cs out.length (au out)) (lk:=[(0,0)]) (lk':=[(0,0)]) base0 am (LsOk.no rfl) .refl ?_
   have hp:=sX hy
   unfold aj at hs
   unfold ao at hx hs hp⊢
   rw[Bc]
   exact a8 (ep hlt) ⟨hx,aH (f6 hlt) ⟨hp,hs,bz rfl ⟨⟨⟨⟨rfl,rfl⟩,⟨rfl,hO⟩,⟨rfl,hC⟩,⟨rfl,rfl⟩,⟨rfl,rfl⟩,trivial⟩,⟨⟨rfl,rfl,rfl,rfl,rfl⟩,trivial⟩,⟨rfl,hF⟩,trivial⟩,hq⟩⟩⟩
  ·refine ALp.round (A:=wv (ao o) (ao o) true) (V2:=gb 0 (.ofNat i) most (os.map aj) Cs out.length (au out)) (F:=gb (.ofNat (kF o out)) (.ofNat i) most (os.map aj) Cs out.length (au out)) (lk:=[(0,0)]) (lk':=[(0,0)]) base0 am (LsOk.no rfl) .refl ?_
   unfold ao
   rw[Bc]
   exact bz (je (by omega)) ⟨⟨⟨⟨rfl,rfl⟩,⟨rfl,hO⟩,⟨rfl,hC⟩,⟨rfl,rfl⟩,⟨rfl,rfl⟩,trivial⟩,⟨⟨rfl,rfl,rfl,rfl,rfl⟩,trivial⟩,⟨rfl,hF⟩,trivial⟩,hq⟩
 |succ m ih=>
  intro k hk
  have ih:=ih (k+1) (by omega)
  obtain ⟨y,hy,hl⟩:=I7 (o:=o) (l:=out) (k:=k) (by omega)
  have hlt:k<out.length:=by omega
  have hs:=I1 hd (hds y (List.mem_of_getElem? hy))
  rw[hl] at hs
  refine ALp.round (A:=wv (ao o) (ao y) false) (V2:=gb (.ofNat (k+1)) (.ofNat i) most (os.map aj) Cs out.length (au out)) (F:=gb (.ofNat k) (.ofNat i) most (os.map aj) Cs out.length (au out)) (lk:=[(0,0)]) (lk':=[(0,0)]) base0 am (LsOk.no rfl) .refl ?_
  have hp:=sX hy
  unfold aj at hs
  unfold ao at hx hs hp⊢
  rw[Bc,em (p:=k) (by omega)]
  exact a8 (ep hlt) ⟨hx,aH (f6 hlt) ⟨hp,hs,a8 rfl ⟨⟨⟨⟨rfl,rfl⟩,⟨rfl,hO⟩,⟨rfl,hC⟩,⟨rfl,rfl⟩,⟨rfl,rfl⟩,trivial⟩,⟨⟨rfl,rfl,rfl,rfl,rfl⟩,trivial⟩,⟨rfl,hF⟩,trivial⟩,ih⟩⟩⟩
theorem Bm {j:Nat} (h:j≤1000):af .i64 (Int.ofNat (j+1)-1)=Int.ofNat j:=by
 rw[co (by simp only[Int.ofNat_eq_natCast];omega) (by simp only[Int.ofNat_eq_natCast];omega)]
 simp only[Int.ofNat_eq_natCast]
 omega
def fO (out:List Ob) (K:Nat) (h:List AV):List AV:=match out[K]? with
 |none=>h
 |some a=>ao a
theorem UY {K:Nat} {h:List AV} (hh:h.length=37):(fO out K h).length=37:=by
 unfold fO
 split
 ·exact hh
 ·rfl
theorem UZ {K:Nat} {h:List AV} (hh:ad h=true):ad (fO out K h)=true:=by
 unfold fO
 split
 ·exact hh
 ·exact dr _
theorem U0 (hC:ad Cs=true) {i K:Nat} {h:List AV} (hc:ad h=true)
  (hq:Q (.exit 4) (fL (.ofNat K) (.ofNat K) (.ofNat i) most (os.map aj) Cs (out.length+1) (cB out K h)).st):
  ALp Tryz.prog opts0.glob 0 (ah Tryz.prog 59 12) (fL (.ofNat K) (.ofNat K) (.ofNat i) most (os.map aj) Cs (out.length+1) (cB out K h)).st Q:=by
 have hO:=eW os
 have hF:=qq (l:=out) (j:=K) hc
 refine ALp.round (A:=aq [(13,6,.ld (.agg (aa zO .nilsl .nilsl .nilsl .nilsl)))] [] aA [] []) (V2:=fL 0 (.ofNat K) (.ofNat i) most (os.map aj) Cs (out.length+1) (cB out K h)) (F:=fL (.ofNat K) (.ofNat K) (.ofNat i) most (os.map aj) Cs (out.length+1) (cB out K h)) (lk:=[(0,0)]) (lk':=[(0,0)]) base0 am (LsOk.no rfl) .refl ?_
 rw[H8]
 exact bz (je (Nat.le_refl _)) ⟨⟨⟨⟨rfl,rfl⟩,⟨rfl,rfl⟩,⟨rfl,hO⟩,⟨rfl,hC⟩,⟨rfl,rfl⟩,⟨rfl,rfl⟩,trivial⟩,⟨⟨rfl,rfl,rfl,rfl,rfl⟩,trivial⟩,⟨rfl,hF⟩,trivial⟩,hq⟩
theorem U1 (hb:out.length≤1000) (hC:ad Cs=true) {i K:Nat}:
  ∀m j (h:List AV),j=K+m→j≤out.length→h.length=37→ad h=true→(m≠0→Q (.exit 4) (fL (.ofNat K) (.ofNat K) (.ofNat i) most (os.map aj) Cs (out.length+1) (cB out K (fO out K h))).st)→(m=0→Q (.exit 4) (fL (.ofNat K) (.ofNat K) (.ofNat i) most (os.map aj) Cs (out.length+1) (cB out K h)).st)→
   ALp Tryz.prog opts0.glob 0 (ah Tryz.prog 59 12) (fL (.ofNat j) (.ofNat K) (.ofNat i) most (os.map aj) Cs (out.length+1) (cB out j h)).st Q:=by
 have hO:=eW os
 intro m
 induction m with
 |zero=>
  intro j h hj _ _ hc _ hq
  have hj:j=K:=by omega
  subst hj
  exact U0 hC hc (hq rfl)
 | succ m ih=>
  intro j h hj hjl hh hc hq _
  obtain ⟨j,rfl⟩:∃t,j=t+1:=⟨j-1,by omega⟩
  have g:=List.getElem?_eq_getElem (show j<out.length by omega)
  have hq:=hq (Nat.succ_ne_zero m)
  revert g
  generalize out[j]'(show j<out.length by omega)=a
  intro g
  have e:∀ (hm:m=0),fO out K h=ao a:=fun hm=>by
   have:j=K:=by omega
   subst this
   unfold fO
   rw[g]
  have e2:m≠0→fO out K (ao a)=fO out K h:=fun hm=>by
   have hK:K<out.length:=by omega
   unfold fO
   rw[List.getElem?_eq_getElem hK]
  have ih:=ih j (ao a) (by omega) (by omega) rfl (dr a) (fun hm=>by rw[e2 hm];exact hq) (fun hm=>by rw[←e hm];exact hq)
  have hp:=US (h:=h) g
  have bQ:=I5 (l:=out) (j:=j+1) (h:=h) (by omega) hh (ao a) rfl
  rw[UT g] at bQ
  have hl:=I6 (l:=out) (j:=j+1) (h:=h) (by omega) hh
  have hcc:=qq (l:=out) (j:=j) (h:=ao a) (dr a)
  have hcc2:=qq (l:=out) (j:=j+1) hc
  have hle:Nat.ble (0+(Int.ofNat (j+1)).toNat*37+37) (ab (cB out (j+1) h))=true:=iB (by rw[aI,hl];simp only[Int.ofNat_eq_natCast,Int.toNat_natCast];omega)
  have fo:=nV a
  refine ALp.round (A:=aq [(13,6,.ld (.agg (ao a)))] [] aA [] []) (V2:=fL (.ofNat j) (.ofNat K) (.ofNat i) most (os.map aj) Cs (out.length+1) (cB out j (ao a))) (F:=fL (.ofNat (j+1)) (.ofNat K) (.ofNat i) most (os.map aj) Cs (out.length+1) (cB out (j+1) h)) (lk:=[(0,0)]) (lk':=[(0,0)]) base0 am (LsOk.no rfl) .refl ?_
  generalize cB out (j+1) h=es at hp bQ hle hcc2⊢
  unfold ao at hp bQ fo hcc ih⊢
  rw[H8,Bm (by omega)]
  exact a8 (ep (by omega)) (aH (f6 (by omega)) ⟨hp,aH (f6 (by omega)) (aH fo (aH hle ⟨⟨⟨⟨rfl,rfl⟩,⟨rfl,rfl⟩,⟨rfl,hO⟩,⟨rfl,hC⟩,⟨rfl,rfl⟩,⟨rfl,rfl⟩,trivial⟩,⟨⟨rfl,rfl,rfl,rfl,rfl⟩,trivial⟩,⟨bQ,hcc⟩,trivial⟩,ih⟩))⟩)
end
noncomputable def lZ (i most:Int) (Os Cs:List AV):List Ob→View
 |[]=>dA i most Os Cs
 |x::r=>cW i most Os Cs (r.length+1) (au (x::r))
def iD:List AV:=aa zO .nilsl .nilsl .nilsl .nilsl
theorem U2 (o:Ob) (l:List Ob):∃y q,er o l=y::q∧q.length=l.length:=by
 have h:=(Bl o l).length_eq
 rw[List.length_append,List.length_singleton] at h
 cases hl:er o l with
 |nil=>rw[hl] at h;cases h
 |cons y q=>rw[hl] at h;simp only[List.length_cons] at h;exact ⟨y,q,rfl,by omega⟩
theorem U3 (L:List At) (l:List Ob) (o:Ob):gd L (l++[o])=match cE o L with
  |true=>er o (gd L l)
  |false=>gd L l:=UQ L l o
section
variable {os:List Ob} {C:List At} {most:Int} {Q:AExit→St→Prop}
theorem U4:br (ah Tryz.prog 59 4) 8=[ah Tryz.prog 59 8]:=by kernel_rfl
theorem U5:br (ah Tryz.prog 59 4) 12=[ah Tryz.prog 59 12]:=by kernel_rfl
theorem U6 {i:Nat} (hi:i=os.length) (out:List Ob) (hq:Q (.exit 0) (lZ (.ofNat i) most (os.map aj) (C.map ag) out).st):ALp Tryz.prog opts0.glob 0 (ah Tryz.prog 59 4) (lZ (.ofNat i) most (os.map aj) (C.map ag) out).st Q:=by
 have hO:=eW os
 have hC:=bP C
 have hlen:ab (os.map aj)=os.length:=by rw[aI,List.length_map]
 cases out with
 |nil=>
  refine ALp.round (A:=jT (aa zO .nilsl .nilsl .nilsl .nilsl) false []) (V2:=dA 0 most (os.map aj) (C.map ag)) (F:=dA (.ofNat i) most (os.map aj) (C.map ag)) (lk:=[]) (lk':=[]) base0 am (LsOk.no rfl) .refl ?_
  show aw Tryz.prog opts0 40 _ _ (dA (.ofNat i) most (os.map aj) (C.map ag)).st _
  rw[H9,hlen]
  exact bz (je (by omega)) ⟨⟨⟨⟨rfl,hO⟩,⟨rfl,hC⟩,⟨rfl,rfl⟩,⟨rfl,rfl⟩,⟨rfl,rfl⟩,trivial⟩,trivial,trivial⟩,hq⟩
 |cons x r=>
  have hF:=bw (x::r)
  refine ALp.round (A:=jT (aa zO .nilsl .nilsl .nilsl .nilsl) false []) (V2:=cW 0 most (os.map aj) (C.map ag) (r.length+1) (au (x::r))) (F:=cW (.ofNat i) most (os.map aj) (C.map ag) (r.length+1) (au (x::r))) (lk:=[(0,0)]) (lk':=[(0,0)]) base0 am (LsOk.no rfl) .refl ?_
  show aw Tryz.prog opts0 40 _ _ (cW (.ofNat i) most (os.map aj) (C.map ag) (r.length+1) (au (x::r))).st _
  rw[Ia,hlen]
  exact bz (je (by omega)) ⟨⟨⟨⟨rfl,hO⟩,⟨rfl,hC⟩,⟨rfl,rfl⟩,⟨rfl,rfl⟩,trivial⟩,⟨⟨rfl,rfl,rfl,rfl,rfl⟩,trivial⟩,⟨rfl,hF⟩,trivial⟩,hq⟩
theorem U7 (hb:os.length≤1000) {i:Nat} {o:Ob} (g:os[i]? =some o) (hs:SC 58 [aj o,.fsl false (C.map ag)] (.bool false)) (out:List Ob)
  (hn:ALp Tryz.prog opts0.glob 0 (ah Tryz.prog 59 4) (lZ (.ofNat (i+1)) most (os.map aj) (C.map ag) out).st Q):ALp Tryz.prog opts0.glob 0 (ah Tryz.prog 59 4) (lZ (.ofNat i) most (os.map aj) (C.map ag) out).st Q:=by
 have hO:=eW os
 have hC:=bP C
 have hlen:ab (os.map aj)=os.length:=by rw[aI,List.length_map]
 have hlt:i<os.length:=(List.getElem?_eq_some_iff.1 g).1
 have hx:=qo g
 cases out with
 |nil=>
  refine ALp.round (A:=jT (ao o) false []) (V2:=dA (.ofNat (i+1)) most (os.map aj) (C.map ag)) (F:=dA (.ofNat i) most (os.map aj) (C.map ag)) (lk:=[]) (lk':=[]) base0 am (LsOk.no rfl) .refl ?_
  show aw Tryz.prog opts0 40 _ _ (dA (.ofNat i) most (os.map aj) (C.map ag)).st _
  unfold aj at hs
  unfold ao at hs hx⊢
  rw[H9,hlen,em (p:=i) (by omega)]
  exact a8 (ep hlt) ⟨hx,hs,⟨⟨⟨rfl,hO⟩,⟨rfl,hC⟩,⟨rfl,rfl⟩,⟨rfl,rfl⟩,⟨rfl,rfl⟩,trivial⟩,trivial,trivial⟩,hn⟩
 |cons x r=>
  have hF:=bw (x::r)
  refine ALp.round (A:=jT (ao o) false []) (V2:=cW (.ofNat (i+1)) most (os.map aj) (C.map ag) (r.length+1) (au (x::r))) (F:=cW (.ofNat i) most (os.map aj) (C.map ag) (r.length+1) (au (x::r))) (lk:=[(0,0)]) (lk':=[(0,0)]) base0 am (LsOk.no rfl) .refl ?_
  show aw Tryz.prog opts0 40 _ _ (cW (.ofNat i) most (os.map aj) (C.map ag) (r.length+1) (au (x::r))).st _
  have hn:ALp Tryz.prog opts0.glob 0 (ah Tryz.prog 59 4) (cW (.ofNat (i+1)) most (os.map aj) (C.map ag) (r.length+1) (au (x::r))).st Q:=hn
  generalize au (x::r)=es at hF hn⊢
  unfold aj at hs
  unfold ao at hs hx⊢
  rw[Ia,hlen,em (p:=i) (by omega)]
  exact a8 (ep hlt) ⟨hx,hs,⟨⟨⟨rfl,hO⟩,⟨rfl,hC⟩,⟨rfl,rfl⟩,⟨rfl,rfl⟩,trivial⟩,⟨⟨rfl,rfl,rfl,rfl,rfl⟩,trivial⟩,⟨rfl,hF⟩,trivial⟩,hn⟩
theorem U8 (hb:os.length≤900) {i:Nat} {o:Ob} (g:os[i]? =some o) (hs:SC 58 [aj o,.fsl false (C.map ag)] (.bool true)) (hd:o.d0.has=true) (out:List Ob) (hds:∀y∈out,y.d0.has=true) (hob:out.length≤i)
  (hn:ALp Tryz.prog opts0.glob 0 (ah Tryz.prog 59 4) (lZ (.ofNat (i+1)) most (os.map aj) (C.map ag) (er o out)).st Q):ALp Tryz.prog opts0.glob 0 (ah Tryz.prog 59 4) (lZ (.ofNat i) most (os.map aj) (C.map ag) out).st Q:=by
 have hO:=eW os
 have hC:=bP C
 have hlen:ab (os.map aj)=os.length:=by rw[aI,List.length_map]
 have hlt:i<os.length:=(List.getElem?_eq_some_iff.1 g).1
 have hx:=qo g
 have fo:=nV o
 cases out with
 |nil=>
  rw[I3] at hn
  have hn:ALp Tryz.prog opts0.glob 0 (ah Tryz.prog 59 4) (cW (.ofNat (i+1)) most (os.map aj) (C.map ag) 1 (au [o])).st Q:=hn
  have hF:=bw [o]
  refine ALp.round (A:=jT (ao o) true []) (V2:=cW (.ofNat (i+1)) most (os.map aj) (C.map ag) 1 (au [o])) (F:=dA (.ofNat i) most (os.map aj) (C.map ag)) (lk:=[(0,31)]) (lk':=[]) base0 am (LsOk.no rfl) .refl ?_
  show aw Tryz.prog opts0 40 _ _ (dA (.ofNat i) most (os.map aj) (C.map ag)).st _
  unfold aj at hs
  unfold ao at hs hx fo⊢
  rw[T0,hlen,em (p:=i) (by omega)]
  exact a8 (ep hlt) ⟨hx,hs,hx,aH fo ⟨⟨⟨⟨rfl,hO⟩,⟨rfl,hC⟩,⟨rfl,rfl⟩,⟨rfl,rfl⟩,trivial⟩,⟨⟨rfl,rfl,rfl,rfl,rfl⟩,trivial⟩,⟨rfl,hF⟩,trivial⟩,hn⟩⟩
 | cons x r=>
  obtain ⟨y,q,bA,hql⟩:=U2 o (x::r)
  have hcells:au (er o (x::r))=cB (x::r) (kF o (x::r)) (ao o):=(UU o (x::r)).symm
  rw[bA] at hn hcells
  simp only[List.length_cons] at hql hob
  have hn:ALp Tryz.prog opts0.glob 0 (ah Tryz.prog 59 4) (cW (.ofNat (i+1)) most (os.map aj) (C.map ag) (q.length+1) (au (y::q))).st Q:=hn
  rw[hcells,hql] at hn
  have hK:=Bk o (x::r)
  have hkr:=fun (Q:AExit→St→Prop) hq=>UX (out:=x::r) (most:=most) (Q:=Q) (by simp only[List.length_cons];omega) hC g hd hds hq (kF o (x::r)) 0 (Nat.zero_add _)
  have hz:ad iD=true:=rfl
  have hhr:=fun (Q:AExit→St→Prop) (h:Q (.exit 4) (fL (.ofNat (kF o (x::r))) (.ofNat (kF o (x::r))) (.ofNat i) most (os.map aj) (C.map ag) ((x::r).length+1) (cB (x::r) (kF o (x::r)) (fO (x::r) (kF o (x::r)) iD))).st)=>U1 (out:=x::r) (most:=most) (os:=os) (Cs:=C.map ag) (i:=i) (K:=kF o (x::r)) (Q:=Q) (by simp only[List.length_cons];omega) hC ((x::r).length-kF o (x::r)) (x::r).length iD (by omega) (Nat.le_refl _) rfl hz (fun _=>h) (fun hm=>by
   have e:fO (x::r) (kF o (x::r)) iD=iD:=by
    unfold fO
    rw[List.getElem?_eq_none (by omega)]
   rw[e] at h
   exact h)
  have e0:au (x::r)++iD=cB (x::r) (x::r).length iD:=by
   unfold cB
   rw[List.take_length,List.drop_length]
   simp[au,flat]
  have hlh:=UY (out:=x::r) (K:=kF o (x::r)) (h:=iD) rfl
  have bQ:=I5 (l:=x::r) (j:=kF o (x::r)) (h:=fO (x::r) (kF o (x::r)) iD) hK hlh (ao o) rfl
  have hl1:=I6 (l:=x::r) (j:=kF o (x::r)) hK hlh
  have hcl:=qq (l:=x::r) (j:=kF o (x::r)) (h:=ao o) (dr o)
  have hcl0:=qq (l:=x::r) (j:=(x::r).length) hz
  have hcl1:=qq (l:=x::r) (j:=kF o (x::r)) (UZ (out:=x::r) (K:=kF o (x::r)) hz)
  have hF:=bw (x::r)
  have hbeq:Nat.beq (ab (au (x::r))) ((r.length+1)*37)=true:=by rw[beq_iff,aI,i8];rfl
  have hble:Nat.ble ((r.length+1+1)*376) 140737488355328=true:=iB (by omega)
  have hle:Nat.ble (0+(Int.ofNat (kF o (x::r))).toNat*37+37) (ab (cB (x::r) (kF o (x::r)) (fO (x::r) (kF o (x::r)) iD)))=true:=iB (by rw[aI,hl1];simp only[Int.ofNat_eq_natCast,Int.toNat_natCast];omega)
  have hdec:af .i64 (Int.ofNat (r.length+1+1)-1)=Int.ofNat (r.length+1):=Bm (by omega)
  simp only[List.length_cons] at hK e0 hcl0 hhr hl1 hkr
  show ALp Tryz.prog opts0.glob 0 (ah Tryz.prog 59 4) (cW (.ofNat i) most (os.map aj) (C.map ag) (r.length+1) (au (x::r))).st Q
  generalize cB (x::r) (kF o (x::r)) (fO (x::r) (kF o (x::r)) iD)=es1 at hn hkr hhr e0 bQ hle hcl hcl0 hcl1 hF hbeq hK
  generalize cB (x::r) (kF o (x::r)) (ao o)=es2 at hn hkr hhr e0 bQ hle hcl hcl0 hcl1 hF hbeq hK
  generalize cB (x::r) (r.length+1) iD=es0 at hn hkr hhr e0 bQ hle hcl hcl0 hcl1 hF hbeq hK
  generalize kF o (x::r)=K at hn hkr hhr e0 bQ hle hcl hcl0 hcl1 hF hbeq hK
  generalize au (x::r)=es at hn hkr hhr e0 bQ hle hcl hcl0 hcl1 hF hbeq hK⊢
  refine ALp.round (A:=jT (ao o) true [(8,Ib True (.ofNat K) (.ofNat i) most (os.map aj) (C.map ag) (r.length+1) es),(12,Ic True (.ofNat (r.length+1)) (.ofNat K) (.ofNat i) most (os.map aj) (C.map ag) (r.length+1+1) es0 es1)]) (V2:=cW (.ofNat (i+1)) most (os.map aj) (C.map ag) (r.length+1+1) es2) (F:=cW (.ofNat i) most (os.map aj) (C.map ag) (r.length+1) es) (lk:=[(0,0)]) (lk':=[(0,0)]) base0 am
   (LsOk.at2 rfl U4 U5 (fun st Q hs=> .seen base0.glob hs.2.1 (hkr Q hs.2.2)) (fun st Q hs=> .seen base0.glob hs.2.1 (hhr Q hs.2.2))) .refl ?_
  unfold aj at hs
  unfold ao at hs hx fo bQ⊢
  rw[T2,hlen,em (p:=i) (by omega),hdec]
  exact a8 (ep hlt) ⟨hx,hs,trivial,⟨⟨⟨rfl,rfl⟩,⟨rfl,hO⟩,⟨rfl,hC⟩,⟨rfl,rfl⟩,⟨rfl,rfl⟩,trivial⟩,⟨⟨rfl,rfl,rfl,rfl,rfl⟩,trivial⟩,⟨rfl,hF⟩,trivial⟩,aH (by rw[hble];rfl) (aH hbeq ⟨trivial,⟨⟨⟨rfl,rfl⟩,⟨rfl,rfl⟩,⟨rfl,hO⟩,⟨rfl,hC⟩,⟨rfl,rfl⟩,⟨rfl,rfl⟩,trivial⟩,⟨⟨rfl,rfl,rfl,rfl,rfl⟩,trivial⟩,⟨e0,hcl0⟩,trivial⟩,hx,aH (f6 (by omega)) (aH fo (aH hle ⟨⟨⟨⟨rfl,hO⟩,⟨rfl,hC⟩,⟨rfl,rfl⟩,⟨rfl,rfl⟩,trivial⟩,⟨⟨rfl,rfl,rfl,rfl,rfl⟩,trivial⟩,⟨bQ,hcl⟩,trivial⟩,hn⟩))⟩)⟩
theorem I9 (L:List At) (l:List Ob):(gd L l).length≤l.length:=by
 rw[(wK L l).1.length_eq]
 exact List.length_filter_le _ _
theorem Ja (hb:os.length≤900) (his:∀o∈os,SC 58 [aj o,.fsl false (C.map ag)] (.bool (cE o C))) (hds:∀o∈os,o.d0.has=true)
  (hq:Q (.exit 0) (lZ (.ofNat os.length) most (os.map aj) (C.map ag) (gd C os)).st):
  ∀m i,i+m=os.length→ALp Tryz.prog opts0.glob 0 (ah Tryz.prog 59 4) (lZ (.ofNat i) most (os.map aj) (C.map ag) (gd C (os.take i))).st Q
 |0,i,hi=>by
  rw[Nat.add_zero] at hi
  subst hi
  rw[List.take_length]
  exact U6 rfl _ hq
 | m+1,i,hi=>by
  have hlt:i<os.length:=by omega
  have g:=List.getElem?_eq_getElem hlt
  have ih:=Ja hb his hds hq m (i+1) (by omega)
  rw[fg g,U3] at ih
  have hs:=his _ (List.getElem_mem hlt)
  have hd:=hds _ (List.getElem_mem hlt)
  revert g ih hs hd
  generalize os[i]=o
  intro g ih hs hd
  have hl:=I9 C (os.take i)
  rw[List.length_take] at hl
  cases hbo:cE o C with
  |false=>
   rw[hbo] at hs ih
   exact U7 (by omega) g hs _ ih
  |true=>
   rw[hbo] at hs ih
   exact U8 hb g hs hd _ (fun y hy=>hds y (List.mem_of_mem_take (List.mem_filter.1 ((wK C _).1.mem_iff.1 hy)).1)) (by omega) ih
noncomputable def qr (i most:Int) (Ss:List AV):List (List UInt8)→View
 |[]=>gc i most Ss
 |x::r=>eT i most Ss (r.length+1) ((x::r).map .str)
def l7 (most:Int) (i:Nat):Bool:=ar most 0||ar (.ofNat i) most
theorem U9 {S:List Ob} {i:Nat} (h:i=S.length∨l7 most i=false) (_hil:i≤S.length) (ids:List (List UInt8)) (hq:Q (.exit 6) (qr (.ofNat i) most (S.map aj) ids).st):ALp Tryz.prog opts0.glob 0 (ah Tryz.prog 59 18) (qr (.ofNat i) most (S.map aj) ids).st Q:=by
 have hS:=eW S
 have hlen:ab (S.map aj)=S.length:=by rw[aI,List.length_map]
 have no:∀ {P:Prop},ar (Int.ofNat i) (Int.ofNat S.length)=true→(ar most 0=true∨ar (Int.ofNat i) most=true)→P:=fun e e2=>by
  have e:=ltInt_iff.1 e
  simp only[Int.ofNat_eq_natCast] at e
  rcases h with h|h
  ·omega
  ·unfold l7 at h
   rw[Bool.or_eq_false_iff] at h
   rcases e2 with e2|e2
   ·rw[h.1] at e2;cases e2
   ·rw[h.2] at e2;cases e2
 cases ids with
 |nil=>
  refine ALp.round (A:=p8 (aa zO .nilsl .nilsl .nilsl .nilsl)) (V2:=eT 0 most (S.map aj) 1 []) (F:=gc (.ofNat i) most (S.map aj)) (lk:=[(0,20)]) (lk':=[]) base0 am (LsOk.no rfl) .refl ?_
  show aw Tryz.prog opts0 40 _ _ (gc (.ofNat i) most (S.map aj)).st _
  rw[Ie,hlen]
  exact az (fun e=>az (fun e2=>no e (.inl e2)) fun _=>az (fun e2=>no e (.inr e2)) fun _=>⟨⟨⟨⟨rfl,rfl⟩,⟨rfl,hS⟩,⟨rfl,rfl⟩,⟨rfl,rfl⟩,trivial⟩,trivial,trivial⟩,hq⟩) fun _=>⟨⟨⟨⟨rfl,rfl⟩,⟨rfl,hS⟩,⟨rfl,rfl⟩,⟨rfl,rfl⟩,trivial⟩,trivial,trivial⟩,hq⟩
 |cons x r=>
  have hc:=ea (x::r)
  refine ALp.round (A:=p8 (aa zO .nilsl .nilsl .nilsl .nilsl)) (V2:=eT 0 most (S.map aj) (r.length+1+1) []) (F:=eT (.ofNat i) most (S.map aj) (r.length+1) ((x::r).map .str)) (lk:=[(0,21)]) (lk':=[(0,0)]) base0 am (LsOk.no rfl) .refl ?_
  show aw Tryz.prog opts0 40 _ _ (eT (.ofNat i) most (S.map aj) (r.length+1) ((x::r).map .str)).st _
  rw[Ij,hlen]
  exact az (fun e=>az (fun e2=>no e (.inl e2)) fun _=>az (fun e2=>no e (.inr e2)) fun _=>⟨⟨⟨⟨rfl,rfl⟩,⟨rfl,hS⟩,⟨rfl,rfl⟩,trivial⟩,⟨⟨rfl,rfl,rfl,rfl,rfl⟩,trivial⟩,⟨rfl,hc⟩,trivial⟩,hq⟩) fun _=>⟨⟨⟨⟨rfl,rfl⟩,⟨rfl,hS⟩,⟨rfl,rfl⟩,trivial⟩,⟨⟨rfl,rfl,rfl,rfl,rfl⟩,trivial⟩,⟨rfl,hc⟩,trivial⟩,hq⟩
theorem Va {S:List Ob} (hb:S.length≤1000) {i:Nat} {o:Ob} (g:S[i]? =some o) (hg:l7 most i=true) (ids:List (List UInt8)) (hl:ids.length≤1000)
  (hn:ALp Tryz.prog opts0.glob 0 (ah Tryz.prog 59 18) (qr (.ofNat (i+1)) most (S.map aj) (ids++[o.id])).st Q):ALp Tryz.prog opts0.glob 0 (ah Tryz.prog 59 18) (qr (.ofNat i) most (S.map aj) ids).st Q:=by
 have hS:=eW S
 have hlen:ab (S.map aj)=S.length:=by rw[aI,List.length_map]
 have hlt:i<S.length:=(List.getElem?_eq_some_iff.1 g).1
 have hx:=qo g
 unfold l7 at hg
 rw[Bool.or_eq_true] at hg
 have no:∀ {P:Prop},ar most 0=false→ar (Int.ofNat i) most=false→P:=fun e e2=>by
  rcases hg with h|h
  ·rw[e] at h;cases h
  ·rw[e2] at h;cases h
 cases ids with
 |nil=>
  have hn:ALp Tryz.prog opts0.glob 0 (ah Tryz.prog 59 18) (eT (.ofNat (i+1)) most (S.map aj) 1 [.str o.id]).st Q:=hn
  refine ALp.round (A:=p8 (ao o)) (V2:=eT (.ofNat (i+1)) most (S.map aj) 1 [.str o.id]) (F:=gc (.ofNat i) most (S.map aj)) (lk:=[(0,20)]) (lk':=[]) base0 am (LsOk.no rfl) .refl ?_
  show aw Tryz.prog opts0 40 _ _ (gc (.ofNat i) most (S.map aj)).st _
  unfold ao at hx⊢
  rw[Ie,hlen,em (p:=i) (by omega)]
  exact a8 (ep hlt) (az (fun _=>⟨hx,⟨⟨⟨rfl,rfl⟩,⟨rfl,hS⟩,⟨rfl,rfl⟩,trivial⟩,⟨⟨rfl,rfl,rfl,rfl,rfl⟩,trivial⟩,⟨rfl,rfl⟩,trivial⟩,hn⟩) fun e=>az (fun _=>⟨hx,⟨⟨⟨rfl,rfl⟩,⟨rfl,hS⟩,⟨rfl,rfl⟩,trivial⟩,⟨⟨rfl,rfl,rfl,rfl,rfl⟩,trivial⟩,⟨rfl,rfl⟩,trivial⟩,hn⟩) fun e2=>no e e2)
 |cons x r=>
  simp only[List.length_cons] at hl
  have hn:ALp Tryz.prog opts0.glob 0 (ah Tryz.prog 59 18) (eT (.ofNat (i+1)) most (S.map aj) ((r++[o.id]).length+1) (((x::r)++[o.id]).map .str)).st Q:=hn
  rw[List.length_append,List.length_singleton] at hn
  have hc:=ea ((x::r)++[o.id])
  have os1:(((x::r).map AV.str)++[AV.str o.id])=((x::r)++[o.id]).map .str:=by simp
  have c1:(Nat.ble ((r.length+1+1)*16) 140737488355328)=true:=iB (by omega)
  have c2:Nat.beq (ab ((x::r).map AV.str)) ((r.length+1)*1)=true:=by rw[beq_iff,aI,List.length_map,Nat.mul_one];rfl
  refine ALp.round (A:=p8 (ao o)) (V2:=eT (.ofNat (i+1)) most (S.map aj) (r.length+1+1) (((x::r)++[o.id]).map .str)) (F:=eT (.ofNat i) most (S.map aj) (r.length+1) ((x::r).map .str)) (lk:=[(0,21)]) (lk':=[(0,0)]) base0 am (LsOk.no rfl) .refl ?_
  show aw Tryz.prog opts0 40 _ _ (eT (.ofNat i) most (S.map aj) (r.length+1) ((x::r).map .str)).st _
  unfold ao at hx⊢
  rw[Ij,hlen,em (p:=i) (by omega)]
  exact a8 (ep hlt) (az (fun _=>⟨hx,aH (nX rfl c1 rfl) (aH c2 ⟨⟨⟨⟨rfl,rfl⟩,⟨rfl,hS⟩,⟨rfl,rfl⟩,trivial⟩,⟨⟨rfl,rfl,rfl,rfl,rfl⟩,trivial⟩,⟨os1,hc⟩,trivial⟩,hn⟩)⟩) fun e=>az (fun _=>⟨hx,aH (nX rfl c1 rfl) (aH c2 ⟨⟨⟨⟨rfl,rfl⟩,⟨rfl,hS⟩,⟨rfl,rfl⟩,trivial⟩,⟨⟨rfl,rfl,rfl,rfl,rfl⟩,trivial⟩,⟨os1,hc⟩,trivial⟩,hn⟩)⟩) fun e2=>no e e2)
def gf (most:Int) (n:Nat):Nat:=match ar most 0 with
 |true=>n
 |false=>min most.toNat n
theorem Bn (most:Int) (l:List (List UInt8)):jd most 0 l=l.take (gf most l.length):=by
 unfold jd gf
 cases ar most 0 with
 |true=>simp
 |false=>
  simp only[Nat.sub_zero]
  rw[List.take_eq_take_iff]
  omega
theorem Vb {n i:Nat} (h:i<gf most n):l7 most i=true:=by
 unfold gf at h
 unfold l7
 cases hm:ar most 0 with
 |true=>rfl
 |false=>
  rw[hm] at h
  dsimp only at h
  have:=ltInt_false.1 hm
  rw[Bool.false_or]
  exact ltInt_iff.2 (by simp only[Int.ofNat_eq_natCast];omega)
theorem Vc {n:Nat}:gf most n=n∨l7 most (gf most n)=false:=by
 unfold gf l7
 cases hm:ar most 0 with
 |true=>exact .inl rfl
 | false=>
  have:=ltInt_false.1 hm
  dsimp only
  by_cases h:n≤most.toNat
  ·exact .inl (Nat.min_eq_right h)
  ·refine .inr ?_
   rw[Bool.false_or]
   exact ltInt_false.2 (by simp only[Int.ofNat_eq_natCast];omega)
theorem Jb (most:Int) (n:Nat):gf most n≤n:=by
 unfold gf
 split
 ·exact Nat.le_refl _
 ·exact Nat.min_le_right _ _
theorem Jc {S:List Ob} (hb:S.length≤1000) (hq:Q (.exit 6) (qr (.ofNat (gf most S.length)) most (S.map aj) (jd most 0 (S.map (·.id)))).st):
  ∀m i,i+m=gf most S.length→ALp Tryz.prog opts0.glob 0 (ah Tryz.prog 59 18) (qr (.ofNat i) most (S.map aj) ((S.take i).map (·.id))).st Q
 |0,i,hi=>by
  have hi:i=gf most S.length:=by omega
  subst hi
  rw[Bn,List.length_map,←List.map_take] at hq
  exact U9 Vc (Jb _ _) _ hq
 |m+1,i,hi=>by
  have hle:=Jb most S.length
  have g:=List.getElem?_eq_getElem (show i<S.length by omega)
  have ih:=Jc hb hq m (i+1) (by omega)
  rw[fg g,List.map_append] at ih
  exact Va hb g (Vb (n:=S.length) (by omega)) _ (by rw[List.length_map,List.length_take];omega) ih
theorem Bo:br (cy Tryz.prog 59) 4=[ah Tryz.prog 59 4]:=by kernel_rfl
theorem Jd:br (cy Tryz.prog 59) 18=[ah Tryz.prog 59 18]:=by kernel_rfl
end
theorem Vd {os:List Ob} {C:List At} (hb:os.length≤900) (his:∀o∈os,SC 58 [aj o,.fsl false (C.map ag)] (.bool (cE o C))) (hds:∀o∈os,o.d0.has=true) (most:Int):SC 59 [.fsl false (os.map aj),.fsl false (C.map ag),I most] (.fsl false ((jd most 0 ((gd C os).map (·.id))).map .str)):=by
 have hO:=eW os
 have hC:=bP C
 have hcl:ad [.fsl false (os.map aj),.fsl false (C.map ag),I most]=true:=by simp only[ad,ac,hO,hC,Bool.and_self]
 have hrun:=fun (Q:AExit→St→Prop) hq=>Ja (most:=most) (Q:=Q) hb his hds hq os.length 0 (Nat.zero_add _)
 rw[List.take_zero] at hrun
 have hSl:=I9 C os
 generalize gd C os=S at hrun hSl⊢
 cases S with
 | nil=>
  have e:jd most 0 (([]:List Ob).map (·.id))=[]:=by rw[Bn];simp
  rw[e]
  refine dH (A:=aq [] [(4,p9 (dA 0 most (os.map aj) (C.map ag)) (dA (.ofNat os.length) most (os.map aj) (C.map ag)))] aA [] []) base0 am
   (aN (LsOk.at1 rfl Bo fun st Q hs=> .seen base0.glob hs.1 (hrun Q hs.2))) hcl ?_
  rw[T3]
  exact ⟨⟨⟨⟨rfl,hO⟩,⟨rfl,hC⟩,⟨rfl,rfl⟩,⟨rfl,rfl⟩,⟨rfl,rfl⟩,trivial⟩,trivial,trivial⟩,⟨.nilsl,(Frz.closed _ rfl).out,rfl,.nil⟩⟩
 | cons x r=>
  have hSc:=eW (x::r)
  have hj:=fun (Q:AExit→St→Prop) hq=>Jc (most:=most) (S:=x::r) (Q:=Q) (by omega) hq (gf most (x::r).length) 0 (Nat.zero_add _)
  rw[List.take_zero] at hj
  have hfz:Frz 0 (cW (.ofNat os.length) most (os.map aj) (C.map ag) (r.length+1) (au (x::r))).st.heap (.rsl true 0 0 (r.length+1) 37) (.fsl false ((x::r).map aj)):=UW rfl rfl rfl
  generalize jd most 0 ((x::r).map (·.id))=ids at hj⊢
  cases ids with
  | nil=>
   refine dH (A:=lv (aq [] [(4,p9 (dA 0 most (os.map aj) (C.map ag)) (cW (.ofNat os.length) most (os.map aj) (C.map ag) (r.length+1) (au (x::r)))),(18,wx (gc 0 most ((x::r).map aj)) (gc (.ofNat (gf most (x::r).length)) most ((x::r).map aj)))] aA [] []) 15 0 (wy most ((x::r).map aj))) base0 (zB am)
    (aN (LsOk.at2 rfl Bo Jd (fun st Q hs=> .seen base0.glob hs.1 (hrun Q hs.2)) (fun st Q hs=> .seen base0.glob hs.1 (hj Q hs.2)))) hcl ?_
   rw[T4]
   exact ⟨⟨⟨⟨rfl,hO⟩,⟨rfl,hC⟩,⟨rfl,rfl⟩,⟨rfl,rfl⟩,⟨rfl,rfl⟩,trivial⟩,trivial,trivial⟩,⟨⟨.closed _ rfl,hfz,trivial⟩,trivial⟩,⟨⟨⟨rfl,rfl⟩,⟨rfl,hSc⟩,⟨rfl,rfl⟩,⟨rfl,rfl⟩,trivial⟩,trivial,trivial⟩,⟨.nilsl,(Frz.closed _ rfl).out,rfl,.nil⟩⟩
  | cons a q=>
   have hso:=ea (a::q)
   refine dH (A:=lv (aq [] [(4,p9 (dA 0 most (os.map aj) (C.map ag)) (cW (.ofNat os.length) most (os.map aj) (C.map ag) (r.length+1) (au (x::r)))),(18,wx (gc 0 most ((x::r).map aj)) (eT (.ofNat (gf most (x::r).length)) most ((x::r).map aj) (q.length+1) ((a::q).map .str)))] aA [] []) 15 0 (wy most ((x::r).map aj))) base0 (zB am)
    (aN (LsOk.at2 rfl Bo Jd (fun st Q hs=> .seen base0.glob hs.1 (hrun Q hs.2)) (fun st Q hs=> .seen base0.glob hs.1 (hj Q hs.2)))) hcl ?_
   rw[T5]
   exact ⟨⟨⟨⟨rfl,hO⟩,⟨rfl,hC⟩,⟨rfl,rfl⟩,⟨rfl,rfl⟩,⟨rfl,rfl⟩,trivial⟩,trivial,trivial⟩,⟨⟨.closed _ rfl,hfz,trivial⟩,trivial⟩,⟨⟨⟨rfl,rfl⟩,⟨rfl,hSc⟩,⟨rfl,rfl⟩,⟨rfl,rfl⟩,trivial⟩,trivial,trivial⟩,⟨.fsl false ((a::q).map .str),(Frz.row rfl rfl (pH _).symm (by rw[List.length_map];rfl) (fun e he=>by obtain ⟨a,_,rfl⟩:=List.mem_map.1 he;exact IP a) hso).out,hso,.refl _⟩⟩
end Go.Proofs.YtjhggnebkfpgcaaGreatDoor
namespace Go.Proofs.YtjhggnebkfpgcaaGreatDoor
open Go Go.RowKit
open Go.Proofs.Abs
noncomputable section
def aX (s:List (Nat × AV)) (k:Nat) (O es:List AV):View:=⟨s,[(1,.ptr 0 0),(3,.ptr 1 0)],[(0,.cells O,.whole),(1,.cells [.rsl true 2 0 k 7],.each),(2,.cells es,.whole)],3,221⟩
def l8:List Nat:=[86,87]
def l9:List Nat:=[94]
def Bp (x:List UInt8):be:=aq [(6,5,.res (.fptr [.str x] 0))] [] aA l8 l9
@[simp] abbrev dU:=((some 0=some 0∧0=0)∧(some 1=some 1∧0=0)∧True)
@[simp] abbrev mc (k:Nat):=((true=true∧some 2=some 2∧0=0∧k=k∧7=7)∧True)
abbrev te (i:Int) (x:List UInt8):=[AV.agg [AV.str [78,97,109,101],I i,I 4325387,I 7,I 0,AV.fsl false (ap x),AV.nilsl]]
@[simp] abbrev me (i:Int):=(I i=I i∧ac (I i)=true)
@[simp] abbrev mf (es:List AV):=(es=es∧ad es=true)
theorem Je (x:List UInt8) (k k':Nat) (i j:Int) (Ns O es es':List AV) (o:Ob) (M L C:AV) (Nx:Prop) (Q:AExit→St→Prop):aw Tryz.prog opts0 40 (Bp x) (ah Tryz.prog 45 5) (aX [(4,I i)] k (aa o M (.fsl false Ns) L C) es).st (bf 0 [(0,0),(1,1),(2,34)] (aX [(4,I j)] k' O es') Nx [(0,0),(1,1),(2,2)] (aX [(4,I i)] k (aa o M (.fsl false Ns) L C) es) Q)=
  (ak (ar i (Int.ofNat (ab Ns))) (ax Tryz.prog 27 (AV.fsl false Ns) (I i)=some (AV.fptr [AV.str x] 0)∧aC (bo 7 (te i x)&&(((k+ab (te i x))*96).ble 140737488355328&&(aS (flat (te i x))&&true))) (aC ((ab es).beq (k*7)) ((((I (af IntKind.i64 (i+1))=I j∧ac (I j)=true)∧True)∧dU∧((aa o M (AV.fsl false Ns) L C)=O∧ad O=true)∧((true=true∧some 34=some 34∧0=0∧k'=k+ab (te i x)∧7=7)∧True)∧(es++flat (te i x)=es'∧ad es'=true)∧True)∧Nx))) ((((me i)∧True)∧dU∧((aa o M (AV.fsl false Ns) L C)=(aa o M (AV.fsl false Ns) L C)∧ad (aa o M (AV.fsl false Ns) L C)=true)∧(mc k)∧(mf es)∧True)∧Q (AExit.exit 0) (aX [(4,I i)] k (aa o M (AV.fsl false Ns) L C) es).st)):=by kernel_rfl
def tf (nm ch st:List UInt8) (se:Bool) (d:Int):List AV:=[.str nm,I 9,.bool false,.bool se,.str ch,.str st,I d]
def Bq (c:List AV) (b:Bool):be:=aq [(18,2,.res (.fptr c 0)),(18,9,.res (.fptr c 0)),(18,15,.ld (.bool b)),(19,3,.res (.fptr c 0)),(19,8,.res (.fptr c 0))] [] aA l8 l9
def wL (c:List AV) (off:Nat) (b:Bool) (t:Int):be:=aq [(18,2,.res (.fptr c 0)),(18,9,.res (.fptr c 0)),(18,13,.res (.ptr 0 off)),(18,15,.ld (.bool b)),(19,3,.res (.fptr c 0)),(19,8,.res (.fptr c 0)),(19,12,.res (.ptr 0 off)),(19,14,.ld (.int .i64 t))] [] aA l8 l9
@[simp] abbrev mg (T:List AV):=(AV.fsl true T=AV.fsl true T∧ac (AV.fsl true T)=true)
@[simp] abbrev Br (C L M N:AV) (Q:AExit→St→Prop) (T es:List AV) (i:Int) (k:Nat) (o:Ob):=((((mg T)∧(me i)∧True)∧dU∧((aa o M N L C)=(aa o M N L C)∧ad (aa o M N L C)=true)∧(mc k)∧(mf es)∧True)∧Q (AExit.exit 2) (aX [(5,AV.fsl true T),(6,I i)] k (aa o M N L C) es).st)
abbrev qu (ch nm st:List UInt8) (d:Nat) (se:Bool):=(AV.fptr [AV.str nm,I 9,AV.bool false,AV.bool se,AV.str ch,AV.str st,I (Int.ofNat d)] 0)
abbrev tg (nm:List UInt8) (t:Int):=[AV.agg [AV.str nm,I 0,I 4325387,I 9,I t,AV.nilsl,AV.nilsl]]
abbrev qv (C L M N:AV) (T es:List AV) (i:Int) (k:Nat) (o:Ob):=(aX [(5,AV.fsl true T),(6,I i)] k (aa o M N L C) es)
theorem Ve (nm ch st:List UInt8) (se:Bool) (d off:Nat) (t:Int) (k k':Nat) (i j:Int) (T O es es':List AV) (o:Ob) (M N L C:AV) (Nx:Prop) (Q:AExit→St→Prop):aw Tryz.prog opts0 40 (wL (tf nm ch st se (.ofNat d)) off true t) (ah Tryz.prog 45 17) (qv C L M N T es i k o).st (bf 0 [(0,0),(1,1),(2,58)] (aX [(5,.fsl true T),(6,I j)] k' O es') Nx [(0,0),(1,1),(2,2)] (qv C L M N T es i k o) Q)=
  (ak (ar i (Int.ofNat (ab T))) (ax Tryz.prog 140 (AV.fsl true T) (I i)=some (qu ch nm st d se)∧ax Tryz.prog 140 (AV.fsl true T) (I i)=some (qu ch nm st d se)∧ax Tryz.prog 26 (AV.ptr 0 7) (I (Int.ofNat d))=some (AV.ptr 0 off)∧bh Tryz.prog 4 (aa o M N L C) (off+0)=some (AV.bool true)∧ax Tryz.prog 140 (AV.fsl true T) (I i)=some (qu ch nm st d se)∧ax Tryz.prog 140 (AV.fsl true T) (I i)=some (qu ch nm st d se)∧ax Tryz.prog 26 (AV.ptr 0 7) (I (Int.ofNat d))=some (AV.ptr 0 off)∧bh Tryz.prog 2 (aa o M N L C) (off+1)=some (I t)∧aC (bo 7 (tg nm t)&&(((k+ab (tg nm t))*96).ble 140737488355328&&(aS (flat (tg nm t))&&true))) (aC ((ab es).beq (k*7)) ((((mg T)∧(I (af IntKind.i64 (i+1))=I j∧ac (I j)=true)∧True)∧dU∧((aa o M N L C)=O∧ad O=true)∧((true=true∧some 58=some 58∧0=0∧k'=k+ab (tg nm t)∧7=7)∧True)∧(es++flat (tg nm t)=es'∧ad es'=true)∧True)∧Nx))) (Br C L M N Q T es i k o)):=by kernel_rfl
theorem Vf (nm ch st:List UInt8) (se:Bool) (d off:Nat) (t:Int) (k k':Nat) (i j:Int) (T O es es':List AV) (o:Ob) (M N L C:AV) (Nx:Prop) (Q:AExit→St→Prop):aw Tryz.prog opts0 40 (wL (tf nm ch st se (.ofNat d)) off false t) (ah Tryz.prog 45 17) (qv C L M N T es i k o).st (bf 0 [(0,0),(1,1),(2,2)] (aX [(5,.fsl true T),(6,I j)] k' O es') Nx [(0,0),(1,1),(2,2)] (qv C L M N T es i k o) Q)=
  (ak (ar i (Int.ofNat (ab T))) (ax Tryz.prog 140 (AV.fsl true T) (I i)=some (qu ch nm st d se)∧ax Tryz.prog 140 (AV.fsl true T) (I i)=some (qu ch nm st d se)∧ax Tryz.prog 26 (AV.ptr 0 7) (I (Int.ofNat d))=some (AV.ptr 0 off)∧bh Tryz.prog 4 (aa o M N L C) (off+0)=some (AV.bool false)∧(((mg T)∧(I (af IntKind.i64 (i+1))=I j∧ac (I j)=true)∧True)∧dU∧((aa o M N L C)=O∧ad O=true)∧((true=true∧some 2=some 2∧0=0∧k'=k∧7=7)∧True)∧(es=es'∧ad es'=true)∧True)∧Nx) (Br C L M N Q T es i k o)):=by kernel_rfl
theorem Jf (nm ch st:List UInt8) (ty:Int) (ma se:Bool) (k k':Nat) (i j:Int) (T O es es':List AV) (o:Ob) (M N L C:AV) (Nx:Prop) (Q:AExit→St→Prop):aw Tryz.prog opts0 40 (Bq [.str nm,I ty,.bool ma,.bool se,.str ch,.str st,I (-1)] false) (ah Tryz.prog 45 17) (qv C L M N T es i k o).st (bf 0 [(0,0),(1,1),(2,2)] (aX [(5,.fsl true T),(6,I j)] k' O es') Nx [(0,0),(1,1),(2,2)] (qv C L M N T es i k o) Q)=
  (ak (ar i (Int.ofNat (ab T))) (ax Tryz.prog 140 (AV.fsl true T) (I i)=some (AV.fptr [AV.str nm,I ty,AV.bool ma,AV.bool se,AV.str ch,AV.str st,I (Int.negSucc 0)] 0)∧(((mg T)∧(I (af IntKind.i64 (i+1))=I j∧ac (I j)=true)∧True)∧dU∧((aa o M N L C)=O∧ad O=true)∧((true=true∧some 2=some 2∧0=0∧k'=k∧7=7)∧True)∧(es=es'∧ad es'=true)∧True)∧Nx) (Br C L M N Q T es i k o)):=by kernel_rfl
def Bt (ty:Int) (id:List UInt8):be:=aq [(28,5,.res (.fptr [I ty,.str id] 0)),(28,12,.res (.fptr [I ty,.str id] 0))] [] aA l8 l9
abbrev th (i ty:Int) (id:List UInt8):=[AV.agg [AV.str [76,105,110,107],I i,I 4325387,I 1,I 0,AV.nilsl,AV.fsl true [AV.agg [I 4325451,I 5,I ty,AV.nilsl,AV.nilsl],AV.agg [I 4325452,I 7,I 0,AV.fsl false (ap id),AV.nilsl]]]]
theorem Jg (ty:Int) (id:List UInt8) (k k':Nat) (i j:Int) (Ls O es es':List AV) (o:Ob) (M N C:AV) (Nx:Prop) (Q:AExit→St→Prop):aw Tryz.prog opts0 40 (Bt ty id) (ah Tryz.prog 45 27) (aX [(8,I i)] k (aa o M N (.fsl false Ls) C) es).st (bf 0 [(0,0),(1,1),(2,50)] (aX [(8,I j)] k' O es') Nx [(0,0),(1,1),(2,2)] (aX [(8,I i)] k (aa o M N (.fsl false Ls) C) es) Q)=
  (ak (ar i (Int.ofNat (ab Ls))) (ax Tryz.prog 28 (AV.fsl false Ls) (I i)=some (AV.fptr [I ty,AV.str id] 0)∧ax Tryz.prog 28 (AV.fsl false Ls) (I i)=some (AV.fptr [I ty,AV.str id] 0)∧aC (bo 7 (th i ty id)&&(((k+ab (th i ty id))*96).ble 140737488355328&&(aS (flat (th i ty id))&&true))) (aC ((ab es).beq (k*7)) ((((I (af IntKind.i64 (i+1))=I j∧ac (I j)=true)∧True)∧dU∧((aa o M N (AV.fsl false Ls) C)=O∧ad O=true)∧((true=true∧some 50=some 50∧0=0∧k'=k+ab (th i ty id)∧7=7)∧True)∧(es++flat (th i ty id)=es'∧ad es'=true)∧True)∧Nx))) ((((me i)∧True)∧dU∧((aa o M N (AV.fsl false Ls) C)=(aa o M N (AV.fsl false Ls) C)∧ad (aa o M N (AV.fsl false Ls) C)=true)∧(mc k)∧(mf es)∧True)∧Q (AExit.exit 4) (aX [(8,I i)] k (aa o M N (AV.fsl false Ls) C) es).st)):=by kernel_rfl
def wM (n t n' t':List UInt8):be:=aq [(38,3,.res (.fptr [.str n,.str t] 0)),(38,9,.res (.fptr [.str n',.str t'] 0))] [] aA l8 l9
@[simp] abbrev Bu (Cs:List AV) (L M N:AV) (o:Ob):=((aa o M N L (AV.fsl false Cs))=(aa o M N L (AV.fsl false Cs))∧ad (aa o M N L (AV.fsl false Cs))=true)
theorem Bv (n t n' t':List UInt8) (c c':Int) (k:Nat) (i j j':Int) (Cs O es:List AV) (o:Ob) (M N L:AV) (Nx:Prop) (Q:AExit→St→Prop):aw Tryz.prog opts0 40 (wM n t n' t') (ah Tryz.prog 45 37) (aX [(9,I i),(10,I c),(11,I j)] k (aa o M N L (.fsl false Cs)) es).st (bf 0 [(0,0),(1,1),(2,2)] (aX [(9,I i),(10,I c'),(11,I j')] k O es) Nx [(0,0),(1,1),(2,2)] (aX [(9,I i),(10,I c),(11,I j)] k (aa o M N L (.fsl false Cs)) es) Q)=
  (ak (ar j i) (ax Tryz.prog 29 (AV.fsl false Cs) (I j)=some (AV.fptr [AV.str n,AV.str t] 0)∧ax Tryz.prog 29 (AV.fsl false Cs) (I i)=some (AV.fptr [AV.str n',AV.str t'] 0)∧ak (aB n n') ((((me i)∧(I (af IntKind.i64 (c+1))=I c'∧ac (I c')=true)∧(I (af IntKind.i64 (j+1))=I j'∧ac (I j')=true)∧True)∧dU∧((aa o M N L (AV.fsl false Cs))=O∧ad O=true)∧(mc k)∧(mf es)∧True)∧Nx) ((((me i)∧(I c=I c'∧ac (I c')=true)∧(I (af IntKind.i64 (j+1))=I j'∧ac (I j')=true)∧True)∧dU∧((aa o M N L (AV.fsl false Cs))=O∧ad O=true)∧(mc k)∧(mf es)∧True)∧Nx)) ((((me i)∧(I c=I c∧ac (I c)=true)∧(I j=I j∧ac (I j)=true)∧True)∧dU∧(Bu Cs L M N o)∧(mc k)∧(mf es)∧True)∧Q (AExit.exit 8) (aX [(9,I i),(10,I c),(11,I j)] k (aa o M N L (AV.fsl false Cs)) es).st)):=by kernel_rfl
def Vg (p:Prop) (i c:Int) (k:Nat) (O es:List AV):bg:=fun st Q=>p∧bR 0 [(0,0),(1,1),(2,2)] (aX [(9,I i),(10,I 0),(11,I 0)] k O es) st∧Q (.exit 8) (aX [(9,I i),(10,I c),(11,I i)] k O es).st
def Bw (p:Prop) (n t:List UInt8) (i c:Int) (k:Nat) (O es:List AV):be:=aq [(40,4,.res (.fptr [.str n,.str t] 0)),(40,11,.res (.fptr [.str n,.str t] 0))] [(37,Vg p i c k O es)] aA l8 l9
@[simp] abbrev jf:=(I 0=I 0∧true=true)
abbrev ti (c:Int) (n t:List UInt8):=[AV.agg [AV.str n,I c,I 4325387,I 7,I 0,AV.fsl false (ap t),AV.nilsl]]
theorem Jh (p:Prop) (n t:List UInt8) (c:Int) (k k':Nat) (i j:Int) (Cs O es es':List AV) (o:Ob) (M N L:AV) (Nx:Prop) (Q:AExit→St→Prop):aw Tryz.prog opts0 40 (Bw p n t i c k (aa o M N L (.fsl false Cs)) es) (ah Tryz.prog 45 33) (aX [(9,I i)] k (aa o M N L (.fsl false Cs)) es).st (bf 0 [(0,0),(1,1),(2,36)] (aX [(9,I j)] k' O es') Nx [(0,0),(1,1),(2,2)] (aX [(9,I i)] k (aa o M N L (.fsl false Cs)) es) Q)=
  (ak (ar i (Int.ofNat (ab Cs))) (p∧(((me i)∧jf∧jf∧True)∧dU∧(Bu Cs L M N o)∧(mc k)∧(mf es)∧True)∧ax Tryz.prog 29 (AV.fsl false Cs) (I i)=some (AV.fptr [AV.str n,AV.str t] 0)∧ax Tryz.prog 29 (AV.fsl false Cs) (I i)=some (AV.fptr [AV.str n,AV.str t] 0)∧aC (bo 7 (ti c n t)&&(((k+ab (ti c n t))*96).ble 140737488355328&&(aS (flat (ti c n t))&&true))) (aC ((ab es).beq (k*7)) ((((I (af IntKind.i64 (i+1))=I j∧ac (I j)=true)∧True)∧dU∧((aa o M N L (AV.fsl false Cs))=O∧ad O=true)∧((true=true∧some 36=some 36∧0=0∧k'=k+ab (ti c n t)∧7=7)∧True)∧(es++flat (ti c n t)=es'∧ad es'=true)∧True)∧Nx))) ((((me i)∧True)∧dU∧(Bu Cs L M N o)∧(mc k)∧(mf es)∧True)∧Q (AExit.exit 6) (aX [(9,I i)] k (aa o M N L (AV.fsl false Cs)) es).st)):=by kernel_rfl
def wN (h:ae) (b:Nat):Nat:=match hget h b with
 |some (.cells (.rsl _ id _ _ _::_))=>id
 |_=>0
def Ji (e:Int) (k k':Nat) (O es es':List AV):bg:=fun st Q=>bR 0 [(0,0),(1,3),(2,wN st.heap 3)] (aX [(4,I 0)] k O es) st∧Q (.exit 0) (aX [(4,I e)] k' O es').st
def Jj (T:List AV) (k k':Nat) (O es es':List AV):bg:=fun st Q=>bR 0 [(0,0),(1,1),(2,wN st.heap 1)] (aX [(5,.fsl true T),(6,I 0)] k O es) st∧Q (.exit 2) (aX [(5,.fsl true T),(6,I 20)] k' O es').st
def Jk (e:Int) (k k':Nat) (O es es':List AV):bg:=fun st Q=>bR 0 [(0,0),(1,1),(2,wN st.heap 1)] (aX [(8,I 0)] k O es) st∧Q (.exit 4) (aX [(8,I e)] k' O es').st
def Jl (e:Int) (k k':Nat) (O es es':List AV):bg:=fun st Q=>bR 0 [(0,0),(1,1),(2,wN st.heap 1)] (aX [(9,I 0)] k O es) st∧Q (.exit 6) (aX [(9,I e)] k' O es').st
def Jm (k:Nat) (O es:List AV) (kk:AV):View:=⟨[],[(1,.ptr 0 0),(3,.ptr 1 0),(7,.ptr 11 0)],[(0,.cells O,.whole),(1,.cells [.rsl true 2 0 k 7],.each),(2,.cells es,.whole),(11,.cells [I 4325387,I 1,I 0,.nilsl,kk],.whole)],60,221⟩
abbrev cP (o:Ob):=[AV.agg [AV.str [67,114,121,112,116,111,103,114,97,112,104,105,99,32,85,115,97,103,101,32,77,97,115,107],I 0,I 4325387,I 2,I o.5,AV.nilsl,AV.nilsl]]
abbrev bV (o:Ob):=[AV.agg [AV.str [79,98,106,101,99,116,32,84,121,112,101],I 0,I 4325387,I 5,I o.2,AV.nilsl,AV.nilsl]]
abbrev jg (Cs Ls Ns:List AV) (M:AV) (o:Ob):=(aa o M (AV.fsl false Ns) (AV.fsl false Ls) (AV.fsl false Cs))
abbrev qw (o:Ob):=[I 4325506,I 5,I o.18,AV.nilsl,AV.nilsl]
abbrev Bx (o:Ob):=[I 4325504,I 7,I 0,AV.fsl false (ap o.19),AV.nilsl]
abbrev Jn (o:Ob):=[I 4325387,I 1,I 0,AV.nilsl,AV.rsl true 28 0 (ab [AV.agg (qw o)]+ab [AV.agg (Bx o)]) 5]
abbrev oc (Cs E3 Ls Ns:List AV) (K3:Nat) (M:AV) (o:Ob):=[(31,some (Blk.cells (Bx o))),(28,some (Blk.cells (flat [AV.agg (qw o)]++flat [AV.agg (Bx o)]))),(13,some (Blk.cells (qw o))),(11,some (Blk.cells (Jn o))),(0,some (Blk.cells (jg Cs Ls Ns M o))),(1,some (Blk.cells [AV.rsl true 2 0 K3 7])),(2,some (Blk.cells E3))]
abbrev dV (o:Ob):=[AV.agg [AV.str [67,114,121,112,116,111,103,114,97,112,104,105,99,32,65,108,103,111,114,105,116,104,109],I 0,I 4325387,I 5,I o.3,AV.nilsl,AV.nilsl]]
abbrev dW (o:Ob):=[AV.agg [AV.str [67,114,121,112,116,111,103,114,97,112,104,105,99,32,76,101,110,103,116,104],I 0,I 4325387,I 2,I o.4,AV.nilsl,AV.nilsl]]
abbrev od (Cs E3 Ls Ns:List AV) (K3:Nat) (M:AV) (o:Ob):=[(13,some (Blk.cells (qw o))),(11,some (Blk.cells [I 4325387,I 1,I 0,AV.nilsl,AV.fsl true [AV.agg (qw o)]])),(0,some (Blk.cells (jg Cs Ls Ns M o))),(1,some (Blk.cells [AV.rsl true 2 0 K3 7])),(2,some (Blk.cells E3))]
@[simp] abbrev kJ (Cs Ls Ns:List AV) (M:AV) (o:Ob):=((jg Cs Ls Ns M o)=(jg Cs Ls Ns M o)∧ad (jg Cs Ls Ns M o)=true)
abbrev eu (o:Ob):=[AV.agg [AV.str [83,116,97,116,101],I 0,I 4325387,I 5,I o.7,AV.nilsl,AV.nilsl]]
abbrev mh (kk:AV):=[AV.agg [AV.str [82,101,118,111,99,97,116,105,111,110,32,82,101,97,115,111,110],I 0,I 4325387,I 1,I 0,AV.nilsl,kk]]
abbrev tj (o:Ob):=[AV.agg [AV.str [85,115,97,103,101,32,76,105,109,105,116,115],I 0,I 4325387,I 1,I 0,AV.nilsl,AV.fsl true [AV.agg [I 4325527,I 3,I o.24,AV.nilsl,AV.nilsl],AV.agg [I 4325526,I 3,I o.25,AV.nilsl,AV.nilsl],AV.agg [I 4325528,I 5,I o.26,AV.nilsl,AV.nilsl]]]]
abbrev Jo (o:Ob):=[AV.agg [AV.str [85,110,105,113,117,101,32,73,100,101,110,116,105,102,105,101,114],I 0,I 4325387,I 7,I 0,AV.fsl false (ap o.1),AV.nilsl]]
abbrev qx (Cs Ls Ns:List AV) (M:AV) (o:Ob):=(aa o M (AV.fsl false Ns) (AV.fsl false Ls) (AV.fsl false Cs))
@[simp] abbrev Jp (Cs E3 E4 Ls Ns:List AV) (K3 K4:Nat) (M kk:AV) (o:Ob):=((jf∧True)∧dU∧(kJ Cs Ls Ns M o)∧((true=true∧some 74=some 74∧0=0∧K4=K3+ab (mh kk)∧7=7)∧True)∧(E3++flat (mh kk)=E4∧ad E4=true)∧True)
abbrev wO (kk:AV):=[I 4325387,I 1,I 0,AV.nilsl,kk]
theorem Vh (kk:AV) (T Ns Ls Cs E0 E1 E2 E3 E4 E5 E6 E7:List AV) (K0 K1 K2 K3 K4 K5 K6 K7:Nat) (a b c:Int) (o:Ob) (M:AV) (Q:AV→ae→Prop):aL Tryz.prog opts0 40 (lv (aq [] [(5,Ji a K0 K1 (qx Cs Ls Ns M o) E0 E1),(17,Jj T K2 K3 (qx Cs Ls Ns M o) E2 E3),(27,Jk b K4 K5 (qx Cs Ls Ns M o) E4 E5),(33,Jl c K6 K7 (qx Cs Ls Ns M o) E6 E7)] (cz [(95,.fsl true T)]) l8 l9) 24 20 (Jm K3 (qx Cs Ls Ns M o) E3 kk)) 45 [.agg (qx Cs Ls Ns M o)] [] 0 (fun v H _=>Q v H)=
  (let R1:Prop:=ak o.23 (aC (bo 7 (tj o)&&(((K5+ab (tj o))*96).ble 140737488355328&&(aS (flat (tj o))&&true))) (aC ((ab E5).beq (K5*7)) (((jf∧True)∧dU∧(kJ Cs Ls Ns M o)∧((true=true∧some 51=some 51∧0=0∧K6=K5+ab (tj o)∧7=7)∧True)∧(E5++flat (tj o)=E6∧ad E6=true)∧True)∧Q (AV.rsl true 2 0 K7 7) [(0,some (Blk.cells (jg Cs Ls Ns M o))),(1,some (Blk.cells [AV.rsl true 2 0 K7 7])),(2,some (Blk.cells E7))]))) (((jf∧True)∧dU∧(kJ Cs Ls Ns M o)∧((true=true∧some 2=some 2∧0=0∧K6=K5∧7=7)∧True)∧(E5=E6∧ad E6=true)∧True)∧Q (AV.rsl true 2 0 K7 7) [(0,some (Blk.cells (jg Cs Ls Ns M o))),(1,some (Blk.cells [AV.rsl true 2 0 K7 7])),(2,some (Blk.cells E7))]);let R2:Prop:=ak (!aB o.19 []) (((Frz 20 (oc Cs E3 Ls Ns K3 M o) (AV.ptr 0 0) (AV.ptr 0 0)∧Frz 20 (oc Cs E3 Ls Ns K3 M o) (AV.ptr 1 0) (AV.ptr 1 0)∧Frz 20 (oc Cs E3 Ls Ns K3 M o) (AV.ptr 11 0) (AV.ptr 11 0)∧True)∧FrzL 20 (oc Cs E3 Ls Ns K3 M o) (jg Cs Ls Ns M o) (jg Cs Ls Ns M o)∧FrzL 20 (oc Cs E3 Ls Ns K3 M o) [AV.rsl true 2 0 K3 7] [AV.rsl true 2 0 K3 7]∧FrzL 20 (oc Cs E3 Ls Ns K3 M o) E3 E3∧FrzL 20 (oc Cs E3 Ls Ns K3 M o) (Jn o) (wO kk)∧True)∧aC (cQ Tryz.prog 37 (AV.agg (wO kk)) 5&&true) (aC (bo 7 (mh kk)&&(((K3+ab (mh kk))*96).ble 140737488355328&&(aS (flat (mh kk))&&true))) (aC ((ab E3).beq (K3*7)) ((Jp Cs E3 E4 Ls Ns K3 K4 M kk o)∧R1)))) (((Frz 20 (od Cs E3 Ls Ns K3 M o) (AV.ptr 0 0) (AV.ptr 0 0)∧Frz 20 (od Cs E3 Ls Ns K3 M o) (AV.ptr 1 0) (AV.ptr 1 0)∧Frz 20 (od Cs E3 Ls Ns K3 M o) (AV.ptr 11 0) (AV.ptr 11 0)∧True)∧FrzL 20 (od Cs E3 Ls Ns K3 M o) (jg Cs Ls Ns M o) (jg Cs Ls Ns M o)∧FrzL 20 (od Cs E3 Ls Ns K3 M o) [AV.rsl true 2 0 K3 7] [AV.rsl true 2 0 K3 7]∧FrzL 20 (od Cs E3 Ls Ns K3 M o) E3 E3∧FrzL 20 (od Cs E3 Ls Ns K3 M o) [I 4325387,I 1,I 0,AV.nilsl,AV.fsl true [AV.agg (qw o)]] (wO kk)∧True)∧aC (cQ Tryz.prog 37 (AV.agg (wO kk)) 5&&true) (aC (bo 7 (mh kk)&&(((K3+ab (mh kk))*96).ble 140737488355328&&(aS (flat (mh kk))&&true))) (aC ((ab E3).beq (K3*7)) ((Jp Cs E3 E4 Ls Ns K3 K4 M kk o)∧R1))));let R3:Prop:=ak (!aF o.18 0) (R2) (((jf∧True)∧dU∧(kJ Cs Ls Ns M o)∧((true=true∧some 2=some 2∧0=0∧K4=K3∧7=7)∧True)∧(E3=E4∧ad E4=true)∧True)∧R1);(((jf∧True)∧((some 0=some 0∧0=0)∧(some 3=some 3∧0=0)∧True)∧(kJ Cs Ls Ns M o)∧((true=true∧some 27=some 27∧0=0∧K0=ab (Jo o)∧7=7)∧True)∧(flat (Jo o)=E0∧ad E0=true)∧True)∧aC (bo 7 (bV o)&&(((K1+ab (bV o))*96).ble 140737488355328&&(aS (flat (bV o))&&true))) (aC ((ab E1).beq (K1*7)) (ak (!aF o.3 0) (aC (bo 7 (dV o)&&(((K1+ab (bV o)+ab (dV o))*96).ble 140737488355328&&(aS (flat (dV o))&&true))) (aC ((ab (E1++flat (bV o))).beq ((K1+ab (bV o))*7)) (ak (!aF o.4 0) (aC (bo 7 (dW o)&&(((K1+ab (bV o)+ab (dV o)+ab (dW o))*96).ble 140737488355328&&(aS (flat (dW o))&&true))) (aC ((ab (E1++flat (bV o)++flat (dV o))).beq ((K1+ab (bV o)+ab (dV o))*7)) (aC (bo 7 (cP o)&&(((K1+ab (bV o)+ab (dV o)+ab (dW o)+ab (cP o))*96).ble 140737488355328&&(aS (flat (cP o))&&true))) (aC ((ab (E1++flat (bV o)++flat (dV o)++flat (dW o))).beq ((K1+ab (bV o)+ab (dV o)+ab (dW o))*7)) (aC (bo 7 (eu o)&&(((K1+ab (bV o)+ab (dV o)+ab (dW o)+ab (cP o)+ab (eu o))*96).ble 140737488355328&&(aS (flat (eu o))&&true))) (aC ((ab (E1++flat (bV o)++flat (dV o)++flat (dW o)++flat (cP o))).beq ((K1+ab (bV o)+ab (dV o)+ab (dW o)+ab (cP o))*7)) (SC 95 [] (AV.fsl true T)∧(((mg T)∧jf∧True)∧dU∧(kJ Cs Ls Ns M o)∧((true=true∧some 135=some 135∧0=0∧K2=K1+ab (bV o)+ab (dV o)+ab (dW o)+ab (cP o)+ab (eu o)∧7=7)∧True)∧(E1++flat (bV o)++flat (dV o)++flat (dW o)++flat (cP o)++flat (eu o)=E2∧ad E2=true)∧True)∧R3))))))) (aC (bo 7 (cP o)&&(((K1+ab (bV o)+ab (dV o)+ab (cP o))*96).ble 140737488355328&&(aS (flat (cP o))&&true))) (aC ((ab (E1++flat (bV o)++flat (dV o))).beq ((K1+ab (bV o)+ab (dV o))*7)) (aC (bo 7 (eu o)&&(((K1+ab (bV o)+ab (dV o)+ab (cP o)+ab (eu o))*96).ble 140737488355328&&(aS (flat (eu o))&&true))) (aC ((ab (E1++flat (bV o)++flat (dV o)++flat (cP o))).beq ((K1+ab (bV o)+ab (dV o)+ab (cP o))*7)) (SC 95 [] (AV.fsl true T)∧(((mg T)∧jf∧True)∧dU∧(kJ Cs Ls Ns M o)∧((true=true∧some 109=some 109∧0=0∧K2=K1+ab (bV o)+ab (dV o)+ab (cP o)+ab (eu o)∧7=7)∧True)∧(E1++flat (bV o)++flat (dV o)++flat (cP o)++flat (eu o)=E2∧ad E2=true)∧True)∧R3)))))))) (ak (!aF o.4 0) (aC (bo 7 (dW o)&&(((K1+ab (bV o)+ab (dW o))*96).ble 140737488355328&&(aS (flat (dW o))&&true))) (aC ((ab (E1++flat (bV o))).beq ((K1+ab (bV o))*7)) (aC (bo 7 (cP o)&&(((K1+ab (bV o)+ab (dW o)+ab (cP o))*96).ble 140737488355328&&(aS (flat (cP o))&&true))) (aC ((ab (E1++flat (bV o)++flat (dW o))).beq ((K1+ab (bV o)+ab (dW o))*7)) (aC (bo 7 (eu o)&&(((K1+ab (bV o)+ab (dW o)+ab (cP o)+ab (eu o))*96).ble 140737488355328&&(aS (flat (eu o))&&true))) (aC ((ab (E1++flat (bV o)++flat (dW o)++flat (cP o))).beq ((K1+ab (bV o)+ab (dW o)+ab (cP o))*7)) (SC 95 [] (AV.fsl true T)∧(((mg T)∧jf∧True)∧dU∧(kJ Cs Ls Ns M o)∧((true=true∧some 109=some 109∧0=0∧K2=K1+ab (bV o)+ab (dW o)+ab (cP o)+ab (eu o)∧7=7)∧True)∧(E1++flat (bV o)++flat (dW o)++flat (cP o)++flat (eu o)=E2∧ad E2=true)∧True)∧R3))))))) (aC (bo 7 (cP o)&&(((K1+ab (bV o)+ab (cP o))*96).ble 140737488355328&&(aS (flat (cP o))&&true))) (aC ((ab (E1++flat (bV o))).beq ((K1+ab (bV o))*7)) (aC (bo 7 (eu o)&&(((K1+ab (bV o)+ab (cP o)+ab (eu o))*96).ble 140737488355328&&(aS (flat (eu o))&&true))) (aC ((ab (E1++flat (bV o)++flat (cP o))).beq ((K1+ab (bV o)+ab (cP o))*7)) (SC 95 [] (AV.fsl true T)∧(((mg T)∧jf∧True)∧dU∧(kJ Cs Ls Ns M o)∧((true=true∧some 83=some 83∧0=0∧K2=K1+ab (bV o)+ab (cP o)+ab (eu o)∧7=7)∧True)∧(E1++flat (bV o)++flat (cP o)++flat (eu o)=E2∧ad E2=true)∧True)∧R3)))))))))):=by kernel_rfl
end
def kK (nm:List UInt8) (i:Int) (s:List UInt8):AV:= .agg [.str nm,I i,I 4325387,I 7,I 0,.fsl false (ap s),.nilsl]
def cI (nm:List UInt8) (ty n:Int):AV:= .agg [.str nm,I 0,I 4325387,I ty,I n,.nilsl,.nilsl]
def eJ (nm:List UInt8) (i:Int) (kk:AV):AV:= .agg [.str nm,I i,I 4325387,I 1,I 0,.nilsl,kk]
def og (l:Lk):AV:= .fsl true [.agg [I 4325451,I 5,I l.ty,.nilsl,.nilsl],.agg [I 4325452,I 7,I 0,.fsl false (ap l.id),.nilsl]]
def fP (o:Ob):AV:=match aB o.msg [] with
 |true=> .fsl true [.agg [I 4325506,I 5,I o.why,.nilsl,.nilsl]]
 |false=> .fsl false [.agg [I 4325506,I 5,I o.why,.nilsl,.nilsl],.agg [I 4325504,I 7,I 0,.fsl false (ap o.msg),.nilsl]]
def qy (o:Ob):AV:= .fsl true [.agg [I 4325527,I 3,I o.lt,.nilsl,.nilsl],.agg [I 4325526,I 3,I o.lc,.nilsl,.nilsl],.agg [I 4325528,I 5,I o.lu,.nilsl,.nilsl]]
def fB (nm:List UInt8):List (List UInt8)→Nat→List AV
 |[],_=>[]
 |s::r,i=>kK nm (.ofNat i) s::fB nm r (i+1)
def fC:List Lk→Nat→List AV
 |[],_=>[]
 |l::r,i=>eJ (aM .lnk) (.ofNat i) (og l)::fC r (i+1)
def eK (b:Bool) (x:AV):List AV:=match b with
 |true=>[x]
 |false=>[]
def aK (o:Ob):Kd→List AV
 | .uid=>[kK (aM .uid) 0 o.id]
 | .nam=>fB (aM .nam) o.names 0
 | .typ=>[cI (aM .typ) 5 o.ty]
 | .alg=>eK (!aF o.alg 0) (cI (aM .alg) 5 o.alg)
 | .len=>eK (!aF o.len 0) (cI (aM .len) 2 o.len)
 | .mask=>[cI (aM .mask) 2 o.mask]
 | .sta=>[cI (aM .sta) 5 o.st]
 | .dat k=>eK (b9 o k).has (cI (aM (.dat k)) 9 (b9 o k).t)
 | .why=>eK (!aF o.why 0) (eJ (aM .why) 0 (fP o))
 | .lnk=>fC o.links 0
 | .lim=>eK o.lh (eJ (aM .lim) 0 (qy o))
 | .cus _=>[]
theorem Jq (nm x:List UInt8):∀ (l:List (List UInt8)) (i:Nat),fB nm (l++[x]) i=fB nm l i++[kK nm (.ofNat (i+l.length)) x]
 |[],_=>rfl
 |a::r,i=>by rw[List.cons_append,fB,fB,Jq nm x r (i+1),List.cons_append,List.length_cons,show i+1+r.length=i+(r.length+1) by omega]
theorem Jr (x:Lk):∀ (l:List Lk) (i:Nat),fC (l++[x]) i=fC l i++[eJ (aM .lnk) (.ofNat (i+l.length)) (og x)]
 |[],_=>rfl
 |a::r,i=>by rw[List.cons_append,fC,fC,Jr x r (i+1),List.cons_append,List.length_cons,show i+1+r.length=i+(r.length+1) by omega]
theorem Bz (nm:List UInt8):∀ (l:List (List UInt8)) (i:Nat),(fB nm l i).length=l.length
 |[],_=>rfl
 |a::r,i=>by rw[fB,List.length_cons,List.length_cons,Bz nm r]
theorem BA:∀ (l:List Lk) (i:Nat),(fC l i).length=l.length
 |[],_=>rfl
 |a::r,i=>by rw[fC,List.length_cons,List.length_cons,BA r]
structure eL (e:AV):Prop where
 c:ac e=true
 f:ad e.cells=true
 l:e.cells.length=7
 g:fc 7 e
theorem BB (nm:List UInt8) (i:Int) (s:List UInt8):eL (kK nm i s):=⟨by simp[kK,ac,ad],by simp[kK,AV.cells,ac,ad],rfl,⟨rfl,rfl⟩⟩
theorem iE (nm:List UInt8) (ty n:Int):eL (cI nm ty n):=⟨rfl,rfl,rfl,⟨rfl,rfl⟩⟩
theorem BD (nm:List UInt8) (i:Int) {f:Bool} {l:List AV} (h:ad l=true):eL (eJ nm i (.fsl f l)):=⟨by simp[eJ,ac,ad,h],by simp[eJ,AV.cells,ac,ad,h],rfl,⟨rfl,rfl⟩⟩
theorem Js (i:Int) (l:Lk):eL (eJ (aM .lnk) i (og l)):=BD _ _ (by simp[ac,ad])
theorem Jt (o:Ob):eL (eJ (aM .why) 0 (fP o)):=by
 unfold fP
 split<;>exact BD _ _ (by simp[ac,ad])
theorem Ju (o:Ob):eL (eJ (aM .lim) 0 (qy o)):=BD _ _ rfl
theorem tk (nm:List UInt8):∀ (l:List (List UInt8)) (i:Nat),∀e∈fB nm l i,eL e
 |[],_,_,h=>by cases h
 |a::r,i,e,h=>by
  rcases List.mem_cons.1 h with h|h
  ·subst h;exact BB _ _ _
  ·exact tk nm r _ e h
theorem tl:∀ (l:List Lk) (i:Nat),∀e∈fC l i,eL e
 |[],_,_,h=>by cases h
 |a::r,i,e,h=>by
  rcases List.mem_cons.1 h with h|h
  ·subst h;exact Js _ _
  ·exact tl r _ e h
theorem tm {b:Bool} {x:AV} (h:eL x):∀e∈eK b x,eL e:=fun e he=>by
 cases b with
 |true=>rw[List.mem_singleton.1 he];exact h
 |false=>cases he
theorem fD (o:Ob) (k:Kd):∀e∈aK o k,eL e:=by
 cases k with
 |uid=>exact fun e he=>by rw[List.mem_singleton.1 he];exact BB _ _ _
 |nam=>exact tk _ _ _
 |typ=>exact fun e he=>by rw[List.mem_singleton.1 he];exact iE _ _ _
 |alg=>exact tm (iE _ _ _)
 |len=>exact tm (iE _ _ _)
 |mask=>exact fun e he=>by rw[List.mem_singleton.1 he];exact iE _ _ _
 |sta=>exact fun e he=>by rw[List.mem_singleton.1 he];exact iE _ _ _
 |dat k=>exact tm (iE _ _ _)
 |why=>exact tm (Jt o)
 |lnk=>exact tl _ _
 |lim=>exact tm (Ju o)
 |cus s=>exact fun e he=>by cases he
theorem Jv:∀ (l q:List Cu),∀e∈dv q l,eL e
 |[],_,_,h=>by cases h
 |a::r,q,e,h=>by
  rcases List.mem_cons.1 h with h|h
  ·subst h;exact ⟨by simp[gY,ac,ad],by simp[gY,AV.cells,ac,ad],rfl,⟨rfl,rfl⟩⟩
  ·exact Jv r _ e h
theorem BE:∀ {l:List AV},(∀e∈l,eL e)→ad l=true
 |[],_=>rfl
 |a::r,h=>by rw[ad,(h a (by simp)).c,BE fun e he=>h e (by simp[he])];rfl
theorem gg:∀ {l:List AV},(∀e∈l,eL e)→ad (flat l)=true
 |[],_=>rfl
 |a::r,h=>by rw[flat,dh,(h a (by simp)).f,gg fun e he=>h e (by simp[he])];rfl
theorem jh:∀ {l:List AV},(∀e∈l,eL e)→(flat l).length=l.length*7
 |[],_=>rfl
 |a::r,h=>by
  rw[flat,List.length_append,(h a (by simp)).l,jh fun e he=>h e (by simp[he]),List.length_cons]
  omega
theorem Jw (nm:List UInt8):∀ (l:List (List UInt8)) (i:Nat),WkE (fB nm l i) ((bS nm (l.map fm) i).map ag)
 |[],_=> .nil
 |a::r,i=>by
  rw[fB,List.map_cons,bS,List.map_cons]
  refine WkE.consA ?_ (Jw nm r _)
  simp only[fm,bO,gU,jA,an]
  (repeat (first|exact Wk.refl _|exact WkL.refl _|exact Wk.nil|exact Wk.row|exact WkE.refl _|exact WkL.nil|exact WkE.nil|apply Wk.agg|apply Wk.tuple|apply WkL.cons|apply Wk.rows|apply WkE.consA))
theorem Jx:∀ (l:List Lk) (i:Nat),WkE (fC l i) ((bS (aM .lnk) (l.map pr) i).map ag)
 |[],_=> .nil
 |a::r,i=>by
  rw[fC,List.map_cons,bS,List.map_cons]
  refine WkE.consA ?_ (Jx r _)
  simp only[pr,fZ,bO,fp,og,gU,jA,an,bu,ap]
  (repeat (first|exact Wk.refl _|exact WkL.refl _|exact Wk.nil|exact Wk.row|exact WkE.refl _|exact WkL.nil|exact WkE.nil|apply Wk.agg|apply Wk.tuple|apply WkL.cons|apply Wk.rows|apply WkE.consA))
theorem tn {b:Bool} {x:AV} {nm:List UInt8} {v:It} (h:WkE [x] [ag ⟨nm,0,v⟩]):WkE (eK b x) ((bS nm (cR b v) 0).map ag):=by
 cases b with
 |true=>exact h
 |false=>exact .nil
theorem qz (nm:List UInt8) (ty n:Int):WkE [cI nm ty n] [ag ⟨nm,0,du ty n⟩]:=by
 refine WkE.consA ?_ .nil
 simp only[du,bO,gU,jA,an,ap]
 (repeat (first|exact Wk.refl _|exact WkL.refl _|exact Wk.nil|exact Wk.row|exact WkE.refl _|exact WkL.nil|exact WkE.nil|apply Wk.agg|apply Wk.tuple|apply WkL.cons|apply Wk.rows|apply WkE.consA))
theorem Vi (o:Ob) (k:Kd) (hk:pw k=true) (hc:∀s,k≠ .cus s):WkE (aK o k) ((bS (aM k) (aU o k) 0).map ag):=by
 cases k with
 |uid=>
  refine WkE.consA ?_ .nil
  simp only[fm,bO,gU,jA,an]
  (repeat (first|exact Wk.refl _|exact WkL.refl _|exact Wk.nil|exact Wk.row|exact WkE.refl _|exact WkL.nil|exact WkE.nil|apply Wk.agg|apply Wk.tuple|apply WkL.cons|apply Wk.rows|apply WkE.consA))
 |nam=>exact Jw _ _ _
 |typ=>exact qz _ _ _
 |alg=>exact tn (qz _ _ _)
 |len=>exact tn (qz _ _ _)
 |mask=>exact qz _ _ _
 |sta=>exact qz _ _ _
 |dat k=>exact tn (qz _ _ _)
 | why=>
  refine tn (WkE.consA ?_ .nil)
  have e:pt o.msg=match aB o.msg [] with|true=>[]|false=>[.mk 4325504 7 0 o.msg []]:=by
   cases o.msg<;>rfl
  simp only[sw,fZ,bO,fp,fP,gU,jA,e]
  split<;>(simp only[an,bu,ap];(repeat (first|exact Wk.refl _|exact WkL.refl _|exact Wk.nil|exact Wk.row|exact WkE.refl _|exact WkL.nil|exact WkE.nil|apply Wk.agg|apply Wk.tuple|apply WkL.cons|apply Wk.rows|apply WkE.consA)))
 |lnk=>exact Jx _ _
 |lim=>
  refine tn (WkE.consA ?_ .nil)
  simp only[uZ,fZ,bO,fp,qy,gU,jA,an,bu,ap]
  (repeat (first|exact Wk.refl _|exact WkL.refl _|exact Wk.nil|exact Wk.row|exact WkE.refl _|exact WkL.nil|exact WkE.nil|apply Wk.agg|apply Wk.tuple|apply WkL.cons|apply Wk.rows|apply WkE.consA))
 |cus s=>exact absurd rfl (hc s)
end Go.Proofs.YtjhggnebkfpgcaaGreatDoor
namespace Go.Proofs.YtjhggnebkfpgcaaGreatDoor
set_option maxRecDepth 20000
open Go Go.RowKit
open Go.Proofs.Abs
theorem j2 {p:Nat} (h:p≤1000000):af .i64 (Int.ofNat p+1)=Int.ofNat (p+1):=co (by simp;omega) (by simp;omega)
theorem qA {i:Nat}:ar (Int.ofNat i) (Int.ofNat i)=true→False:=fun e=>by
 have e:=ltInt_iff.1 e
 omega
theorem eX {e:AV} {k:Nat} (h:eL e) (h1:aS e.cells=true) (hk:k≤100000):(bo 7 [e]&&(Nat.ble ((k+ab [e])*96) 140737488355328&&(aS (flat [e])&&true)))=true:=by
 have h2:ab [e]=1:=rfl
 have h3:bo 7 [e]=true:=by
  have h4:ab e.cells=7:=by rw[aI,h.l]
  simp[bo,h4]
 have h5:flat [e]=e.cells:=by simp[flat]
 rw[h2,h3,h5,h1]
 simp
 omega
theorem eM {B:List AV} {k:Nat} (h:B.length=k*7):Nat.beq (ab B) (k*7)=true:=by rw[beq_iff,aI,h]
theorem Vj {l:List (List UInt8)} {i:Nat} {s:List UInt8} (h:l[i]? =some s):ax Tryz.prog 27 (.fsl false (l.map .str)) (.int .i64 (.ofNat i))=some (.fptr [.str s] 0):=
 fY (v:= .str s) (e:=9) (sz:=1) (by kernel_rfl) (by kernel_rfl) (by rw[List.getElem?_map,h];rfl) rfl
theorem Vk {l:List Lk} {i:Nat} {s:Lk} (h:l[i]? =some s):ax Tryz.prog 28 (.fsl false (l.map bE)) (.int .i64 (.ofNat i))=some (.fptr [I s.ty,.str s.id] 0):=
 fY (v:=bE s) (e:=99) (sz:=2) (by kernel_rfl) (by kernel_rfl) (by rw[List.getElem?_map,h];rfl) rfl
theorem Jy {i:Nat} {k:Kd} (h:kinds[i]? =some k):ax Tryz.prog 140 (.fsl true (kinds.map cH)) (.int .i64 (.ofNat i))=some (.fptr (p7 k) 0):=
 fY (v:=cH k) (e:=93) (sz:=7) (by kernel_rfl) (by kernel_rfl) (by rw[List.getElem?_map,h];rfl) rfl
theorem wP:ad (kinds.map cH)=true:=by kernel_rfl
section
variable {o:Ob} {Q:AExit→St→Prop}
theorem Vl {B:List AV} {k0:Nat} (hB:B.length=k0*7) (hBc:ad B=true) (hk:k0≤1000) (hn:o.names.length≤1000)
  (hq:Q (.exit 0) (aX [(4,I (.ofNat o.names.length))] (k0+o.names.length) (ao o) (B++flat (fB (aM .nam) o.names 0))).st):
  ∀m i:Nat,i+m=o.names.length→ALp Tryz.prog opts0.glob 0 (ah Tryz.prog 45 5) (aX [(4,I (.ofNat i))] (k0+i) (ao o) (B++flat (fB (aM .nam) (o.names.take i) 0))).st Q:=by
 have hO:=dr o
 have hlen:ab (o.names.map AV.str)=o.names.length:=by rw[aI,List.length_map]
 intro m
 induction m with
 |zero=>
  intro i hi
  rw[Nat.add_zero] at hi
  subst hi
  rw[List.take_of_length_le (Nat.le_refl _)]
  have hc:ad (B++flat (fB (aM .nam) o.names 0))=true:=by rw[dh,hBc,gg (tk _ _ _)];rfl
  refine ALp.round (A:=Bp []) (V2:=aX [(4,I 0)] 0 (ao o) []) (F:=aX [(4,I (.ofNat o.names.length))] (k0+o.names.length) (ao o) (B++flat (fB (aM .nam) o.names 0))) (lk:=[(0,0),(1,1),(2,34)]) (lk':=[(0,0),(1,1),(2,2)]) base0 am (LsOk.no rfl) .refl ?_
  unfold ao fe at hO hq⊢
  rw[Je,hlen]
  exact az (fun e=>(qA e).elim) fun _=>⟨⟨⟨⟨rfl,rfl⟩,trivial⟩,⟨⟨rfl,rfl⟩,⟨rfl,rfl⟩,trivial⟩,⟨rfl,hO⟩,⟨⟨rfl,rfl,rfl,rfl,rfl⟩,trivial⟩,⟨rfl,hc⟩,trivial⟩,hq⟩
 |succ m ih=>
  intro i hi
  have hlt:i<o.names.length:=by omega
  have g:=List.getElem?_eq_getElem hlt
  have ih:=ih (i+1) (by omega)
  have hti:(o.names.take i).length=i:=by rw[List.length_take];omega
  rw[fg g,Jq,gv,←List.append_assoc,hti,Nat.zero_add,←Nat.add_assoc] at ih
  have hpc:=gg (tk (aM .nam) (o.names.take i) 0)
  have hpl:=jh (tk (aM .nam) (o.names.take i) 0)
  rw[Bz,hti] at hpl
  revert g ih hpc hpl
  generalize o.names[i]=x
  generalize flat (fB (aM .nam) (o.names.take i) 0)=P
  intro g ih hpc hpl
  have hr:=BB (aM .nam) (.ofNat i) x
  have hc:ad (B++P)=true:=by rw[dh,hBc,hpc];rfl
  have hc2:ad (B++P++flat [kK (aM .nam) (.ofNat i) x])=true:=by rw[dh,hc,gg (l:=[kK (aM .nam) (.ofNat i) x]) (fun e he=>by rw[List.mem_singleton.1 he];exact hr)];rfl
  have hl:(B++P).length=(k0+i)*7:=by rw[List.length_append,hB,hpl];omega
  refine ALp.round (A:=Bp x) (V2:=aX [(4,I (.ofNat (i+1)))] (k0+i+1) (ao o) (B++P++flat [kK (aM .nam) (.ofNat i) x])) (F:=aX [(4,I (.ofNat i))] (k0+i) (ao o) (B++P)) (lk:=[(0,0),(1,1),(2,34)]) (lk':=[(0,0),(1,1),(2,2)]) base0 am (LsOk.no rfl) .refl ?_
  have g:=Vj g
  unfold ao fe at hO ih⊢
  rw[Je,j2 (by omega)]
  exact az (fun _=>⟨g,aH (eX hr rfl (by omega)) (aH (eM hl) ⟨⟨⟨⟨rfl,rfl⟩,trivial⟩,⟨⟨rfl,rfl⟩,⟨rfl,rfl⟩,trivial⟩,⟨rfl,hO⟩,⟨⟨rfl,rfl,rfl,rfl,rfl⟩,trivial⟩,⟨rfl,hc2⟩,trivial⟩,ih⟩)⟩) fun e=>absurd (hlen▸e) (iY hlt)
theorem Vm {B:List AV} {k0:Nat} (hB:B.length=k0*7) (hBc:ad B=true) (hk:k0≤1000) (hn:o.links.length≤1000)
  (hq:Q (.exit 4) (aX [(8,I (.ofNat o.links.length))] (k0+o.links.length) (ao o) (B++flat (fC o.links 0))).st):
  ∀m i:Nat,i+m=o.links.length→ALp Tryz.prog opts0.glob 0 (ah Tryz.prog 45 27) (aX [(8,I (.ofNat i))] (k0+i) (ao o) (B++flat (fC (o.links.take i) 0))).st Q:=by
 have hO:=dr o
 have hlen:ab (o.links.map bE)=o.links.length:=by rw[aI,List.length_map]
 intro m
 induction m with
 |zero=>
  intro i hi
  rw[Nat.add_zero] at hi
  subst hi
  rw[List.take_of_length_le (Nat.le_refl _)]
  have hc:ad (B++flat (fC o.links 0))=true:=by rw[dh,hBc,gg (tl _ _)];rfl
  refine ALp.round (A:=Bt 0 []) (V2:=aX [(8,I 0)] 0 (ao o) []) (F:=aX [(8,I (.ofNat o.links.length))] (k0+o.links.length) (ao o) (B++flat (fC o.links 0))) (lk:=[(0,0),(1,1),(2,50)]) (lk':=[(0,0),(1,1),(2,2)]) base0 am (LsOk.no rfl) .refl ?_
  unfold ao ff at hO hq⊢
  rw[Jg,hlen]
  exact az (fun e=>(qA e).elim) fun _=>⟨⟨⟨⟨rfl,rfl⟩,trivial⟩,⟨⟨rfl,rfl⟩,⟨rfl,rfl⟩,trivial⟩,⟨rfl,hO⟩,⟨⟨rfl,rfl,rfl,rfl,rfl⟩,trivial⟩,⟨rfl,hc⟩,trivial⟩,hq⟩
 |succ m ih=>
  intro i hi
  have hlt:i<o.links.length:=by omega
  have g:=List.getElem?_eq_getElem hlt
  have ih:=ih (i+1) (by omega)
  have hti:(o.links.take i).length=i:=by rw[List.length_take];omega
  rw[fg g,Jr,gv,←List.append_assoc,hti,Nat.zero_add,←Nat.add_assoc] at ih
  have hpc:=gg (tl (o.links.take i) 0)
  have hpl:=jh (tl (o.links.take i) 0)
  rw[BA,hti] at hpl
  revert g ih hpc hpl
  generalize o.links[i]=x
  generalize flat (fC (o.links.take i) 0)=P
  intro g ih hpc hpl
  have hr:=Js (.ofNat i) x
  have hc:ad (B++P)=true:=by rw[dh,hBc,hpc];rfl
  have hc2:ad (B++P++flat [eJ (aM .lnk) (.ofNat i) (og x)])=true:=by rw[dh,hc,gg (l:=[eJ (aM .lnk) (.ofNat i) (og x)]) (fun e he=>by rw[List.mem_singleton.1 he];exact hr)];rfl
  have hl:(B++P).length=(k0+i)*7:=by rw[List.length_append,hB,hpl];omega
  refine ALp.round (A:=Bt x.ty x.id) (V2:=aX [(8,I (.ofNat (i+1)))] (k0+i+1) (ao o) (B++P++flat [eJ (aM .lnk) (.ofNat i) (og x)])) (F:=aX [(8,I (.ofNat i))] (k0+i) (ao o) (B++P)) (lk:=[(0,0),(1,1),(2,50)]) (lk':=[(0,0),(1,1),(2,2)]) base0 am (LsOk.no rfl) .refl ?_
  have g:=Vk g
  unfold ao ff at hO ih⊢
  rw[Jg,j2 (by omega)]
  exact az (fun _=>⟨g,g,aH (eX hr rfl (by omega)) (aH (eM hl) ⟨⟨⟨⟨rfl,rfl⟩,trivial⟩,⟨⟨rfl,rfl⟩,⟨rfl,rfl⟩,trivial⟩,⟨rfl,hO⟩,⟨⟨rfl,rfl,rfl,rfl,rfl⟩,trivial⟩,⟨rfl,hc2⟩,trivial⟩,ih⟩)⟩) fun e=>absurd (hlen▸e) (iY hlt)
theorem wQ:ab (kinds.map cH)=20:=rfl
theorem j3 {i k:Nat} {kd:Kd} {es:List AV} (g:kinds[i]? =some kd) (hd:lT kd= -1) (hc:ad es=true)
  (hn:ALp Tryz.prog opts0.glob 0 (ah Tryz.prog 45 17) (aX [(5,.fsl true (kinds.map cH)),(6,I (.ofNat (i+1)))] k (ao o) es).st Q):
  ALp Tryz.prog opts0.glob 0 (ah Tryz.prog 45 17) (aX [(5,.fsl true (kinds.map cH)),(6,I (.ofNat i))] k (ao o) es).st Q:=by
 have hO:=dr o
 have hT:=wP
 have hlt:i<20:=(List.getElem?_eq_some_iff.1 g).1
 have g:=Jy g
 refine ALp.round (A:=Bq (p7 kd) false) (V2:=aX [(5,.fsl true (kinds.map cH)),(6,I (.ofNat (i+1)))] k (ao o) es) (F:=aX [(5,.fsl true (kinds.map cH)),(6,I (.ofNat i))] k (ao o) es) (lk:=[(0,0),(1,1),(2,2)]) (lk':=[(0,0),(1,1),(2,2)]) base0 am (LsOk.no rfl) .refl ?_
 unfold p7 at g⊢
 rw[hd] at g⊢
 unfold ao at hO hn⊢
 rw[Jf,j2 (by omega),wQ]
 exact az (fun _=>⟨g,⟨⟨⟨rfl,hT⟩,⟨rfl,rfl⟩,trivial⟩,⟨⟨rfl,rfl⟩,⟨rfl,rfl⟩,trivial⟩,⟨rfl,hO⟩,⟨⟨rfl,rfl,rfl,rfl,rfl⟩,trivial⟩,⟨rfl,hc⟩,trivial⟩,hn⟩) fun e=>absurd e (iY hlt)
theorem Jz {d:Nat} (h:d<10):ax Tryz.prog 26 (.ptr 0 7) (I (.ofNat d))=some (.ptr 0 (7+d*2)):=
 match d,h with
 |0,_|1,_|2,_|3,_|4,_|5,_|6,_|7,_|8,_|9,_=>by kernel_rfl
 |n+10,h=>absurd h (by omega)
theorem Vn (o:Ob) {d:Nat} (h:d<10):bh Tryz.prog 4 (ao o) (7+d*2+0)=some (.bool (b9 o d).has):=
 match d,h with
 |0,_|1,_|2,_|3,_|4,_|5,_|6,_|7,_|8,_|9,_=>by kernel_rfl
 |n+10,h=>absurd h (by omega)
theorem Vo (o:Ob) {d:Nat} (h:d<10):bh Tryz.prog 2 (ao o) (7+d*2+1)=some (I (b9 o d).t):=
 match d,h with
 |0,_|1,_|2,_|3,_|4,_|5,_|6,_|7,_|8,_|9,_=>by kernel_rfl
 |n+10,h=>absurd h (by omega)
theorem JA (o:Ob) {d:Nat} (h:d<10):aK o (.dat d)=eK (b9 o d).has (cI (aM (.dat d)) 9 (b9 o d).t):=
 match d,h with
 |0,_|1,_|2,_|3,_|4,_|5,_|6,_|7,_|8,_|9,_=>rfl
 |n+10,h=>absurd h (by omega)
theorem Vp {d i:Nat} (hd:d<10) (g0:kinds[i]? =some (.dat d)) {k:Nat} {es:List AV} (hc:ad es=true) (hl:es.length=k*7) (hk:k≤1000)
  (hn:ALp Tryz.prog opts0.glob 0 (ah Tryz.prog 45 17) (aX [(5,.fsl true (kinds.map cH)),(6,I (.ofNat (i+1)))] (k+(aK o (.dat d)).length) (ao o) (es++flat (aK o (.dat d)))).st Q):
  ALp Tryz.prog opts0.glob 0 (ah Tryz.prog 45 17) (aX [(5,.fsl true (kinds.map cH)),(6,I (.ofNat i))] k (ao o) es).st Q:=by
 have hO:=dr o
 have hT:=wP
 have hlt:i<20:=(List.getElem?_eq_some_iff.1 g0).1
 have g:ax Tryz.prog 140 (.fsl true (kinds.map cH)) (I (.ofNat i))=some (.fptr (tf (aM (.dat d)) (wj d) (wl d) (gV (.dat d)) (.ofNat d)) 0):=Jy g0
 have hr:=iE (aM (.dat d)) 9 (b9 o d).t
 have hp:=Jz hd
 have h1:=Vn o hd
 have h2:=Vo o hd
 rw[JA o hd] at hn
 generalize b9 o d=dd at hn hr h1 h2
 cases hh:dd.has with
 |true=>
  rw[hh] at hn h1
  have hn:ALp Tryz.prog opts0.glob 0 (ah Tryz.prog 45 17) (aX [(5,.fsl true (kinds.map cH)),(6,I (.ofNat (i+1)))] (k+1) (ao o) (es++flat [cI (aM (.dat d)) 9 dd.t])).st Q:=hn
  have hc2:ad (es++flat [cI (aM (.dat d)) 9 dd.t])=true:=by rw[dh,hc];rfl
  refine ALp.round (A:=wL (tf (aM (.dat d)) (wj d) (wl d) (gV (.dat d)) (.ofNat d)) (7+d*2) true dd.t) (V2:=aX [(5,.fsl true (kinds.map cH)),(6,I (.ofNat (i+1)))] (k+1) (ao o) (es++flat [cI (aM (.dat d)) 9 dd.t])) (F:=aX [(5,.fsl true (kinds.map cH)),(6,I (.ofNat i))] k (ao o) es) (lk:=[(0,0),(1,1),(2,58)]) (lk':=[(0,0),(1,1),(2,2)]) base0 am (LsOk.no rfl) .refl ?_
  unfold ao at hO hn h1 h2⊢
  rw[Ve,j2 (by omega),wQ]
  exact az (fun _=>⟨g,g,hp,h1,g,g,hp,h2,aH (eX hr rfl (by omega)) (aH (eM hl) ⟨⟨⟨⟨rfl,hT⟩,⟨rfl,rfl⟩,trivial⟩,⟨⟨rfl,rfl⟩,⟨rfl,rfl⟩,trivial⟩,⟨rfl,hO⟩,⟨⟨rfl,rfl,rfl,rfl,rfl⟩,trivial⟩,⟨rfl,hc2⟩,trivial⟩,hn⟩)⟩) fun e=>absurd e (iY hlt)
 |false=>
  rw[hh,show eK false (cI (aM (.dat d)) 9 dd.t)=[] from rfl,show flat ([]:List AV)=[] from rfl,List.append_nil,List.length_nil,Nat.add_zero] at hn
  rw[hh] at h1
  refine ALp.round (A:=wL (tf (aM (.dat d)) (wj d) (wl d) (gV (.dat d)) (.ofNat d)) (7+d*2) false dd.t) (V2:=aX [(5,.fsl true (kinds.map cH)),(6,I (.ofNat (i+1)))] k (ao o) es) (F:=aX [(5,.fsl true (kinds.map cH)),(6,I (.ofNat i))] k (ao o) es) (lk:=[(0,0),(1,1),(2,2)]) (lk':=[(0,0),(1,1),(2,2)]) base0 am (LsOk.no rfl) .refl ?_
  unfold ao at hO hn h1⊢
  rw[Vf,j2 (by omega),wQ]
  exact az (fun _=>⟨g,g,hp,h1,⟨⟨⟨rfl,hT⟩,⟨rfl,rfl⟩,trivial⟩,⟨⟨rfl,rfl⟩,⟨rfl,rfl⟩,trivial⟩,⟨rfl,hO⟩,⟨⟨rfl,rfl,rfl,rfl,rfl⟩,trivial⟩,⟨rfl,hc⟩,trivial⟩,hn⟩) fun e=>absurd e (iY hlt)
theorem qB {b:Bool} {x:AV}:(eK b x).length≤1:=by cases b<;>simp[eK]
def j4 (o:Ob) (k:Nat):Nat→Nat
 |0=>k
 |d+1=>j4 o k d+(aK o (.dat d)).length
def j5 (o:Ob) (es:List AV):Nat→List AV
 |0=>es
 |d+1=>j5 o es d++flat (aK o (.dat d))
theorem JB {k:Nat} {es:List AV} (hc:ad es=true) (hl:es.length=k*7) (hk:k≤1000):∀d,d≤10→ad (j5 o es d)=true∧(j5 o es d).length=j4 o k d*7∧j4 o k d≤k+d
 |0,_=>⟨hc,hl,Nat.le_refl _⟩
 |d+1,h=>by
  obtain ⟨h1,h2,h3⟩:=JB hc hl hk d (by omega)
  have h4:(aK o (.dat d)).length≤1:=by rw[JA o (by omega)];exact qB
  refine ⟨?_, ?_, ?_⟩
  ·rw[j5,dh,h1,gg (fD _ _)];rfl
  ·rw[j5,List.length_append,h2,jh (fD _ _),j4,Nat.add_mul]
  ·rw[j4];omega
theorem Vq {k:Nat} {es:List AV} (hc:ad es=true) (hl:es.length=k*7) (hk:k≤900)
  (hq:Q (.exit 2) (aX [(5,.fsl true (kinds.map cH)),(6,I 20)] (k+(aK o (.dat 0)).length+(aK o (.dat 1)).length+(aK o (.dat 2)).length+(aK o (.dat 3)).length+(aK o (.dat 4)).length+(aK o (.dat 5)).length+(aK o (.dat 6)).length+(aK o (.dat 7)).length+(aK o (.dat 8)).length+(aK o (.dat 9)).length) (ao o) (es++flat (aK o (.dat 0))++flat (aK o (.dat 1))++flat (aK o (.dat 2))++flat (aK o (.dat 3))++flat (aK o (.dat 4))++flat (aK o (.dat 5))++flat (aK o (.dat 6))++flat (aK o (.dat 7))++flat (aK o (.dat 8))++flat (aK o (.dat 9)))).st):
  ALp Tryz.prog opts0.glob 0 (ah Tryz.prog 45 17) (aX [(5,.fsl true (kinds.map cH)),(6,I 0)] k (ao o) es).st Q:=by
 have hO:=dr o
 have hT:=wP
 have st:=JB (o:=o) hc hl (by omega)
 have h20:ALp Tryz.prog opts0.glob 0 (ah Tryz.prog 45 17) (aX [(5,.fsl true (kinds.map cH)),(6,I (.ofNat 20))] (j4 o k 10) (ao o) (j5 o es 10)).st Q:=by
  have c10:=(st 10 (Nat.le_refl _)).1
  have hq:Q (.exit 2) (aX [(5,.fsl true (kinds.map cH)),(6,I 20)] (j4 o k 10) (ao o) (j5 o es 10)).st:=hq
  generalize j5 o es 10=es' at hq c10⊢
  generalize j4 o k 10=k' at hq⊢
  refine ALp.round (A:=Bq (p7 .uid) false) (V2:=aX [(5,.fsl true (kinds.map cH)),(6,I 0)] 0 (ao o) []) (F:=aX [(5,.fsl true (kinds.map cH)),(6,I (.ofNat 20))] k' (ao o) es') (lk:=[(0,0),(1,1),(2,2)]) (lk':=[(0,0),(1,1),(2,2)]) base0 am (LsOk.no rfl) .refl ?_
  unfold p7
  rw[show lT .uid= -1 from rfl]
  unfold ao at hO hq⊢
  rw[Jf,wQ]
  exact az (fun e=>by cases e) fun _=>⟨⟨⟨⟨rfl,hT⟩,⟨rfl,rfl⟩,trivial⟩,⟨⟨rfl,rfl⟩,⟨rfl,rfl⟩,trivial⟩,⟨rfl,hO⟩,⟨⟨rfl,rfl,rfl,rfl,rfl⟩,trivial⟩,⟨rfl,c10⟩,trivial⟩,hq⟩
 have c10:=(st 10 (Nat.le_refl _)).1
 have h19:=j3 (i:=19) (o:=o) rfl rfl c10 h20
 have h18:=j3 (i:=18) (o:=o) rfl rfl c10 h19
 have h17:=j3 (i:=17) (o:=o) rfl rfl c10 h18
 have dn:∀d,d<10→kinds[d+7]? =some (.dat d)→ALp Tryz.prog opts0.glob 0 (ah Tryz.prog 45 17) (aX [(5,.fsl true (kinds.map cH)),(6,I (.ofNat (d+7+1)))] (j4 o k (d+1)) (ao o) (j5 o es (d+1))).st Q→ALp Tryz.prog opts0.glob 0 (ah Tryz.prog 45 17) (aX [(5,.fsl true (kinds.map cH)),(6,I (.ofNat (d+7)))] (j4 o k d) (ao o) (j5 o es d)).st Q:=fun d hd g h=>Vp hd g (st d (by omega)).1 (st d (by omega)).2.1 (by have:=(st d (by omega)).2.2;omega) h
 have h7:=dn 0 (by decide) rfl (dn 1 (by decide) rfl (dn 2 (by decide) rfl (dn 3 (by decide) rfl (dn 4 (by decide) rfl (dn 5 (by decide) rfl (dn 6 (by decide) rfl (dn 7 (by decide) rfl (dn 8 (by decide) rfl (dn 9 (by decide) rfl h17)))))))))
 have h6:=j3 (i:=6) (o:=o) rfl rfl hc h7
 have h5:=j3 (i:=5) (o:=o) rfl rfl hc h6
 have h4:=j3 (i:=4) (o:=o) rfl rfl hc h5
 have h3:=j3 (i:=3) (o:=o) rfl rfl hc h4
 have h2:=j3 (i:=2) (o:=o) rfl rfl hc h3
 have h1:=j3 (i:=1) (o:=o) rfl rfl hc h2
 have h0:=j3 (i:=0) (o:=o) rfl rfl hc h1
 exact h0
end
section
variable {o:Ob} {Q:AExit→St→Prop}
theorem Vr {i k:Nat} {es:List AV} {c:Cu} (g:o.cust[i]? =some c) (hi:i≤1000) (hc:ad es=true)
  (hq:Q (.exit 8) (aX [(9,I (.ofNat i)),(10,I (.ofNat (dJ c.name (o.cust.take i)))),(11,I (.ofNat i))] k (ao o) es).st):
  ∀m j:Nat,j+m=i→ALp Tryz.prog opts0.glob 0 (ah Tryz.prog 45 37) (aX [(9,I (.ofNat i)),(10,I (.ofNat (dJ c.name (o.cust.take j)))),(11,I (.ofNat j))] k (ao o) es).st Q:=by
 have hO:=dr o
 have hlt:=(List.getElem?_eq_some_iff.1 g).1
 intro m
 induction m with
 |zero=>
  intro j hj
  rw[Nat.add_zero] at hj
  subst hj
  refine ALp.round (A:=wM [] [] [] []) (V2:=aX [(9,I (.ofNat j)),(10,I 0),(11,I 0)] k (ao o) es) (F:=aX [(9,I (.ofNat j)),(10,I (.ofNat (dJ c.name (o.cust.take j)))),(11,I (.ofNat j))] k (ao o) es) (lk:=[(0,0),(1,1),(2,2)]) (lk':=[(0,0),(1,1),(2,2)]) base0 am (LsOk.no rfl) .refl ?_
  unfold ao cS at hO hq⊢
  rw[Bv]
  exact az (fun e=>(qA e).elim) fun _=>⟨⟨⟨⟨rfl,rfl⟩,⟨rfl,rfl⟩,⟨rfl,rfl⟩,trivial⟩,⟨⟨rfl,rfl⟩,⟨rfl,rfl⟩,trivial⟩,⟨rfl,hO⟩,⟨⟨rfl,rfl,rfl,rfl,rfl⟩,trivial⟩,⟨rfl,hc⟩,trivial⟩,hq⟩
 | succ m ih=>
  intro j hj
  have hjl:j<o.cust.length:=by omega
  have gj:=List.getElem?_eq_getElem hjl
  have ih:=ih (j+1) (by omega)
  rw[fg gj,Gp] at ih
  have hcl:=SB c.name (o.cust.take j)
  have htl:=List.length_take_le j o.cust
  revert gj ih
  generalize o.cust[j]=x
  revert hcl
  generalize dJ c.name (o.cust.take j)=n
  intro hcl gj ih
  have g1:=AD gj
  have g2:=AD g
  have hw:=j2 (p:=j) (by omega)
  have hn:n≤1000:=by rw[List.length_take] at hcl;omega
  have hw2:=j2 (p:=n) (by omega)
  cases hx:aB x.name c.name with
  |true=>
   rw[hx] at ih
   refine ALp.round (A:=wM x.name x.text c.name c.text) (V2:=aX [(9,I (.ofNat i)),(10,I (.ofNat (n+1))),(11,I (.ofNat (j+1)))] k (ao o) es) (F:=aX [(9,I (.ofNat i)),(10,I (.ofNat n)),(11,I (.ofNat j))] k (ao o) es) (lk:=[(0,0),(1,1),(2,2)]) (lk':=[(0,0),(1,1),(2,2)]) base0 am (LsOk.no rfl) .refl ?_
   unfold ao cS at hO ih⊢
   rw[Bv,hw,hw2]
   exact az (fun _=>⟨g1,g2,az (fun _=>⟨⟨⟨⟨rfl,rfl⟩,⟨rfl,rfl⟩,⟨rfl,rfl⟩,trivial⟩,⟨⟨rfl,rfl⟩,⟨rfl,rfl⟩,trivial⟩,⟨rfl,hO⟩,⟨⟨rfl,rfl,rfl,rfl,rfl⟩,trivial⟩,⟨rfl,hc⟩,trivial⟩,ih⟩) fun e=>by rw[hx] at e;cases e⟩) fun e=>absurd e (iY (by omega))
  |false=>
   rw[hx] at ih
   refine ALp.round (A:=wM x.name x.text c.name c.text) (V2:=aX [(9,I (.ofNat i)),(10,I (.ofNat n)),(11,I (.ofNat (j+1)))] k (ao o) es) (F:=aX [(9,I (.ofNat i)),(10,I (.ofNat n)),(11,I (.ofNat j))] k (ao o) es) (lk:=[(0,0),(1,1),(2,2)]) (lk':=[(0,0),(1,1),(2,2)]) base0 am (LsOk.no rfl) .refl ?_
   unfold ao cS at hO ih⊢
   rw[Bv,hw,hw2]
   exact az (fun _=>⟨g1,g2,az (fun e=>by rw[hx] at e;cases e) fun _=>⟨⟨⟨⟨rfl,rfl⟩,⟨rfl,rfl⟩,⟨rfl,rfl⟩,trivial⟩,⟨⟨rfl,rfl⟩,⟨rfl,rfl⟩,trivial⟩,⟨rfl,hO⟩,⟨⟨rfl,rfl,rfl,rfl,rfl⟩,trivial⟩,⟨rfl,hc⟩,trivial⟩,ih⟩⟩) fun e=>absurd e (iY (by omega))
theorem JC:br (ah Tryz.prog 45 33) 37=[ah Tryz.prog 45 37]:=by kernel_rfl
theorem Vt {B:List AV} {k0:Nat} (hB:B.length=k0*7) (hBc:ad B=true) (hk:k0≤1000) (hn:o.cust.length≤1000)
  (hq:Q (.exit 6) (aX [(9,I (.ofNat o.cust.length))] (k0+o.cust.length) (ao o) (B++flat (dv [] o.cust))).st):
  ∀m i:Nat,i+m=o.cust.length→ALp Tryz.prog opts0.glob 0 (ah Tryz.prog 45 33) (aX [(9,I (.ofNat i))] (k0+i) (ao o) (B++flat (dv [] (o.cust.take i)))).st Q:=by
 have hO:=dr o
 have hlen:ab (o.cust.map aT)=o.cust.length:=by rw[aI,List.length_map]
 intro m
 induction m with
 |zero=>
  intro i hi
  rw[Nat.add_zero] at hi
  subst hi
  rw[List.take_of_length_le (Nat.le_refl _)]
  have hc:ad (B++flat (dv [] o.cust))=true:=by rw[dh,hBc,AB];rfl
  refine ALp.round (A:=Bw False [] [] (.ofNat o.cust.length) 0 (k0+o.cust.length) (ao o) (B++flat (dv [] o.cust))) (V2:=aX [(9,I 0)] 0 (ao o) []) (F:=aX [(9,I (.ofNat o.cust.length))] (k0+o.cust.length) (ao o) (B++flat (dv [] o.cust))) (lk:=[(0,0),(1,1),(2,36)]) (lk':=[(0,0),(1,1),(2,2)]) base0 am (LsOk.at1 rfl JC fun st Q hs=>hs.1.elim) .refl ?_
  unfold ao cS at hO hq⊢
  rw[Jh,hlen]
  exact az (fun e=>(qA e).elim) fun _=>⟨⟨⟨⟨rfl,rfl⟩,trivial⟩,⟨⟨rfl,rfl⟩,⟨rfl,rfl⟩,trivial⟩,⟨rfl,hO⟩,⟨⟨rfl,rfl,rfl,rfl,rfl⟩,trivial⟩,⟨rfl,hc⟩,trivial⟩,hq⟩
 | succ m ih=>
  intro i hi
  have hlt:i<o.cust.length:=by omega
  have g:=List.getElem?_eq_getElem hlt
  have ih:=ih (i+1) (by omega)
  have hti:(o.cust.take i).length=i:=by rw[List.length_take];omega
  rw[fg g,Gw,gv,←List.append_assoc,List.nil_append,←Nat.add_assoc] at ih
  have hpc:=AB (o.cust.take i) []
  have hpl:=Gx (o.cust.take i) []
  rw[hti] at hpl
  revert g ih
  generalize o.cust[i]=x
  intro g ih
  have hc:ad (B++flat (dv [] (o.cust.take i)))=true:=by rw[dh,hBc,hpc];rfl
  have hl:(B++flat (dv [] (o.cust.take i))).length=(k0+i)*7:=by rw[List.length_append,hB,hpl];omega
  have hrun:=fun Q hq=>Vr (o:=o) (Q:=Q) (k:=k0+i) g (by omega) hc hq i 0 (Nat.zero_add _)
  rw[show o.cust.take 0=[] from List.take_zero] at hrun
  revert ih hc hl hrun
  generalize B++flat (dv [] (o.cust.take i))=P
  generalize dJ x.name (o.cust.take i)=n
  intro ih hc hl hrun
  have hr:eL (gY x n):=⟨by simp[gY,ac,ad],by simp[gY,AV.cells,ac,ad],rfl,⟨rfl,rfl⟩⟩
  have hc2:ad (P++flat [gY x n])=true:=SA hc
  have g:=AD g
  refine ALp.round (A:=Bw True x.name x.text (.ofNat i) (.ofNat n) (k0+i) (ao o) P) (V2:=aX [(9,I (.ofNat (i+1)))] (k0+i+1) (ao o) (P++flat [gY x n])) (F:=aX [(9,I (.ofNat i))] (k0+i) (ao o) P) (lk:=[(0,0),(1,1),(2,36)]) (lk':=[(0,0),(1,1),(2,2)]) base0 am
   (LsOk.at1 rfl JC fun st Q hs=> .seen base0.glob hs.2.1 (hrun Q hs.2.2)) .refl ?_
  unfold ao cS at hO ih⊢
  rw[Jh,j2 (by omega)]
  exact az (fun _=>⟨trivial,⟨⟨⟨rfl,rfl⟩,⟨rfl,rfl⟩,⟨rfl,rfl⟩,trivial⟩,⟨⟨rfl,rfl⟩,⟨rfl,rfl⟩,trivial⟩,⟨rfl,hO⟩,⟨⟨rfl,rfl,rfl,rfl,rfl⟩,trivial⟩,⟨rfl,hc⟩,trivial⟩,g,g,aH (eX hr rfl (by omega)) (aH (eM hl) ⟨⟨⟨⟨rfl,rfl⟩,trivial⟩,⟨⟨rfl,rfl⟩,⟨rfl,rfl⟩,trivial⟩,⟨rfl,hO⟩,⟨⟨rfl,rfl,rfl,rfl,rfl⟩,trivial⟩,⟨rfl,hc2⟩,trivial⟩,ih⟩)⟩) fun e=>absurd (hlen▸e) (iY hlt)
end
end Go.Proofs.YtjhggnebkfpgcaaGreatDoor
namespace Go.Proofs.YtjhggnebkfpgcaaGreatDoor
open Go Go.RowKit
open Go.Proofs.Abs
theorem BF:∀ {a b c d:List AV},WkE a b→WkE c d→WkE (a++c) (b++d)
 |[],[],_,_,_,h=>h
 |x::_,y::_,_,_,h,h2=> .cons (h.at_ 0 x y rfl rfl) (BF ⟨by have:=h.len;simpa using this,fun i u v h3 h4=>h.at_ (i+1) u v h3 h4⟩ h2)
 |[],_::_,_,_,h,_=>by have:=h.len;simp at this
 |_::_,[],_,_,h,_=>by have:=h.len;simp at this
theorem Vu {P:Program} {G:aQ} {nx0 r1 r2 r3 r4:Nat} {L1 L2 L3 L4:bg} {b1 b2 b3 b4:Code} {c:Code} {A:be} (hA:A.ls=ko [(r1,L1),(r2,L2),(r3,L3),(r4,L4)]) (a1:br c r1=[b1]) (a2:br c r2=[b2]) (a3:br c r3=[b3]) (a4:br c r4=[b4])
  (h1:∀s Q,L1 s Q→AWp P G nx0 (.loop b1) s Q) (h2:∀s Q,L2 s Q→AWp P G nx0 (.loop b2) s Q) (h3:∀s Q,L3 s Q→AWp P G nx0 (.loop b3) s Q) (h4:∀s Q,L4 s Q→AWp P G nx0 (.loop b4) s Q):LsOk P G nx0 A c:=
 LsOk.many hA fun p hp b hb s Q hs=>by
  simp only[List.mem_cons,List.not_mem_nil,or_false] at hp
  rcases hp with rfl|rfl|rfl|rfl
  ·rw[a1,List.mem_singleton] at hb;subst hb;exact h1 s Q hs
  ·rw[a2,List.mem_singleton] at hb;subst hb;exact h2 s Q hs
  ·rw[a3,List.mem_singleton] at hb;subst hb;exact h3 s Q hs
  ·rw[a4,List.mem_singleton] at hb;subst hb;exact h4 s Q hs
theorem Vv:br (cy Tryz.prog 45) 5=[ah Tryz.prog 45 5]:=by kernel_rfl
theorem Vw:br (cy Tryz.prog 45) 17=[ah Tryz.prog 45 17]:=by kernel_rfl
theorem Vx:br (cy Tryz.prog 45) 27=[ah Tryz.prog 45 27]:=by kernel_rfl
theorem Vy:br (cy Tryz.prog 45) 33=[ah Tryz.prog 45 33]:=by kernel_rfl
def tp (o:Ob) (l:List AV):List AV:=l++aK o (.dat 0)++aK o (.dat 1)++aK o (.dat 2)++aK o (.dat 3)++aK o (.dat 4)++aK o (.dat 5)++aK o (.dat 6)++aK o (.dat 7)++aK o (.dat 8)++aK o (.dat 9)
def kL (o:Ob):List AV:=tp o (aK o .uid++aK o .nam++aK o .typ++aK o .alg++aK o .len++aK o .mask++aK o .sta)++aK o .why++aK o .lnk++aK o .lim++dv [] o.cust
theorem Vz (o:Ob):WkE (kL o) ((gC o).map ag):=by
 have h:∀k,pw k=true→(∀s,k≠ .cus s)→WkE (aK o k) ((bS (aM k) (aU o k) 0).map ag):=Vi o
 simp only[kL,tp,List.append_assoc,gC,kinds,kB,List.nil_append,List.map_append]
 repeat' first|exact AC _ _|exact BF (h _ rfl fun _ e=>by cases e) ?_|refine BF (h _ rfl fun _ e=>by cases e) ?_
theorem VA (o:Ob):∀e∈kL o,eL e:=fun e he=>by
 simp only[kL,tp,List.mem_append] at he
 repeat' first|exact fD o _ e ‹_› |exact Jv _ _ e ‹_› |rcases he with he|he
set_option maxRecDepth 20000 in
theorem VB {o:Ob} (ho:lD o):SC 45 [aj o] (.fsl false ((gC o).map ag)):=by
 have hO:=dr o
 have hcl:ad [aj o]=true:=ec o (c:=[]) rfl
 have hT:=wP
 have hn:=ho.n
 have hl:=ho.l
 have hcu:=ho.c
 have hnl:(aK o .nam).length=o.names.length:=Bz _ _ _
 have hll:(aK o .lnk).length=o.links.length:=BA _ _
 have na:(aK o .alg).length≤1:=qB
 have nl:(aK o .len).length≤1:=qB
 have nd:∀k,(aK o (.dat k)).length≤1:=fun k=>qB
 have nw:(aK o .why).length≤1:=qB
 have nm:(aK o .lim).length≤1:=qB
 have a1:(!aF o.alg 0)=true→aK o .alg=[cI (aM .alg) 5 o.alg]:=fun e=>by simp only[aK,e,eK]
 have a0:(!aF o.alg 0)=false→aK o .alg=[]:=fun e=>by simp only[aK,e,eK]
 have b1:(!aF o.len 0)=true→aK o .len=[cI (aM .len) 2 o.len]:=fun e=>by simp only[aK,e,eK]
 have b0:(!aF o.len 0)=false→aK o .len=[]:=fun e=>by simp only[aK,e,eK]
 have w1:(!aF o.why 0)=true→aK o .why=[eJ (aM .why) 0 (fP o)]:=fun e=>by simp only[aK,e,eK]
 have w0:(!aF o.why 0)=false→aK o .why=[]:=fun e=>by simp only[aK,e,eK]
 have m1:o.lh=true→aK o .lim=[eJ (aM .lim) 0 (qy o)]:=fun e=>by simp only[aK,e,eK]
 have m0:o.lh=false→aK o .lim=[]:=fun e=>by simp only[aK,e,eK]
 obtain ⟨E0,hE0⟩:∃E,E=flat (aK o .uid):=⟨_,rfl⟩
 obtain ⟨K0,hK0⟩:∃K,K=(aK o .uid).length:=⟨_,rfl⟩
 have c0:ad E0=true:=by rw[hE0];exact gg (fD _ _)
 have l0:E0.length=K0*7:=by rw[hE0,hK0];exact jh (fD _ _)
 obtain ⟨E1,hE1⟩:∃E,E=E0++flat (aK o .nam):=⟨_,rfl⟩
 obtain ⟨K1,hK1⟩:∃K,K=K0+o.names.length:=⟨_,rfl⟩
 have c1:ad E1=true:=by rw[hE1,dh,c0,gg (fD _ _)];rfl
 have l1:E1.length=K1*7:=by rw[hE1,hK1,List.length_append,l0,jh (fD _ _),hnl,Nat.add_mul]
 obtain ⟨E2,hE2⟩:∃E,E=E1++flat (aK o .typ)++flat (aK o .alg)++flat (aK o .len)++flat (aK o .mask)++flat (aK o .sta):=⟨_,rfl⟩
 obtain ⟨K2,hK2⟩:∃K,K=K1+1+(aK o .alg).length+(aK o .len).length+1+1:=⟨_,rfl⟩
 have c2:ad E2=true:=by
  rw[hE2]
  simp only[dh,c1,gg (fD o _),Bool.and_self]
 have l2:E2.length=K2*7:=by
  have h1:(aK o .typ).length=1:=rfl
  have h2:(aK o .mask).length=1:=rfl
  have h3:(aK o .sta).length=1:=rfl
  rw[hE2,hK2]
  simp only[List.length_append,l1,jh (fD o _),h1,h2,h3]
  omega
 obtain ⟨E3,hE3⟩:∃E,E=E2++flat (aK o (.dat 0))++flat (aK o (.dat 1))++flat (aK o (.dat 2))++flat (aK o (.dat 3))++flat (aK o (.dat 4))++flat (aK o (.dat 5))++flat (aK o (.dat 6))++flat (aK o (.dat 7))++flat (aK o (.dat 8))++flat (aK o (.dat 9)):=⟨_,rfl⟩
 obtain ⟨K3,hK3⟩:∃K,K=K2+(aK o (.dat 0)).length+(aK o (.dat 1)).length+(aK o (.dat 2)).length+(aK o (.dat 3)).length+(aK o (.dat 4)).length+(aK o (.dat 5)).length+(aK o (.dat 6)).length+(aK o (.dat 7)).length+(aK o (.dat 8)).length+(aK o (.dat 9)).length:=⟨_,rfl⟩
 have c3:ad E3=true:=by
  rw[hE3]
  simp only[dh,c2,gg (fD o _),Bool.and_self]
 have l3:E3.length=K3*7:=by
  rw[hE3,hK3]
  simp only[List.length_append,l2,jh (fD o _),Nat.add_mul]
 obtain ⟨E4,hE4⟩:∃E,E=E3++flat (aK o .why):=⟨_,rfl⟩
 obtain ⟨K4,hK4⟩:∃K,K=K3+(aK o .why).length:=⟨_,rfl⟩
 have c4:ad E4=true:=by rw[hE4,dh,c3,gg (fD _ _)];rfl
 have l4:E4.length=K4*7:=by rw[hE4,hK4,List.length_append,l3,jh (fD _ _),Nat.add_mul]
 obtain ⟨E5,hE5⟩:∃E,E=E4++flat (aK o .lnk):=⟨_,rfl⟩
 obtain ⟨K5,hK5⟩:∃K,K=K4+o.links.length:=⟨_,rfl⟩
 have c5:ad E5=true:=by rw[hE5,dh,c4,gg (fD _ _)];rfl
 have l5:E5.length=K5*7:=by rw[hE5,hK5,List.length_append,l4,jh (fD _ _),hll,Nat.add_mul]
 obtain ⟨E6,hE6⟩:∃E,E=E5++flat (aK o .lim):=⟨_,rfl⟩
 obtain ⟨K6,hK6⟩:∃K,K=K5+(aK o .lim).length:=⟨_,rfl⟩
 have c6:ad E6=true:=by rw[hE6,dh,c5,gg (fD _ _)];rfl
 have l6:E6.length=K6*7:=by rw[hE6,hK6,List.length_append,l5,jh (fD _ _),Nat.add_mul]
 obtain ⟨E7,hE7⟩:∃E,E=E6++flat (dv [] o.cust):=⟨_,rfl⟩
 obtain ⟨K7,hK7⟩:∃K,K=K6+o.cust.length:=⟨_,rfl⟩
 have e7:E7=flat (kL o):=by
  rw[hE7,hE6,hE5,hE4,hE3,hE2,hE1,hE0]
  simp only[kL,tp,gv]
 have k7:K7=(kL o).length:=by
  rw[hK7,hK6,hK5,hK4,hK3,hK2,hK1,hK0]
  have h1:(aK o .typ).length=1:=rfl
  have h2:(aK o .mask).length=1:=rfl
  have h3:(aK o .sta).length=1:=rfl
  simp only[kL,tp,List.length_append,hnl,hll,h1,h2,h3,AA]
 have k0:K0=1:=hK0
 have n0:=nd 0
 have n1:=nd 1
 have n2:=nd 2
 have n3:=nd 3
 have n4:=nd 4
 have n5:=nd 5
 have n6:=nd 6
 have n7:=nd 7
 have n8:=nd 8
 have n9:=nd 9
 refine dH (A:=lv (aq [] [(5,Ji (.ofNat o.names.length) K0 K1 (ao o) E0 E1),(17,Jj (kinds.map cH) K2 K3 (ao o) E2 E3),(27,Jk (.ofNat o.links.length) K4 K5 (ao o) E4 E5),(33,Jl (.ofNat o.cust.length) K6 K7 (ao o) E6 E7)] (cz [(95,.fsl true (kinds.map cH))]) l8 l9) 24 20 (Jm K3 (ao o) E3 (fP o))) base0 (zB am)
  (aN (Vu rfl Vv Vw Vx Vy (fun st Q hs=> .seen base0.glob hs.1 ?_) (fun st Q hs=> .seen base0.glob hs.1 ?_) (fun st Q hs=> .seen base0.glob hs.1 ?_) (fun st Q hs=> .seen base0.glob hs.1 ?_))) hcl ?_
 ·have hq:=hs.2
  rw[hE1,hK1] at hq
  have:=Vl l0 c0 (by omega) (by omega) hq o.names.length 0 (Nat.zero_add _)
  rw[show o.names.take 0=[] from List.take_zero,show flat (fB (aM .nam) [] 0)=[] from rfl,List.append_nil] at this
  exact this
 ·have hq:=hs.2
  rw[hE3,hK3] at hq
  exact Vq c2 l2 (by omega) hq
 ·have hq:=hs.2
  rw[hE5,hK5] at hq
  have:=Vm l4 c4 (by omega) (by omega) hq o.links.length 0 (Nat.zero_add _)
  rw[show o.links.take 0=[] from List.take_zero,show flat (fC [] 0)=[] from rfl,List.append_nil] at this
  exact this
 ·have hq:=hs.2
  rw[hE7,hK7] at hq
  have:=Vt l6 c6 (by omega) (by omega) hq o.cust.length 0 (Nat.zero_add _)
  rw[show o.cust.take 0=[] from List.take_zero,show flat (dv [] [])=[] from rfl,List.append_nil] at this
  exact this
 ·have hw:=Vz o
  have hr:=VA o
  revert e7 k7 hw hr
  generalize kL o=AR
  intro e7 k7 hw hr
  have hend:sg (.fsl false ((gC o).map ag)) (.rsl true 2 0 K7 7) [(0,some (.cells (ao o))),(1,some (.cells [.rsl true 2 0 K7 7])),(2,some (.cells E7))]:=
   ⟨.fsl false AR,(Frz.row rfl rfl e7 k7 (fun e he=>(hr e he).g) (BE hr)).out,iV (BE hr),.rows hw⟩
  unfold aj ao fe ff cS at*
  rw[Vh]
  intro R1 R2 R3
  have h1:R1:=by
   refine az (fun e=> ?_) (fun e=> ?_)
   ·have q:=eX (k:=K5) (Ju o) rfl (by omega)
    have q2:=eM l5
    have q3:K6=K5+ab [eJ (aM .lim) 0 (qy o)]:=by rw[hK6,m1 e];rfl
    have q4:E5++flat [eJ (aM .lim) 0 (qy o)]=E6:=by rw[hE6,m1 e]
    refine aH q ?_
    refine aH q2 ?_
    refine ⟨?_,hend⟩
    exact ⟨⟨⟨rfl,rfl⟩,trivial⟩,⟨⟨rfl,rfl⟩,⟨rfl,rfl⟩,trivial⟩,⟨rfl,hO⟩,⟨⟨rfl,rfl,rfl,q3,rfl⟩,trivial⟩,⟨q4,c6⟩,trivial⟩
   ·have q3:K6=K5:=by rw[hK6,m0 e];rfl
    have q4:E5=E6:=by rw[hE6,m0 e];exact (List.append_nil _).symm
    refine ⟨?_,hend⟩
    exact ⟨⟨⟨rfl,rfl⟩,trivial⟩,⟨⟨rfl,rfl⟩,⟨rfl,rfl⟩,trivial⟩,⟨rfl,hO⟩,⟨⟨rfl,rfl,rfl,q3,rfl⟩,trivial⟩,⟨q4,c6⟩,trivial⟩
  have h2:(!aF o.why 0)=true→R2:=fun ew=>by
   have q:=eX (k:=K3) (Jt o) (by unfold fP;split<;>rfl) (by omega)
   have q2:=eM l3
   have hfit:cQ Tryz.prog 37 (.agg [I 4325387,I 1,I 0,.nilsl,fP o]) 5=true:=Ep (by kernel_rfl) rfl (by unfold fP;split<;>rfl)
   have hfit:(cQ Tryz.prog 37 (.agg [I 4325387,I 1,I 0,.nilsl,fP o]) 5&&true)=true:=by rw[hfit];rfl
   have q3:K4=K3+ab [eJ (aM .why) 0 (fP o)]:=by rw[hK4,w1 ew];rfl
   have q4:E3++flat [eJ (aM .why) 0 (fP o)]=E4:=by rw[hE4,w1 ew]
   refine az (fun e=> ?_) (fun e=> ?_)
   ·have hk:fP o= .fsl false [.agg [I 4325506,I 5,I o.why,.nilsl,.nilsl],.agg [I 4325504,I 7,I 0,.fsl false (ap o.msg),.nilsl]]:=by
     unfold fP
     rw[Bool.not_eq_true'] at e
     rw[e]
    refine ⟨⟨⟨.keepP rfl,.keepP rfl,.keepP rfl,trivial⟩,FrzL.closed _ hO,FrzL.cons (.keepR rfl) .nil,FrzL.closed _ c3,FrzL.cons (.closed _ rfl) (FrzL.cons (.closed _ rfl) (FrzL.cons (.closed _ rfl) (FrzL.cons (.closed _ rfl) (FrzL.cons ?_ .nil)))),trivial⟩,aH hfit (aH q (aH q2 ⟨?_,h1⟩))⟩
    ·rw[hk]
     refine Frz.row (es:=[.agg [I 4325506,I 5,I o.why,.nilsl,.nilsl],.agg [I 4325504,I 7,I 0,.fsl false (ap o.msg),.nilsl]]) rfl rfl rfl rfl (fun e he=> ?_) (by simp[ac,ad])
     simp only[List.mem_cons,List.not_mem_nil,or_false] at he
     rcases he with rfl|rfl<;>exact ⟨rfl,rfl⟩
    ·exact ⟨⟨⟨rfl,rfl⟩,trivial⟩,⟨⟨rfl,rfl⟩,⟨rfl,rfl⟩,trivial⟩,⟨rfl,hO⟩,⟨⟨rfl,rfl,rfl,q3,rfl⟩,trivial⟩,⟨q4,c4⟩,trivial⟩
   ·have hk:fP o= .fsl true [.agg [I 4325506,I 5,I o.why,.nilsl,.nilsl]]:=by
     unfold fP
     rw[Bool.not_eq_false'] at e
     rw[e]
    refine ⟨⟨⟨.keepP rfl,.keepP rfl,.keepP rfl,trivial⟩,FrzL.closed _ hO,FrzL.cons (.keepR rfl) .nil,FrzL.closed _ c3, ?_,trivial⟩,aH hfit (aH q (aH q2 ⟨?_,h1⟩))⟩
    ·rw[hk]
     exact FrzL.closed _ rfl
    ·exact ⟨⟨⟨rfl,rfl⟩,trivial⟩,⟨⟨rfl,rfl⟩,⟨rfl,rfl⟩,trivial⟩,⟨rfl,hO⟩,⟨⟨rfl,rfl,rfl,q3,rfl⟩,trivial⟩,⟨q4,c4⟩,trivial⟩
  have h3:R3:=by
   refine az (fun e=>h2 e) (fun e=> ?_)
   have q3:K4=K3:=by rw[hK4,w0 e];rfl
   have q4:E3=E4:=by rw[hE4,w0 e];exact (List.append_nil _).symm
   refine ⟨?_,h1⟩
   exact ⟨⟨⟨rfl,rfl⟩,trivial⟩,⟨⟨rfl,rfl⟩,⟨rfl,rfl⟩,trivial⟩,⟨rfl,hO⟩,⟨⟨rfl,rfl,rfl,q3,rfl⟩,trivial⟩,⟨q4,c4⟩,trivial⟩
  have ln:∀x:AV,ab [x]=1:=fun _=>rfl
  have fl:∀x:AV,(flat [x]).length=x.cells.length:=fun x=>by simp[flat]
  have ql:∀ {B:List AV} {k:Nat} {e:AV},B.length=k*7→eL e→(B++flat [e]).length=(k+ab [e])*7:=fun {B} {k} {e} h r=>by
   rw[List.length_append,h,fl,r.l,ln,Nat.add_mul]
  have qt:=iE (aM .typ) 5 o.ty
  have qa:=iE (aM .alg) 5 o.alg
  have qn:=iE (aM .len) 2 o.len
  have qm:=iE (aM .mask) 2 o.mask
  have qs:=iE (aM .sta) 5 o.st
  have z0:E2=E1++flat [cI (aM .typ) 5 o.ty]++flat (aK o .alg)++flat (aK o .len)++flat [cI (aM .mask) 2 o.mask]++flat [cI (aM .sta) 5 o.st]:=hE2
  have fn:flat ([]:List AV)=[]:=rfl
  refine ⟨⟨⟨⟨rfl,rfl⟩,trivial⟩,⟨⟨rfl,rfl⟩,⟨rfl,rfl⟩,trivial⟩,⟨rfl,hO⟩,⟨⟨rfl,rfl,rfl,k0,rfl⟩,trivial⟩,⟨hE0.symm,c0⟩,trivial⟩,aH (eX qt rfl (by omega)) (aH (eM l1) (az (fun e=> ?_) (fun e=> ?_)))⟩
  ·refine aH (eX qa rfl (by simp only[ln];omega)) (aH (eM (ql l1 qt)) (az (fun e2=> ?_) (fun e2=> ?_)))
   ·rw[a1 e,b1 e2] at z0
    have z1:K2=K1+ab [cI (aM .typ) 5 o.ty]+ab [cI (aM .alg) 5 o.alg]+ab [cI (aM .len) 2 o.len]+ab [cI (aM .mask) 2 o.mask]+ab [cI (aM .sta) 5 o.st]:=by
     rw[hK2,a1 e,b1 e2];rfl
    exact aH (eX qn rfl (by simp only[ln];omega)) (aH (eM (ql (ql l1 qt) qa)) (aH (eX qm rfl (by simp only[ln];omega)) (aH (eM (ql (ql (ql l1 qt) qa) qn)) (aH (eX qs rfl (by simp only[ln];omega)) (aH (eM (ql (ql (ql (ql l1 qt) qa) qn) qm)) (⟨sZ,⟨⟨⟨rfl,hT⟩,⟨rfl,rfl⟩,trivial⟩,⟨⟨rfl,rfl⟩,⟨rfl,rfl⟩,trivial⟩,⟨rfl,hO⟩,⟨⟨rfl,rfl,rfl,z1,rfl⟩,trivial⟩,⟨z0.symm,c2⟩,trivial⟩,h3⟩))))))
   ·rw[a1 e,b0 e2,fn] at z0
    simp only[List.append_nil] at z0
    have z1:K2=K1+ab [cI (aM .typ) 5 o.ty]+ab [cI (aM .alg) 5 o.alg]+ab [cI (aM .mask) 2 o.mask]+ab [cI (aM .sta) 5 o.st]:=by
     rw[hK2,a1 e,b0 e2];rfl
    exact aH (eX qm rfl (by simp only[ln];omega)) (aH (eM (ql (ql l1 qt) qa)) (aH (eX qs rfl (by simp only[ln];omega)) (aH (eM (ql (ql (ql l1 qt) qa) qm)) (⟨sZ,⟨⟨⟨rfl,hT⟩,⟨rfl,rfl⟩,trivial⟩,⟨⟨rfl,rfl⟩,⟨rfl,rfl⟩,trivial⟩,⟨rfl,hO⟩,⟨⟨rfl,rfl,rfl,z1,rfl⟩,trivial⟩,⟨z0.symm,c2⟩,trivial⟩,h3⟩))))
  ·refine az (fun e2=> ?_) (fun e2=> ?_)
   ·rw[a0 e,b1 e2,fn] at z0
    simp only[List.append_nil] at z0
    have z1:K2=K1+ab [cI (aM .typ) 5 o.ty]+ab [cI (aM .len) 2 o.len]+ab [cI (aM .mask) 2 o.mask]+ab [cI (aM .sta) 5 o.st]:=by
     rw[hK2,a0 e,b1 e2];rfl
    exact aH (eX qn rfl (by simp only[ln];omega)) (aH (eM (ql l1 qt)) (aH (eX qm rfl (by simp only[ln];omega)) (aH (eM (ql (ql l1 qt) qn)) (aH (eX qs rfl (by simp only[ln];omega)) (aH (eM (ql (ql (ql l1 qt) qn) qm)) (⟨sZ,⟨⟨⟨rfl,hT⟩,⟨rfl,rfl⟩,trivial⟩,⟨⟨rfl,rfl⟩,⟨rfl,rfl⟩,trivial⟩,⟨rfl,hO⟩,⟨⟨rfl,rfl,rfl,z1,rfl⟩,trivial⟩,⟨z0.symm,c2⟩,trivial⟩,h3⟩))))))
   ·rw[a0 e,b0 e2,fn] at z0
    simp only[List.append_nil] at z0
    have z1:K2=K1+ab [cI (aM .typ) 5 o.ty]+ab [cI (aM .mask) 2 o.mask]+ab [cI (aM .sta) 5 o.st]:=by
     rw[hK2,a0 e,b0 e2];rfl
    exact aH (eX qm rfl (by simp only[ln];omega)) (aH (eM (ql l1 qt)) (aH (eX qs rfl (by simp only[ln];omega)) (aH (eM (ql (ql l1 qt) qm)) (⟨sZ,⟨⟨⟨rfl,hT⟩,⟨rfl,rfl⟩,trivial⟩,⟨⟨rfl,rfl⟩,⟨rfl,rfl⟩,trivial⟩,⟨rfl,hO⟩,⟨⟨rfl,rfl,rfl,z1,rfl⟩,trivial⟩,⟨z0.symm,c2⟩,trivial⟩,h3⟩))))
noncomputable section
def eN (s:List UInt8) (i:Int) (Ls:List AV):View:=⟨[(1,.str s),(5,.nilsl),(6,.fsl false Ls),(7,I i)],[],[],0,31⟩
def eg (s:List UInt8) (i:Int) (k:Nat) (Ls es:List AV):View:=⟨[(1,.str s),(6,.fsl false Ls),(7,I i)],[(5,.rsl true 0 0 k 7)],[(0,.cells es,.whole)],1,31⟩
@[simp] abbrev kM (Ls:List AV):=(AV.fsl false Ls=AV.fsl false Ls∧ac (AV.fsl false Ls)=true)
abbrev g6 (D K:List AV) (a q t y:Int) (n:List UInt8):=[AV.str n,I a,I t,I y,I q,AV.fsl false D,AV.fsl false K]
@[simp] abbrev kN (s:List UInt8):=(AV.str s=AV.str s∧ac (AV.str s)=true)
@[simp] abbrev tq:=(AV.nilsl=AV.nilsl∧true=true)
theorem JD (s n:List UInt8) (a t y q:Int) (D K Ls:List AV) (i j:Int) (N:Prop) (Q:AExit→St→Prop):aw Tryz.prog opts0 40 (aq [(6,2,.res (.fptr (.str n::I a::ay t y q D K) 0)),(6,6,.res (.bool false))] [] aA [] []) (ah Tryz.prog 17 5) (eN s i Ls).st (bf 0 [] (eN s j Ls) N [] (eN s i Ls) Q)=
  (ak (ar i (Int.ofNat (ab Ls))) (ax Tryz.prog 43 (AV.fsl false Ls) (I i)=some (AV.fptr (g6 D K a q t y n) 0)∧aG Tryz.prog BinOp.eql 9 (Operand.tmp 20) (Operand.tmp 21) (AV.str n) (AV.str s)=some (AV.bool false)∧(((kN s)∧tq∧(kM Ls)∧(I (af IntKind.i64 (i+1))=I j∧ac (I j)=true)∧True)∧True∧True)∧N) ((((kN s)∧tq∧(kM Ls)∧(I i=I i∧ac (I i)=true)∧True)∧True∧True)∧Q (AExit.exit 0) (eN s i Ls).st)):=by kernel_rfl
abbrev JE (D K:List AV) (a q t y:Int) (n:List UInt8):=(aq [(6,2,.res (AV.fptr (AV.str n::I a::ay t y q D K) 0)),(6,6,.res (AV.bool true)),(7,3,.res (AV.fptr (AV.str n::I a::ay t y q D K) 0))] [] aA [] [])
theorem VC (s n:List UInt8) (a t y q:Int) (D K Ls es:List AV) (i j:Int) (k:Nat) (N:Prop) (Q:AExit→St→Prop):aw Tryz.prog opts0 40 (JE D K a q t y n) (ah Tryz.prog 17 5) (eN s i Ls).st (bf 0 [(0,17)] (eg s j k Ls es) N [] (eN s i Ls) Q)=
  (ak (ar i (Int.ofNat (ab Ls))) (ax Tryz.prog 43 (AV.fsl false Ls) (I i)=some (AV.fptr (g6 D K a q t y n) 0)∧aG Tryz.prog BinOp.eql 9 (Operand.tmp 20) (Operand.tmp 21) (AV.str n) (AV.str s)=some (AV.bool true)∧ax Tryz.prog 43 (AV.fsl false Ls) (I i)=some (AV.fptr (g6 D K a q t y n) 0)∧(((kN s)∧(kM Ls)∧(I (af IntKind.i64 (i+1))=I j∧ac (I j)=true)∧True)∧((true=true∧some 17=some 17∧0=0∧k=ab [AV.agg (g6 D K a q t y n)]∧7=7)∧True)∧(flat [AV.agg (g6 D K a q t y n)]=es∧ad es=true)∧True)∧N) ((((kN s)∧tq∧(kM Ls)∧(I i=I i∧ac (I i)=true)∧True)∧True∧True)∧Q (AExit.exit 0) (eN s i Ls).st)):=by kernel_rfl
@[simp] abbrev JF (Ls es:List AV) (Q:AExit→St→Prop) (i:Int) (k:Nat) (s:List UInt8):=((((kN s)∧(kM Ls)∧(I i=I i∧ac (I i)=true)∧True)∧((true=true∧some 0=some 0∧0=0∧k=k∧7=7)∧True)∧(es=es∧ad es=true)∧True)∧Q (AExit.exit 0) (eg s i k Ls es).st)
theorem JG (s n:List UInt8) (a t y q:Int) (D K Ls es:List AV) (i j:Int) (k:Nat) (N:Prop) (Q:AExit→St→Prop):aw Tryz.prog opts0 40 (aq [(6,2,.res (.fptr (.str n::I a::ay t y q D K) 0)),(6,6,.res (.bool false))] [] aA [] []) (ah Tryz.prog 17 5) (eg s i k Ls es).st (bf 0 [(0,0)] (eg s j k Ls es) N [(0,0)] (eg s i k Ls es) Q)=
  (ak (ar i (Int.ofNat (ab Ls))) (ax Tryz.prog 43 (AV.fsl false Ls) (I i)=some (AV.fptr (g6 D K a q t y n) 0)∧aG Tryz.prog BinOp.eql 9 (Operand.tmp 20) (Operand.tmp 21) (AV.str n) (AV.str s)=some (AV.bool false)∧(((kN s)∧(kM Ls)∧(I (af IntKind.i64 (i+1))=I j∧ac (I j)=true)∧True)∧((true=true∧some 0=some 0∧0=0∧k=k∧7=7)∧True)∧(es=es∧ad es=true)∧True)∧N) (JF Ls es Q i k s)):=by kernel_rfl
theorem VD (s n:List UInt8) (a t y q:Int) (D K Ls es es':List AV) (i j:Int) (k k':Nat) (N:Prop) (Q:AExit→St→Prop):aw Tryz.prog opts0 40 (JE D K a q t y n) (ah Tryz.prog 17 5) (eg s i k Ls es).st (bf 0 [(0,18)] (eg s j k' Ls es') N [(0,0)] (eg s i k Ls es) Q)=
  (ak (ar i (Int.ofNat (ab Ls))) (ax Tryz.prog 43 (AV.fsl false Ls) (I i)=some (AV.fptr (g6 D K a q t y n) 0)∧aG Tryz.prog BinOp.eql 9 (Operand.tmp 20) (Operand.tmp 21) (AV.str n) (AV.str s)=some (AV.bool true)∧ax Tryz.prog 43 (AV.fsl false Ls) (I i)=some (AV.fptr (g6 D K a q t y n) 0)∧aC (bo 7 [AV.agg (g6 D K a q t y n)]&&(((k+ab [AV.agg (g6 D K a q t y n)])*96).ble 140737488355328&&(aS (flat [AV.agg (g6 D K a q t y n)])&&true))) (aC ((ab es).beq (k*7)) ((((kN s)∧(kM Ls)∧(I (af IntKind.i64 (i+1))=I j∧ac (I j)=true)∧True)∧((true=true∧some 18=some 18∧0=0∧k'=k+ab [AV.agg (g6 D K a q t y n)]∧7=7)∧True)∧(es++flat [AV.agg (g6 D K a q t y n)]=es'∧ad es'=true)∧True)∧N))) (JF Ls es Q i k s)):=by kernel_rfl
def JH (s:List UInt8) (n:Int) (Ls:List AV):bg:=fun st Q=>bR 0 [] (eN s 0 Ls) st∧Q (.exit 0) (eN s n Ls).st
def JI (s:List UInt8) (n:Int) (k:Nat) (Ls es:List AV):bg:=fun st Q=>bR 0 [] (eN s 0 Ls) st∧Q (.exit 0) (eg s n k Ls es).st
theorem VE (s:List UInt8) (n:Int) (Ls:List AV) (o:Ob) (M N L C:AV) (Q:AV→ae→Prop):aL Tryz.prog opts0 40 (aq [] [(5,JH s n Ls)] (cz [(45,.fsl false Ls)]) [] []) 17 [.agg (aa o M N L C),.str s] [] 0 (fun v H _=>Q v H)=
  (SC 45 [AV.agg (aa o M N L C)] (AV.fsl false Ls)∧(((kN s)∧tq∧(kM Ls)∧(I 0=I 0∧true=true)∧True)∧True∧True)∧Q AV.nilsl []):=by kernel_rfl
theorem VF (s:List UInt8) (n:Int) (k:Nat) (Ls es:List AV) (o:Ob) (M N L C:AV) (Q:AV→ae→Prop):aL Tryz.prog opts0 40 (aq [] [(5,JI s n k Ls es)] (cz [(45,.fsl false Ls)]) [] []) 17 [.agg (aa o M N L C),.str s] [] 0 (fun v H _=>Q v H)=
  (SC 45 [AV.agg (aa o M N L C)] (AV.fsl false Ls)∧(((kN s)∧tq∧(kM Ls)∧(I 0=I 0∧true=true)∧True)∧True∧True)∧Q (AV.rsl true 0 0 k 7) [(0,some (Blk.cells es))]):=by kernel_rfl
end
end Go.Proofs.YtjhggnebkfpgcaaGreatDoor
namespace Go.Proofs.YtjhggnebkfpgcaaGreatDoor
set_option maxRecDepth 20000
open Go Go.RowKit
open Go.Proofs.Abs
theorem VG (a b:Tmp) (x y:List UInt8):aG Tryz.prog .eql 9 (.tmp a) (.tmp b) (.str x) (.str y)=some (.bool (aB x y)):=by kernel_rfl
theorem JJ {f:Bool} {l:List At} {i:Nat} {s:List UInt8} {k t y n:Int} {d:List UInt8} {ks:List It} (hx:l[i]? =some ⟨s,k,.mk t y n d ks⟩):ax Tryz.prog 43 (.fsl f (l.map ag)) (.int .i64 (.ofNat i))=some (.fptr (.str s::I k::ay t y n (ap d) (an ks)) 0):=
 fY (v:=ag ⟨s,k,.mk t y n d ks⟩) (e:=39) (sz:=7) (by kernel_rfl) (by kernel_rfl) (by rw[List.getElem?_map,hx];rfl) rfl
noncomputable def JK (s:List UInt8) (i:Int) (Ls:List AV):List At→View
 |[]=>eN s i Ls
 |a::r=>eg s i (r.length+1) Ls (flat ((a::r).map ag))
theorem VH (s:List UInt8) (l:List At) (a:At):dP s (l++[a])=dP s l++(match aB a.name s with|true=>[a]|false=>[]):=by
 unfold dP
 rw[List.filter_append,List.filter_cons]
 cases aB a.name s<;>rfl
theorem VI {s:List UInt8} {L:List At} {Q:AExit→St→Prop} (hb:L.length≤90000) (hq:Q (.exit 0) (JK s (.ofNat L.length) (L.map ag) (dP s L)).st):
  ∀m i:Nat,i+m=L.length→ALp Tryz.prog opts0.glob 0 (ah Tryz.prog 17 5) (JK s (.ofNat i) (L.map ag) (dP s (L.take i))).st Q:=by
 have hL:=bP L
 have hlen:ab (L.map ag)=L.length:=by rw[aI,List.length_map]
 intro m
 induction m with
 | zero=>
  intro i hi
  rw[Nat.add_zero] at hi
  subst hi
  rw[List.take_of_length_le (Nat.le_refl _)]
  revert hq
  generalize dP s L=out
  intro hq
  have hno:ar (Int.ofNat L.length) (Int.ofNat (ab (L.map ag)))=true→False:=fun e=>qA (hlen▸e)
  match out,hq with
  |[],hq=>
   refine ALp.round (A:=aq [(6,2,.res (.fptr (.str []::I 0::ay 0 0 0 [] []) 0)),(6,6,.res (.bool false))] [] aA [] []) (V2:=eN s 0 (L.map ag)) (F:=eN s (.ofNat L.length) (L.map ag)) (lk:=[]) (lk':=[]) base0 am (LsOk.no rfl) .refl ?_
   show aw Tryz.prog opts0 40 _ _ (eN s (.ofNat L.length) (L.map ag)).st _
   rw[JD]
   exact az (fun e=>(hno e).elim) fun _=>⟨⟨⟨⟨rfl,rfl⟩,⟨rfl,rfl⟩,⟨rfl,hL⟩,⟨rfl,rfl⟩,trivial⟩,trivial,trivial⟩,hq⟩
  |a::r,hq=>
   have hc:=lF (a::r)
   refine ALp.round (A:=aq [(6,2,.res (.fptr (.str []::I 0::ay 0 0 0 [] []) 0)),(6,6,.res (.bool false))] [] aA [] []) (V2:=eg s 0 (r.length+1) (L.map ag) (flat ((a::r).map ag))) (F:=eg s (.ofNat L.length) (r.length+1) (L.map ag) (flat ((a::r).map ag))) (lk:=[(0,0)]) (lk':=[(0,0)]) base0 am (LsOk.no rfl) .refl ?_
   show aw Tryz.prog opts0 40 _ _ (eg s (.ofNat L.length) (r.length+1) (L.map ag) (flat ((a::r).map ag))).st _
   rw[JG]
   exact az (fun e=>(hno e).elim) fun _=>⟨⟨⟨⟨rfl,rfl⟩,⟨rfl,hL⟩,⟨rfl,rfl⟩,trivial⟩,⟨⟨rfl,rfl,rfl,rfl,rfl⟩,trivial⟩,⟨rfl,hc⟩,trivial⟩,hq⟩
 | succ m ih=>
  intro i hi
  have hlt:i<L.length:=by omega
  have g:=List.getElem?_eq_getElem hlt
  have ih:=ih (i+1) (by omega)
  rw[fg g,VH] at ih
  have htl:(dP s (L.take i)).length≤90000:=by
   have h1:=List.length_filter_le (fun a:At=>aB a.name s) (L.take i)
   have h2:(L.take i).length≤L.length:=List.length_take_le' i L
   exact Nat.le_trans h1 (Nat.le_trans h2 hb)
  revert g ih htl
  generalize L[i]=a
  generalize dP s (L.take i)=out
  obtain ⟨n,idx,⟨t,y,q,d,ks⟩⟩:=a
  intro g ih htl
  have gx:=JJ (f:=false) g
  have hw:=j2 (p:=i) (by omega)
  have hyes:∀e:ar (Int.ofNat i) (Int.ofNat (ab (L.map ag)))=false,False:=fun e=>iY hlt (hlen▸e)
  have he:=VG 20 21 n s
  simp only at ih
  cases hx:aB n s with
  | false=>
   rw[hx] at ih he
   rw[List.append_nil] at ih
   match out,ih with
   |[],ih=>
    refine ALp.round (A:=aq [(6,2,.res (.fptr (.str n::I idx::ay t y q (ap d) (an ks)) 0)),(6,6,.res (.bool false))] [] aA [] []) (V2:=eN s (.ofNat (i+1)) (L.map ag)) (F:=eN s (.ofNat i) (L.map ag)) (lk:=[]) (lk':=[]) base0 am (LsOk.no rfl) .refl ?_
    show aw Tryz.prog opts0 40 _ _ (eN s (.ofNat i) (L.map ag)).st _
    rw[JD,hw]
    exact az (fun _=>⟨gx,he,⟨⟨⟨rfl,rfl⟩,⟨rfl,rfl⟩,⟨rfl,hL⟩,⟨rfl,rfl⟩,trivial⟩,trivial,trivial⟩,ih⟩) fun e=>(hyes e).elim
   |b::r,ih=>
    have hc:=lF (b::r)
    refine ALp.round (A:=aq [(6,2,.res (.fptr (.str n::I idx::ay t y q (ap d) (an ks)) 0)),(6,6,.res (.bool false))] [] aA [] []) (V2:=eg s (.ofNat (i+1)) (r.length+1) (L.map ag) (flat ((b::r).map ag))) (F:=eg s (.ofNat i) (r.length+1) (L.map ag) (flat ((b::r).map ag))) (lk:=[(0,0)]) (lk':=[(0,0)]) base0 am (LsOk.no rfl) .refl ?_
    show aw Tryz.prog opts0 40 _ _ (eg s (.ofNat i) (r.length+1) (L.map ag) (flat ((b::r).map ag))).st _
    rw[JG,hw]
    exact az (fun _=>⟨gx,he,⟨⟨⟨rfl,rfl⟩,⟨rfl,hL⟩,⟨rfl,rfl⟩,trivial⟩,⟨⟨rfl,rfl,rfl,rfl,rfl⟩,trivial⟩,⟨rfl,hc⟩,trivial⟩,ih⟩) fun e=>(hyes e).elim
  | true=>
   rw[hx] at ih he
   match out,ih,htl with
   |[],ih,_=>
    have hc:=lF [⟨n,idx,.mk t y q d ks⟩]
    refine ALp.round (A:=aq [(6,2,.res (.fptr (.str n::I idx::ay t y q (ap d) (an ks)) 0)),(6,6,.res (.bool true)),(7,3,.res (.fptr (.str n::I idx::ay t y q (ap d) (an ks)) 0))] [] aA [] []) (V2:=eg s (.ofNat (i+1)) 1 (L.map ag) (flat ([(⟨n,idx,.mk t y q d ks⟩:At)].map ag))) (F:=eN s (.ofNat i) (L.map ag)) (lk:=[(0,17)]) (lk':=[]) base0 am (LsOk.no rfl) .refl ?_
    show aw Tryz.prog opts0 40 _ _ (eN s (.ofNat i) (L.map ag)).st _
    rw[VC,hw]
    exact az (fun _=>⟨gx,he,gx,⟨⟨⟨rfl,rfl⟩,⟨rfl,hL⟩,⟨rfl,rfl⟩,trivial⟩,⟨⟨rfl,rfl,rfl,rfl,rfl⟩,trivial⟩,⟨rfl,hc⟩,trivial⟩,ih⟩) fun e=>(hyes e).elim
   |b::r,ih,htl=>
    have e1:flat ((b::r++[(⟨n,idx,.mk t y q d ks⟩:At)]).map ag)=flat ((b::r).map ag)++flat [.agg [.str n,I idx,I t,I y,I q,.fsl false (ap d),.fsl false (an ks)]]:=by rw[List.map_append,gv];rfl
    have e2:(r++[(⟨n,idx,.mk t y q d ks⟩:At)]).length+1=r.length+1+1:=by rw[List.length_append];rfl
    have hc:=lF (b::r++[(⟨n,idx,.mk t y q d ks⟩:At)])
    have hfl:=mJ (b::r)
    have ih:ALp Tryz.prog opts0.glob 0 (ah Tryz.prog 17 5) (eg s (.ofNat (i+1)) ((r++[(⟨n,idx,.mk t y q d ks⟩:At)]).length+1) (L.map ag) (flat ((b::r++[(⟨n,idx,.mk t y q d ks⟩:At)]).map ag))).st Q:=ih
    rw[e1] at ih hc
    rw[e2] at ih
    rw[List.length_cons] at htl hfl
    refine ALp.round (A:=aq [(6,2,.res (.fptr (.str n::I idx::ay t y q (ap d) (an ks)) 0)),(6,6,.res (.bool true)),(7,3,.res (.fptr (.str n::I idx::ay t y q (ap d) (an ks)) 0))] [] aA [] []) (V2:=eg s (.ofNat (i+1)) (r.length+1+1) (L.map ag) (flat ((b::r).map ag)++flat [.agg [.str n,I idx,I t,I y,I q,.fsl false (ap d),.fsl false (an ks)]])) (F:=eg s (.ofNat i) (r.length+1) (L.map ag) (flat ((b::r).map ag))) (lk:=[(0,18)]) (lk':=[(0,0)]) base0 am (LsOk.no rfl) .refl ?_
    show aw Tryz.prog opts0 40 _ _ (eg s (.ofNat i) (r.length+1) (L.map ag) (flat ((b::r).map ag))).st _
    rw[VD,hw]
    refine az (fun _=>⟨gx,he,gx,aH ?_ (aH (eM hfl) ⟨⟨⟨⟨rfl,rfl⟩,⟨rfl,hL⟩,⟨rfl,rfl⟩,trivial⟩,⟨⟨rfl,rfl,rfl,rfl,rfl⟩,trivial⟩,⟨rfl,hc⟩,trivial⟩,ih⟩)⟩) fun e=>(hyes e).elim
    simp[bo,aS,flat,AV.cells,ab]
    omega
theorem JL:br (cy Tryz.prog 17) 5=[ah Tryz.prog 17 5]:=by kernel_rfl
theorem VJ {o:Ob} (ho:lD o) (hb:(gC o).length≤90000) (s:List UInt8):SC 17 [aj o,.str s] (.fsl false ((dP s (gC o)).map ag)):=by
 have hall:=VB ho
 have hcl:=ec o (c:=[.str s]) rfl
 have hL:=bP (gC o)
 have hrun:=fun Q hq=>VI (s:=s) (Q:=Q) hb hq (gC o).length 0 (Nat.zero_add _)
 rw[List.take_zero] at hrun
 revert hrun hall hL
 generalize gC o=L
 intro hall hL hrun
 cases hout:dP s L with
 | nil=>
  rw[hout] at hrun
  refine dH (A:=aq [] [(5,JH s (.ofNat L.length) (L.map ag))] (cz [(45,.fsl false (L.map ag))]) [] []) base0 am
   (aN (LsOk.at1 rfl JL fun st Q hs=> .seen base0.glob hs.1 (hrun Q hs.2))) hcl ?_
  unfold aj ao at*
  rw[VE]
  exact ⟨hall,⟨⟨⟨rfl,rfl⟩,⟨rfl,rfl⟩,⟨rfl,hL⟩,⟨rfl,rfl⟩,trivial⟩,trivial,trivial⟩,.nilsl,(Frz.closed _ rfl).out,rfl,.nil⟩
 | cons a r=>
  rw[hout] at hrun
  refine dH (A:=aq [] [(5,JI s (.ofNat L.length) (r.length+1) (L.map ag) (flat ((a::r).map ag)))] (cz [(45,.fsl false (L.map ag))]) [] []) base0 am
   (aN (LsOk.at1 rfl JL fun st Q hs=> .seen base0.glob hs.1 (hrun Q hs.2))) hcl ?_
  unfold aj ao at*
  rw[VF]
  exact ⟨hall,⟨⟨⟨rfl,rfl⟩,⟨rfl,rfl⟩,⟨rfl,hL⟩,⟨rfl,rfl⟩,trivial⟩,trivial,trivial⟩,.fsl false ((a::r).map ag),(Frz.row rfl rfl rfl (by rw[List.length_map];rfl) (fun e he=>by obtain ⟨a,_,rfl⟩:=List.mem_map.1 he;exact z6 a) (bP _)).out,iV (bP _),.refl _⟩
end Go.Proofs.YtjhggnebkfpgcaaGreatDoor
namespace Go.Proofs.YtjhggnebkfpgcaaGreatDoor
open Go Go.RowKit
open Go.Proofs.Abs
noncomputable def wR (c:List AV) (b:Bool):be:=aq [(5,6,.res (.fptr c 0))] [] (cz [(35,.bool b)]) [] []
theorem mT {c:Bool} {T F:Prop} (h:c=true) (t:T):ak c T F:=az (fun _=>t) fun e=>by rw[h] at e;cases e
def z5:List AV:=ay 0 0 0 [] []
section
variable {t y n:Int} {d:List UInt8} {ks:List It}
end
end Go.Proofs.YtjhggnebkfpgcaaGreatDoor
