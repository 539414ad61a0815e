/- RAllP, RAllQ, RAllF, ROfW, ROfP, RPlainW, RPlainP, RTwin, RWithW, RWithC, RWithP, Back, RWithQ. -/
import Derived.Test.YtjhggnebkfpgcaaGreatDoorQ7
import Derived.KernelRfl
import Derived.Test.YtjhggnebkfpgcaaGreatDoorQ4
import Derived.Test.YtjhggnebkfpgcaaGreatDoorQ5
namespace Go.Proofs.YtjhggnebkfpgcaaGreatDoor
set_option maxRecDepth 20000
open Go Go.RowKit
open Go.Proofs.Abs
theorem wrN {p:Nat} (h:p≤1000000):wrapA .i64 (Int.ofNat p+1)=Int.ofNat (p+1):=wrapA_i64 (by simp;omega) (by simp;omega)
theorem ltE {i:Nat}:ltInt (Int.ofNat i) (Int.ofNat i)=true→False:=fun e=>by
 have e:=ltInt_iff.1 e
 omega
theorem ask1 {e:AV} {k:Nat} (h:RawOk e) (h1:allOne e.cells=true) (hk:k≤100000):(allSize 7 [e]&&(Nat.ble ((k+lenN [e])*96) 140737488355328&&(allOne (flat [e])&&true)))=true:=by
 have h2:lenN [e]=1:=rfl
 have h3:allSize 7 [e]=true:=by
  have h4:lenN e.cells=7:=by rw[lenN_eq,h.l]
  simp[allSize,h4]
 have h5:flat [e]=e.cells:=by simp[flat]
 rw[h2,h3,h5,h1]
 simp
 omega
theorem ask2 {B:List AV} {k:Nat} (h:B.length=k*7):Nat.beq (lenN B) (k*7)=true:=by rw[beq_iff,lenN_eq,h]
theorem idNm {l:List (List UInt8)} {i:Nat} {s:List UInt8} (h:l[i]? =some s):indexAddrA Tryz.prog 27 (.fsl false (l.map .str)) (.int .i64 (.ofNat i))=some (.fptr [.str s] 0):=
 fsl_index (v:= .str s) (e:=9) (sz:=1) (by kernel_rfl) (by kernel_rfl) (by rw[List.getElem?_map,h];rfl) rfl
theorem idLk {l:List Lk} {i:Nat} {s:Lk} (h:l[i]? =some s):indexAddrA Tryz.prog 28 (.fsl false (l.map lkA)) (.int .i64 (.ofNat i))=some (.fptr [I s.ty,.str s.id] 0):=
 fsl_index (v:=lkA s) (e:=99) (sz:=2) (by kernel_rfl) (by kernel_rfl) (by rw[List.getElem?_map,h];rfl) rfl
theorem idRr {i:Nat} {k:Kd} (h:kinds[i]? =some k):indexAddrA Tryz.prog 140 (.fsl true (kinds.map rrA)) (.int .i64 (.ofNat i))=some (.fptr (rrC k) 0):=
 fsl_index (v:=rrA k) (e:=93) (sz:=7) (by kernel_rfl) (by kernel_rfl) (by rw[List.getElem?_map,h];rfl) rfl
theorem closed_rr:closedAll (kinds.map rrA)=true:=by kernel_rfl
section
variable {o:Ob} {Q:AExit→St→Prop}
theorem rn_run {B:List AV} {k0:Nat} (hB:B.length=k0*7) (hBc:closedAll B=true) (hk:k0≤1000) (hn:o.names.length≤1000)
  (hq:Q (.exit 0) (raV [(4,I (.ofNat o.names.length))] (k0+o.names.length) (obC o) (B++flat (rTxs (nameK .nam) o.names 0))).st):
  ∀m i:Nat,i+m=o.names.length→ALp Tryz.prog opts0.glob 0 (lpCode Tryz.prog 45 5) (raV [(4,I (.ofNat i))] (k0+i) (obC o) (B++flat (rTxs (nameK .nam) (o.names.take i) 0))).st Q:=by
 have hO:=closed_obC o
 have hlen:lenN (o.names.map AV.str)=o.names.length:=by rw[lenN_eq,List.length_map]
 intro m
 induction m with
 |zero=>
  intro i hi
  rw[Nat.add_zero] at hi
  subst hi
  rw[List.take_of_length_le (Nat.le_refl _)]
  have hc:closedAll (B++flat (rTxs (nameK .nam) o.names 0))=true:=by rw[closedAll_append,hBc,raws_flat (raw_txs _ _ _)];rfl
  refine ALp.round (A:=raAn []) (V1:=raV [(4,I 0)] 0 (obC o) []) (V2:=raV [(4,I 0)] 0 (obC o) []) (F:=raV [(4,I (.ofNat o.names.length))] (k0+o.names.length) (obC o) (B++flat (rTxs (nameK .nam) o.names 0))) (lk:=[(0,0),(1,1),(2,34)]) (lk':=[(0,0),(1,1),(2,2)]) base0 aidJ_ok (LsOk.no rfl) .refl ?_
  unfold obC namA at hO hq⊢
  rw[ra_n,hlen]
  exact mtB_of (fun e=>(ltE e).elim) fun _=>⟨⟨⟨⟨rfl,rfl⟩,trivial⟩,⟨⟨rfl,rfl⟩,⟨rfl,rfl⟩,trivial⟩,⟨rfl,hO⟩,⟨⟨rfl,rfl,rfl,rfl,rfl⟩,trivial⟩,⟨rfl,hc⟩,trivial⟩,hq⟩
 |succ m ih=>
  intro i hi
  have hlt:i<o.names.length:=by omega
  have g:=List.getElem?_eq_getElem hlt
  have ih:=ih (i+1) (by omega)
  have hti:(o.names.take i).length=i:=by rw[List.length_take];omega
  rw[take_snoc g,rTxs_snoc,flat_append,←List.append_assoc,hti,Nat.zero_add,←Nat.add_assoc] at ih
  have hpc:=raws_flat (raw_txs (nameK .nam) (o.names.take i) 0)
  have hpl:=raws_len (raw_txs (nameK .nam) (o.names.take i) 0)
  rw[rTxs_len,hti] at hpl
  revert g ih hpc hpl
  generalize o.names[i]=x
  generalize flat (rTxs (nameK .nam) (o.names.take i) 0)=P
  intro g ih hpc hpl
  have hr:=raw_tx (nameK .nam) (.ofNat i) x
  have hc:closedAll (B++P)=true:=by rw[closedAll_append,hBc,hpc];rfl
  have hc2:closedAll (B++P++flat [rTx (nameK .nam) (.ofNat i) x])=true:=by rw[closedAll_append,hc,raws_flat (l:=[rTx (nameK .nam) (.ofNat i) x]) (fun e he=>by rw[List.mem_singleton.1 he];exact hr)];rfl
  have hl:(B++P).length=(k0+i)*7:=by rw[List.length_append,hB,hpl];omega
  refine ALp.round (A:=raAn x) (V1:=raV [(4,I (.ofNat (i+1)))] (k0+i+1) (obC o) (B++P++flat [rTx (nameK .nam) (.ofNat i) x])) (V2:=raV [(4,I (.ofNat (i+1)))] (k0+i+1) (obC o) (B++P++flat [rTx (nameK .nam) (.ofNat i) x])) (F:=raV [(4,I (.ofNat i))] (k0+i) (obC o) (B++P)) (lk:=[(0,0),(1,1),(2,34)]) (lk':=[(0,0),(1,1),(2,2)]) base0 aidJ_ok (LsOk.no rfl) .refl ?_
  have g:=idNm g
  unfold obC namA at hO ih⊢
  rw[ra_n,wrN (by omega)]
  exact mtB_of (fun _=>⟨g,oblB_of (ask1 hr rfl (by omega)) (oblB_of (ask2 hl) ⟨⟨⟨⟨rfl,rfl⟩,trivial⟩,⟨⟨rfl,rfl⟩,⟨rfl,rfl⟩,trivial⟩,⟨rfl,hO⟩,⟨⟨rfl,rfl,rfl,rfl,rfl⟩,trivial⟩,⟨rfl,hc2⟩,trivial⟩,ih⟩)⟩) fun e=>absurd (hlen▸e) (lt_no hlt)
theorem rl_run {B:List AV} {k0:Nat} (hB:B.length=k0*7) (hBc:closedAll B=true) (hk:k0≤1000) (hn:o.links.length≤1000)
  (hq:Q (.exit 4) (raV [(8,I (.ofNat o.links.length))] (k0+o.links.length) (obC o) (B++flat (rLks o.links 0))).st):
  ∀m i:Nat,i+m=o.links.length→ALp Tryz.prog opts0.glob 0 (lpCode Tryz.prog 45 27) (raV [(8,I (.ofNat i))] (k0+i) (obC o) (B++flat (rLks (o.links.take i) 0))).st Q:=by
 have hO:=closed_obC o
 have hlen:lenN (o.links.map lkA)=o.links.length:=by rw[lenN_eq,List.length_map]
 intro m
 induction m with
 |zero=>
  intro i hi
  rw[Nat.add_zero] at hi
  subst hi
  rw[List.take_of_length_le (Nat.le_refl _)]
  have hc:closedAll (B++flat (rLks o.links 0))=true:=by rw[closedAll_append,hBc,raws_flat (raw_lks _ _)];rfl
  refine ALp.round (A:=raAl 0 []) (V1:=raV [(8,I 0)] 0 (obC o) []) (V2:=raV [(8,I 0)] 0 (obC o) []) (F:=raV [(8,I (.ofNat o.links.length))] (k0+o.links.length) (obC o) (B++flat (rLks o.links 0))) (lk:=[(0,0),(1,1),(2,50)]) (lk':=[(0,0),(1,1),(2,2)]) base0 aidJ_ok (LsOk.no rfl) .refl ?_
  unfold obC lnkA at hO hq⊢
  rw[ra_l,hlen]
  exact mtB_of (fun e=>(ltE e).elim) fun _=>⟨⟨⟨⟨rfl,rfl⟩,trivial⟩,⟨⟨rfl,rfl⟩,⟨rfl,rfl⟩,trivial⟩,⟨rfl,hO⟩,⟨⟨rfl,rfl,rfl,rfl,rfl⟩,trivial⟩,⟨rfl,hc⟩,trivial⟩,hq⟩
 |succ m ih=>
  intro i hi
  have hlt:i<o.links.length:=by omega
  have g:=List.getElem?_eq_getElem hlt
  have ih:=ih (i+1) (by omega)
  have hti:(o.links.take i).length=i:=by rw[List.length_take];omega
  rw[take_snoc g,rLks_snoc,flat_append,←List.append_assoc,hti,Nat.zero_add,←Nat.add_assoc] at ih
  have hpc:=raws_flat (raw_lks (o.links.take i) 0)
  have hpl:=raws_len (raw_lks (o.links.take i) 0)
  rw[rLks_len,hti] at hpl
  revert g ih hpc hpl
  generalize o.links[i]=x
  generalize flat (rLks (o.links.take i) 0)=P
  intro g ih hpc hpl
  have hr:=raw_lnk (.ofNat i) x
  have hc:closedAll (B++P)=true:=by rw[closedAll_append,hBc,hpc];rfl
  have hc2:closedAll (B++P++flat [rKd (nameK .lnk) (.ofNat i) (lkk x)])=true:=by rw[closedAll_append,hc,raws_flat (l:=[rKd (nameK .lnk) (.ofNat i) (lkk x)]) (fun e he=>by rw[List.mem_singleton.1 he];exact hr)];rfl
  have hl:(B++P).length=(k0+i)*7:=by rw[List.length_append,hB,hpl];omega
  refine ALp.round (A:=raAl x.ty x.id) (V1:=raV [(8,I (.ofNat (i+1)))] (k0+i+1) (obC o) (B++P++flat [rKd (nameK .lnk) (.ofNat i) (lkk x)])) (V2:=raV [(8,I (.ofNat (i+1)))] (k0+i+1) (obC o) (B++P++flat [rKd (nameK .lnk) (.ofNat i) (lkk x)])) (F:=raV [(8,I (.ofNat i))] (k0+i) (obC o) (B++P)) (lk:=[(0,0),(1,1),(2,50)]) (lk':=[(0,0),(1,1),(2,2)]) base0 aidJ_ok (LsOk.no rfl) .refl ?_
  have g:=idLk g
  unfold obC lnkA at hO ih⊢
  rw[ra_l,wrN (by omega)]
  exact mtB_of (fun _=>⟨g,g,oblB_of (ask1 hr rfl (by omega)) (oblB_of (ask2 hl) ⟨⟨⟨⟨rfl,rfl⟩,trivial⟩,⟨⟨rfl,rfl⟩,⟨rfl,rfl⟩,trivial⟩,⟨rfl,hO⟩,⟨⟨rfl,rfl,rfl,rfl,rfl⟩,trivial⟩,⟨rfl,hc2⟩,trivial⟩,ih⟩)⟩) fun e=>absurd (hlen▸e) (lt_no hlt)
theorem kinds_len:lenN (kinds.map rrA)=20:=rfl
theorem rd_no {i k:Nat} {kd:Kd} {es:List AV} (g:kinds[i]? =some kd) (hd:datK kd= -1) (hc:closedAll es=true)
  (hn:ALp Tryz.prog opts0.glob 0 (lpCode Tryz.prog 45 17) (raV [(5,.fsl true (kinds.map rrA)),(6,I (.ofNat (i+1)))] k (obC o) es).st Q):
  ALp Tryz.prog opts0.glob 0 (lpCode Tryz.prog 45 17) (raV [(5,.fsl true (kinds.map rrA)),(6,I (.ofNat i))] k (obC o) es).st Q:=by
 have hO:=closed_obC o
 have hT:=closed_rr
 have hlt:i<20:=(List.getElem?_eq_some_iff.1 g).1
 have g:=idRr g
 refine ALp.round (A:=raAd (rrC kd) false) (V1:=raV [(5,.fsl true (kinds.map rrA)),(6,I (.ofNat (i+1)))] k (obC o) es) (V2:=raV [(5,.fsl true (kinds.map rrA)),(6,I (.ofNat (i+1)))] k (obC o) es) (F:=raV [(5,.fsl true (kinds.map rrA)),(6,I (.ofNat i))] k (obC o) es) (lk:=[(0,0),(1,1),(2,2)]) (lk':=[(0,0),(1,1),(2,2)]) base0 aidJ_ok (LsOk.no rfl) .refl ?_
 unfold rrC at g⊢
 rw[hd] at g⊢
 unfold obC at hO hn⊢
 rw[ra_dn,wrN (by omega),kinds_len]
 exact mtB_of (fun _=>⟨g,⟨⟨⟨rfl,hT⟩,⟨rfl,rfl⟩,trivial⟩,⟨⟨rfl,rfl⟩,⟨rfl,rfl⟩,trivial⟩,⟨rfl,hO⟩,⟨⟨rfl,rfl,rfl,rfl,rfl⟩,trivial⟩,⟨rfl,hc⟩,trivial⟩,hn⟩) fun e=>absurd e (lt_no hlt)
theorem rd_0 {k:Nat} {es:List AV} (hc:closedAll es=true) (hl:es.length=k*7) (hk:k≤1000)
  (hn:ALp Tryz.prog opts0.glob 0 (lpCode Tryz.prog 45 17) (raV [(5,.fsl true (kinds.map rrA)),(6,I (.ofNat 8))] (k+(rawK o (.dat 0)).length) (obC o) (es++flat (rawK o (.dat 0)))).st Q):
  ALp Tryz.prog opts0.glob 0 (lpCode Tryz.prog 45 17) (raV [(5,.fsl true (kinds.map rrA)),(6,I (.ofNat 7))] k (obC o) es).st Q:=by
 have hO:=closed_obC o
 have hT:=closed_rr
 have g:=idRr (i:=7) (k:= .dat 0) rfl
 have hr:=raw_nu (nameK (.dat 0)) 9 o.d0.t
 have hp:partA Tryz.prog 4 (obF o (matA o) (namA o) (lnkA o) (cusA o)) 7=some (.bool o.d0.has):=by kernel_rfl
 cases hh:o.d0.has with
 | true=>
  have e:rawK o (.dat 0)=[rNu (nameK (.dat 0)) 9 o.d0.t]:=by
   show oneR o.d0.has _=_
   rw[hh];rfl
  rw[e] at hn
  rw[hh] at hp
  have hc2:closedAll (es++flat [rNu (nameK (.dat 0)) 9 o.d0.t])=true:=by rw[closedAll_append,hc];rfl
  refine ALp.round (A:=raAd (rrC (.dat 0)) true) (V1:=raV [(5,.fsl true (kinds.map rrA)),(6,I (.ofNat 8))] (k+1) (obC o) (es++flat [rNu (nameK (.dat 0)) 9 o.d0.t])) (V2:=raV [(5,.fsl true (kinds.map rrA)),(6,I (.ofNat 8))] (k+1) (obC o) (es++flat [rNu (nameK (.dat 0)) 9 o.d0.t])) (F:=raV [(5,.fsl true (kinds.map rrA)),(6,I (.ofNat 7))] k (obC o) es) (lk:=[(0,0),(1,1),(2,58)]) (lk':=[(0,0),(1,1),(2,2)]) base0 aidJ_ok (LsOk.no rfl) .refl ?_
  show wpK Tryz.prog opts0 40 (raAd (rrD (nameK (.dat 0)) (chgD 0) (staD 0) (setD 0) 0) true) _ _ _
  have g:indexAddrA Tryz.prog 140 (.fsl true (kinds.map rrA)) (I (.ofNat 7))=some (.fptr (rrD (nameK (.dat 0)) (chgD 0) (staD 0) (setD 0) 0) 0):=g
  unfold obC at hO hn⊢
  rw[ra_d0t,kinds_len]
  exact mtB_of (fun _=>⟨g,g,hp,g,g,oblB_of (ask1 hr rfl (by omega)) (oblB_of (ask2 hl) ⟨⟨⟨⟨rfl,hT⟩,⟨rfl,rfl⟩,trivial⟩,⟨⟨rfl,rfl⟩,⟨rfl,rfl⟩,trivial⟩,⟨rfl,hO⟩,⟨⟨rfl,rfl,rfl,rfl,rfl⟩,trivial⟩,⟨rfl,hc2⟩,trivial⟩,hn⟩)⟩) fun e=>by cases e
 | false=>
  have e:rawK o (.dat 0)=[]:=by
   show oneR o.d0.has _=_
   rw[hh];rfl
  rw[e,show flat ([]:List AV)=[] from rfl,List.append_nil,List.length_nil,Nat.add_zero] at hn
  rw[hh] at hp
  refine ALp.round (A:=raAd (rrC (.dat 0)) false) (V1:=raV [(5,.fsl true (kinds.map rrA)),(6,I (.ofNat 8))] k (obC o) es) (V2:=raV [(5,.fsl true (kinds.map rrA)),(6,I (.ofNat 8))] k (obC o) es) (F:=raV [(5,.fsl true (kinds.map rrA)),(6,I (.ofNat 7))] k (obC o) es) (lk:=[(0,0),(1,1),(2,2)]) (lk':=[(0,0),(1,1),(2,2)]) base0 aidJ_ok (LsOk.no rfl) .refl ?_
  show wpK Tryz.prog opts0 40 (raAd (rrD (nameK (.dat 0)) (chgD 0) (staD 0) (setD 0) 0) false) _ _ _
  have g:indexAddrA Tryz.prog 140 (.fsl true (kinds.map rrA)) (I (.ofNat 7))=some (.fptr (rrD (nameK (.dat 0)) (chgD 0) (staD 0) (setD 0) 0) 0):=g
  unfold obC at hO hn⊢
  rw[ra_d0f,kinds_len]
  exact mtB_of (fun _=>⟨g,g,hp,⟨⟨⟨rfl,hT⟩,⟨rfl,rfl⟩,trivial⟩,⟨⟨rfl,rfl⟩,⟨rfl,rfl⟩,trivial⟩,⟨rfl,hO⟩,⟨⟨rfl,rfl,rfl,rfl,rfl⟩,trivial⟩,⟨rfl,hc⟩,trivial⟩,hn⟩) fun e=>by cases e
theorem rd_1 {k:Nat} {es:List AV} (hc:closedAll es=true) (hl:es.length=k*7) (hk:k≤1000)
  (hn:ALp Tryz.prog opts0.glob 0 (lpCode Tryz.prog 45 17) (raV [(5,.fsl true (kinds.map rrA)),(6,I (.ofNat 9))] (k+(rawK o (.dat 1)).length) (obC o) (es++flat (rawK o (.dat 1)))).st Q):
  ALp Tryz.prog opts0.glob 0 (lpCode Tryz.prog 45 17) (raV [(5,.fsl true (kinds.map rrA)),(6,I (.ofNat 8))] k (obC o) es).st Q:=by
 have hO:=closed_obC o
 have hT:=closed_rr
 have g:=idRr (i:=8) (k:= .dat 1) rfl
 have hr:=raw_nu (nameK (.dat 1)) 9 o.d1.t
 have hp:partA Tryz.prog 4 (obF o (matA o) (namA o) (lnkA o) (cusA o)) 9=some (.bool o.d1.has):=by kernel_rfl
 cases hh:o.d1.has with
 | true=>
  have e:rawK o (.dat 1)=[rNu (nameK (.dat 1)) 9 o.d1.t]:=by
   show oneR o.d1.has _=_
   rw[hh];rfl
  rw[e] at hn
  rw[hh] at hp
  have hc2:closedAll (es++flat [rNu (nameK (.dat 1)) 9 o.d1.t])=true:=by rw[closedAll_append,hc];rfl
  refine ALp.round (A:=raAd (rrC (.dat 1)) true) (V1:=raV [(5,.fsl true (kinds.map rrA)),(6,I (.ofNat 9))] (k+1) (obC o) (es++flat [rNu (nameK (.dat 1)) 9 o.d1.t])) (V2:=raV [(5,.fsl true (kinds.map rrA)),(6,I (.ofNat 9))] (k+1) (obC o) (es++flat [rNu (nameK (.dat 1)) 9 o.d1.t])) (F:=raV [(5,.fsl true (kinds.map rrA)),(6,I (.ofNat 8))] k (obC o) es) (lk:=[(0,0),(1,1),(2,58)]) (lk':=[(0,0),(1,1),(2,2)]) base0 aidJ_ok (LsOk.no rfl) .refl ?_
  show wpK Tryz.prog opts0 40 (raAd (rrD (nameK (.dat 1)) (chgD 1) (staD 1) (setD 1) 1) true) _ _ _
  have g:indexAddrA Tryz.prog 140 (.fsl true (kinds.map rrA)) (I (.ofNat 8))=some (.fptr (rrD (nameK (.dat 1)) (chgD 1) (staD 1) (setD 1) 1) 0):=g
  unfold obC at hO hn⊢
  rw[ra_d1t,kinds_len]
  exact mtB_of (fun _=>⟨g,g,hp,g,g,oblB_of (ask1 hr rfl (by omega)) (oblB_of (ask2 hl) ⟨⟨⟨⟨rfl,hT⟩,⟨rfl,rfl⟩,trivial⟩,⟨⟨rfl,rfl⟩,⟨rfl,rfl⟩,trivial⟩,⟨rfl,hO⟩,⟨⟨rfl,rfl,rfl,rfl,rfl⟩,trivial⟩,⟨rfl,hc2⟩,trivial⟩,hn⟩)⟩) fun e=>by cases e
 | false=>
  have e:rawK o (.dat 1)=[]:=by
   show oneR o.d1.has _=_
   rw[hh];rfl
  rw[e,show flat ([]:List AV)=[] from rfl,List.append_nil,List.length_nil,Nat.add_zero] at hn
  rw[hh] at hp
  refine ALp.round (A:=raAd (rrC (.dat 1)) false) (V1:=raV [(5,.fsl true (kinds.map rrA)),(6,I (.ofNat 9))] k (obC o) es) (V2:=raV [(5,.fsl true (kinds.map rrA)),(6,I (.ofNat 9))] k (obC o) es) (F:=raV [(5,.fsl true (kinds.map rrA)),(6,I (.ofNat 8))] k (obC o) es) (lk:=[(0,0),(1,1),(2,2)]) (lk':=[(0,0),(1,1),(2,2)]) base0 aidJ_ok (LsOk.no rfl) .refl ?_
  show wpK Tryz.prog opts0 40 (raAd (rrD (nameK (.dat 1)) (chgD 1) (staD 1) (setD 1) 1) false) _ _ _
  have g:indexAddrA Tryz.prog 140 (.fsl true (kinds.map rrA)) (I (.ofNat 8))=some (.fptr (rrD (nameK (.dat 1)) (chgD 1) (staD 1) (setD 1) 1) 0):=g
  unfold obC at hO hn⊢
  rw[ra_d1f,kinds_len]
  exact mtB_of (fun _=>⟨g,g,hp,⟨⟨⟨rfl,hT⟩,⟨rfl,rfl⟩,trivial⟩,⟨⟨rfl,rfl⟩,⟨rfl,rfl⟩,trivial⟩,⟨rfl,hO⟩,⟨⟨rfl,rfl,rfl,rfl,rfl⟩,trivial⟩,⟨rfl,hc⟩,trivial⟩,hn⟩) fun e=>by cases e
theorem rd_2 {k:Nat} {es:List AV} (hc:closedAll es=true) (hl:es.length=k*7) (hk:k≤1000)
  (hn:ALp Tryz.prog opts0.glob 0 (lpCode Tryz.prog 45 17) (raV [(5,.fsl true (kinds.map rrA)),(6,I (.ofNat 10))] (k+(rawK o (.dat 2)).length) (obC o) (es++flat (rawK o (.dat 2)))).st Q):
  ALp Tryz.prog opts0.glob 0 (lpCode Tryz.prog 45 17) (raV [(5,.fsl true (kinds.map rrA)),(6,I (.ofNat 9))] k (obC o) es).st Q:=by
 have hO:=closed_obC o
 have hT:=closed_rr
 have g:=idRr (i:=9) (k:= .dat 2) rfl
 have hr:=raw_nu (nameK (.dat 2)) 9 o.d2.t
 have hp:partA Tryz.prog 4 (obF o (matA o) (namA o) (lnkA o) (cusA o)) 11=some (.bool o.d2.has):=by kernel_rfl
 cases hh:o.d2.has with
 | true=>
  have e:rawK o (.dat 2)=[rNu (nameK (.dat 2)) 9 o.d2.t]:=by
   show oneR o.d2.has _=_
   rw[hh];rfl
  rw[e] at hn
  rw[hh] at hp
  have hc2:closedAll (es++flat [rNu (nameK (.dat 2)) 9 o.d2.t])=true:=by rw[closedAll_append,hc];rfl
  refine ALp.round (A:=raAd (rrC (.dat 2)) true) (V1:=raV [(5,.fsl true (kinds.map rrA)),(6,I (.ofNat 10))] (k+1) (obC o) (es++flat [rNu (nameK (.dat 2)) 9 o.d2.t])) (V2:=raV [(5,.fsl true (kinds.map rrA)),(6,I (.ofNat 10))] (k+1) (obC o) (es++flat [rNu (nameK (.dat 2)) 9 o.d2.t])) (F:=raV [(5,.fsl true (kinds.map rrA)),(6,I (.ofNat 9))] k (obC o) es) (lk:=[(0,0),(1,1),(2,58)]) (lk':=[(0,0),(1,1),(2,2)]) base0 aidJ_ok (LsOk.no rfl) .refl ?_
  show wpK Tryz.prog opts0 40 (raAd (rrD (nameK (.dat 2)) (chgD 2) (staD 2) (setD 2) 2) true) _ _ _
  have g:indexAddrA Tryz.prog 140 (.fsl true (kinds.map rrA)) (I (.ofNat 9))=some (.fptr (rrD (nameK (.dat 2)) (chgD 2) (staD 2) (setD 2) 2) 0):=g
  unfold obC at hO hn⊢
  rw[ra_d2t,kinds_len]
  exact mtB_of (fun _=>⟨g,g,hp,g,g,oblB_of (ask1 hr rfl (by omega)) (oblB_of (ask2 hl) ⟨⟨⟨⟨rfl,hT⟩,⟨rfl,rfl⟩,trivial⟩,⟨⟨rfl,rfl⟩,⟨rfl,rfl⟩,trivial⟩,⟨rfl,hO⟩,⟨⟨rfl,rfl,rfl,rfl,rfl⟩,trivial⟩,⟨rfl,hc2⟩,trivial⟩,hn⟩)⟩) fun e=>by cases e
 | false=>
  have e:rawK o (.dat 2)=[]:=by
   show oneR o.d2.has _=_
   rw[hh];rfl
  rw[e,show flat ([]:List AV)=[] from rfl,List.append_nil,List.length_nil,Nat.add_zero] at hn
  rw[hh] at hp
  refine ALp.round (A:=raAd (rrC (.dat 2)) false) (V1:=raV [(5,.fsl true (kinds.map rrA)),(6,I (.ofNat 10))] k (obC o) es) (V2:=raV [(5,.fsl true (kinds.map rrA)),(6,I (.ofNat 10))] k (obC o) es) (F:=raV [(5,.fsl true (kinds.map rrA)),(6,I (.ofNat 9))] k (obC o) es) (lk:=[(0,0),(1,1),(2,2)]) (lk':=[(0,0),(1,1),(2,2)]) base0 aidJ_ok (LsOk.no rfl) .refl ?_
  show wpK Tryz.prog opts0 40 (raAd (rrD (nameK (.dat 2)) (chgD 2) (staD 2) (setD 2) 2) false) _ _ _
  have g:indexAddrA Tryz.prog 140 (.fsl true (kinds.map rrA)) (I (.ofNat 9))=some (.fptr (rrD (nameK (.dat 2)) (chgD 2) (staD 2) (setD 2) 2) 0):=g
  unfold obC at hO hn⊢
  rw[ra_d2f,kinds_len]
  exact mtB_of (fun _=>⟨g,g,hp,⟨⟨⟨rfl,hT⟩,⟨rfl,rfl⟩,trivial⟩,⟨⟨rfl,rfl⟩,⟨rfl,rfl⟩,trivial⟩,⟨rfl,hO⟩,⟨⟨rfl,rfl,rfl,rfl,rfl⟩,trivial⟩,⟨rfl,hc⟩,trivial⟩,hn⟩) fun e=>by cases e
theorem rd_3 {k:Nat} {es:List AV} (hc:closedAll es=true) (hl:es.length=k*7) (hk:k≤1000)
  (hn:ALp Tryz.prog opts0.glob 0 (lpCode Tryz.prog 45 17) (raV [(5,.fsl true (kinds.map rrA)),(6,I (.ofNat 11))] (k+(rawK o (.dat 3)).length) (obC o) (es++flat (rawK o (.dat 3)))).st Q):
  ALp Tryz.prog opts0.glob 0 (lpCode Tryz.prog 45 17) (raV [(5,.fsl true (kinds.map rrA)),(6,I (.ofNat 10))] k (obC o) es).st Q:=by
 have hO:=closed_obC o
 have hT:=closed_rr
 have g:=idRr (i:=10) (k:= .dat 3) rfl
 have hr:=raw_nu (nameK (.dat 3)) 9 o.d3.t
 have hp:partA Tryz.prog 4 (obF o (matA o) (namA o) (lnkA o) (cusA o)) 13=some (.bool o.d3.has):=by kernel_rfl
 cases hh:o.d3.has with
 | true=>
  have e:rawK o (.dat 3)=[rNu (nameK (.dat 3)) 9 o.d3.t]:=by
   show oneR o.d3.has _=_
   rw[hh];rfl
  rw[e] at hn
  rw[hh] at hp
  have hc2:closedAll (es++flat [rNu (nameK (.dat 3)) 9 o.d3.t])=true:=by rw[closedAll_append,hc];rfl
  refine ALp.round (A:=raAd (rrC (.dat 3)) true) (V1:=raV [(5,.fsl true (kinds.map rrA)),(6,I (.ofNat 11))] (k+1) (obC o) (es++flat [rNu (nameK (.dat 3)) 9 o.d3.t])) (V2:=raV [(5,.fsl true (kinds.map rrA)),(6,I (.ofNat 11))] (k+1) (obC o) (es++flat [rNu (nameK (.dat 3)) 9 o.d3.t])) (F:=raV [(5,.fsl true (kinds.map rrA)),(6,I (.ofNat 10))] k (obC o) es) (lk:=[(0,0),(1,1),(2,58)]) (lk':=[(0,0),(1,1),(2,2)]) base0 aidJ_ok (LsOk.no rfl) .refl ?_
  show wpK Tryz.prog opts0 40 (raAd (rrD (nameK (.dat 3)) (chgD 3) (staD 3) (setD 3) 3) true) _ _ _
  have g:indexAddrA Tryz.prog 140 (.fsl true (kinds.map rrA)) (I (.ofNat 10))=some (.fptr (rrD (nameK (.dat 3)) (chgD 3) (staD 3) (setD 3) 3) 0):=g
  unfold obC at hO hn⊢
  rw[ra_d3t,kinds_len]
  exact mtB_of (fun _=>⟨g,g,hp,g,g,oblB_of (ask1 hr rfl (by omega)) (oblB_of (ask2 hl) ⟨⟨⟨⟨rfl,hT⟩,⟨rfl,rfl⟩,trivial⟩,⟨⟨rfl,rfl⟩,⟨rfl,rfl⟩,trivial⟩,⟨rfl,hO⟩,⟨⟨rfl,rfl,rfl,rfl,rfl⟩,trivial⟩,⟨rfl,hc2⟩,trivial⟩,hn⟩)⟩) fun e=>by cases e
 | false=>
  have e:rawK o (.dat 3)=[]:=by
   show oneR o.d3.has _=_
   rw[hh];rfl
  rw[e,show flat ([]:List AV)=[] from rfl,List.append_nil,List.length_nil,Nat.add_zero] at hn
  rw[hh] at hp
  refine ALp.round (A:=raAd (rrC (.dat 3)) false) (V1:=raV [(5,.fsl true (kinds.map rrA)),(6,I (.ofNat 11))] k (obC o) es) (V2:=raV [(5,.fsl true (kinds.map rrA)),(6,I (.ofNat 11))] k (obC o) es) (F:=raV [(5,.fsl true (kinds.map rrA)),(6,I (.ofNat 10))] k (obC o) es) (lk:=[(0,0),(1,1),(2,2)]) (lk':=[(0,0),(1,1),(2,2)]) base0 aidJ_ok (LsOk.no rfl) .refl ?_
  show wpK Tryz.prog opts0 40 (raAd (rrD (nameK (.dat 3)) (chgD 3) (staD 3) (setD 3) 3) false) _ _ _
  have g:indexAddrA Tryz.prog 140 (.fsl true (kinds.map rrA)) (I (.ofNat 10))=some (.fptr (rrD (nameK (.dat 3)) (chgD 3) (staD 3) (setD 3) 3) 0):=g
  unfold obC at hO hn⊢
  rw[ra_d3f,kinds_len]
  exact mtB_of (fun _=>⟨g,g,hp,⟨⟨⟨rfl,hT⟩,⟨rfl,rfl⟩,trivial⟩,⟨⟨rfl,rfl⟩,⟨rfl,rfl⟩,trivial⟩,⟨rfl,hO⟩,⟨⟨rfl,rfl,rfl,rfl,rfl⟩,trivial⟩,⟨rfl,hc⟩,trivial⟩,hn⟩) fun e=>by cases e
theorem rd_4 {k:Nat} {es:List AV} (hc:closedAll es=true) (hl:es.length=k*7) (hk:k≤1000)
  (hn:ALp Tryz.prog opts0.glob 0 (lpCode Tryz.prog 45 17) (raV [(5,.fsl true (kinds.map rrA)),(6,I (.ofNat 12))] (k+(rawK o (.dat 4)).length) (obC o) (es++flat (rawK o (.dat 4)))).st Q):
  ALp Tryz.prog opts0.glob 0 (lpCode Tryz.prog 45 17) (raV [(5,.fsl true (kinds.map rrA)),(6,I (.ofNat 11))] k (obC o) es).st Q:=by
 have hO:=closed_obC o
 have hT:=closed_rr
 have g:=idRr (i:=11) (k:= .dat 4) rfl
 have hr:=raw_nu (nameK (.dat 4)) 9 o.d4.t
 have hp:partA Tryz.prog 4 (obF o (matA o) (namA o) (lnkA o) (cusA o)) 15=some (.bool o.d4.has):=by kernel_rfl
 cases hh:o.d4.has with
 | true=>
  have e:rawK o (.dat 4)=[rNu (nameK (.dat 4)) 9 o.d4.t]:=by
   show oneR o.d4.has _=_
   rw[hh];rfl
  rw[e] at hn
  rw[hh] at hp
  have hc2:closedAll (es++flat [rNu (nameK (.dat 4)) 9 o.d4.t])=true:=by rw[closedAll_append,hc];rfl
  refine ALp.round (A:=raAd (rrC (.dat 4)) true) (V1:=raV [(5,.fsl true (kinds.map rrA)),(6,I (.ofNat 12))] (k+1) (obC o) (es++flat [rNu (nameK (.dat 4)) 9 o.d4.t])) (V2:=raV [(5,.fsl true (kinds.map rrA)),(6,I (.ofNat 12))] (k+1) (obC o) (es++flat [rNu (nameK (.dat 4)) 9 o.d4.t])) (F:=raV [(5,.fsl true (kinds.map rrA)),(6,I (.ofNat 11))] k (obC o) es) (lk:=[(0,0),(1,1),(2,58)]) (lk':=[(0,0),(1,1),(2,2)]) base0 aidJ_ok (LsOk.no rfl) .refl ?_
  show wpK Tryz.prog opts0 40 (raAd (rrD (nameK (.dat 4)) (chgD 4) (staD 4) (setD 4) 4) true) _ _ _
  have g:indexAddrA Tryz.prog 140 (.fsl true (kinds.map rrA)) (I (.ofNat 11))=some (.fptr (rrD (nameK (.dat 4)) (chgD 4) (staD 4) (setD 4) 4) 0):=g
  unfold obC at hO hn⊢
  rw[ra_d4t,kinds_len]
  exact mtB_of (fun _=>⟨g,g,hp,g,g,oblB_of (ask1 hr rfl (by omega)) (oblB_of (ask2 hl) ⟨⟨⟨⟨rfl,hT⟩,⟨rfl,rfl⟩,trivial⟩,⟨⟨rfl,rfl⟩,⟨rfl,rfl⟩,trivial⟩,⟨rfl,hO⟩,⟨⟨rfl,rfl,rfl,rfl,rfl⟩,trivial⟩,⟨rfl,hc2⟩,trivial⟩,hn⟩)⟩) fun e=>by cases e
 | false=>
  have e:rawK o (.dat 4)=[]:=by
   show oneR o.d4.has _=_
   rw[hh];rfl
  rw[e,show flat ([]:List AV)=[] from rfl,List.append_nil,List.length_nil,Nat.add_zero] at hn
  rw[hh] at hp
  refine ALp.round (A:=raAd (rrC (.dat 4)) false) (V1:=raV [(5,.fsl true (kinds.map rrA)),(6,I (.ofNat 12))] k (obC o) es) (V2:=raV [(5,.fsl true (kinds.map rrA)),(6,I (.ofNat 12))] k (obC o) es) (F:=raV [(5,.fsl true (kinds.map rrA)),(6,I (.ofNat 11))] k (obC o) es) (lk:=[(0,0),(1,1),(2,2)]) (lk':=[(0,0),(1,1),(2,2)]) base0 aidJ_ok (LsOk.no rfl) .refl ?_
  show wpK Tryz.prog opts0 40 (raAd (rrD (nameK (.dat 4)) (chgD 4) (staD 4) (setD 4) 4) false) _ _ _
  have g:indexAddrA Tryz.prog 140 (.fsl true (kinds.map rrA)) (I (.ofNat 11))=some (.fptr (rrD (nameK (.dat 4)) (chgD 4) (staD 4) (setD 4) 4) 0):=g
  unfold obC at hO hn⊢
  rw[ra_d4f,kinds_len]
  exact mtB_of (fun _=>⟨g,g,hp,⟨⟨⟨rfl,hT⟩,⟨rfl,rfl⟩,trivial⟩,⟨⟨rfl,rfl⟩,⟨rfl,rfl⟩,trivial⟩,⟨rfl,hO⟩,⟨⟨rfl,rfl,rfl,rfl,rfl⟩,trivial⟩,⟨rfl,hc⟩,trivial⟩,hn⟩) fun e=>by cases e
theorem rd_5 {k:Nat} {es:List AV} (hc:closedAll es=true) (hl:es.length=k*7) (hk:k≤1000)
  (hn:ALp Tryz.prog opts0.glob 0 (lpCode Tryz.prog 45 17) (raV [(5,.fsl true (kinds.map rrA)),(6,I (.ofNat 13))] (k+(rawK o (.dat 5)).length) (obC o) (es++flat (rawK o (.dat 5)))).st Q):
  ALp Tryz.prog opts0.glob 0 (lpCode Tryz.prog 45 17) (raV [(5,.fsl true (kinds.map rrA)),(6,I (.ofNat 12))] k (obC o) es).st Q:=by
 have hO:=closed_obC o
 have hT:=closed_rr
 have g:=idRr (i:=12) (k:= .dat 5) rfl
 have hr:=raw_nu (nameK (.dat 5)) 9 o.d5.t
 have hp:partA Tryz.prog 4 (obF o (matA o) (namA o) (lnkA o) (cusA o)) 17=some (.bool o.d5.has):=by kernel_rfl
 cases hh:o.d5.has with
 | true=>
  have e:rawK o (.dat 5)=[rNu (nameK (.dat 5)) 9 o.d5.t]:=by
   show oneR o.d5.has _=_
   rw[hh];rfl
  rw[e] at hn
  rw[hh] at hp
  have hc2:closedAll (es++flat [rNu (nameK (.dat 5)) 9 o.d5.t])=true:=by rw[closedAll_append,hc];rfl
  refine ALp.round (A:=raAd (rrC (.dat 5)) true) (V1:=raV [(5,.fsl true (kinds.map rrA)),(6,I (.ofNat 13))] (k+1) (obC o) (es++flat [rNu (nameK (.dat 5)) 9 o.d5.t])) (V2:=raV [(5,.fsl true (kinds.map rrA)),(6,I (.ofNat 13))] (k+1) (obC o) (es++flat [rNu (nameK (.dat 5)) 9 o.d5.t])) (F:=raV [(5,.fsl true (kinds.map rrA)),(6,I (.ofNat 12))] k (obC o) es) (lk:=[(0,0),(1,1),(2,58)]) (lk':=[(0,0),(1,1),(2,2)]) base0 aidJ_ok (LsOk.no rfl) .refl ?_
  show wpK Tryz.prog opts0 40 (raAd (rrD (nameK (.dat 5)) (chgD 5) (staD 5) (setD 5) 5) true) _ _ _
  have g:indexAddrA Tryz.prog 140 (.fsl true (kinds.map rrA)) (I (.ofNat 12))=some (.fptr (rrD (nameK (.dat 5)) (chgD 5) (staD 5) (setD 5) 5) 0):=g
  unfold obC at hO hn⊢
  rw[ra_d5t,kinds_len]
  exact mtB_of (fun _=>⟨g,g,hp,g,g,oblB_of (ask1 hr rfl (by omega)) (oblB_of (ask2 hl) ⟨⟨⟨⟨rfl,hT⟩,⟨rfl,rfl⟩,trivial⟩,⟨⟨rfl,rfl⟩,⟨rfl,rfl⟩,trivial⟩,⟨rfl,hO⟩,⟨⟨rfl,rfl,rfl,rfl,rfl⟩,trivial⟩,⟨rfl,hc2⟩,trivial⟩,hn⟩)⟩) fun e=>by cases e
 | false=>
  have e:rawK o (.dat 5)=[]:=by
   show oneR o.d5.has _=_
   rw[hh];rfl
  rw[e,show flat ([]:List AV)=[] from rfl,List.append_nil,List.length_nil,Nat.add_zero] at hn
  rw[hh] at hp
  refine ALp.round (A:=raAd (rrC (.dat 5)) false) (V1:=raV [(5,.fsl true (kinds.map rrA)),(6,I (.ofNat 13))] k (obC o) es) (V2:=raV [(5,.fsl true (kinds.map rrA)),(6,I (.ofNat 13))] k (obC o) es) (F:=raV [(5,.fsl true (kinds.map rrA)),(6,I (.ofNat 12))] k (obC o) es) (lk:=[(0,0),(1,1),(2,2)]) (lk':=[(0,0),(1,1),(2,2)]) base0 aidJ_ok (LsOk.no rfl) .refl ?_
  show wpK Tryz.prog opts0 40 (raAd (rrD (nameK (.dat 5)) (chgD 5) (staD 5) (setD 5) 5) false) _ _ _
  have g:indexAddrA Tryz.prog 140 (.fsl true (kinds.map rrA)) (I (.ofNat 12))=some (.fptr (rrD (nameK (.dat 5)) (chgD 5) (staD 5) (setD 5) 5) 0):=g
  unfold obC at hO hn⊢
  rw[ra_d5f,kinds_len]
  exact mtB_of (fun _=>⟨g,g,hp,⟨⟨⟨rfl,hT⟩,⟨rfl,rfl⟩,trivial⟩,⟨⟨rfl,rfl⟩,⟨rfl,rfl⟩,trivial⟩,⟨rfl,hO⟩,⟨⟨rfl,rfl,rfl,rfl,rfl⟩,trivial⟩,⟨rfl,hc⟩,trivial⟩,hn⟩) fun e=>by cases e
theorem rd_6 {k:Nat} {es:List AV} (hc:closedAll es=true) (hl:es.length=k*7) (hk:k≤1000)
  (hn:ALp Tryz.prog opts0.glob 0 (lpCode Tryz.prog 45 17) (raV [(5,.fsl true (kinds.map rrA)),(6,I (.ofNat 14))] (k+(rawK o (.dat 6)).length) (obC o) (es++flat (rawK o (.dat 6)))).st Q):
  ALp Tryz.prog opts0.glob 0 (lpCode Tryz.prog 45 17) (raV [(5,.fsl true (kinds.map rrA)),(6,I (.ofNat 13))] k (obC o) es).st Q:=by
 have hO:=closed_obC o
 have hT:=closed_rr
 have g:=idRr (i:=13) (k:= .dat 6) rfl
 have hr:=raw_nu (nameK (.dat 6)) 9 o.d6.t
 have hp:partA Tryz.prog 4 (obF o (matA o) (namA o) (lnkA o) (cusA o)) 19=some (.bool o.d6.has):=by kernel_rfl
 cases hh:o.d6.has with
 | true=>
  have e:rawK o (.dat 6)=[rNu (nameK (.dat 6)) 9 o.d6.t]:=by
   show oneR o.d6.has _=_
   rw[hh];rfl
  rw[e] at hn
  rw[hh] at hp
  have hc2:closedAll (es++flat [rNu (nameK (.dat 6)) 9 o.d6.t])=true:=by rw[closedAll_append,hc];rfl
  refine ALp.round (A:=raAd (rrC (.dat 6)) true) (V1:=raV [(5,.fsl true (kinds.map rrA)),(6,I (.ofNat 14))] (k+1) (obC o) (es++flat [rNu (nameK (.dat 6)) 9 o.d6.t])) (V2:=raV [(5,.fsl true (kinds.map rrA)),(6,I (.ofNat 14))] (k+1) (obC o) (es++flat [rNu (nameK (.dat 6)) 9 o.d6.t])) (F:=raV [(5,.fsl true (kinds.map rrA)),(6,I (.ofNat 13))] k (obC o) es) (lk:=[(0,0),(1,1),(2,58)]) (lk':=[(0,0),(1,1),(2,2)]) base0 aidJ_ok (LsOk.no rfl) .refl ?_
  show wpK Tryz.prog opts0 40 (raAd (rrD (nameK (.dat 6)) (chgD 6) (staD 6) (setD 6) 6) true) _ _ _
  have g:indexAddrA Tryz.prog 140 (.fsl true (kinds.map rrA)) (I (.ofNat 13))=some (.fptr (rrD (nameK (.dat 6)) (chgD 6) (staD 6) (setD 6) 6) 0):=g
  unfold obC at hO hn⊢
  rw[ra_d6t,kinds_len]
  exact mtB_of (fun _=>⟨g,g,hp,g,g,oblB_of (ask1 hr rfl (by omega)) (oblB_of (ask2 hl) ⟨⟨⟨⟨rfl,hT⟩,⟨rfl,rfl⟩,trivial⟩,⟨⟨rfl,rfl⟩,⟨rfl,rfl⟩,trivial⟩,⟨rfl,hO⟩,⟨⟨rfl,rfl,rfl,rfl,rfl⟩,trivial⟩,⟨rfl,hc2⟩,trivial⟩,hn⟩)⟩) fun e=>by cases e
 | false=>
  have e:rawK o (.dat 6)=[]:=by
   show oneR o.d6.has _=_
   rw[hh];rfl
  rw[e,show flat ([]:List AV)=[] from rfl,List.append_nil,List.length_nil,Nat.add_zero] at hn
  rw[hh] at hp
  refine ALp.round (A:=raAd (rrC (.dat 6)) false) (V1:=raV [(5,.fsl true (kinds.map rrA)),(6,I (.ofNat 14))] k (obC o) es) (V2:=raV [(5,.fsl true (kinds.map rrA)),(6,I (.ofNat 14))] k (obC o) es) (F:=raV [(5,.fsl true (kinds.map rrA)),(6,I (.ofNat 13))] k (obC o) es) (lk:=[(0,0),(1,1),(2,2)]) (lk':=[(0,0),(1,1),(2,2)]) base0 aidJ_ok (LsOk.no rfl) .refl ?_
  show wpK Tryz.prog opts0 40 (raAd (rrD (nameK (.dat 6)) (chgD 6) (staD 6) (setD 6) 6) false) _ _ _
  have g:indexAddrA Tryz.prog 140 (.fsl true (kinds.map rrA)) (I (.ofNat 13))=some (.fptr (rrD (nameK (.dat 6)) (chgD 6) (staD 6) (setD 6) 6) 0):=g
  unfold obC at hO hn⊢
  rw[ra_d6f,kinds_len]
  exact mtB_of (fun _=>⟨g,g,hp,⟨⟨⟨rfl,hT⟩,⟨rfl,rfl⟩,trivial⟩,⟨⟨rfl,rfl⟩,⟨rfl,rfl⟩,trivial⟩,⟨rfl,hO⟩,⟨⟨rfl,rfl,rfl,rfl,rfl⟩,trivial⟩,⟨rfl,hc⟩,trivial⟩,hn⟩) fun e=>by cases e
theorem rd_7 {k:Nat} {es:List AV} (hc:closedAll es=true) (hl:es.length=k*7) (hk:k≤1000)
  (hn:ALp Tryz.prog opts0.glob 0 (lpCode Tryz.prog 45 17) (raV [(5,.fsl true (kinds.map rrA)),(6,I (.ofNat 15))] (k+(rawK o (.dat 7)).length) (obC o) (es++flat (rawK o (.dat 7)))).st Q):
  ALp Tryz.prog opts0.glob 0 (lpCode Tryz.prog 45 17) (raV [(5,.fsl true (kinds.map rrA)),(6,I (.ofNat 14))] k (obC o) es).st Q:=by
 have hO:=closed_obC o
 have hT:=closed_rr
 have g:=idRr (i:=14) (k:= .dat 7) rfl
 have hr:=raw_nu (nameK (.dat 7)) 9 o.d7.t
 have hp:partA Tryz.prog 4 (obF o (matA o) (namA o) (lnkA o) (cusA o)) 21=some (.bool o.d7.has):=by kernel_rfl
 cases hh:o.d7.has with
 | true=>
  have e:rawK o (.dat 7)=[rNu (nameK (.dat 7)) 9 o.d7.t]:=by
   show oneR o.d7.has _=_
   rw[hh];rfl
  rw[e] at hn
  rw[hh] at hp
  have hc2:closedAll (es++flat [rNu (nameK (.dat 7)) 9 o.d7.t])=true:=by rw[closedAll_append,hc];rfl
  refine ALp.round (A:=raAd (rrC (.dat 7)) true) (V1:=raV [(5,.fsl true (kinds.map rrA)),(6,I (.ofNat 15))] (k+1) (obC o) (es++flat [rNu (nameK (.dat 7)) 9 o.d7.t])) (V2:=raV [(5,.fsl true (kinds.map rrA)),(6,I (.ofNat 15))] (k+1) (obC o) (es++flat [rNu (nameK (.dat 7)) 9 o.d7.t])) (F:=raV [(5,.fsl true (kinds.map rrA)),(6,I (.ofNat 14))] k (obC o) es) (lk:=[(0,0),(1,1),(2,58)]) (lk':=[(0,0),(1,1),(2,2)]) base0 aidJ_ok (LsOk.no rfl) .refl ?_
  show wpK Tryz.prog opts0 40 (raAd (rrD (nameK (.dat 7)) (chgD 7) (staD 7) (setD 7) 7) true) _ _ _
  have g:indexAddrA Tryz.prog 140 (.fsl true (kinds.map rrA)) (I (.ofNat 14))=some (.fptr (rrD (nameK (.dat 7)) (chgD 7) (staD 7) (setD 7) 7) 0):=g
  unfold obC at hO hn⊢
  rw[ra_d7t,kinds_len]
  exact mtB_of (fun _=>⟨g,g,hp,g,g,oblB_of (ask1 hr rfl (by omega)) (oblB_of (ask2 hl) ⟨⟨⟨⟨rfl,hT⟩,⟨rfl,rfl⟩,trivial⟩,⟨⟨rfl,rfl⟩,⟨rfl,rfl⟩,trivial⟩,⟨rfl,hO⟩,⟨⟨rfl,rfl,rfl,rfl,rfl⟩,trivial⟩,⟨rfl,hc2⟩,trivial⟩,hn⟩)⟩) fun e=>by cases e
 | false=>
  have e:rawK o (.dat 7)=[]:=by
   show oneR o.d7.has _=_
   rw[hh];rfl
  rw[e,show flat ([]:List AV)=[] from rfl,List.append_nil,List.length_nil,Nat.add_zero] at hn
  rw[hh] at hp
  refine ALp.round (A:=raAd (rrC (.dat 7)) false) (V1:=raV [(5,.fsl true (kinds.map rrA)),(6,I (.ofNat 15))] k (obC o) es) (V2:=raV [(5,.fsl true (kinds.map rrA)),(6,I (.ofNat 15))] k (obC o) es) (F:=raV [(5,.fsl true (kinds.map rrA)),(6,I (.ofNat 14))] k (obC o) es) (lk:=[(0,0),(1,1),(2,2)]) (lk':=[(0,0),(1,1),(2,2)]) base0 aidJ_ok (LsOk.no rfl) .refl ?_
  show wpK Tryz.prog opts0 40 (raAd (rrD (nameK (.dat 7)) (chgD 7) (staD 7) (setD 7) 7) false) _ _ _
  have g:indexAddrA Tryz.prog 140 (.fsl true (kinds.map rrA)) (I (.ofNat 14))=some (.fptr (rrD (nameK (.dat 7)) (chgD 7) (staD 7) (setD 7) 7) 0):=g
  unfold obC at hO hn⊢
  rw[ra_d7f,kinds_len]
  exact mtB_of (fun _=>⟨g,g,hp,⟨⟨⟨rfl,hT⟩,⟨rfl,rfl⟩,trivial⟩,⟨⟨rfl,rfl⟩,⟨rfl,rfl⟩,trivial⟩,⟨rfl,hO⟩,⟨⟨rfl,rfl,rfl,rfl,rfl⟩,trivial⟩,⟨rfl,hc⟩,trivial⟩,hn⟩) fun e=>by cases e
theorem rd_8 {k:Nat} {es:List AV} (hc:closedAll es=true) (hl:es.length=k*7) (hk:k≤1000)
  (hn:ALp Tryz.prog opts0.glob 0 (lpCode Tryz.prog 45 17) (raV [(5,.fsl true (kinds.map rrA)),(6,I (.ofNat 16))] (k+(rawK o (.dat 8)).length) (obC o) (es++flat (rawK o (.dat 8)))).st Q):
  ALp Tryz.prog opts0.glob 0 (lpCode Tryz.prog 45 17) (raV [(5,.fsl true (kinds.map rrA)),(6,I (.ofNat 15))] k (obC o) es).st Q:=by
 have hO:=closed_obC o
 have hT:=closed_rr
 have g:=idRr (i:=15) (k:= .dat 8) rfl
 have hr:=raw_nu (nameK (.dat 8)) 9 o.d8.t
 have hp:partA Tryz.prog 4 (obF o (matA o) (namA o) (lnkA o) (cusA o)) 23=some (.bool o.d8.has):=by kernel_rfl
 cases hh:o.d8.has with
 | true=>
  have e:rawK o (.dat 8)=[rNu (nameK (.dat 8)) 9 o.d8.t]:=by
   show oneR o.d8.has _=_
   rw[hh];rfl
  rw[e] at hn
  rw[hh] at hp
  have hc2:closedAll (es++flat [rNu (nameK (.dat 8)) 9 o.d8.t])=true:=by rw[closedAll_append,hc];rfl
  refine ALp.round (A:=raAd (rrC (.dat 8)) true) (V1:=raV [(5,.fsl true (kinds.map rrA)),(6,I (.ofNat 16))] (k+1) (obC o) (es++flat [rNu (nameK (.dat 8)) 9 o.d8.t])) (V2:=raV [(5,.fsl true (kinds.map rrA)),(6,I (.ofNat 16))] (k+1) (obC o) (es++flat [rNu (nameK (.dat 8)) 9 o.d8.t])) (F:=raV [(5,.fsl true (kinds.map rrA)),(6,I (.ofNat 15))] k (obC o) es) (lk:=[(0,0),(1,1),(2,58)]) (lk':=[(0,0),(1,1),(2,2)]) base0 aidJ_ok (LsOk.no rfl) .refl ?_
  show wpK Tryz.prog opts0 40 (raAd (rrD (nameK (.dat 8)) (chgD 8) (staD 8) (setD 8) 8) true) _ _ _
  have g:indexAddrA Tryz.prog 140 (.fsl true (kinds.map rrA)) (I (.ofNat 15))=some (.fptr (rrD (nameK (.dat 8)) (chgD 8) (staD 8) (setD 8) 8) 0):=g
  unfold obC at hO hn⊢
  rw[ra_d8t,kinds_len]
  exact mtB_of (fun _=>⟨g,g,hp,g,g,oblB_of (ask1 hr rfl (by omega)) (oblB_of (ask2 hl) ⟨⟨⟨⟨rfl,hT⟩,⟨rfl,rfl⟩,trivial⟩,⟨⟨rfl,rfl⟩,⟨rfl,rfl⟩,trivial⟩,⟨rfl,hO⟩,⟨⟨rfl,rfl,rfl,rfl,rfl⟩,trivial⟩,⟨rfl,hc2⟩,trivial⟩,hn⟩)⟩) fun e=>by cases e
 | false=>
  have e:rawK o (.dat 8)=[]:=by
   show oneR o.d8.has _=_
   rw[hh];rfl
  rw[e,show flat ([]:List AV)=[] from rfl,List.append_nil,List.length_nil,Nat.add_zero] at hn
  rw[hh] at hp
  refine ALp.round (A:=raAd (rrC (.dat 8)) false) (V1:=raV [(5,.fsl true (kinds.map rrA)),(6,I (.ofNat 16))] k (obC o) es) (V2:=raV [(5,.fsl true (kinds.map rrA)),(6,I (.ofNat 16))] k (obC o) es) (F:=raV [(5,.fsl true (kinds.map rrA)),(6,I (.ofNat 15))] k (obC o) es) (lk:=[(0,0),(1,1),(2,2)]) (lk':=[(0,0),(1,1),(2,2)]) base0 aidJ_ok (LsOk.no rfl) .refl ?_
  show wpK Tryz.prog opts0 40 (raAd (rrD (nameK (.dat 8)) (chgD 8) (staD 8) (setD 8) 8) false) _ _ _
  have g:indexAddrA Tryz.prog 140 (.fsl true (kinds.map rrA)) (I (.ofNat 15))=some (.fptr (rrD (nameK (.dat 8)) (chgD 8) (staD 8) (setD 8) 8) 0):=g
  unfold obC at hO hn⊢
  rw[ra_d8f,kinds_len]
  exact mtB_of (fun _=>⟨g,g,hp,⟨⟨⟨rfl,hT⟩,⟨rfl,rfl⟩,trivial⟩,⟨⟨rfl,rfl⟩,⟨rfl,rfl⟩,trivial⟩,⟨rfl,hO⟩,⟨⟨rfl,rfl,rfl,rfl,rfl⟩,trivial⟩,⟨rfl,hc⟩,trivial⟩,hn⟩) fun e=>by cases e
theorem rd_9 {k:Nat} {es:List AV} (hc:closedAll es=true) (hl:es.length=k*7) (hk:k≤1000)
  (hn:ALp Tryz.prog opts0.glob 0 (lpCode Tryz.prog 45 17) (raV [(5,.fsl true (kinds.map rrA)),(6,I (.ofNat 17))] (k+(rawK o (.dat 9)).length) (obC o) (es++flat (rawK o (.dat 9)))).st Q):
  ALp Tryz.prog opts0.glob 0 (lpCode Tryz.prog 45 17) (raV [(5,.fsl true (kinds.map rrA)),(6,I (.ofNat 16))] k (obC o) es).st Q:=by
 have hO:=closed_obC o
 have hT:=closed_rr
 have g:=idRr (i:=16) (k:= .dat 9) rfl
 have hr:=raw_nu (nameK (.dat 9)) 9 o.d9.t
 have hp:partA Tryz.prog 4 (obF o (matA o) (namA o) (lnkA o) (cusA o)) 25=some (.bool o.d9.has):=by kernel_rfl
 cases hh:o.d9.has with
 | true=>
  have e:rawK o (.dat 9)=[rNu (nameK (.dat 9)) 9 o.d9.t]:=by
   show oneR o.d9.has _=_
   rw[hh];rfl
  rw[e] at hn
  rw[hh] at hp
  have hc2:closedAll (es++flat [rNu (nameK (.dat 9)) 9 o.d9.t])=true:=by rw[closedAll_append,hc];rfl
  refine ALp.round (A:=raAd (rrC (.dat 9)) true) (V1:=raV [(5,.fsl true (kinds.map rrA)),(6,I (.ofNat 17))] (k+1) (obC o) (es++flat [rNu (nameK (.dat 9)) 9 o.d9.t])) (V2:=raV [(5,.fsl true (kinds.map rrA)),(6,I (.ofNat 17))] (k+1) (obC o) (es++flat [rNu (nameK (.dat 9)) 9 o.d9.t])) (F:=raV [(5,.fsl true (kinds.map rrA)),(6,I (.ofNat 16))] k (obC o) es) (lk:=[(0,0),(1,1),(2,58)]) (lk':=[(0,0),(1,1),(2,2)]) base0 aidJ_ok (LsOk.no rfl) .refl ?_
  show wpK Tryz.prog opts0 40 (raAd (rrD (nameK (.dat 9)) (chgD 9) (staD 9) (setD 9) 9) true) _ _ _
  have g:indexAddrA Tryz.prog 140 (.fsl true (kinds.map rrA)) (I (.ofNat 16))=some (.fptr (rrD (nameK (.dat 9)) (chgD 9) (staD 9) (setD 9) 9) 0):=g
  unfold obC at hO hn⊢
  rw[ra_d9t,kinds_len]
  exact mtB_of (fun _=>⟨g,g,hp,g,g,oblB_of (ask1 hr rfl (by omega)) (oblB_of (ask2 hl) ⟨⟨⟨⟨rfl,hT⟩,⟨rfl,rfl⟩,trivial⟩,⟨⟨rfl,rfl⟩,⟨rfl,rfl⟩,trivial⟩,⟨rfl,hO⟩,⟨⟨rfl,rfl,rfl,rfl,rfl⟩,trivial⟩,⟨rfl,hc2⟩,trivial⟩,hn⟩)⟩) fun e=>by cases e
 | false=>
  have e:rawK o (.dat 9)=[]:=by
   show oneR o.d9.has _=_
   rw[hh];rfl
  rw[e,show flat ([]:List AV)=[] from rfl,List.append_nil,List.length_nil,Nat.add_zero] at hn
  rw[hh] at hp
  refine ALp.round (A:=raAd (rrC (.dat 9)) false) (V1:=raV [(5,.fsl true (kinds.map rrA)),(6,I (.ofNat 17))] k (obC o) es) (V2:=raV [(5,.fsl true (kinds.map rrA)),(6,I (.ofNat 17))] k (obC o) es) (F:=raV [(5,.fsl true (kinds.map rrA)),(6,I (.ofNat 16))] k (obC o) es) (lk:=[(0,0),(1,1),(2,2)]) (lk':=[(0,0),(1,1),(2,2)]) base0 aidJ_ok (LsOk.no rfl) .refl ?_
  show wpK Tryz.prog opts0 40 (raAd (rrD (nameK (.dat 9)) (chgD 9) (staD 9) (setD 9) 9) false) _ _ _
  have g:indexAddrA Tryz.prog 140 (.fsl true (kinds.map rrA)) (I (.ofNat 16))=some (.fptr (rrD (nameK (.dat 9)) (chgD 9) (staD 9) (setD 9) 9) 0):=g
  unfold obC at hO hn⊢
  rw[ra_d9f,kinds_len]
  exact mtB_of (fun _=>⟨g,g,hp,⟨⟨⟨rfl,hT⟩,⟨rfl,rfl⟩,trivial⟩,⟨⟨rfl,rfl⟩,⟨rfl,rfl⟩,trivial⟩,⟨rfl,hO⟩,⟨⟨rfl,rfl,rfl,rfl,rfl⟩,trivial⟩,⟨rfl,hc⟩,trivial⟩,hn⟩) fun e=>by cases e
theorem one_le {b:Bool} {x:AV}:(oneR b x).length≤1:=by cases b<;>simp[oneR]
theorem rd_run {k:Nat} {es:List AV} (hc:closedAll es=true) (hl:es.length=k*7) (hk:k≤900)
  (hq:Q (.exit 2) (raV [(5,.fsl true (kinds.map rrA)),(6,I 20)] (k+(rawK o (.dat 0)).length+(rawK o (.dat 1)).length+(rawK o (.dat 2)).length+(rawK o (.dat 3)).length+(rawK o (.dat 4)).length+(rawK o (.dat 5)).length+(rawK o (.dat 6)).length+(rawK o (.dat 7)).length+(rawK o (.dat 8)).length+(rawK o (.dat 9)).length) (obC o) (es++flat (rawK o (.dat 0))++flat (rawK o (.dat 1))++flat (rawK o (.dat 2))++flat (rawK o (.dat 3))++flat (rawK o (.dat 4))++flat (rawK o (.dat 5))++flat (rawK o (.dat 6))++flat (rawK o (.dat 7))++flat (rawK o (.dat 8))++flat (rawK o (.dat 9)))).st):
  ALp Tryz.prog opts0.glob 0 (lpCode Tryz.prog 45 17) (raV [(5,.fsl true (kinds.map rrA)),(6,I 0)] k (obC o) es).st Q:=by
 have hO:=closed_obC o
 have hT:=closed_rr
 have c0:=hc
 have l0:=hl
 have c1:closedAll (es++flat (rawK o (.dat 0)))=true:=by rw[closedAll_append,c0,raws_flat (raw_K _ _)];rfl
 have l1:(es++flat (rawK o (.dat 0))).length=(k+(rawK o (.dat 0)).length)*7:=by rw[List.length_append,l0,raws_len (raw_K _ _),←Nat.add_mul]
 have n0:(rawK o (.dat 0)).length≤1:=one_le
 have c2:closedAll (es++flat (rawK o (.dat 0))++flat (rawK o (.dat 1)))=true:=by rw[closedAll_append,c1,raws_flat (raw_K _ _)];rfl
 have l2:(es++flat (rawK o (.dat 0))++flat (rawK o (.dat 1))).length=(k+(rawK o (.dat 0)).length+(rawK o (.dat 1)).length)*7:=by rw[List.length_append,l1,raws_len (raw_K _ _),←Nat.add_mul]
 have n1:(rawK o (.dat 1)).length≤1:=one_le
 have c3:closedAll (es++flat (rawK o (.dat 0))++flat (rawK o (.dat 1))++flat (rawK o (.dat 2)))=true:=by rw[closedAll_append,c2,raws_flat (raw_K _ _)];rfl
 have l3:(es++flat (rawK o (.dat 0))++flat (rawK o (.dat 1))++flat (rawK o (.dat 2))).length=(k+(rawK o (.dat 0)).length+(rawK o (.dat 1)).length+(rawK o (.dat 2)).length)*7:=by rw[List.length_append,l2,raws_len (raw_K _ _),←Nat.add_mul]
 have n2:(rawK o (.dat 2)).length≤1:=one_le
 have c4:closedAll (es++flat (rawK o (.dat 0))++flat (rawK o (.dat 1))++flat (rawK o (.dat 2))++flat (rawK o (.dat 3)))=true:=by rw[closedAll_append,c3,raws_flat (raw_K _ _)];rfl
 have l4:(es++flat (rawK o (.dat 0))++flat (rawK o (.dat 1))++flat (rawK o (.dat 2))++flat (rawK o (.dat 3))).length=(k+(rawK o (.dat 0)).length+(rawK o (.dat 1)).length+(rawK o (.dat 2)).length+(rawK o (.dat 3)).length)*7:=by rw[List.length_append,l3,raws_len (raw_K _ _),←Nat.add_mul]
 have n3:(rawK o (.dat 3)).length≤1:=one_le
 have c5:closedAll (es++flat (rawK o (.dat 0))++flat (rawK o (.dat 1))++flat (rawK o (.dat 2))++flat (rawK o (.dat 3))++flat (rawK o (.dat 4)))=true:=by rw[closedAll_append,c4,raws_flat (raw_K _ _)];rfl
 have l5:(es++flat (rawK o (.dat 0))++flat (rawK o (.dat 1))++flat (rawK o (.dat 2))++flat (rawK o (.dat 3))++flat (rawK o (.dat 4))).length=(k+(rawK o (.dat 0)).length+(rawK o (.dat 1)).length+(rawK o (.dat 2)).length+(rawK o (.dat 3)).length+(rawK o (.dat 4)).length)*7:=by rw[List.length_append,l4,raws_len (raw_K _ _),←Nat.add_mul]
 have n4:(rawK o (.dat 4)).length≤1:=one_le
 have c6:closedAll (es++flat (rawK o (.dat 0))++flat (rawK o (.dat 1))++flat (rawK o (.dat 2))++flat (rawK o (.dat 3))++flat (rawK o (.dat 4))++flat (rawK o (.dat 5)))=true:=by rw[closedAll_append,c5,raws_flat (raw_K _ _)];rfl
 have l6:(es++flat (rawK o (.dat 0))++flat (rawK o (.dat 1))++flat (rawK o (.dat 2))++flat (rawK o (.dat 3))++flat (rawK o (.dat 4))++flat (rawK o (.dat 5))).length=(k+(rawK o (.dat 0)).length+(rawK o (.dat 1)).length+(rawK o (.dat 2)).length+(rawK o (.dat 3)).length+(rawK o (.dat 4)).length+(rawK o (.dat 5)).length)*7:=by rw[List.length_append,l5,raws_len (raw_K _ _),←Nat.add_mul]
 have n5:(rawK o (.dat 5)).length≤1:=one_le
 have c7:closedAll (es++flat (rawK o (.dat 0))++flat (rawK o (.dat 1))++flat (rawK o (.dat 2))++flat (rawK o (.dat 3))++flat (rawK o (.dat 4))++flat (rawK o (.dat 5))++flat (rawK o (.dat 6)))=true:=by rw[closedAll_append,c6,raws_flat (raw_K _ _)];rfl
 have l7:(es++flat (rawK o (.dat 0))++flat (rawK o (.dat 1))++flat (rawK o (.dat 2))++flat (rawK o (.dat 3))++flat (rawK o (.dat 4))++flat (rawK o (.dat 5))++flat (rawK o (.dat 6))).length=(k+(rawK o (.dat 0)).length+(rawK o (.dat 1)).length+(rawK o (.dat 2)).length+(rawK o (.dat 3)).length+(rawK o (.dat 4)).length+(rawK o (.dat 5)).length+(rawK o (.dat 6)).length)*7:=by rw[List.length_append,l6,raws_len (raw_K _ _),←Nat.add_mul]
 have n6:(rawK o (.dat 6)).length≤1:=one_le
 have c8:closedAll (es++flat (rawK o (.dat 0))++flat (rawK o (.dat 1))++flat (rawK o (.dat 2))++flat (rawK o (.dat 3))++flat (rawK o (.dat 4))++flat (rawK o (.dat 5))++flat (rawK o (.dat 6))++flat (rawK o (.dat 7)))=true:=by rw[closedAll_append,c7,raws_flat (raw_K _ _)];rfl
 have l8:(es++flat (rawK o (.dat 0))++flat (rawK o (.dat 1))++flat (rawK o (.dat 2))++flat (rawK o (.dat 3))++flat (rawK o (.dat 4))++flat (rawK o (.dat 5))++flat (rawK o (.dat 6))++flat (rawK o (.dat 7))).length=(k+(rawK o (.dat 0)).length+(rawK o (.dat 1)).length+(rawK o (.dat 2)).length+(rawK o (.dat 3)).length+(rawK o (.dat 4)).length+(rawK o (.dat 5)).length+(rawK o (.dat 6)).length+(rawK o (.dat 7)).length)*7:=by rw[List.length_append,l7,raws_len (raw_K _ _),←Nat.add_mul]
 have n7:(rawK o (.dat 7)).length≤1:=one_le
 have c9:closedAll (es++flat (rawK o (.dat 0))++flat (rawK o (.dat 1))++flat (rawK o (.dat 2))++flat (rawK o (.dat 3))++flat (rawK o (.dat 4))++flat (rawK o (.dat 5))++flat (rawK o (.dat 6))++flat (rawK o (.dat 7))++flat (rawK o (.dat 8)))=true:=by rw[closedAll_append,c8,raws_flat (raw_K _ _)];rfl
 have l9:(es++flat (rawK o (.dat 0))++flat (rawK o (.dat 1))++flat (rawK o (.dat 2))++flat (rawK o (.dat 3))++flat (rawK o (.dat 4))++flat (rawK o (.dat 5))++flat (rawK o (.dat 6))++flat (rawK o (.dat 7))++flat (rawK o (.dat 8))).length=(k+(rawK o (.dat 0)).length+(rawK o (.dat 1)).length+(rawK o (.dat 2)).length+(rawK o (.dat 3)).length+(rawK o (.dat 4)).length+(rawK o (.dat 5)).length+(rawK o (.dat 6)).length+(rawK o (.dat 7)).length+(rawK o (.dat 8)).length)*7:=by rw[List.length_append,l8,raws_len (raw_K _ _),←Nat.add_mul]
 have n8:(rawK o (.dat 8)).length≤1:=one_le
 have c10:closedAll (es++flat (rawK o (.dat 0))++flat (rawK o (.dat 1))++flat (rawK o (.dat 2))++flat (rawK o (.dat 3))++flat (rawK o (.dat 4))++flat (rawK o (.dat 5))++flat (rawK o (.dat 6))++flat (rawK o (.dat 7))++flat (rawK o (.dat 8))++flat (rawK o (.dat 9)))=true:=by rw[closedAll_append,c9,raws_flat (raw_K _ _)];rfl
 have l10:(es++flat (rawK o (.dat 0))++flat (rawK o (.dat 1))++flat (rawK o (.dat 2))++flat (rawK o (.dat 3))++flat (rawK o (.dat 4))++flat (rawK o (.dat 5))++flat (rawK o (.dat 6))++flat (rawK o (.dat 7))++flat (rawK o (.dat 8))++flat (rawK o (.dat 9))).length=(k+(rawK o (.dat 0)).length+(rawK o (.dat 1)).length+(rawK o (.dat 2)).length+(rawK o (.dat 3)).length+(rawK o (.dat 4)).length+(rawK o (.dat 5)).length+(rawK o (.dat 6)).length+(rawK o (.dat 7)).length+(rawK o (.dat 8)).length+(rawK o (.dat 9)).length)*7:=by rw[List.length_append,l9,raws_len (raw_K _ _),←Nat.add_mul]
 have n9:(rawK o (.dat 9)).length≤1:=one_le
 have h20:ALp Tryz.prog opts0.glob 0 (lpCode Tryz.prog 45 17) (raV [(5,.fsl true (kinds.map rrA)),(6,I (.ofNat 20))] (k+(rawK o (.dat 0)).length+(rawK o (.dat 1)).length+(rawK o (.dat 2)).length+(rawK o (.dat 3)).length+(rawK o (.dat 4)).length+(rawK o (.dat 5)).length+(rawK o (.dat 6)).length+(rawK o (.dat 7)).length+(rawK o (.dat 8)).length+(rawK o (.dat 9)).length) (obC o) (es++flat (rawK o (.dat 0))++flat (rawK o (.dat 1))++flat (rawK o (.dat 2))++flat (rawK o (.dat 3))++flat (rawK o (.dat 4))++flat (rawK o (.dat 5))++flat (rawK o (.dat 6))++flat (rawK o (.dat 7))++flat (rawK o (.dat 8))++flat (rawK o (.dat 9)))).st Q:=by
  revert c10 hq
  generalize es++flat (rawK o (.dat 0))++flat (rawK o (.dat 1))++flat (rawK o (.dat 2))++flat (rawK o (.dat 3))++flat (rawK o (.dat 4))++flat (rawK o (.dat 5))++flat (rawK o (.dat 6))++flat (rawK o (.dat 7))++flat (rawK o (.dat 8))++flat (rawK o (.dat 9))=es'
  generalize k+(rawK o (.dat 0)).length+(rawK o (.dat 1)).length+(rawK o (.dat 2)).length+(rawK o (.dat 3)).length+(rawK o (.dat 4)).length+(rawK o (.dat 5)).length+(rawK o (.dat 6)).length+(rawK o (.dat 7)).length+(rawK o (.dat 8)).length+(rawK o (.dat 9)).length=k'
  intro hq c10
  refine ALp.round (A:=raAd (rrC .uid) false) (V1:=raV [(5,.fsl true (kinds.map rrA)),(6,I 0)] 0 (obC o) []) (V2:=raV [(5,.fsl true (kinds.map rrA)),(6,I 0)] 0 (obC o) []) (F:=raV [(5,.fsl true (kinds.map rrA)),(6,I (.ofNat 20))] k' (obC o) es') (lk:=[(0,0),(1,1),(2,2)]) (lk':=[(0,0),(1,1),(2,2)]) base0 aidJ_ok (LsOk.no rfl) .refl ?_
  unfold rrC
  rw[show datK .uid= -1 from rfl]
  unfold obC at hO hq⊢
  rw[ra_dn,kinds_len]
  exact mtB_of (fun e=>by cases e) fun _=>⟨⟨⟨⟨rfl,hT⟩,⟨rfl,rfl⟩,trivial⟩,⟨⟨rfl,rfl⟩,⟨rfl,rfl⟩,trivial⟩,⟨rfl,hO⟩,⟨⟨rfl,rfl,rfl,rfl,rfl⟩,trivial⟩,⟨rfl,c10⟩,trivial⟩,hq⟩
 have h19:=rd_no (i:=19) (o:=o) rfl rfl c10 h20
 have h18:=rd_no (i:=18) (o:=o) rfl rfl c10 h19
 have h17:=rd_no (i:=17) (o:=o) rfl rfl c10 h18
 have h16:=rd_9 c9 l9 (by omega) h17
 have h15:=rd_8 c8 l8 (by omega) h16
 have h14:=rd_7 c7 l7 (by omega) h15
 have h13:=rd_6 c6 l6 (by omega) h14
 have h12:=rd_5 c5 l5 (by omega) h13
 have h11:=rd_4 c4 l4 (by omega) h12
 have h10:=rd_3 c3 l3 (by omega) h11
 have h9:=rd_2 c2 l2 (by omega) h10
 have h8:=rd_1 c1 l1 (by omega) h9
 have h7:=rd_0 c0 l0 (by omega) h8
 have h6:=rd_no (i:=6) (o:=o) rfl rfl c0 h7
 have h5:=rd_no (i:=5) (o:=o) rfl rfl c0 h6
 have h4:=rd_no (i:=4) (o:=o) rfl rfl c0 h5
 have h3:=rd_no (i:=3) (o:=o) rfl rfl c0 h4
 have h2:=rd_no (i:=2) (o:=o) rfl rfl c0 h3
 have h1:=rd_no (i:=1) (o:=o) rfl rfl c0 h2
 have h0:=rd_no (i:=0) (o:=o) rfl rfl c0 h1
 exact h0
end
section
variable {o:Ob} {Q:AExit→St→Prop}
theorem rm_run {i k:Nat} {es:List AV} {c:Cu} (g:o.cust[i]? =some c) (hi:i≤1000) (hc:closedAll es=true)
  (hq:Q (.exit 8) (raV [(9,I (.ofNat i)),(10,I (.ofNat (cntC c.name (o.cust.take i)))),(11,I (.ofNat i))] k (obC o) es).st):
  ∀m j:Nat,j+m=i→ALp Tryz.prog opts0.glob 0 (lpCode Tryz.prog 45 37) (raV [(9,I (.ofNat i)),(10,I (.ofNat (cntC c.name (o.cust.take j)))),(11,I (.ofNat j))] k (obC o) es).st Q:=by
 have hO:=closed_obC o
 have hlt:=(List.getElem?_eq_some_iff.1 g).1
 intro m
 induction m with
 |zero=>
  intro j hj
  rw[Nat.add_zero] at hj
  subst hj
  refine ALp.round (A:=raAm [] [] [] []) (V1:=raV [(9,I (.ofNat j)),(10,I 0),(11,I 0)] k (obC o) es) (V2:=raV [(9,I (.ofNat j)),(10,I 0),(11,I 0)] k (obC o) es) (F:=raV [(9,I (.ofNat j)),(10,I (.ofNat (cntC c.name (o.cust.take j)))),(11,I (.ofNat j))] k (obC o) es) (lk:=[(0,0),(1,1),(2,2)]) (lk':=[(0,0),(1,1),(2,2)]) base0 aidJ_ok (LsOk.no rfl) .refl ?_
  unfold obC cusA at hO hq⊢
  rw[ra_m]
  exact mtB_of (fun e=>(ltE e).elim) fun _=>⟨⟨⟨⟨rfl,rfl⟩,⟨rfl,rfl⟩,⟨rfl,rfl⟩,trivial⟩,⟨⟨rfl,rfl⟩,⟨rfl,rfl⟩,trivial⟩,⟨rfl,hO⟩,⟨⟨rfl,rfl,rfl,rfl,rfl⟩,trivial⟩,⟨rfl,hc⟩,trivial⟩,hq⟩
 | succ m ih=>
  intro j hj
  have hjl:j<o.cust.length:=by omega
  have gj:=List.getElem?_eq_getElem hjl
  have ih:=ih (j+1) (by omega)
  rw[take_snoc gj,cntC_snoc] at ih
  have hcl:=cnt_le c.name (o.cust.take j)
  have htl:=List.length_take_le j o.cust
  revert gj ih
  generalize o.cust[j]=x
  revert hcl
  generalize cntC c.name (o.cust.take j)=n
  intro hcl gj ih
  have g1:=idxCu gj
  have g2:=idxCu g
  have hw:=wrN (p:=j) (by omega)
  have hn:n≤1000:=by rw[List.length_take] at hcl;omega
  have hw2:=wrN (p:=n) (by omega)
  cases hx:beqBytes x.name c.name with
  |true=>
   rw[hx] at ih
   refine ALp.round (A:=raAm x.name x.text c.name c.text) (V1:=raV [(9,I (.ofNat i)),(10,I (.ofNat (n+1))),(11,I (.ofNat (j+1)))] k (obC o) es) (V2:=raV [(9,I (.ofNat i)),(10,I (.ofNat (n+1))),(11,I (.ofNat (j+1)))] k (obC o) es) (F:=raV [(9,I (.ofNat i)),(10,I (.ofNat n)),(11,I (.ofNat j))] k (obC o) es) (lk:=[(0,0),(1,1),(2,2)]) (lk':=[(0,0),(1,1),(2,2)]) base0 aidJ_ok (LsOk.no rfl) .refl ?_
   unfold obC cusA at hO ih⊢
   rw[ra_m,hw,hw2]
   exact mtB_of (fun _=>⟨g1,g2,mtB_of (fun _=>⟨⟨⟨⟨rfl,rfl⟩,⟨rfl,rfl⟩,⟨rfl,rfl⟩,trivial⟩,⟨⟨rfl,rfl⟩,⟨rfl,rfl⟩,trivial⟩,⟨rfl,hO⟩,⟨⟨rfl,rfl,rfl,rfl,rfl⟩,trivial⟩,⟨rfl,hc⟩,trivial⟩,ih⟩) fun e=>by rw[hx] at e;cases e⟩) fun e=>absurd e (lt_no (by omega))
  |false=>
   rw[hx] at ih
   refine ALp.round (A:=raAm x.name x.text c.name c.text) (V1:=raV [(9,I (.ofNat i)),(10,I (.ofNat n)),(11,I (.ofNat (j+1)))] k (obC o) es) (V2:=raV [(9,I (.ofNat i)),(10,I (.ofNat n)),(11,I (.ofNat (j+1)))] k (obC o) es) (F:=raV [(9,I (.ofNat i)),(10,I (.ofNat n)),(11,I (.ofNat j))] k (obC o) es) (lk:=[(0,0),(1,1),(2,2)]) (lk':=[(0,0),(1,1),(2,2)]) base0 aidJ_ok (LsOk.no rfl) .refl ?_
   unfold obC cusA at hO ih⊢
   rw[ra_m,hw,hw2]
   exact mtB_of (fun _=>⟨g1,g2,mtB_of (fun e=>by rw[hx] at e;cases e) fun _=>⟨⟨⟨⟨rfl,rfl⟩,⟨rfl,rfl⟩,⟨rfl,rfl⟩,trivial⟩,⟨⟨rfl,rfl⟩,⟨rfl,rfl⟩,trivial⟩,⟨rfl,hO⟩,⟨⟨rfl,rfl,rfl,rfl,rfl⟩,trivial⟩,⟨rfl,hc⟩,trivial⟩,ih⟩⟩) fun e=>absurd e (lt_no (by omega))
theorem rm_at:loopsAt (lpCode Tryz.prog 45 33) 37=[lpCode Tryz.prog 45 37]:=by kernel_rfl
theorem rc_run {B:List AV} {k0:Nat} (hB:B.length=k0*7) (hBc:closedAll B=true) (hk:k0≤1000) (hn:o.cust.length≤1000)
  (hq:Q (.exit 6) (raV [(9,I (.ofNat o.cust.length))] (k0+o.cust.length) (obC o) (B++flat (cusR [] o.cust))).st):
  ∀m i:Nat,i+m=o.cust.length→ALp Tryz.prog opts0.glob 0 (lpCode Tryz.prog 45 33) (raV [(9,I (.ofNat i))] (k0+i) (obC o) (B++flat (cusR [] (o.cust.take i)))).st Q:=by
 have hO:=closed_obC o
 have hlen:lenN (o.cust.map cuA)=o.cust.length:=by rw[lenN_eq,List.length_map]
 intro m
 induction m with
 |zero=>
  intro i hi
  rw[Nat.add_zero] at hi
  subst hi
  rw[List.take_of_length_le (Nat.le_refl _)]
  have hc:closedAll (B++flat (cusR [] o.cust))=true:=by rw[closedAll_append,hBc,closed_fcusR];rfl
  refine ALp.round (A:=raAc False [] [] (.ofNat o.cust.length) 0 (k0+o.cust.length) (obC o) (B++flat (cusR [] o.cust))) (V1:=raV [(9,I 0)] 0 (obC o) []) (V2:=raV [(9,I 0)] 0 (obC o) []) (F:=raV [(9,I (.ofNat o.cust.length))] (k0+o.cust.length) (obC o) (B++flat (cusR [] o.cust))) (lk:=[(0,0),(1,1),(2,36)]) (lk':=[(0,0),(1,1),(2,2)]) base0 aidJ_ok (LsOk.at1 rfl rm_at fun st Q hs=>hs.1.elim) .refl ?_
  unfold obC cusA at hO hq⊢
  rw[ra_c,hlen]
  exact mtB_of (fun e=>(ltE e).elim) fun _=>⟨⟨⟨⟨rfl,rfl⟩,trivial⟩,⟨⟨rfl,rfl⟩,⟨rfl,rfl⟩,trivial⟩,⟨rfl,hO⟩,⟨⟨rfl,rfl,rfl,rfl,rfl⟩,trivial⟩,⟨rfl,hc⟩,trivial⟩,hq⟩
 | succ m ih=>
  intro i hi
  have hlt:i<o.cust.length:=by omega
  have g:=List.getElem?_eq_getElem hlt
  have ih:=ih (i+1) (by omega)
  have hti:(o.cust.take i).length=i:=by rw[List.length_take];omega
  rw[take_snoc g,cusR_snoc,flat_append,←List.append_assoc,List.nil_append,←Nat.add_assoc] at ih
  have hpc:=closed_fcusR (o.cust.take i) []
  have hpl:=len_fcusR (o.cust.take i) []
  rw[hti] at hpl
  revert g ih
  generalize o.cust[i]=x
  intro g ih
  have hc:closedAll (B++flat (cusR [] (o.cust.take i)))=true:=by rw[closedAll_append,hBc,hpc];rfl
  have hl:(B++flat (cusR [] (o.cust.take i))).length=(k0+i)*7:=by rw[List.length_append,hB,hpl];omega
  have hrun:=fun Q hq=>rm_run (o:=o) (Q:=Q) (k:=k0+i) g (by omega) hc hq i 0 (Nat.zero_add _)
  rw[show o.cust.take 0=[] from List.take_zero] at hrun
  revert ih hc hl hrun
  generalize B++flat (cusR [] (o.cust.take i))=P
  generalize cntC x.name (o.cust.take i)=n
  intro ih hc hl hrun
  have hr:RawOk (rawC x n):=⟨by simp[rawC,closedA,closedAll],by simp[rawC,AV.cells,closedA,closedAll],rfl,⟨rfl,rfl⟩⟩
  have hc2:closedAll (P++flat [rawC x n])=true:=closed_es hc
  have g:=idxCu g
  refine ALp.round (A:=raAc True x.name x.text (.ofNat i) (.ofNat n) (k0+i) (obC o) P) (V1:=raV [(9,I (.ofNat (i+1)))] (k0+i+1) (obC o) (P++flat [rawC x n])) (V2:=raV [(9,I (.ofNat (i+1)))] (k0+i+1) (obC o) (P++flat [rawC x n])) (F:=raV [(9,I (.ofNat i))] (k0+i) (obC o) P) (lk:=[(0,0),(1,1),(2,36)]) (lk':=[(0,0),(1,1),(2,2)]) base0 aidJ_ok
   (LsOk.at1 rfl rm_at fun st Q hs=> .seen base0.glob hs.2.1 (hrun Q hs.2.2)) .refl ?_
  unfold obC cusA at hO ih⊢
  rw[ra_c,wrN (by omega)]
  exact mtB_of (fun _=>⟨trivial,⟨⟨⟨rfl,rfl⟩,⟨rfl,rfl⟩,⟨rfl,rfl⟩,trivial⟩,⟨⟨rfl,rfl⟩,⟨rfl,rfl⟩,trivial⟩,⟨rfl,hO⟩,⟨⟨rfl,rfl,rfl,rfl,rfl⟩,trivial⟩,⟨rfl,hc⟩,trivial⟩,g,g,oblB_of (ask1 hr rfl (by omega)) (oblB_of (ask2 hl) ⟨⟨⟨⟨rfl,rfl⟩,trivial⟩,⟨⟨rfl,rfl⟩,⟨rfl,rfl⟩,trivial⟩,⟨rfl,hO⟩,⟨⟨rfl,rfl,rfl,rfl,rfl⟩,trivial⟩,⟨rfl,hc2⟩,trivial⟩,ih⟩)⟩) fun e=>absurd (hlen▸e) (lt_no hlt)
end
end Go.Proofs.YtjhggnebkfpgcaaGreatDoor
namespace Go.Proofs.YtjhggnebkfpgcaaGreatDoor
open Go Go.RowKit
open Go.Proofs.Abs
theorem wkE_app2:∀ {a b c d:List AV},WkE a b→WkE c d→WkE (a++c) (b++d)
 |[],[],_,_,_,h=>h
 |x::_,y::_,_,_,h,h2=> .cons (h.at_ 0 x y rfl rfl) (wkE_app2 ⟨by have:=h.len;simpa using this,fun i u v h3 h4=>h.at_ (i+1) u v h3 h4⟩ h2)
 |[],_::_,_,_,h,_=>by have:=h.len;simp at this
 |_::_,[],_,_,h,_=>by have:=h.len;simp at this
theorem ls4 {P:Program} {G:Glob} {nx0 r1 r2 r3 r4:Nat} {L1 L2 L3 L4:LoopS} {b1 b2 b3 b4:Code} {c:Code} {A:Aid} (hA:A.ls=manyL [(r1,L1),(r2,L2),(r3,L3),(r4,L4)]) (a1:loopsAt c r1=[b1]) (a2:loopsAt c r2=[b2]) (a3:loopsAt c r3=[b3]) (a4:loopsAt c r4=[b4])
  (h1:∀s Q,L1 s Q→AWp P G nx0 (.loop b1) s Q) (h2:∀s Q,L2 s Q→AWp P G nx0 (.loop b2) s Q) (h3:∀s Q,L3 s Q→AWp P G nx0 (.loop b3) s Q) (h4:∀s Q,L4 s Q→AWp P G nx0 (.loop b4) s Q):LsOk P G nx0 A c:=
 LsOk.many hA fun p hp b hb s Q hs=>by
  simp only[List.mem_cons,List.not_mem_nil,or_false] at hp
  rcases hp with rfl|rfl|rfl|rfl
  ·rw[a1,List.mem_singleton] at hb;subst hb;exact h1 s Q hs
  ·rw[a2,List.mem_singleton] at hb;subst hb;exact h2 s Q hs
  ·rw[a3,List.mem_singleton] at hb;subst hb;exact h3 s Q hs
  ·rw[a4,List.mem_singleton] at hb;subst hb;exact h4 s Q hs
theorem ra_at5:loopsAt (fnCode Tryz.prog 45) 5=[lpCode Tryz.prog 45 5]:=by kernel_rfl
theorem ra_at17:loopsAt (fnCode Tryz.prog 45) 17=[lpCode Tryz.prog 45 17]:=by kernel_rfl
theorem ra_at27:loopsAt (fnCode Tryz.prog 45) 27=[lpCode Tryz.prog 45 27]:=by kernel_rfl
theorem ra_at33:loopsAt (fnCode Tryz.prog 45) 33=[lpCode Tryz.prog 45 33]:=by kernel_rfl
def datR (o:Ob) (l:List AV):List AV:=l++rawK o (.dat 0)++rawK o (.dat 1)++rawK o (.dat 2)++rawK o (.dat 3)++rawK o (.dat 4)++rawK o (.dat 5)++rawK o (.dat 6)++rawK o (.dat 7)++rawK o (.dat 8)++rawK o (.dat 9)
def allR (o:Ob):List AV:=datR o (rawK o .uid++rawK o .nam++rawK o .typ++rawK o .alg++rawK o .len++rawK o .mask++rawK o .sta)++rawK o .why++rawK o .lnk++rawK o .lim++cusR [] o.cust
theorem wk_all (o:Ob):WkE (allR o) ((allS o).map atA):=by
 have h:∀k,kdB k=true→(∀s,k≠ .cus s)→WkE (rawK o k) ((tellL (nameK k) (getK o k) 0).map atA):=wk_rawK o
 simp only[allR,datR,List.append_assoc,allS,kinds,stdT,List.nil_append,List.map_append]
 repeat' first|exact wk_cusR _ _|exact wkE_app2 (h _ rfl fun _ e=>by cases e) ?_|refine wkE_app2 (h _ rfl fun _ e=>by cases e) ?_
theorem raw_all (o:Ob):∀e∈allR o,RawOk e:=fun e he=>by
 simp only[allR,datR,List.mem_append] at he
 repeat' first|exact raw_K o _ e ‹_› |exact raw_cus _ _ e ‹_› |rcases he with he|he
set_option maxRecDepth 20000 in
theorem rall_sem {o:Ob} (ho:FitO o):SC 45 [obA o] (.fsl false ((allS o).map atA)):=by
 have hO:=closed_obC o
 have hcl:closedAll [obA o]=true:=closed_oc o (c:=[]) rfl
 have hT:=closed_rr
 have hn:=ho.n
 have hl:=ho.l
 have hcu:=ho.c
 have hnl:(rawK o .nam).length=o.names.length:=rTxs_len _ _ _
 have hll:(rawK o .lnk).length=o.links.length:=rLks_len _ _
 have na:(rawK o .alg).length≤1:=one_le
 have nl:(rawK o .len).length≤1:=one_le
 have nd:∀k,(rawK o (.dat k)).length≤1:=fun k=>one_le
 have nw:(rawK o .why).length≤1:=one_le
 have nm:(rawK o .lim).length≤1:=one_le
 have a1:(!beqInt o.alg 0)=true→rawK o .alg=[rNu (nameK .alg) 5 o.alg]:=fun e=>by simp only[rawK,e,oneR]
 have a0:(!beqInt o.alg 0)=false→rawK o .alg=[]:=fun e=>by simp only[rawK,e,oneR]
 have b1:(!beqInt o.len 0)=true→rawK o .len=[rNu (nameK .len) 2 o.len]:=fun e=>by simp only[rawK,e,oneR]
 have b0:(!beqInt o.len 0)=false→rawK o .len=[]:=fun e=>by simp only[rawK,e,oneR]
 have w1:(!beqInt o.why 0)=true→rawK o .why=[rKd (nameK .why) 0 (whyk o)]:=fun e=>by simp only[rawK,e,oneR]
 have w0:(!beqInt o.why 0)=false→rawK o .why=[]:=fun e=>by simp only[rawK,e,oneR]
 have m1:o.lh=true→rawK o .lim=[rKd (nameK .lim) 0 (limk o)]:=fun e=>by simp only[rawK,e,oneR]
 have m0:o.lh=false→rawK o .lim=[]:=fun e=>by simp only[rawK,e,oneR]
 obtain ⟨E0,hE0⟩:∃E,E=flat (rawK o .uid):=⟨_,rfl⟩
 obtain ⟨K0,hK0⟩:∃K,K=(rawK o .uid).length:=⟨_,rfl⟩
 have c0:closedAll E0=true:=by rw[hE0];exact raws_flat (raw_K _ _)
 have l0:E0.length=K0*7:=by rw[hE0,hK0];exact raws_len (raw_K _ _)
 obtain ⟨E1,hE1⟩:∃E,E=E0++flat (rawK o .nam):=⟨_,rfl⟩
 obtain ⟨K1,hK1⟩:∃K,K=K0+o.names.length:=⟨_,rfl⟩
 have c1:closedAll E1=true:=by rw[hE1,closedAll_append,c0,raws_flat (raw_K _ _)];rfl
 have l1:E1.length=K1*7:=by rw[hE1,hK1,List.length_append,l0,raws_len (raw_K _ _),hnl,Nat.add_mul]
 obtain ⟨E2,hE2⟩:∃E,E=E1++flat (rawK o .typ)++flat (rawK o .alg)++flat (rawK o .len)++flat (rawK o .mask)++flat (rawK o .sta):=⟨_,rfl⟩
 obtain ⟨K2,hK2⟩:∃K,K=K1+1+(rawK o .alg).length+(rawK o .len).length+1+1:=⟨_,rfl⟩
 have c2:closedAll E2=true:=by
  rw[hE2]
  simp only[closedAll_append,c1,raws_flat (raw_K o _),Bool.and_self]
 have l2:E2.length=K2*7:=by
  have h1:(rawK o .typ).length=1:=rfl
  have h2:(rawK o .mask).length=1:=rfl
  have h3:(rawK o .sta).length=1:=rfl
  rw[hE2,hK2]
  simp only[List.length_append,l1,raws_len (raw_K o _),h1,h2,h3]
  omega
 obtain ⟨E3,hE3⟩:∃E,E=E2++flat (rawK o (.dat 0))++flat (rawK o (.dat 1))++flat (rawK o (.dat 2))++flat (rawK o (.dat 3))++flat (rawK o (.dat 4))++flat (rawK o (.dat 5))++flat (rawK o (.dat 6))++flat (rawK o (.dat 7))++flat (rawK o (.dat 8))++flat (rawK o (.dat 9)):=⟨_,rfl⟩
 obtain ⟨K3,hK3⟩:∃K,K=K2+(rawK o (.dat 0)).length+(rawK o (.dat 1)).length+(rawK o (.dat 2)).length+(rawK o (.dat 3)).length+(rawK o (.dat 4)).length+(rawK o (.dat 5)).length+(rawK o (.dat 6)).length+(rawK o (.dat 7)).length+(rawK o (.dat 8)).length+(rawK o (.dat 9)).length:=⟨_,rfl⟩
 have c3:closedAll E3=true:=by
  rw[hE3]
  simp only[closedAll_append,c2,raws_flat (raw_K o _),Bool.and_self]
 have l3:E3.length=K3*7:=by
  rw[hE3,hK3]
  simp only[List.length_append,l2,raws_len (raw_K o _),Nat.add_mul]
 obtain ⟨E4,hE4⟩:∃E,E=E3++flat (rawK o .why):=⟨_,rfl⟩
 obtain ⟨K4,hK4⟩:∃K,K=K3+(rawK o .why).length:=⟨_,rfl⟩
 have c4:closedAll E4=true:=by rw[hE4,closedAll_append,c3,raws_flat (raw_K _ _)];rfl
 have l4:E4.length=K4*7:=by rw[hE4,hK4,List.length_append,l3,raws_len (raw_K _ _),Nat.add_mul]
 obtain ⟨E5,hE5⟩:∃E,E=E4++flat (rawK o .lnk):=⟨_,rfl⟩
 obtain ⟨K5,hK5⟩:∃K,K=K4+o.links.length:=⟨_,rfl⟩
 have c5:closedAll E5=true:=by rw[hE5,closedAll_append,c4,raws_flat (raw_K _ _)];rfl
 have l5:E5.length=K5*7:=by rw[hE5,hK5,List.length_append,l4,raws_len (raw_K _ _),hll,Nat.add_mul]
 obtain ⟨E6,hE6⟩:∃E,E=E5++flat (rawK o .lim):=⟨_,rfl⟩
 obtain ⟨K6,hK6⟩:∃K,K=K5+(rawK o .lim).length:=⟨_,rfl⟩
 have c6:closedAll E6=true:=by rw[hE6,closedAll_append,c5,raws_flat (raw_K _ _)];rfl
 have l6:E6.length=K6*7:=by rw[hE6,hK6,List.length_append,l5,raws_len (raw_K _ _),Nat.add_mul]
 obtain ⟨E7,hE7⟩:∃E,E=E6++flat (cusR [] o.cust):=⟨_,rfl⟩
 obtain ⟨K7,hK7⟩:∃K,K=K6+o.cust.length:=⟨_,rfl⟩
 have e7:E7=flat (allR o):=by
  rw[hE7,hE6,hE5,hE4,hE3,hE2,hE1,hE0]
  simp only[allR,datR,flat_append]
 have k7:K7=(allR o).length:=by
  rw[hK7,hK6,hK5,hK4,hK3,hK2,hK1,hK0]
  have h1:(rawK o .typ).length=1:=rfl
  have h2:(rawK o .mask).length=1:=rfl
  have h3:(rawK o .sta).length=1:=rfl
  simp only[allR,datR,List.length_append,hnl,hll,h1,h2,h3,cusR_len]
 have k0:K0=1:=hK0
 have n0:=nd 0
 have n1:=nd 1
 have n2:=nd 2
 have n3:=nd 3
 have n4:=nd 4
 have n5:=nd 5
 have n6:=nd 6
 have n7:=nd 7
 have n8:=nd 8
 have n9:=nd 9
 refine fnK_semX (A:=aidC (aidJ [] [(5,raLn (.ofNat o.names.length) K0 K1 (obC o) E0 E1),(17,raLd (kinds.map rrA) K2 K3 (obC o) E2 E3),(27,raLl (.ofNat o.links.length) K4 K5 (obC o) E4 E5),(33,raLc (.ofNat o.cust.length) K6 K7 (obC o) E6 E7)] (manyS [(95,.fsl true (kinds.map rrA))]) raI raJ) 24 20 (raVw K3 (obC o) E3 (whyk o))) base0 (aidC_ok aidJ_ok)
  (fnLs_of (ls4 rfl ra_at5 ra_at17 ra_at27 ra_at33 (fun st Q hs=> .seen base0.glob hs.1 ?_) (fun st Q hs=> .seen base0.glob hs.1 ?_) (fun st Q hs=> .seen base0.glob hs.1 ?_) (fun st Q hs=> .seen base0.glob hs.1 ?_))) hcl ?_
 ·have hq:=hs.2
  rw[hE1,hK1] at hq
  have:=rn_run l0 c0 (by omega) (by omega) hq o.names.length 0 (Nat.zero_add _)
  rw[show o.names.take 0=[] from List.take_zero,show flat (rTxs (nameK .nam) [] 0)=[] from rfl,List.append_nil] at this
  exact this
 ·have hq:=hs.2
  rw[hE3,hK3] at hq
  exact rd_run c2 l2 (by omega) hq
 ·have hq:=hs.2
  rw[hE5,hK5] at hq
  have:=rl_run l4 c4 (by omega) (by omega) hq o.links.length 0 (Nat.zero_add _)
  rw[show o.links.take 0=[] from List.take_zero,show flat (rLks [] 0)=[] from rfl,List.append_nil] at this
  exact this
 ·have hq:=hs.2
  rw[hE7,hK7] at hq
  have:=rc_run l6 c6 (by omega) (by omega) hq o.cust.length 0 (Nat.zero_add _)
  rw[show o.cust.take 0=[] from List.take_zero,show flat (cusR [] [])=[] from rfl,List.append_nil] at this
  exact this
 ·have hw:=wk_all o
  have hr:=raw_all o
  revert e7 k7 hw hr
  generalize allR o=AR
  intro e7 k7 hw hr
  have hend:endX (.fsl false ((allS o).map atA)) (.rsl true 2 0 K7 7) [(0,some (.cells (obC o))),(1,some (.cells [.rsl true 2 0 K7 7])),(2,some (.cells E7))]:=
   ⟨.fsl false AR,(Frz.row rfl rfl e7 k7 (fun e he=>(hr e he).g) (raws_closed hr)).out,closed_fslA (raws_closed hr),.rows hw⟩
  unfold obA obC namA lnkA cusA at*
  rw[ra_fn]
  intro R1 R2 R3
  have h1:R1:=by
   refine mtB_of (fun e=> ?_) (fun e=> ?_)
   ·have q:=ask1 (k:=K5) (raw_lim o) rfl (by omega)
    have q2:=ask2 l5
    have q3:K6=K5+lenN [rKd (nameK .lim) 0 (limk o)]:=by rw[hK6,m1 e];rfl
    have q4:E5++flat [rKd (nameK .lim) 0 (limk o)]=E6:=by rw[hE6,m1 e]
    refine oblB_of q ?_
    refine oblB_of q2 ?_
    refine ⟨?_,hend⟩
    exact ⟨⟨⟨rfl,rfl⟩,trivial⟩,⟨⟨rfl,rfl⟩,⟨rfl,rfl⟩,trivial⟩,⟨rfl,hO⟩,⟨⟨rfl,rfl,rfl,q3,rfl⟩,trivial⟩,⟨q4,c6⟩,trivial⟩
   ·have q3:K6=K5:=by rw[hK6,m0 e];rfl
    have q4:E5=E6:=by rw[hE6,m0 e];exact (List.append_nil _).symm
    refine ⟨?_,hend⟩
    exact ⟨⟨⟨rfl,rfl⟩,trivial⟩,⟨⟨rfl,rfl⟩,⟨rfl,rfl⟩,trivial⟩,⟨rfl,hO⟩,⟨⟨rfl,rfl,rfl,q3,rfl⟩,trivial⟩,⟨q4,c6⟩,trivial⟩
  have h2:(!beqInt o.why 0)=true→R2:=fun ew=>by
   have q:=ask1 (k:=K3) (raw_why o) (by unfold whyk;split<;>rfl) (by omega)
   have q2:=ask2 l3
   have hfit:fitsT Tryz.prog 37 (.agg [I 4325387,I 1,I 0,.nilsl,whyk o]) 5=true:=fits_agg (by kernel_rfl) rfl (by unfold whyk;split<;>rfl)
   have hfit:(fitsT Tryz.prog 37 (.agg [I 4325387,I 1,I 0,.nilsl,whyk o]) 5&&true)=true:=by rw[hfit];rfl
   have q3:K4=K3+lenN [rKd (nameK .why) 0 (whyk o)]:=by rw[hK4,w1 ew];rfl
   have q4:E3++flat [rKd (nameK .why) 0 (whyk o)]=E4:=by rw[hE4,w1 ew]
   refine mtB_of (fun e=> ?_) (fun e=> ?_)
   ·have hk:whyk o= .fsl false [.agg [I 4325506,I 5,I o.why,.nilsl,.nilsl],.agg [I 4325504,I 7,I 0,.fsl false (toBytes o.msg),.nilsl]]:=by
     unfold whyk
     rw[Bool.not_eq_true'] at e
     rw[e]
    refine ⟨⟨⟨.keepP rfl,.keepP rfl,.keepP rfl,trivial⟩,FrzL.closed _ hO,FrzL.cons (.keepR rfl) .nil,FrzL.closed _ c3,FrzL.cons (.closed _ rfl) (FrzL.cons (.closed _ rfl) (FrzL.cons (.closed _ rfl) (FrzL.cons (.closed _ rfl) (FrzL.cons ?_ .nil)))),trivial⟩,oblB_of hfit (oblB_of q (oblB_of q2 ⟨?_,h1⟩))⟩
    ·rw[hk]
     refine Frz.row (es:=[.agg [I 4325506,I 5,I o.why,.nilsl,.nilsl],.agg [I 4325504,I 7,I 0,.fsl false (toBytes o.msg),.nilsl]]) rfl rfl rfl rfl (fun e he=> ?_) (by simp[closedA,closedAll])
     simp only[List.mem_cons,List.not_mem_nil,or_false] at he
     rcases he with rfl|rfl<;>exact ⟨rfl,rfl⟩
    ·exact ⟨⟨⟨rfl,rfl⟩,trivial⟩,⟨⟨rfl,rfl⟩,⟨rfl,rfl⟩,trivial⟩,⟨rfl,hO⟩,⟨⟨rfl,rfl,rfl,q3,rfl⟩,trivial⟩,⟨q4,c4⟩,trivial⟩
   ·have hk:whyk o= .fsl true [.agg [I 4325506,I 5,I o.why,.nilsl,.nilsl]]:=by
     unfold whyk
     rw[Bool.not_eq_false'] at e
     rw[e]
    refine ⟨⟨⟨.keepP rfl,.keepP rfl,.keepP rfl,trivial⟩,FrzL.closed _ hO,FrzL.cons (.keepR rfl) .nil,FrzL.closed _ c3, ?_,trivial⟩,oblB_of hfit (oblB_of q (oblB_of q2 ⟨?_,h1⟩))⟩
    ·rw[hk]
     exact FrzL.closed _ rfl
    ·exact ⟨⟨⟨rfl,rfl⟩,trivial⟩,⟨⟨rfl,rfl⟩,⟨rfl,rfl⟩,trivial⟩,⟨rfl,hO⟩,⟨⟨rfl,rfl,rfl,q3,rfl⟩,trivial⟩,⟨q4,c4⟩,trivial⟩
  have h3:R3:=by
   refine mtB_of (fun e=>h2 e) (fun e=> ?_)
   have q3:K4=K3:=by rw[hK4,w0 e];rfl
   have q4:E3=E4:=by rw[hE4,w0 e];exact (List.append_nil _).symm
   refine ⟨?_,h1⟩
   exact ⟨⟨⟨rfl,rfl⟩,trivial⟩,⟨⟨rfl,rfl⟩,⟨rfl,rfl⟩,trivial⟩,⟨rfl,hO⟩,⟨⟨rfl,rfl,rfl,q3,rfl⟩,trivial⟩,⟨q4,c4⟩,trivial⟩
  have ln:∀x:AV,lenN [x]=1:=fun _=>rfl
  have fl:∀x:AV,(flat [x]).length=x.cells.length:=fun x=>by simp[flat]
  have ql:∀ {B:List AV} {k:Nat} {e:AV},B.length=k*7→RawOk e→(B++flat [e]).length=(k+lenN [e])*7:=fun {B} {k} {e} h r=>by
   rw[List.length_append,h,fl,r.l,ln,Nat.add_mul]
  have qt:=raw_nu (nameK .typ) 5 o.ty
  have qa:=raw_nu (nameK .alg) 5 o.alg
  have qn:=raw_nu (nameK .len) 2 o.len
  have qm:=raw_nu (nameK .mask) 2 o.mask
  have qs:=raw_nu (nameK .sta) 5 o.st
  have z0:E2=E1++flat [rNu (nameK .typ) 5 o.ty]++flat (rawK o .alg)++flat (rawK o .len)++flat [rNu (nameK .mask) 2 o.mask]++flat [rNu (nameK .sta) 5 o.st]:=hE2
  have fn:flat ([]:List AV)=[]:=rfl
  refine ⟨⟨⟨⟨rfl,rfl⟩,trivial⟩,⟨⟨rfl,rfl⟩,⟨rfl,rfl⟩,trivial⟩,⟨rfl,hO⟩,⟨⟨rfl,rfl,rfl,k0,rfl⟩,trivial⟩,⟨hE0.symm,c0⟩,trivial⟩,oblB_of (ask1 qt rfl (by omega)) (oblB_of (ask2 l1) (mtB_of (fun e=> ?_) (fun e=> ?_)))⟩
  ·refine oblB_of (ask1 qa rfl (by simp only[ln];omega)) (oblB_of (ask2 (ql l1 qt)) (mtB_of (fun e2=> ?_) (fun e2=> ?_)))
   ·rw[a1 e,b1 e2] at z0
    have z1:K2=K1+lenN [rNu (nameK .typ) 5 o.ty]+lenN [rNu (nameK .alg) 5 o.alg]+lenN [rNu (nameK .len) 2 o.len]+lenN [rNu (nameK .mask) 2 o.mask]+lenN [rNu (nameK .sta) 5 o.st]:=by
     rw[hK2,a1 e,b1 e2];rfl
    exact oblB_of (ask1 qn rfl (by simp only[ln];omega)) (oblB_of (ask2 (ql (ql l1 qt) qa)) (oblB_of (ask1 qm rfl (by simp only[ln];omega)) (oblB_of (ask2 (ql (ql (ql l1 qt) qa) qn)) (oblB_of (ask1 qs rfl (by simp only[ln];omega)) (oblB_of (ask2 (ql (ql (ql (ql l1 qt) qa) qn) qm)) (⟨rrows_sem,⟨⟨⟨rfl,hT⟩,⟨rfl,rfl⟩,trivial⟩,⟨⟨rfl,rfl⟩,⟨rfl,rfl⟩,trivial⟩,⟨rfl,hO⟩,⟨⟨rfl,rfl,rfl,z1,rfl⟩,trivial⟩,⟨z0.symm,c2⟩,trivial⟩,h3⟩))))))
   ·rw[a1 e,b0 e2,fn] at z0
    simp only[List.append_nil] at z0
    have z1:K2=K1+lenN [rNu (nameK .typ) 5 o.ty]+lenN [rNu (nameK .alg) 5 o.alg]+lenN [rNu (nameK .mask) 2 o.mask]+lenN [rNu (nameK .sta) 5 o.st]:=by
     rw[hK2,a1 e,b0 e2];rfl
    exact oblB_of (ask1 qm rfl (by simp only[ln];omega)) (oblB_of (ask2 (ql (ql l1 qt) qa)) (oblB_of (ask1 qs rfl (by simp only[ln];omega)) (oblB_of (ask2 (ql (ql (ql l1 qt) qa) qm)) (⟨rrows_sem,⟨⟨⟨rfl,hT⟩,⟨rfl,rfl⟩,trivial⟩,⟨⟨rfl,rfl⟩,⟨rfl,rfl⟩,trivial⟩,⟨rfl,hO⟩,⟨⟨rfl,rfl,rfl,z1,rfl⟩,trivial⟩,⟨z0.symm,c2⟩,trivial⟩,h3⟩))))
  ·refine mtB_of (fun e2=> ?_) (fun e2=> ?_)
   ·rw[a0 e,b1 e2,fn] at z0
    simp only[List.append_nil] at z0
    have z1:K2=K1+lenN [rNu (nameK .typ) 5 o.ty]+lenN [rNu (nameK .len) 2 o.len]+lenN [rNu (nameK .mask) 2 o.mask]+lenN [rNu (nameK .sta) 5 o.st]:=by
     rw[hK2,a0 e,b1 e2];rfl
    exact oblB_of (ask1 qn rfl (by simp only[ln];omega)) (oblB_of (ask2 (ql l1 qt)) (oblB_of (ask1 qm rfl (by simp only[ln];omega)) (oblB_of (ask2 (ql (ql l1 qt) qn)) (oblB_of (ask1 qs rfl (by simp only[ln];omega)) (oblB_of (ask2 (ql (ql (ql l1 qt) qn) qm)) (⟨rrows_sem,⟨⟨⟨rfl,hT⟩,⟨rfl,rfl⟩,trivial⟩,⟨⟨rfl,rfl⟩,⟨rfl,rfl⟩,trivial⟩,⟨rfl,hO⟩,⟨⟨rfl,rfl,rfl,z1,rfl⟩,trivial⟩,⟨z0.symm,c2⟩,trivial⟩,h3⟩))))))
   ·rw[a0 e,b0 e2,fn] at z0
    simp only[List.append_nil] at z0
    have z1:K2=K1+lenN [rNu (nameK .typ) 5 o.ty]+lenN [rNu (nameK .mask) 2 o.mask]+lenN [rNu (nameK .sta) 5 o.st]:=by
     rw[hK2,a0 e,b0 e2];rfl
    exact oblB_of (ask1 qm rfl (by simp only[ln];omega)) (oblB_of (ask2 (ql l1 qt)) (oblB_of (ask1 qs rfl (by simp only[ln];omega)) (oblB_of (ask2 (ql (ql l1 qt) qm)) (⟨rrows_sem,⟨⟨⟨rfl,hT⟩,⟨rfl,rfl⟩,trivial⟩,⟨⟨rfl,rfl⟩,⟨rfl,rfl⟩,trivial⟩,⟨rfl,hO⟩,⟨⟨rfl,rfl,rfl,z1,rfl⟩,trivial⟩,⟨z0.symm,c2⟩,trivial⟩,h3⟩))))
noncomputable section
def roV0 (s:List UInt8) (i:Int) (Ls:List AV):View:=⟨[(1,.str s),(5,.nilsl),(6,.fsl false Ls),(7,I i)],[],[],0,31⟩
def roV1 (s:List UInt8) (i:Int) (k:Nat) (Ls es:List AV):View:=⟨[(1,.str s),(6,.fsl false Ls),(7,I i)],[(5,.rsl true 0 0 k 7)],[(0,.cells es,.whole)],1,31⟩
@[simp] abbrev zp1 (Ls:List AV):=(AV.fsl false Ls=AV.fsl false Ls∧closedA (AV.fsl false Ls)=true)
abbrev zp2 (D K:List AV) (a q t y:Int) (n:List UInt8):=[AV.str n,I a,I t,I y,I q,AV.fsl false D,AV.fsl false K]
@[simp] abbrev zp3 (s:List UInt8):=(AV.str s=AV.str s∧closedA (AV.str s)=true)
@[simp] abbrev zp4:=(AV.nilsl=AV.nilsl∧true=true)
theorem ro_00 (s n:List UInt8) (a t y q:Int) (D K Ls:List AV) (i j:Int) (N:Prop) (Q:AExit→St→Prop):wpK Tryz.prog opts0 40 (aidJ [(6,2,.res (.fptr (.str n::I a::itF t y q D K) 0)),(6,6,.res (.bool false))] [] noSem [] []) (lpCode Tryz.prog 17 5) (roV0 s i Ls).st (roundP 0 [] (roV0 s j Ls) N [] (roV0 s i Ls) Q)=
  (mtB (ltInt i (Int.ofNat (lenN Ls))) (indexAddrA Tryz.prog 43 (AV.fsl false Ls) (I i)=some (AV.fptr (zp2 D K a q t y n) 0)∧binA Tryz.prog BinOp.eql 9 (Operand.tmp 20) (Operand.tmp 21) (AV.str n) (AV.str s)=some (AV.bool false)∧(((zp3 s)∧zp4∧(zp1 Ls)∧(I (wrapA IntKind.i64 (i+1))=I j∧closedA (I j)=true)∧True)∧True∧True)∧N) ((((zp3 s)∧zp4∧(zp1 Ls)∧(I i=I i∧closedA (I i)=true)∧True)∧True∧True)∧Q (AExit.exit 0) (roV0 s i Ls).st)):=by kernel_rfl
abbrev zp6 (D K:List AV) (a q t y:Int) (n:List UInt8):=(aidJ [(6,2,.res (AV.fptr (AV.str n::I a::itF t y q D K) 0)),(6,6,.res (AV.bool true)),(7,3,.res (AV.fptr (AV.str n::I a::itF t y q D K) 0))] [] noSem [] [])
theorem ro_01 (s n:List UInt8) (a t y q:Int) (D K Ls es:List AV) (i j:Int) (k:Nat) (N:Prop) (Q:AExit→St→Prop):wpK Tryz.prog opts0 40 (zp6 D K a q t y n) (lpCode Tryz.prog 17 5) (roV0 s i Ls).st (roundP 0 [(0,17)] (roV1 s j k Ls es) N [] (roV0 s i Ls) Q)=
  (mtB (ltInt i (Int.ofNat (lenN Ls))) (indexAddrA Tryz.prog 43 (AV.fsl false Ls) (I i)=some (AV.fptr (zp2 D K a q t y n) 0)∧binA Tryz.prog BinOp.eql 9 (Operand.tmp 20) (Operand.tmp 21) (AV.str n) (AV.str s)=some (AV.bool true)∧indexAddrA Tryz.prog 43 (AV.fsl false Ls) (I i)=some (AV.fptr (zp2 D K a q t y n) 0)∧(((zp3 s)∧(zp1 Ls)∧(I (wrapA IntKind.i64 (i+1))=I j∧closedA (I j)=true)∧True)∧((true=true∧some 17=some 17∧0=0∧k=lenN [AV.agg (zp2 D K a q t y n)]∧7=7)∧True)∧(flat [AV.agg (zp2 D K a q t y n)]=es∧closedAll es=true)∧True)∧N) ((((zp3 s)∧zp4∧(zp1 Ls)∧(I i=I i∧closedA (I i)=true)∧True)∧True∧True)∧Q (AExit.exit 0) (roV0 s i Ls).st)):=by kernel_rfl
@[simp] abbrev zp5 (Ls es:List AV) (Q:AExit→St→Prop) (i:Int) (k:Nat) (s:List UInt8):=((((zp3 s)∧(zp1 Ls)∧(I i=I i∧closedA (I i)=true)∧True)∧((true=true∧some 0=some 0∧0=0∧k=k∧7=7)∧True)∧(es=es∧closedAll es=true)∧True)∧Q (AExit.exit 0) (roV1 s i k Ls es).st)
theorem ro_10 (s n:List UInt8) (a t y q:Int) (D K Ls es:List AV) (i j:Int) (k:Nat) (N:Prop) (Q:AExit→St→Prop):wpK Tryz.prog opts0 40 (aidJ [(6,2,.res (.fptr (.str n::I a::itF t y q D K) 0)),(6,6,.res (.bool false))] [] noSem [] []) (lpCode Tryz.prog 17 5) (roV1 s i k Ls es).st (roundP 0 [(0,0)] (roV1 s j k Ls es) N [(0,0)] (roV1 s i k Ls es) Q)=
  (mtB (ltInt i (Int.ofNat (lenN Ls))) (indexAddrA Tryz.prog 43 (AV.fsl false Ls) (I i)=some (AV.fptr (zp2 D K a q t y n) 0)∧binA Tryz.prog BinOp.eql 9 (Operand.tmp 20) (Operand.tmp 21) (AV.str n) (AV.str s)=some (AV.bool false)∧(((zp3 s)∧(zp1 Ls)∧(I (wrapA IntKind.i64 (i+1))=I j∧closedA (I j)=true)∧True)∧((true=true∧some 0=some 0∧0=0∧k=k∧7=7)∧True)∧(es=es∧closedAll es=true)∧True)∧N) (zp5 Ls es Q i k s)):=by kernel_rfl
theorem ro_11 (s n:List UInt8) (a t y q:Int) (D K Ls es es':List AV) (i j:Int) (k k':Nat) (N:Prop) (Q:AExit→St→Prop):wpK Tryz.prog opts0 40 (zp6 D K a q t y n) (lpCode Tryz.prog 17 5) (roV1 s i k Ls es).st (roundP 0 [(0,18)] (roV1 s j k' Ls es') N [(0,0)] (roV1 s i k Ls es) Q)=
  (mtB (ltInt i (Int.ofNat (lenN Ls))) (indexAddrA Tryz.prog 43 (AV.fsl false Ls) (I i)=some (AV.fptr (zp2 D K a q t y n) 0)∧binA Tryz.prog BinOp.eql 9 (Operand.tmp 20) (Operand.tmp 21) (AV.str n) (AV.str s)=some (AV.bool true)∧indexAddrA Tryz.prog 43 (AV.fsl false Ls) (I i)=some (AV.fptr (zp2 D K a q t y n) 0)∧oblB (allSize 7 [AV.agg (zp2 D K a q t y n)]&&(((k+lenN [AV.agg (zp2 D K a q t y n)])*96).ble 140737488355328&&(allOne (flat [AV.agg (zp2 D K a q t y n)])&&true))) (oblB ((lenN es).beq (k*7)) ((((zp3 s)∧(zp1 Ls)∧(I (wrapA IntKind.i64 (i+1))=I j∧closedA (I j)=true)∧True)∧((true=true∧some 18=some 18∧0=0∧k'=k+lenN [AV.agg (zp2 D K a q t y n)]∧7=7)∧True)∧(es++flat [AV.agg (zp2 D K a q t y n)]=es'∧closedAll es'=true)∧True)∧N))) (zp5 Ls es Q i k s)):=by kernel_rfl
def roL0 (s:List UInt8) (n:Int) (Ls:List AV):LoopS:=fun st Q=>seesK 0 [] (roV0 s 0 Ls) st∧Q (.exit 0) (roV0 s n Ls).st
def roL1 (s:List UInt8) (n:Int) (k:Nat) (Ls es:List AV):LoopS:=fun st Q=>seesK 0 [] (roV0 s 0 Ls) st∧Q (.exit 0) (roV1 s n k Ls es).st
theorem ro_fn0 (s:List UInt8) (n:Int) (Ls:List AV) (o:Ob) (M N L C:AV) (Q:AV→Heap→Prop):fnK Tryz.prog opts0 40 (aidJ [] [(5,roL0 s n Ls)] (manyS [(45,.fsl false Ls)]) [] []) 17 [.agg (obF o M N L C),.str s] [] 0 (fun v H _=>Q v H)=
  (SC 45 [AV.agg (obF o M N L C)] (AV.fsl false Ls)∧(((zp3 s)∧zp4∧(zp1 Ls)∧(I 0=I 0∧true=true)∧True)∧True∧True)∧Q AV.nilsl []):=by kernel_rfl
theorem ro_fn1 (s:List UInt8) (n:Int) (k:Nat) (Ls es:List AV) (o:Ob) (M N L C:AV) (Q:AV→Heap→Prop):fnK Tryz.prog opts0 40 (aidJ [] [(5,roL1 s n k Ls es)] (manyS [(45,.fsl false Ls)]) [] []) 17 [.agg (obF o M N L C),.str s] [] 0 (fun v H _=>Q v H)=
  (SC 45 [AV.agg (obF o M N L C)] (AV.fsl false Ls)∧(((zp3 s)∧zp4∧(zp1 Ls)∧(I 0=I 0∧true=true)∧True)∧True∧True)∧Q (AV.rsl true 0 0 k 7) [(0,some (Blk.cells es))]):=by kernel_rfl
end
end Go.Proofs.YtjhggnebkfpgcaaGreatDoor
namespace Go.Proofs.YtjhggnebkfpgcaaGreatDoor
set_option maxRecDepth 20000
open Go Go.RowKit
open Go.Proofs.Abs
theorem eql_str (a b:Tmp) (x y:List UInt8):binA Tryz.prog .eql 9 (.tmp a) (.tmp b) (.str x) (.str y)=some (.bool (beqBytes x y)):=by kernel_rfl
theorem idAtt {f:Bool} {l:List At} {i:Nat} {s:List UInt8} {k t y n:Int} {d:List UInt8} {ks:List It} (hx:l[i]? =some ⟨s,k,.mk t y n d ks⟩):indexAddrA Tryz.prog 43 (.fsl f (l.map atA)) (.int .i64 (.ofNat i))=some (.fptr (.str s::I k::itF t y n (toBytes d) (itAs ks)) 0):=
 fsl_index (v:=atA ⟨s,k,.mk t y n d ks⟩) (e:=39) (sz:=7) (by kernel_rfl) (by kernel_rfl) (by rw[List.getElem?_map,hx];rfl) rfl
noncomputable def roV (s:List UInt8) (i:Int) (Ls:List AV):List At→View
 |[]=>roV0 s i Ls
 |a::r=>roV1 s i (r.length+1) Ls (flat ((a::r).map atA))
theorem ofN_snoc (s:List UInt8) (l:List At) (a:At):ofN s (l++[a])=ofN s l++(match beqBytes a.name s with|true=>[a]|false=>[]):=by
 unfold ofN
 rw[List.filter_append,List.filter_cons]
 cases beqBytes a.name s<;>rfl
theorem ro_run {s:List UInt8} {L:List At} {Q:AExit→St→Prop} (hb:L.length≤90000) (hq:Q (.exit 0) (roV s (.ofNat L.length) (L.map atA) (ofN s L)).st):
  ∀m i:Nat,i+m=L.length→ALp Tryz.prog opts0.glob 0 (lpCode Tryz.prog 17 5) (roV s (.ofNat i) (L.map atA) (ofN s (L.take i))).st Q:=by
 have hL:=closed_ats L
 have hlen:lenN (L.map atA)=L.length:=by rw[lenN_eq,List.length_map]
 intro m
 induction m with
 | zero=>
  intro i hi
  rw[Nat.add_zero] at hi
  subst hi
  rw[List.take_of_length_le (Nat.le_refl _)]
  revert hq
  generalize ofN s L=out
  intro hq
  have hno:ltInt (Int.ofNat L.length) (Int.ofNat (lenN (L.map atA)))=true→False:=fun e=>ltE (hlen▸e)
  match out,hq with
  |[],hq=>
   refine ALp.round (A:=aidJ [(6,2,.res (.fptr (.str []::I 0::itF 0 0 0 [] []) 0)),(6,6,.res (.bool false))] [] noSem [] []) (V1:=roV0 s 0 (L.map atA)) (V2:=roV0 s 0 (L.map atA)) (F:=roV0 s (.ofNat L.length) (L.map atA)) (lk:=[]) (lk':=[]) base0 aidJ_ok (LsOk.no rfl) .refl ?_
   show wpK Tryz.prog opts0 40 _ _ (roV0 s (.ofNat L.length) (L.map atA)).st _
   rw[ro_00]
   exact mtB_of (fun e=>(hno e).elim) fun _=>⟨⟨⟨⟨rfl,rfl⟩,⟨rfl,rfl⟩,⟨rfl,hL⟩,⟨rfl,rfl⟩,trivial⟩,trivial,trivial⟩,hq⟩
  |a::r,hq=>
   have hc:=closed_fat (a::r)
   refine ALp.round (A:=aidJ [(6,2,.res (.fptr (.str []::I 0::itF 0 0 0 [] []) 0)),(6,6,.res (.bool false))] [] noSem [] []) (V1:=roV1 s 0 (r.length+1) (L.map atA) (flat ((a::r).map atA))) (V2:=roV1 s 0 (r.length+1) (L.map atA) (flat ((a::r).map atA))) (F:=roV1 s (.ofNat L.length) (r.length+1) (L.map atA) (flat ((a::r).map atA))) (lk:=[(0,0)]) (lk':=[(0,0)]) base0 aidJ_ok (LsOk.no rfl) .refl ?_
   show wpK Tryz.prog opts0 40 _ _ (roV1 s (.ofNat L.length) (r.length+1) (L.map atA) (flat ((a::r).map atA))).st _
   rw[ro_10]
   exact mtB_of (fun e=>(hno e).elim) fun _=>⟨⟨⟨⟨rfl,rfl⟩,⟨rfl,hL⟩,⟨rfl,rfl⟩,trivial⟩,⟨⟨rfl,rfl,rfl,rfl,rfl⟩,trivial⟩,⟨rfl,hc⟩,trivial⟩,hq⟩
 | succ m ih=>
  intro i hi
  have hlt:i<L.length:=by omega
  have g:=List.getElem?_eq_getElem hlt
  have ih:=ih (i+1) (by omega)
  rw[take_snoc g,ofN_snoc] at ih
  have htl:(ofN s (L.take i)).length≤90000:=by
   have h1:=List.length_filter_le (fun a:At=>beqBytes a.name s) (L.take i)
   have h2:(L.take i).length≤L.length:=List.length_take_le' i L
   exact Nat.le_trans h1 (Nat.le_trans h2 hb)
  revert g ih htl
  generalize L[i]=a
  generalize ofN s (L.take i)=out
  obtain ⟨n,idx,⟨t,y,q,d,ks⟩⟩:=a
  intro g ih htl
  have gx:=idAtt (f:=false) g
  have hw:=wrN (p:=i) (by omega)
  have hyes:∀e:ltInt (Int.ofNat i) (Int.ofNat (lenN (L.map atA)))=false,False:=fun e=>lt_no hlt (hlen▸e)
  have he:=eql_str 20 21 n s
  simp only at ih
  cases hx:beqBytes n s with
  | false=>
   rw[hx] at ih he
   rw[List.append_nil] at ih
   match out,ih with
   |[],ih=>
    refine ALp.round (A:=aidJ [(6,2,.res (.fptr (.str n::I idx::itF t y q (toBytes d) (itAs ks)) 0)),(6,6,.res (.bool false))] [] noSem [] []) (V1:=roV0 s (.ofNat (i+1)) (L.map atA)) (V2:=roV0 s (.ofNat (i+1)) (L.map atA)) (F:=roV0 s (.ofNat i) (L.map atA)) (lk:=[]) (lk':=[]) base0 aidJ_ok (LsOk.no rfl) .refl ?_
    show wpK Tryz.prog opts0 40 _ _ (roV0 s (.ofNat i) (L.map atA)).st _
    rw[ro_00,hw]
    exact mtB_of (fun _=>⟨gx,he,⟨⟨⟨rfl,rfl⟩,⟨rfl,rfl⟩,⟨rfl,hL⟩,⟨rfl,rfl⟩,trivial⟩,trivial,trivial⟩,ih⟩) fun e=>(hyes e).elim
   |b::r,ih=>
    have hc:=closed_fat (b::r)
    refine ALp.round (A:=aidJ [(6,2,.res (.fptr (.str n::I idx::itF t y q (toBytes d) (itAs ks)) 0)),(6,6,.res (.bool false))] [] noSem [] []) (V1:=roV1 s (.ofNat (i+1)) (r.length+1) (L.map atA) (flat ((b::r).map atA))) (V2:=roV1 s (.ofNat (i+1)) (r.length+1) (L.map atA) (flat ((b::r).map atA))) (F:=roV1 s (.ofNat i) (r.length+1) (L.map atA) (flat ((b::r).map atA))) (lk:=[(0,0)]) (lk':=[(0,0)]) base0 aidJ_ok (LsOk.no rfl) .refl ?_
    show wpK Tryz.prog opts0 40 _ _ (roV1 s (.ofNat i) (r.length+1) (L.map atA) (flat ((b::r).map atA))).st _
    rw[ro_10,hw]
    exact mtB_of (fun _=>⟨gx,he,⟨⟨⟨rfl,rfl⟩,⟨rfl,hL⟩,⟨rfl,rfl⟩,trivial⟩,⟨⟨rfl,rfl,rfl,rfl,rfl⟩,trivial⟩,⟨rfl,hc⟩,trivial⟩,ih⟩) fun e=>(hyes e).elim
  | true=>
   rw[hx] at ih he
   match out,ih,htl with
   |[],ih,_=>
    have hc:=closed_fat [⟨n,idx,.mk t y q d ks⟩]
    refine ALp.round (A:=aidJ [(6,2,.res (.fptr (.str n::I idx::itF t y q (toBytes d) (itAs ks)) 0)),(6,6,.res (.bool true)),(7,3,.res (.fptr (.str n::I idx::itF t y q (toBytes d) (itAs ks)) 0))] [] noSem [] []) (V1:=roV1 s (.ofNat (i+1)) 1 (L.map atA) (flat ([(⟨n,idx,.mk t y q d ks⟩:At)].map atA))) (V2:=roV1 s (.ofNat (i+1)) 1 (L.map atA) (flat ([(⟨n,idx,.mk t y q d ks⟩:At)].map atA))) (F:=roV0 s (.ofNat i) (L.map atA)) (lk:=[(0,17)]) (lk':=[]) base0 aidJ_ok (LsOk.no rfl) .refl ?_
    show wpK Tryz.prog opts0 40 _ _ (roV0 s (.ofNat i) (L.map atA)).st _
    rw[ro_01,hw]
    exact mtB_of (fun _=>⟨gx,he,gx,⟨⟨⟨rfl,rfl⟩,⟨rfl,hL⟩,⟨rfl,rfl⟩,trivial⟩,⟨⟨rfl,rfl,rfl,rfl,rfl⟩,trivial⟩,⟨rfl,hc⟩,trivial⟩,ih⟩) fun e=>(hyes e).elim
   |b::r,ih,htl=>
    have e1:flat ((b::r++[(⟨n,idx,.mk t y q d ks⟩:At)]).map atA)=flat ((b::r).map atA)++flat [.agg [.str n,I idx,I t,I y,I q,.fsl false (toBytes d),.fsl false (itAs ks)]]:=by rw[List.map_append,flat_append];rfl
    have e2:(r++[(⟨n,idx,.mk t y q d ks⟩:At)]).length+1=r.length+1+1:=by rw[List.length_append];rfl
    have hc:=closed_fat (b::r++[(⟨n,idx,.mk t y q d ks⟩:At)])
    have hfl:=flat_at (b::r)
    have ih:ALp Tryz.prog opts0.glob 0 (lpCode Tryz.prog 17 5) (roV1 s (.ofNat (i+1)) ((r++[(⟨n,idx,.mk t y q d ks⟩:At)]).length+1) (L.map atA) (flat ((b::r++[(⟨n,idx,.mk t y q d ks⟩:At)]).map atA))).st Q:=ih
    rw[e1] at ih hc
    rw[e2] at ih
    rw[List.length_cons] at htl hfl
    refine ALp.round (A:=aidJ [(6,2,.res (.fptr (.str n::I idx::itF t y q (toBytes d) (itAs ks)) 0)),(6,6,.res (.bool true)),(7,3,.res (.fptr (.str n::I idx::itF t y q (toBytes d) (itAs ks)) 0))] [] noSem [] []) (V1:=roV1 s (.ofNat (i+1)) (r.length+1+1) (L.map atA) (flat ((b::r).map atA)++flat [.agg [.str n,I idx,I t,I y,I q,.fsl false (toBytes d),.fsl false (itAs ks)]])) (V2:=roV1 s (.ofNat (i+1)) (r.length+1+1) (L.map atA) (flat ((b::r).map atA)++flat [.agg [.str n,I idx,I t,I y,I q,.fsl false (toBytes d),.fsl false (itAs ks)]])) (F:=roV1 s (.ofNat i) (r.length+1) (L.map atA) (flat ((b::r).map atA))) (lk:=[(0,18)]) (lk':=[(0,0)]) base0 aidJ_ok (LsOk.no rfl) .refl ?_
    show wpK Tryz.prog opts0 40 _ _ (roV1 s (.ofNat i) (r.length+1) (L.map atA) (flat ((b::r).map atA))).st _
    rw[ro_11,hw]
    refine mtB_of (fun _=>⟨gx,he,gx,oblB_of ?_ (oblB_of (ask2 hfl) ⟨⟨⟨⟨rfl,rfl⟩,⟨rfl,hL⟩,⟨rfl,rfl⟩,trivial⟩,⟨⟨rfl,rfl,rfl,rfl,rfl⟩,trivial⟩,⟨rfl,hc⟩,trivial⟩,ih⟩)⟩) fun e=>(hyes e).elim
    simp[allSize,allOne,flat,AV.cells,lenN]
    omega
theorem ro_at:loopsAt (fnCode Tryz.prog 17) 5=[lpCode Tryz.prog 17 5]:=by kernel_rfl
theorem rof_sem {o:Ob} (ho:FitO o) (hb:(allS o).length≤90000) (s:List UInt8):SC 17 [obA o,.str s] (.fsl false ((ofN s (allS o)).map atA)):=by
 have hall:=rall_sem ho
 have hcl:=closed_oc o (c:=[.str s]) rfl
 have hL:=closed_ats (allS o)
 have hrun:=fun Q hq=>ro_run (s:=s) (Q:=Q) hb hq (allS o).length 0 (Nat.zero_add _)
 rw[List.take_zero] at hrun
 revert hrun hall hL
 generalize allS o=L
 intro hall hL hrun
 cases hout:ofN s L with
 | nil=>
  rw[hout] at hrun
  refine fnK_semX (A:=aidJ [] [(5,roL0 s (.ofNat L.length) (L.map atA))] (manyS [(45,.fsl false (L.map atA))]) [] []) base0 aidJ_ok
   (fnLs_of (LsOk.at1 rfl ro_at fun st Q hs=> .seen base0.glob hs.1 (hrun Q hs.2))) hcl ?_
  unfold obA obC at*
  rw[ro_fn0]
  exact ⟨hall,⟨⟨⟨rfl,rfl⟩,⟨rfl,rfl⟩,⟨rfl,hL⟩,⟨rfl,rfl⟩,trivial⟩,trivial,trivial⟩,.nilsl,(Frz.closed _ rfl).out,rfl,.nil⟩
 | cons a r=>
  rw[hout] at hrun
  refine fnK_semX (A:=aidJ [] [(5,roL1 s (.ofNat L.length) (r.length+1) (L.map atA) (flat ((a::r).map atA)))] (manyS [(45,.fsl false (L.map atA))]) [] []) base0 aidJ_ok
   (fnLs_of (LsOk.at1 rfl ro_at fun st Q hs=> .seen base0.glob hs.1 (hrun Q hs.2))) hcl ?_
  unfold obA obC at*
  rw[ro_fn1]
  exact ⟨hall,⟨⟨⟨rfl,rfl⟩,⟨rfl,rfl⟩,⟨rfl,hL⟩,⟨rfl,rfl⟩,trivial⟩,trivial,trivial⟩,.fsl false ((a::r).map atA),(Frz.row rfl rfl rfl (by rw[List.length_map];rfl) (fun e he=>by obtain ⟨a,_,rfl⟩:=List.mem_map.1 he;exact good_at a) (closed_ats _)).out,closed_fslA (closed_ats _),.refl _⟩
end Go.Proofs.YtjhggnebkfpgcaaGreatDoor
namespace Go.Proofs.YtjhggnebkfpgcaaGreatDoor
open Go Go.RowKit
open Go.Proofs.Abs
theorem mT {c:Bool} {T F:Prop} (h:c=true) (t:T):mtB c T F:=mtB_of (fun _=>t) fun e=>by rw[h] at e;cases e
theorem mF {c:Bool} {T F:Prop} (h:c=false) (f:F):mtB c T F:=mtB_of (fun e=>by rw[h] at e;cases e) fun _=>f
def z5:List AV:=itF 0 0 0 [] []
section
variable {t y n:Int} {d:List UInt8} {ks:List It}
end
section
variable {o:Ob} {k:Kd} {s:List UInt8}
end
section
variable {o:Ob} {ms ns ls cs:List AV} {s:List UInt8} {t y n:Int} {d:List UInt8} {ks:List It}
end
section
variable {o:Ob} {ms ns ls:List AV} {s s':List UInt8} {t y n:Int} {d:List UInt8} {ks:List It} {Q:AExit→St→Prop}
end
section
variable {o:Ob} {ms ns ls:List AV} {s s':List UInt8} {t y n:Int} {d:List UInt8} {ks:List It}
-- CASES
end
end Go.Proofs.YtjhggnebkfpgcaaGreatDoor
