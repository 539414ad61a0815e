import Derived.Test.YtjhggnebkfpgcaaGreatDoorQ5
import Derived.KernelRfl
import Derived.Test.YtjhggnebkfpgcaaGreatDoorQ3
import Derived.Test.YtjhggnebkfpgcaaGreatDoorQ4
namespace Go.Proofs.YtjhggnebkfpgcaaGreatDoor
set_option maxRecDepth 20000
open Go Go.RowKit
open Go.Proofs.Abs
theorem Il:∀ (f:Nat) (p t:List Ob) (i n:Nat),n≤p.length→i<p.length→eS aP f (p++t) i n=eS aP f p i n++t
 |0,_,_,_,_,_,_=>rfl
 | f+1,p,t,i,n,hn,hi=>by
  have hkid:dK aP (p++t) i n=dK aP p i n:=by
   unfold dK
   by_cases h:2*i+2<n
   ·rw[if_pos h,if_pos h,List.getElem?_append_left (by omega),List.getElem?_append_left (by omega)]
   ·rw[if_neg h,if_neg h]
  simp only[eS,hkid]
  by_cases h:n≤2*i+1
  ·rw[if_pos h,if_pos h]
  rw[if_neg h,if_neg h]
  have hc:=(v6 (lt:=aP) p i n (by omega)).1
  generalize dK aP p i n=j at hc⊢
  have hj:j<p.length:=by omega
  have hsw:cA (p++t) i j=cA p i j++t:=by
   rw[sY (a:=p[i]) (b:=p[j]) (by rw[List.getElem?_append_left hi,List.getElem?_eq_getElem hi]) (by rw[List.getElem?_append_left hj,List.getElem?_eq_getElem hj]),sY (List.getElem?_eq_getElem hi) (List.getElem?_eq_getElem hj),List.set_append_left _ _ hi,List.set_append_left _ _ (by rw[List.length_set];exact hj)]
  rw[List.getElem?_append_left hj,List.getElem?_append_left hi,hsw,Il f (cA p i j) t j n (by rw[fx];exact hn) (by rw[fx];exact hj)]
  split
  ·split<;>rfl
  ·rfl
def lV:Nat→List Ob→Nat→Nat→Nat
 |0,_,i,_=>i
 |f+1,l,i,n=>if n≤2*i+1 then i else match l[dK aP l i n]?,l[i]? with
  |some a,some b=>if aP a b=true then lV f (cA l i (dK aP l i n)) (dK aP l i n) n else i
  |_,_=>i
theorem wA {k:Nat} (h:k≤1000000):af .i64 (Int.ofNat (k+1)-1)=Int.ofNat k:=by
 rw[co (by simp<;>omega) (by simp<;>omega)]
 simp only[Int.ofNat_eq_natCast]
 omega
theorem T6 {j:Nat} (h:j≤1000000):af .i64 ((af .i64 (Int.ofNat j-1)).tdiv 2)=Int.ofNat ((j-1)/2):=by
 cases j with
 |zero=>rfl
 |succ j=>
  rw[wA (by omega),Nat.add_sub_cancel,show (Int.ofNat j).tdiv 2=Int.ofNat (j/2) from rfl,co (by simp<;>omega) (by simp<;>omega)]
theorem wB {i:Nat} (h:i≤1000000):af .i64 (af .i64 (2*Int.ofNat i)+1)=Int.ofNat (2*i+1):=by
 rw[show 2*Int.ofNat i=Int.ofNat (2*i) from rfl,co (n:=Int.ofNat (2*i)) (by simp<;>omega) (by simp<;>omega),co (by simp<;>omega) (by simp<;>omega)]
 rfl
theorem Be {i:Nat} (h:i≤1000000):af .i64 (Int.ofNat (2*i+1)+1)=Int.ofNat (2*i+2):=by
 rw[co (by simp<;>omega) (by simp<;>omega)]
 rfl
theorem Im {own:Bool} {n i j K:Nat}:RenL [(1,K)] [.rsl own 1 0 n 37,I (.ofNat i),I (.ofNat j)] [.rsl own K 0 n 37,I (.ofNat i),I (.ofNat j)]:=⟨.rsl _ _ _ _ _ _ rfl,.same _ rfl,.same _ rfl,trivial⟩
section
variable {own:Bool} {n m:Nat} {Q:AExit→St→Prop}
theorem qb {l:List Ob} {i j k k':Nat} {a b:Ob} (ha:l[i]? =some a) (hb:l[j]? =some b) (hi:i<n) (hj:j<n) (h:k≤k'):BodySem Tryz.prog opts0.glob 212 [.rsl own 1 0 n 37,I (.ofNat i),I (.ofNat j)] [(1,some (.cells (au l)))] k (.bool (aP a b)) [(1,some (.cells (au l)))] k':=
 Hs (TD ha hb hi hj) Im rfl (bw _) (bw _) h
theorem s7 {l:List Ob} {i j k k':Nat} (hi:i<n) (hj:j<n) (hn:n≤l.length) (h:k≤k'):BodySem Tryz.prog opts0.glob 213 [.rsl own 1 0 n 37,I (.ofNat i),I (.ofNat j)] [(1,some (.cells (au l)))] k (.tuple []) [(1,some (.cells (au (cA l i j))))] k':=
 Hs (TE hi hj hn) Im rfl (bw _) (bw _) h
theorem Io (hb:n≤100000):∀ (f:Nat) (l:List Ob) (j:Nat),j<f→j<n→n≤l.length→Q (.exit 0) (lO own n (au (jN aP f l j))).st→ALp Tryz.prog opts0.glob 2 (ah Tryz.prog 144 1) (nT own n (.ofNat j) (au l)).st Q
 |0,_,_,h,_,_,_=>absurd h (Nat.not_lt_zero _)
 | f+1,l,j,hf,hj,hn,hq=>by
  have hi2:=T6 (j:=j) (by omega)
  have hc:=bw l
  unfold jN at hq
  by_cases e:(j-1)/2=j
  ·rw[if_pos e] at hq
   refine ALp.round (A:=aq [] [] (vR false (au l) (au l)) [] []) (V2:=nT own n 0 (au l)) (F:=lO own n (au l)) (lk:=[(0,0),(1,1)]) (lk':=[(0,0),(1,1)]) base0 am (LsOk.no rfl) .refl ?_
   rw[AW,hi2]
   exact a8 (beqInt_iff.2 (by rw[e])) ⟨⟨trivial,trivial,⟨⟨rfl,rfl,rfl,rfl,rfl⟩,trivial⟩,⟨rfl,hc⟩,trivial⟩,hq⟩
  rw[if_neg e] at hq
  have ne:aF (Int.ofNat ((j-1)/2)) (Int.ofNat j)=false:=beqInt_false.2 (fun h=>e (Int.ofNat.inj h))
  have hjl:j<l.length:=by omega
  have hil:(j-1)/2<l.length:=by omega
  have gj:=List.getElem?_eq_getElem hjl
  have gi:=List.getElem?_eq_getElem hil
  revert gj gi
  generalize l[j]=x
  generalize l[(j-1)/2]=y
  intro gj gi
  simp only[gj,gi] at hq
  have h1:=qb (own:=own) (n:=n) (k:=16) (k':=17) gj gi hj (by omega) (by omega)
  cases hl:aP x y with
  |true=>
   rw[if_pos hl] at hq
   rw[hl] at h1
   have h2:=s7 (own:=own) (n:=n) (k:=21) (k':=22) (l:=l) (i:=(j-1)/2) (j:=j) (by omega) hj hn (by omega)
   have ih:=Io hb f (cA l ((j-1)/2) j) ((j-1)/2) (by omega) (by omega) (by rw[fx];exact hn) hq
   refine ALp.round (A:=aq [] [] (vR true (au l) (au (cA l ((j-1)/2) j))) [] []) (V2:=nT own n (.ofNat ((j-1)/2)) (au (cA l ((j-1)/2) j))) (F:=lO own n (au l)) (lk:=[(0,0),(1,1)]) (lk':=[(0,0),(1,1)]) base0 am (LsOk.no rfl) .refl ?_
   rw[AW,hi2]
   exact bz ne ⟨h1,bz rfl ⟨h2,⟨⟨⟨rfl,rfl⟩,trivial⟩,⟨⟨rfl,rfl,rfl⟩,trivial⟩,⟨⟨rfl,rfl,rfl,rfl,rfl⟩,trivial⟩,⟨rfl,bw _⟩,trivial⟩,ih⟩⟩
  |false=>
   rw[hl,if_neg (by simp)] at hq
   rw[hl] at h1
   refine ALp.round (A:=aq [] [] (vR false (au l) (au l)) [] []) (V2:=nT own n 0 (au l)) (F:=lO own n (au l)) (lk:=[(0,0),(1,1)]) (lk':=[(0,0),(1,1)]) base0 am (LsOk.no rfl) .refl ?_
   rw[AW,hi2]
   exact bz ne ⟨h1,a8 rfl ⟨⟨trivial,trivial,⟨⟨rfl,rfl,rfl,rfl,rfl⟩,trivial⟩,⟨rfl,hc⟩,trivial⟩,hq⟩⟩
theorem T7:br (cy Tryz.prog 144) 1=[ah Tryz.prog 144 1]:=by kernel_rfl
theorem lW {es:List AV} {v:AV} {K k m n':Nat} {H:ae} (h:Nat.ble m k=true) (hv:ac v=true) (hK:Nat.blt K 20=true) (hc:ad es=true) (g0:hget H 0=some (.cells [.rsl own K 0 n' 37])) (g1:hget H K=some (.cells es)):uK 20 v [(0,some (.cells [.rsl own K 0 n' 37])),(K,some (.cells es))] k v H m:=
 ⟨h,⟨v,Frz.closed _ hv,.refl _⟩,⟨rfl,.cells [.rsl own K 0 n' 37],.cells [.rsl own K 0 n' 37],g0,FrzL.cons (.keepR hK) .nil,WkL.refl _⟩,⟨hK,.cells es,.cells es,g1,FrzL.closed _ hc,WkL.refl _⟩,trivial⟩
theorem Ip (hb:n≤100000) {l:List Ob} {j:Nat} (hj:j<n) (hn:n≤l.length):BodySem Tryz.prog opts0.glob 144 [eG,I (.ofNat j)] [(0,some (.cells [.rsl own 1 0 n 37])),(1,some (.cells (au l)))] 2 (.tuple []) [(0,some (.cells [.rsl own 1 0 n 37])),(1,some (.cells (au (jN aP n l j))))] 100:=by
 refine ei (k:=20) (A:=aq [] [(1,G7 own n (.ofNat j) (au l) (au (jN aP n l j)))] aA [] []) base0 am
  (aN (LsOk.at1 rfl T7 fun st Q hs=> .seen base0.glob hs.1 (Io hb n l j hj hj hn hs.2))) ?_
 rw[Tl]
 exact ⟨⟨⟨⟨rfl,rfl⟩,trivial⟩,⟨⟨rfl,rfl,rfl⟩,trivial⟩,⟨⟨rfl,rfl,rfl,rfl,rfl⟩,trivial⟩,⟨rfl,bw _⟩,trivial⟩,lW rfl rfl rfl (bw _) rfl rfl⟩
theorem T8 (hb:n≤100000) {i0:Int} (hm:m≤n):∀ (f:Nat) (l:List Ob) (i:Nat),m≤i+f→i<n→n≤l.length→Q (.exit 0) (jM own n i0 (.ofNat (lV f l i m)) (au (eS aP f l i m))).st→ALp Tryz.prog opts0.glob 2 (ah Tryz.prog 145 3) (i7 own n i0 (.ofNat i) (.ofNat m) (au l)).st Q:=by
 have stop:∀ (l:List Ob) (i:Nat),i<n→m≤2*i+1→Q (.exit 0) (jM own n i0 (.ofNat i) (au l)).st→ALp Tryz.prog opts0.glob 2 (ah Tryz.prog 145 3) (i7 own n i0 (.ofNat i) (.ofNat m) (au l)).st Q:=fun l i hi h hq=>by
  have hc:=bw l
  refine ALp.round (A:=aq [] [] (sV false false (au l) (au l)) [] []) (V2:=i7 own n i0 0 (.ofNat m) (au l)) (F:=jM own n i0 (.ofNat i) (au l)) (lk:=[(0,0),(1,1)]) (lk':=[(0,0),(1,1)]) base0 am (LsOk.no rfl) .refl ?_
  rw[vW,wB (by omega)]
  exact a8 (by rw[ltInt_false.2 (by simp only[Int.ofNat_eq_natCast];omega)];rfl) ⟨⟨⟨⟨rfl,rfl⟩,⟨rfl,rfl⟩,trivial⟩,trivial,⟨⟨rfl,rfl,rfl,rfl,rfl⟩,trivial⟩,⟨rfl,hc⟩,trivial⟩,hq⟩
 intro f
 induction f with
 |zero=>
  intro l i hf hi hn hq
  exact stop l i hi (by omega) hq
 | succ f ih=>
  intro l i hf hi hn hq
  by_cases e:m≤2*i+1
  ·rw[lV,eS,if_pos e,if_pos e] at hq
   exact stop l i hi e hq
  rw[lV,eS,if_neg e,if_neg e] at hq
  have hc:=bw l
  have hk:=v6 (lt:=aP) l i m (by omega)
  have k1:(!ar (Int.ofNat (2*i+1)) (Int.ofNat m))=false:=by rw[ltInt_iff.2 (by simp only[Int.ofNat_eq_natCast];omega)];rfl
  have k2:ar (Int.ofNat (2*i+1)) 0=false:=ltInt_false.2 (by simp only[Int.ofNat_eq_natCast];omega)
  have gi:=List.getElem?_eq_getElem (show i<l.length by omega)
  have g1:=List.getElem?_eq_getElem (show 2*i+1<l.length by omega)
  revert gi g1
  generalize l[i]'(by omega)=y
  generalize l[2*i+1]'(by omega)=x1
  intro gi g1
  have fin:∀ (b:Bool) (j:Nat) (x:Ob),dK aP l i m=j→l[j]? =some x→j<m→i<j→
    (∀ (c:Bool) (es':List AV) (i':Int) (N:Prop),aP x y=c→(c=true→es'=au (cA l i j)∧i'= .ofNat j)→(c=true→N)→(c=false→Q (.exit 0) (jM own n i0 (.ofNat i) (au l)).st)→
     aw Tryz.prog opts0 40 (aq [] [] (sV b c (au l) es') [] []) (ah Tryz.prog 145 3) (i7 own n i0 (.ofNat i) (.ofNat m) (au l)).st (bf 2 [(0,0),(1,1)] (i7 own n i0 i' (.ofNat m) es') N [(0,0),(1,1)] (jM own n i0 (.ofNat i) (au l)) Q))→
    ALp Tryz.prog opts0.glob 2 (ah Tryz.prog 145 3) (i7 own n i0 (.ofNat i) (.ofNat m) (au l)).st Q:=fun b j x hkj gj hjm hij hw=>by
   rw[hkj] at hq
   simp only[gj,gi] at hq
   cases hl:aP x y with
   |true=>
    rw[hl] at hq
    have h3:=ih (cA l i j) j (by omega) (by omega) (by rw[fx];exact hn) hq
    refine ALp.round (A:=aq [] [] (sV b true (au l) (au (cA l i j))) [] []) (V2:=i7 own n i0 (.ofNat j) (.ofNat m) (au (cA l i j))) (F:=jM own n i0 (.ofNat i) (au l)) (lk:=[(0,0),(1,1)]) (lk':=[(0,0),(1,1)]) base0 am (LsOk.no rfl) .refl ?_
    exact hw true _ _ _ hl (fun _=>⟨rfl,rfl⟩) (fun _=>h3) (fun e=>by cases e)
   |false=>
    rw[hl] at hq
    refine ALp.round (A:=aq [] [] (sV b false (au l) (au l)) [] []) (V2:=i7 own n i0 0 (.ofNat m) (au l)) (F:=jM own n i0 (.ofNat i) (au l)) (lk:=[(0,0),(1,1)]) (lk':=[(0,0),(1,1)]) base0 am (LsOk.no rfl) .refl ?_
    exact hw false _ _ _ hl (fun e=>by cases e) (fun e=>by cases e) (fun _=>hq)
  by_cases h2:2*i+2<m
  ·have k3:ar (Int.ofNat (2*i+2)) (Int.ofNat m)=true:=ltInt_iff.2 (by simp only[Int.ofNat_eq_natCast];omega)
   have g2:=List.getElem?_eq_getElem (show 2*i+2<l.length by omega)
   revert g2
   generalize l[2*i+2]'(by omega)=x2
   intro g2
   have hkd:dK aP l i m=if aP x2 x1=true then 2*i+2 else 2*i+1:=by
    unfold dK
    rw[if_pos h2,g2,g1]
   cases hb2:aP x2 x1 with
   | true=>
    rw[hb2,if_pos rfl] at hkd
    refine fin true (2*i+2) x2 hkd g2 h2 (by omega) fun c es' i' N hc' hs hN hf'=> ?_
    rw[vW,wB (by omega),Be (by omega)]
    have b1:=qb (own:=own) (n:=n) (k:=27) (k':=28) g2 g1 (by omega) (by omega) (by omega)
    have b2:=qb (own:=own) (n:=n) (k:=35) (k':=36) g2 gi (by omega) (by omega) (by omega)
    have b3:=s7 (own:=own) (n:=n) (k:=40) (k':=41) (l:=l) (i:=i) (j:=2*i+2) (by omega) (by omega) hn (by omega)
    rw[hb2] at b1
    rw[hc'] at b2
    refine bz k1 (bz k2 (a8 k3 ⟨b1,a8 rfl ⟨b2,az (fun e=> ?_) (fun e=> ?_)⟩⟩))
    ·exact ⟨⟨⟨⟨rfl,rfl⟩,⟨rfl,rfl⟩,trivial⟩,trivial,⟨⟨rfl,rfl,rfl,rfl,rfl⟩,trivial⟩,⟨rfl,hc⟩,trivial⟩,hf' (by simpa using e)⟩
    ·have e:c=true:=by simpa using e
     obtain ⟨rfl,rfl⟩:=hs e
     exact ⟨b3,⟨⟨⟨rfl,rfl⟩,⟨rfl,rfl⟩,⟨rfl,rfl⟩,⟨rfl,rfl⟩,trivial⟩,⟨⟨rfl,rfl,rfl⟩,trivial⟩,⟨⟨rfl,rfl,rfl,rfl,rfl⟩,trivial⟩,⟨rfl,bw _⟩,trivial⟩,hN e⟩
   | false=>
    rw[hb2,if_neg (by simp)] at hkd
    refine fin false (2*i+1) x1 hkd g1 (by omega) (by omega) fun c es' i' N hc' hs hN hf'=> ?_
    rw[vW,wB (by omega),Be (by omega)]
    have b1:=qb (own:=own) (n:=n) (k:=27) (k':=28) g2 g1 (by omega) (by omega) (by omega)
    have b2:=fun k k' h=>qb (own:=own) (n:=n) (k:=k) (k':=k') g1 gi (by omega) (by omega) h
    have b3:=fun k k' h=>s7 (own:=own) (n:=n) (k:=k) (k':=k') (l:=l) (i:=i) (j:=2*i+1) (by omega) (by omega) hn h
    rw[hb2] at b1
    rw[hc'] at b2
    refine bz k1 (bz k2 (a8 k3 ⟨b1,bz rfl ⟨b2 _ _ (by omega),az (fun e=> ?_) (fun e=> ?_)⟩⟩))
    ·exact ⟨⟨⟨⟨rfl,rfl⟩,⟨rfl,rfl⟩,trivial⟩,trivial,⟨⟨rfl,rfl,rfl,rfl,rfl⟩,trivial⟩,⟨rfl,hc⟩,trivial⟩,hf' (by simpa using e)⟩
    ·have e:c=true:=by simpa using e
     obtain ⟨rfl,rfl⟩:=hs e
     exact ⟨b3 _ _ (by omega),⟨⟨⟨rfl,rfl⟩,⟨rfl,rfl⟩,⟨rfl,rfl⟩,⟨rfl,rfl⟩,trivial⟩,⟨⟨rfl,rfl,rfl⟩,trivial⟩,⟨⟨rfl,rfl,rfl,rfl,rfl⟩,trivial⟩,⟨rfl,bw _⟩,trivial⟩,hN e⟩
  ·have k3:ar (Int.ofNat (2*i+2)) (Int.ofNat m)=false:=ltInt_false.2 (by simp only[Int.ofNat_eq_natCast];omega)
   have hkd:dK aP l i m=2*i+1:=by
    unfold dK
    rw[if_neg h2]
   refine fin false (2*i+1) x1 hkd g1 (by omega) (by omega) fun c es' i' N hc' hs hN hf'=> ?_
   rw[vW,wB (by omega),Be (by omega)]
   have b2:=fun k k' h=>qb (own:=own) (n:=n) (k:=k) (k':=k') g1 gi (by omega) (by omega) h
   have b3:=fun k k' h=>s7 (own:=own) (n:=n) (k:=k) (k':=k') (l:=l) (i:=i) (j:=2*i+1) (by omega) (by omega) hn h
   rw[hc'] at b2
   refine bz k1 (bz k2 (bz k3 ⟨b2 _ _ (by omega),az (fun e=> ?_) (fun e=> ?_)⟩))
   ·exact ⟨⟨⟨⟨rfl,rfl⟩,⟨rfl,rfl⟩,trivial⟩,trivial,⟨⟨rfl,rfl,rfl,rfl,rfl⟩,trivial⟩,⟨rfl,hc⟩,trivial⟩,hf' (by simpa using e)⟩
   ·have e:c=true:=by simpa using e
    obtain ⟨rfl,rfl⟩:=hs e
    exact ⟨b3 _ _ (by omega),⟨⟨⟨rfl,rfl⟩,⟨rfl,rfl⟩,⟨rfl,rfl⟩,⟨rfl,rfl⟩,trivial⟩,⟨⟨rfl,rfl,rfl⟩,trivial⟩,⟨⟨rfl,rfl,rfl,rfl,rfl⟩,trivial⟩,⟨rfl,bw _⟩,trivial⟩,hN e⟩
theorem T9:br (cy Tryz.prog 145) 3=[ah Tryz.prog 145 3]:=by kernel_rfl
theorem Ua (hb:n≤100000) {l:List Ob} (h0:0<n) (hm:m≤n) {f:Nat} (hf:m≤f) (hn:n≤l.length):BodySem Tryz.prog opts0.glob 145 [eG,I 0,I (.ofNat m)] [(0,some (.cells [.rsl own 1 0 n 37])),(1,some (.cells (au l)))] 2 (.bool (ar 0 (.ofNat (lV f l 0 m)))) [(0,some (.cells [.rsl own 1 0 n 37])),(1,some (.cells (au (eS aP f l 0 m))))] 100:=by
 refine ei (k:=20) (A:=aq [] [(3,G8 own n 0 (.ofNat (lV f l 0 m)) (.ofNat m) (au l) (au (eS aP f l 0 m)))] aA [] []) base0 am
  (aN (LsOk.at1 rfl T9 fun st Q hs=> .seen base0.glob hs.1 (T8 hb hm f l 0 (by omega) h0 hn hs.2))) ?_
 rw[Tp]
 exact ⟨⟨⟨⟨rfl,rfl⟩,⟨rfl,rfl⟩,⟨rfl,rfl⟩,⟨rfl,rfl⟩,trivial⟩,⟨⟨rfl,rfl,rfl⟩,trivial⟩,⟨⟨rfl,rfl,rfl,rfl,rfl⟩,trivial⟩,⟨rfl,bw _⟩,trivial⟩,lW rfl rfl rfl (bw _) rfl rfl⟩
end
theorem Iq (l:List Ob) (o:Ob):au l++ao o=au (l++[o]):=by rw[pY];exact congrArg (au l++ ·) (List.append_nil (ao o)).symm
theorem Bf (o:Ob):flat [if false=true then AV.tuple [.agg (ao o),.bool true] else .agg (ao o)]=ao o:=List.append_nil (ao o)
theorem Ub (o:Ob):aS (flat [if false=true then AV.tuple [.agg (ao o),.bool true] else .agg (ao o)])=true:=by rw[Bf];exact Es o
theorem Uc (o:Ob):bo 37 [if false=true then AV.tuple [.agg (ao o),.bool true] else .agg (ao o)]=true:=rfl
theorem nX {a b c:Bool} (ha:a=true) (hb:b=true) (hc:c=true):(a&&(b&&(c&&true)))=true:=by rw[ha,hb,hc];rfl
theorem Ud {l:List Ob} (hb:l.length≤100000) (o:Ob):BodySem Tryz.prog opts0.glob 215 [.ptr 0 0,.iface 33 (aj o)] [(0,some (.cells [.rsl true 1 0 l.length 37])),(1,some (.cells (au l)))] 2 (.tuple []) [(0,some (.cells [.rsl true 9 0 (l.length+1) 37])),(9,some (.cells (au (l++[o]))))] 30:=by
 have h1:=Uc o
 have h2:=Ub o
 have h3:Nat.ble ((l.length+1)*376) 140737488355328=true:=iB (by omega)
 have hc:=bw (l++[o])
 rw[←Iq] at hc⊢
 rw[←Bf] at hc⊢
 refine ei (k:=20) (A:=ej) base0 jz (aN (LsOk.no rfl)) ?_
 unfold aj
 unfold ao at h1 h2 hc⊢
 rw[Tm]
 refine aH ?_ (aH ?_ (lW rfl rfl rfl hc rfl rfl))
 ·have h4:=nX h1 h3 h2
  exact h4
 ·rw[aI,i8];exact beq_iff.2 rfl
theorem Ue (o:Ob):BodySem Tryz.prog opts0.glob 215 [.ptr 0 0,.iface 33 (aj o)] [(0,some (.cells [.nilsl]))] 1 (.tuple []) [(0,some (.cells [.rsl true 8 0 1 37])),(8,some (.cells (au [o])))] 30:=by
 have hc:=bw [o]
 rw[show au [o]=ao o from List.append_nil _] at hc⊢
 rw[←Bf] at hc⊢
 refine ei (k:=20) (A:=ej) base0 jz (aN (LsOk.no rfl)) ?_
 unfold aj
 unfold ao at hc⊢
 rw[Tn]
 exact (lW rfl rfl rfl hc rfl rfl)
theorem nY (o:Ob):ac (.iface 33 (aj o))=true:=dr o
section
variable {f:FuncId} {o:Ob} {es es':List AV} {nx nx' m m' K K' n n':Nat}
theorem Ir {H2:ae} {a:AV} (ha:cw [(0,0),(1,1),(K,K')] a a) (h:BodySem Tryz.prog opts0.glob f [a,.iface 33 (aj o)] [(0,some (.cells [.rsl true 1 0 n 37])),(1,some (.cells es))] nx (.tuple []) [(0,some (.cells [.rsl true K 0 n' 37])),(K,some (.cells es'))] nx') (hK:1<K) (hK':m≤K'∧K'<m') (hm:1<m) (g0:hget H2 0=some (.cells [.rsl true 1 0 n 37])) (g1:hget H2 1=some (.cells es)) (hx:1<nx) (he:ad es=true) (he':ad es'=true):BodySem Tryz.prog opts0.glob f [a,.iface 33 (aj o)] H2 m (.tuple []) [(0,some (.cells [.rsl true K' 0 n' 37])),(K',some (.cells es'))] m':=by
 have e1:Nat.beq 0 K=false:=beq_false_iff.2 (by omega)
 have e2:Nat.beq 1 K=false:=beq_false_iff.2 (by omega)
 have e3:Nat.beq 0 K'=false:=beq_false_iff.2 (by omega)
 have e4:Nat.beq 1 K'=false:=beq_false_iff.2 (by omega)
 refine BodySem.ren (lk:=[(0,0),(1,1),(K,K')]) wi h (by simp;omega) (by simp;omega) (fun p hp=> ?_) ⟨ha,.same _ (nY o),trivial⟩ (fun i b hb=> ?_) (.same _ rfl) (fun j b hb=> ?_) (by omega)
 ·simp only[List.mem_cons,List.not_mem_nil,or_false] at hp
  rcases hp with rfl|rfl|rfl
  ·exact .inl (by simp only;omega)
  ·exact .inl (by simp only;omega)
  ·exact .inr hK'
 ·simp only[hget] at hb
  split at hb
  ·rename_i e
   have e:=beq_iff.1 e
   subst e
   cases hb
   exact ⟨0,.cells [.rsl true 1 0 n 37],rfl,g0,⟨.rsl _ _ _ _ _ _ rfl,trivial⟩⟩
  split at hb
  ·rename_i e
   have e:=beq_iff.1 e
   subst e
   cases hb
   exact ⟨1,.cells es,rfl,g1,RenL.same _ he⟩
  ·cases hb
 ·simp only[hget] at hb
  split at hb
  ·rename_i e
   have e:=beq_iff.1 e
   subst e
   cases hb
   exact ⟨0,.cells [.rsl true K 0 n' 37],rfl,rfl,⟨.rsl _ _ _ _ _ _ (by simp[cZ,aY,e3,e4]),trivial⟩⟩
  split at hb
  ·rename_i e
   have e:=beq_iff.1 e
   subst e
   cases hb
   exact ⟨K,.cells es',by simp[cZ,aY,e3,e4],by simp[hget,e1],RenL.same _ he'⟩
  ·cases hb
theorem Is {H2:ae} {a:AV} (ha:cw [(0,0),(K,K')] a a) (h:BodySem Tryz.prog opts0.glob f [a,.iface 33 (aj o)] [(0,some (.cells [.nilsl]))] nx (.tuple []) [(0,some (.cells [.rsl true K 0 n' 37])),(K,some (.cells es'))] nx') (hK:0<K) (hK':m≤K'∧K'<m') (hm:0<m) (g0:hget H2 0=some (.cells [.nilsl])) (hx:0<nx) (he':ad es'=true):BodySem Tryz.prog opts0.glob f [a,.iface 33 (aj o)] H2 m (.tuple []) [(0,some (.cells [.rsl true K' 0 n' 37])),(K',some (.cells es'))] m':=by
 have e1:Nat.beq 0 K=false:=beq_false_iff.2 (by omega)
 have e3:Nat.beq 0 K'=false:=beq_false_iff.2 (by omega)
 refine BodySem.ren (lk:=[(0,0),(K,K')]) wi h (by simp;omega) (by simp;omega) (fun p hp=> ?_) ⟨ha,.same _ (nY o),trivial⟩ (fun i b hb=> ?_) (.same _ rfl) (fun j b hb=> ?_) (by omega)
 ·simp only[List.mem_cons,List.not_mem_nil,or_false] at hp
  rcases hp with rfl|rfl
  ·exact .inl (by simp only;omega)
  ·exact .inr hK'
 ·simp only[hget] at hb
  split at hb
  ·rename_i e
   have e:=beq_iff.1 e
   subst e
   cases hb
   exact ⟨0,.cells [.nilsl],rfl,g0,RenL.same _ rfl⟩
  ·cases hb
 ·simp only[hget] at hb
  split at hb
  ·rename_i e
   have e:=beq_iff.1 e
   subst e
   cases hb
   exact ⟨0,.cells [.rsl true K 0 n' 37],rfl,rfl,⟨.rsl _ _ _ _ _ _ (by simp[cZ,aY,e3]),trivial⟩⟩
  split at hb
  ·rename_i e
   have e:=beq_iff.1 e
   subst e
   cases hb
   exact ⟨K,.cells es',by simp[cZ,aY,e3],by simp[hget,e1],RenL.same _ he'⟩
  ·cases hb
end
theorem Uf {l:List Ob} (hb:l.length≤90000) (o:Ob):BodySem Tryz.prog opts0.glob 102 [eG,.iface 33 (aj o)] [(0,some (.cells [.rsl true 1 0 l.length 37])),(1,some (.cells (au l)))] 2 (.tuple []) [(0,some (.cells [.rsl true 12 0 (l.length+1) 37])),(12,some (.cells (au (fy aP l o))))] 40:=by
 have b1:=Ir (K':=12) (m:=5) (m':=25) (H2:=[(1,some (.cells (au l))),(0,some (.cells [.rsl true 1 0 l.length 37]))]) (.ptr 0 0 0 rfl) (Ud (by omega) o) (by omega) (by omega) (by omega) rfl rfl (by omega) (bw _) (bw _)
 have b2:=pZ (Z:=0) (K:=12) (m:=34) (m':=35) (args2:=[eG,I (.ofNat l.length)]) (H2:=[(12,some (.cells (au (l++[o])))),(0,some (.cells [.rsl true 12 0 (l.length+1) 37]))]) (v2:= .tuple []) (c2:=[.rsl true 12 0 (l.length+1) 37]) (c2':=[.rsl true 12 0 (l.length+1) 37]) (Ip (own:=true) (n:=l.length+1) (l:=l++[o]) (j:=l.length) (by omega) (by omega) (by simp)) (by decide) rfl rfl ⟨.iface _ (.ptr _ _ _ rfl),.same _ rfl,trivial⟩ ⟨.rsl _ _ _ _ _ _ rfl,trivial⟩ ⟨.rsl _ _ _ _ _ _ rfl,trivial⟩ (.same _ rfl) (bw _) (bw _) (by omega)
 have hc:ad (au (fy aP l o))=true:=bw _
 refine ei (k:=20) (A:=aq [] [] (G9 12 l.length (au (l++[o])) (au (fy aP l o))) [] []) base0 am (aN (LsOk.no rfl)) ?_
 unfold aj at b1⊢
 unfold ao at b1⊢
 rw[Tq,wA (by omega)]
 exact ⟨b1,b2,(lW rfl rfl rfl hc rfl rfl)⟩
theorem Ug (o:Ob):BodySem Tryz.prog opts0.glob 102 [eG,.iface 33 (aj o)] [(0,some (.cells [.nilsl]))] 1 (.tuple []) [(0,some (.cells [.rsl true 11 0 1 37])),(11,some (.cells (au [o])))] 40:=by
 have b1:=Is (K':=11) (m:=4) (m':=24) (H2:=[(0,some (.cells [.nilsl]))]) (.ptr 0 0 0 rfl) (Ue o) (by omega) (by omega) (by omega) rfl (by omega) (bw _)
 have b2:=pZ (Z:=0) (K:=11) (m:=33) (m':=34) (args2:=[eG,I 0]) (H2:=[(11,some (.cells (au [o]))),(0,some (.cells [.rsl true 11 0 1 37]))]) (v2:= .tuple []) (c2:=[.rsl true 11 0 1 37]) (c2':=[.rsl true 11 0 1 37]) (Ip (own:=true) (n:=1) (l:=[o]) (j:=0) (by omega) (by omega) (by simp)) (by decide) rfl rfl ⟨.iface _ (.ptr _ _ _ rfl),.same _ rfl,trivial⟩ ⟨.rsl _ _ _ _ _ _ rfl,trivial⟩ ⟨.rsl _ _ _ _ _ _ rfl,trivial⟩ (.same _ rfl) (bw _) (bw _) (by omega)
 have hc:ad (au [o])=true:=bw _
 refine ei (k:=20) (A:=aq [] [] (Ha 11 (au [o])) [] []) base0 am (aN (LsOk.no rfl)) ?_
 unfold aj at b1⊢
 unfold ao at b1⊢
 rw[Ts]
 exact ⟨b1,b2,(lW rfl rfl rfl hc rfl rfl)⟩
theorem Uh {own:Bool} {n:Nat} {l:List Ob} {x:Ob} (hb:n≤100000) (hx:l[n]? =some x):BodySem Tryz.prog opts0.glob 214 [.ptr 0 0] [(0,some (.cells [.rsl own 1 0 (n+1) 37])),(1,some (.cells (au l)))] 2 (.iface 33 (aj x)) [(0,some (.cells [.rsl own 1 0 n 37])),(1,some (.cells (au l)))] 60:=by
 have h1:=f6 (show n<n+1 by omega)
 have h2:=sX hx
 have h3:=nV x
 have hcx:=nY x
 refine ei (k:=20) (A:=aq [(1,9,.ld (.agg (ao x)))] [] aA [] []) base0 am (aN (LsOk.no rfl)) ?_
 unfold aj at hcx⊢
 unfold ao at h2 h3 hcx⊢
 rw[To,wA (by omega)]
 exact aH h1 ⟨h2,aH h3 (aH (by simp only[cJ,Bool.true_and];exact iB (by simp)) (lW rfl hcx rfl (bw _) rfl rfl))⟩
theorem qc {own:Bool} {n:Nat} {p t:List Ob} {x:Ob} (hp:p.length=n+1) (hb:n≤90000) (hx:(cF aP p)[n]? =some x):BodySem Tryz.prog opts0.glob 104 [eG] [(0,some (.cells [.rsl own 1 0 (n+1) 37])),(1,some (.cells (au (p++t))))] 2 (.iface 33 (aj x)) [(0,some (.cells [.rsl own 1 0 n 37])),(1,some (.cells (au (cF aP p++t))))] 60:=by
 have hsw:cA (p++t) 0 n=cA p 0 n++t:=by
  rw[sY (a:=p[0]) (b:=p[n]) (by rw[List.getElem?_append_left (by omega),List.getElem?_eq_getElem (by omega)]) (by rw[List.getElem?_append_left (by omega),List.getElem?_eq_getElem (by omega)]),sY (List.getElem?_eq_getElem (show 0<p.length by omega)) (List.getElem?_eq_getElem (show n<p.length by omega)),List.set_append_left _ _ (by omega),List.set_append_left _ _ (by rw[List.length_set];omega)]
 have b1:=s7 (own:=own) (n:=n+1) (l:=p++t) (i:=0) (j:=n) (k:=14) (k':=15) (by omega) (by omega) (by simp;omega) (by omega)
 rw[hsw] at b1
 have qc:cF aP p=eS aP (n+1) (cA p 0 n) 0 n:=by unfold cF;rw[hp,Nat.add_sub_cancel]
 have hd:=Ua (own:=own) (n:=n+1) (m:=n) (l:=cA p 0 n++t) (by omega) (by omega) (by omega) (f:=n+1) (by omega) (by rw[List.length_append,fx];omega)
 rw[Il _ _ _ _ _ (by rw[fx];omega) (by rw[fx];omega),←qc] at hd
 have b2:=pZ (Z:=0) (K:=1) (m:=18) (m':=19) (args2:=[eG,I 0,I (.ofNat n)]) (H2:=[(1,some (.cells (au (cA p 0 n++t)))),(0,some (.cells [.rsl own 1 0 (n+1) 37]))]) (v2:= .bool (ar 0 (.ofNat (lV (n+1) (cA p 0 n++t) 0 n)))) (c2:=[.rsl own 1 0 (n+1) 37]) (c2':=[.rsl own 1 0 (n+1) 37]) hd (by decide) rfl rfl ⟨.iface _ (.ptr _ _ _ rfl),.same _ rfl,.same _ rfl,trivial⟩ ⟨.rsl _ _ _ _ _ _ rfl,trivial⟩ ⟨.rsl _ _ _ _ _ _ rfl,trivial⟩ (.same _ rfl) (bw _) (bw _) (by omega)
 have hlen:(cF aP p).length=n+1:=by rw[qc,Hh,fx,hp]
 have b3:=pZ (Z:=0) (K:=1) (m:=22) (m':=23) (args2:=[.ptr 0 0]) (H2:=[(1,some (.cells (au (cF aP p++t)))),(0,some (.cells [.rsl own 1 0 (n+1) 37]))]) (v2:= .iface 33 (aj x)) (c2:=[.rsl own 1 0 (n+1) 37]) (c2':=[.rsl own 1 0 n 37]) (Uh (own:=own) (l:=cF aP p++t) (by omega) (by rw[List.getElem?_append_left (by omega)];exact hx)) (by decide) rfl rfl ⟨.ptr _ _ _ rfl,trivial⟩ ⟨.rsl _ _ _ _ _ _ rfl,trivial⟩ ⟨.rsl _ _ _ _ _ _ rfl,trivial⟩ (.same _ (nY x)) (bw _) (bw _) (by omega)
 have hcx:=nY x
 refine ei (k:=20) (A:=aq [] [] (Hb own (ar 0 (.ofNat (lV (n+1) (cA p 0 n++t) 0 n))) n (au (cA p 0 n++t)) (au (cF aP p++t)) (ao x)) [] []) base0 am (aN (LsOk.no rfl)) ?_
 unfold aj at b3 hcx⊢
 unfold ao at b3 hcx⊢
 rw[Tt,wA (by omega)]
 exact ⟨b1,b2,b3,(lW rfl hcx rfl (bw _) rfl rfl)⟩
end Go.Proofs.YtjhggnebkfpgcaaGreatDoor
namespace Go.Proofs.YtjhggnebkfpgcaaGreatDoor
open Go Go.RowKit
open Go.Proofs.Abs
noncomputable section
def eH (i n most:Int) (Cs Os:List AV):View:=⟨[(1,.fsl false Cs),(2,I most),(11,.fsl false Os),(12,I n),(13,I i)],[(7,.ptr 0 0)],[(0,.cells [.nilsl],.whole)],1,46⟩
def dT (i n most:Int) (Cs Os:List AV) (k:Nat) (es:List AV):View:=⟨[(1,.fsl false Cs),(2,I most),(11,.fsl false Os),(12,I n),(13,I i)],[(7,.ptr 0 0)],[(0,.cells [.rsl true 1 0 k 37],.each),(1,.cells es,.whole)],2,46⟩
def Ui (b:Bool) (z:Bool) (k:Nat) (es':List AV):dj:=fun f _ _ _=>match Nat.beq f 52 with
 |true=>some (.val (.bool b))
 | false=>match Nat.beq f 102 with
  |true=>match z with
   |true=>some (.part [0] (.tuple []) [(0,some (.cells [.rsl true 20 0 1 37])),(20,some (.cells es'))] 30)
   |false=>some (.part [0,1] (.tuple []) [(0,some (.cells [.rsl true 20 0 (k+1) 37])),(20,some (.cells es'))] 30)
  |false=>none
def jU (x:List AV) (b z:Bool) (k:Nat) (es':List AV):be:=aq [(4,0,.res (.fptr x 0))] [] (Ui b z k es') [] []
@[simp] abbrev jb (most:Int):=(I most=I most∧ac (I most)=true)
@[simp] abbrev qd (Cs:List AV):=(AV.fsl false Cs=AV.fsl false Cs∧ac (AV.fsl false Cs)=true)
@[simp] abbrev qe (Os:List AV):=(AV.fsl false Os=AV.fsl false Os∧ac (AV.fsl false Os)=true)
@[simp] abbrev s8 (n:Int):=(I n=I n∧ac (I n)=true)
@[simp] abbrev wC (Cs Os:List AV) (i most n:Int):=((qd Cs)∧(jb most)∧(qe Os)∧(s8 n)∧(I i=I i∧ac (I i)=true)∧True)
@[simp] abbrev fM:=(some 0=some 0∧0=0)
@[simp] abbrev qf:=([AV.nilsl]=[AV.nilsl]∧true=true)
abbrev wD (C L M N:AV) (o:Ob):=(cQ Tryz.prog 33 (AV.agg (aa o M N L C)) 37)
theorem Iu (i j n most:Int) (Cs Os:List AV) (o:Ob) (M N L C:AV) (Nx:Prop) (Q:AExit→St→Prop):aw Tryz.prog opts0 40 (jU (aa o M N L C) false true 0 []) (ah Tryz.prog 53 4) (eH i n most Cs Os).st (bf 0 [(0,0)] (eH j n most Cs Os) Nx [(0,0)] (eH i n most Cs Os) Q)=
  (ak (ar i n) (ax Tryz.prog 72 (AV.fsl false Os) (I i)=some (AV.fptr (aa o M N L C) 0)∧aC (wD C L M N o) (SC 52 [AV.agg (aa o M N L C),AV.fsl false Cs] (AV.bool false)∧(((qd Cs)∧(jb most)∧(qe Os)∧(s8 n)∧(I (af IntKind.i64 (i+1))=I j∧ac (I j)=true)∧True)∧(fM∧True)∧qf∧True)∧Nx)) (((wC Cs Os i most n)∧(fM∧True)∧qf∧True)∧Q (AExit.exit 0) (eH i n most Cs Os).st)):=by kernel_rfl
@[simp] abbrev wE (es':List AV):=(es'=es'∧ad es'=true)
theorem Uj (i j n most:Int) (Cs Os es':List AV) (o:Ob) (M N L C:AV) (Nx:Prop) (Q:AExit→St→Prop):aw Tryz.prog opts0 40 (jU (aa o M N L C) true true 0 es') (ah Tryz.prog 53 4) (eH i n most Cs Os).st (bf 0 [(0,0),(1,20)] (dT j n most Cs Os 1 es') Nx [(0,0)] (eH i n most Cs Os) Q)=
  (ak (ar i n) (ax Tryz.prog 72 (AV.fsl false Os) (I i)=some (AV.fptr (aa o M N L C) 0)∧aC (wD C L M N o) (SC 52 [AV.agg (aa o M N L C),AV.fsl false Cs] (AV.bool true)∧BodySem Tryz.prog opts0.glob 102 [AV.iface 149 (AV.ptr 0 0),AV.iface 33 (AV.agg (aa o M N L C))] [(0,some (Blk.cells [AV.nilsl]))] 13 (AV.tuple []) [(0,some (Blk.cells [AV.rsl true 20 0 1 37])),(20,some (Blk.cells es'))] 43∧(((qd Cs)∧(jb most)∧(qe Os)∧(s8 n)∧(I (af IntKind.i64 (i+1))=I j∧ac (I j)=true)∧True)∧(fM∧True)∧((true=true∧some 20=some 20∧0=0∧1=1∧37=37)∧True)∧(wE es')∧True)∧Nx)) (((wC Cs Os i most n)∧(fM∧True)∧qf∧True)∧Q (AExit.exit 0) (eH i n most Cs Os).st)):=by kernel_rfl
@[simp] abbrev nZ (k:Nat):=((true=true∧some 1=some 1∧0=0∧k=k∧37=37)∧True)
@[simp] abbrev lX (es:List AV):=(es=es∧ad es=true)
theorem Iv (i j n most:Int) (k:Nat) (Cs Os es:List AV) (o:Ob) (M N L C:AV) (Nx:Prop) (Q:AExit→St→Prop):aw Tryz.prog opts0 40 (jU (aa o M N L C) false false 0 []) (ah Tryz.prog 53 4) (dT i n most Cs Os k es).st (bf 0 [(0,0),(1,1)] (dT j n most Cs Os k es) Nx [(0,0),(1,1)] (dT i n most Cs Os k es) Q)=
  (ak (ar i n) (ax Tryz.prog 72 (AV.fsl false Os) (I i)=some (AV.fptr (aa o M N L C) 0)∧aC (wD C L M N o) (SC 52 [AV.agg (aa o M N L C),AV.fsl false Cs] (AV.bool false)∧(((qd Cs)∧(jb most)∧(qe Os)∧(s8 n)∧(I (af IntKind.i64 (i+1))=I j∧ac (I j)=true)∧True)∧(fM∧True)∧(nZ k)∧(lX es)∧True)∧Nx)) (((wC Cs Os i most n)∧(fM∧True)∧(nZ k)∧(lX es)∧True)∧Q (AExit.exit 0) (dT i n most Cs Os k es).st)):=by kernel_rfl
abbrev wF (k:Nat):=(0,some (Blk.cells [AV.rsl true 1 0 k 37]))
theorem Uk (i j n most:Int) (k:Nat) (Cs Os es es':List AV) (o:Ob) (M N L C:AV) (Nx:Prop) (Q:AExit→St→Prop):aw Tryz.prog opts0 40 (jU (aa o M N L C) true false k es') (ah Tryz.prog 53 4) (dT i n most Cs Os k es).st (bf 0 [(0,0),(1,20)] (dT j n most Cs Os (k+1) es') Nx [(0,0),(1,1)] (dT i n most Cs Os k es) Q)=
  (ak (ar i n) (ax Tryz.prog 72 (AV.fsl false Os) (I i)=some (AV.fptr (aa o M N L C) 0)∧aC (wD C L M N o) (SC 52 [AV.agg (aa o M N L C),AV.fsl false Cs] (AV.bool true)∧BodySem Tryz.prog opts0.glob 102 [AV.iface 149 (AV.ptr 0 0),AV.iface 33 (AV.agg (aa o M N L C))] [(1,some (Blk.cells es)),(wF k)] 14 (AV.tuple []) [(0,some (Blk.cells [AV.rsl true 20 0 (k+1) 37])),(20,some (Blk.cells es'))] 44∧(((qd Cs)∧(jb most)∧(qe Os)∧(s8 n)∧(I (af IntKind.i64 (i+1))=I j∧ac (I j)=true)∧True)∧(fM∧True)∧((true=true∧some 20=some 20∧0=0∧k+1=k+1∧37=37)∧True)∧(wE es')∧True)∧Nx)) (((wC Cs Os i most n)∧(fM∧True)∧(nZ k)∧(lX es)∧True)∧Q (AExit.exit 0) (dT i n most Cs Os k es).st)):=by kernel_rfl
def jV (most:Int):View:=⟨[(2,I most),(10,.nilsl)],[(7,.ptr 0 0)],[(0,.cells [.nilsl],.whole)],1,46⟩
def fN (most:Int) (k:Nat) (es:List AV):View:=⟨[(2,I most),(10,.nilsl)],[(7,.ptr 0 0)],[(0,.cells [.rsl true 1 0 k 37],.each),(1,.cells es,.whole)],2,46⟩
def di (most:Int) (k:Nat) (es:List AV) (z:Nat) (os:List AV):View:=⟨[(2,I most)],[(7,.ptr 0 0),(10,.rsl true 2 0 z 1)],[(0,.cells [.rsl true 1 0 k 37],.each),(1,.cells es,.whole),(2,.cells os,.whole)],3,46⟩
def Ul (k:Nat) (es' x:List AV):dj:=fun f _ _ _=>match Nat.beq f 104 with
 |true=>some (.part [0,1] (.iface 33 (.agg x)) [(0,some (.cells [.rsl true 1 0 k 37])),(1,some (.cells es'))] 30)
 |false=>none
def jW (k:Nat) (es' x:List AV):be:=aq [] [] (Ul k es' x) [] [103]
@[simp] abbrev s9 (most:Int):=((jb most)∧(AV.nilsl=AV.nilsl∧true=true)∧True)
theorem Um (most:Int) (Nx:Prop) (Q:AExit→St→Prop):aw Tryz.prog opts0 40 (jW 0 [] []) (ah Tryz.prog 53 10) (jV most).st (bf 0 [(0,0)] (jV most) Nx [(0,0)] (jV most) Q)=
  (((s9 most)∧(fM∧True)∧qf∧True)∧Q (AExit.exit 2) (jV most).st):=by kernel_rfl
abbrev Bg (es:List AV) (k:Nat):=[(1,some (Blk.cells es)),(0,some (Blk.cells [AV.rsl true 1 0 (k+1) 37]))]
@[simp] abbrev Iw (C L M N:AV) (Nx:Prop) (es es' os:List AV) (k:Nat) (most:Int) (o:Ob):=(BodySem Tryz.prog opts0.glob 104 [AV.iface 149 (AV.ptr 0 0)] (Bg es k) 27 (AV.iface 33 (AV.agg (aa o M N L C))) [(wF k),(1,some (Blk.cells es'))] 57∧(((jb most)∧True)∧(fM∧(true=true∧some 25=some 25∧0=0∧1=ab [AV.str o.1]∧1=1)∧True)∧(nZ k)∧(wE es')∧(flat [AV.str o.1]=os∧ad os=true)∧True)∧Nx)
@[simp] abbrev Ix (k:Nat):=((true=true∧some 1=some 1∧0=0∧k+1=k+1∧37=37)∧True)
theorem Iy (most:Int) (k:Nat) (es es' os:List AV) (o:Ob) (M N L C:AV) (Nx:Prop) (Q:AExit→St→Prop):aw Tryz.prog opts0 40 (jW k es' (aa o M N L C)) (ah Tryz.prog 53 10) (fN most (k+1) es).st (bf 0 [(0,0),(1,1),(2,25)] (di most k es' 1 os) Nx [(0,0),(1,1)] (fN most (k+1) es) Q)=
  (ak (ar most 0) (Iw C L M N Nx es es' os k most o) (ak (ar 0 most) (Iw C L M N Nx es es' os k most o) (((s9 most)∧(fM∧True)∧(Ix k)∧(lX es)∧True)∧Q (AExit.exit 2) (fN most (k+1) es).st))):=by kernel_rfl
@[simp] abbrev Iz (es' os os':List AV) (k z:Nat) (most:Int) (o:Ob):=(((jb most)∧True)∧(fM∧(true=true∧some 26=some 26∧0=0∧z+1=z+ab [AV.str o.1]∧1=1)∧True)∧(nZ k)∧(wE es')∧(os++flat [AV.str o.1]=os'∧ad os'=true)∧True)
abbrev IA (o:Ob) (z:Nat):=(bo 1 [AV.str o.1]&&(((z+ab [AV.str o.1])*16).ble 140737488355328&&(aS (flat [AV.str o.1])&&true)))
@[simp] abbrev IB (z:Nat):=(fM∧(true=true∧some 2=some 2∧0=0∧z=z∧1=1)∧True)
theorem IC (most:Int) (k z:Nat) (es es' os os':List AV) (o:Ob) (M N L C:AV) (Nx:Prop) (Q:AExit→St→Prop):aw Tryz.prog opts0 40 (jW k es' (aa o M N L C)) (ah Tryz.prog 53 10) (di most (k+1) es z os).st (bf 0 [(0,0),(1,1),(2,26)] (di most k es' (z+1) os') Nx [(0,0),(1,1),(2,2)] (di most (k+1) es z os) Q)=
  (ak (ar most 0) (BodySem Tryz.prog opts0.glob 104 [AV.iface 149 (AV.ptr 0 0)] (Bg es k) 28 (AV.iface 33 (AV.agg (aa o M N L C))) [(wF k),(1,some (Blk.cells es'))] 58∧aC (IA o z) (aC ((ab os).beq (z*1)) ((Iz es' os os' k z most o)∧Nx))) (ak (ar (Int.ofNat z) most) (BodySem Tryz.prog opts0.glob 104 [AV.iface 149 (AV.ptr 0 0)] (Bg es k) 28 (AV.iface 33 (AV.agg (aa o M N L C))) [(wF k),(1,some (Blk.cells es'))] 58∧aC (IA o z) (aC ((ab os).beq (z*1)) ((Iz es' os os' k z most o)∧Nx))) ((((jb most)∧True)∧(IB z)∧(Ix k)∧(lX es)∧(os=os∧ad os=true)∧True)∧Q (AExit.exit 2) (di most (k+1) es z os).st))):=by kernel_rfl
theorem Un (most:Int) (z:Nat) (es os:List AV) (Nx:Prop) (Q:AExit→St→Prop):aw Tryz.prog opts0 40 (jW 0 [] []) (ah Tryz.prog 53 10) (di most 0 es z os).st (bf 0 [(0,0),(1,1),(2,2)] (di most 0 es z os) Nx [(0,0),(1,1),(2,2)] (di most 0 es z os) Q)=
  ((((jb most)∧True)∧(IB z)∧((true=true∧some 1=some 1∧0=0∧0=0∧37=37)∧True)∧(lX es)∧(os=os∧ad os=true)∧True)∧Q (AExit.exit 2) (di most 0 es z os).st):=by kernel_rfl
def ID (n most:Int) (Cs Os:List AV):bg:=fun st Q=>bR 0 [(0,1)] (eH 0 n most Cs Os) st∧Q (.exit 0) (eH n n most Cs Os).st
def ta (n most:Int) (Cs Os:List AV) (k:Nat) (es:List AV):bg:=fun st Q=>bR 0 [(0,1)] (eH 0 n most Cs Os) st∧Q (.exit 0) (dT n n most Cs Os k es).st
def qg (lk:List (Nat × Nat)) (V W:View):bg:=fun st Q=>bR 0 lk V st∧Q (.exit 2) W.st
@[simp] abbrev Bh (Cs Os:List AV) (most:Int):=(((qd Cs)∧(jb most)∧(qe Os)∧(I (Int.ofNat (ab Os))=I (Int.ofNat (ab Os))∧ac (I (Int.ofNat (ab Os)))=true)∧(I 0=I 0∧true=true)∧True)∧((some 1=some 1∧0=0)∧True)∧qf∧True)
theorem Uo (most:Int) (Cs Os:List AV) (Q:AV→ae→Prop):aL Tryz.prog opts0 40 (aq [] [(4,ID (.ofNat (ab Os)) most Cs Os),(10,qg [(0,0)] (jV most) (jV most))] aA [] []) 53 [.fsl false Os,.fsl false Cs,I most] [] 0 (fun v H _=>Q v H)=
  ((Bh Cs Os most)∧((s9 most)∧(fM∧True)∧qf∧True)∧Q AV.nilsl [(0,some (Blk.cells [AV.nilsl]))]):=by kernel_rfl
theorem Up (most:Int) (Cs Os:List AV) (k k':Nat) (es es':List AV) (Q:AV→ae→Prop):aL Tryz.prog opts0 40 (aq [] [(4,ta (.ofNat (ab Os)) most Cs Os k es),(10,qg [(0,0),(1,1)] (fN most k es) (fN most k' es'))] aA [] []) 53 [.fsl false Os,.fsl false Cs,I most] [] 0 (fun v H _=>Q v H)=
  ((Bh Cs Os most)∧((s9 most)∧(fM∧True)∧(nZ k)∧(lX es)∧True)∧Q AV.nilsl [(0,some (Blk.cells [AV.rsl true 1 0 k' 37])),(1,some (Blk.cells es'))]):=by kernel_rfl
theorem Uq (most:Int) (Cs Os:List AV) (k k':Nat) (es es':List AV) (z:Nat) (os:List AV) (Q:AV→ae→Prop):aL Tryz.prog opts0 40 (aq [] [(4,ta (.ofNat (ab Os)) most Cs Os k es),(10,qg [(0,0),(1,1)] (fN most k es) (di most k' es' z os))] aA [] []) 53 [.fsl false Os,.fsl false Cs,I most] [] 0 (fun v H _=>Q v H)=
  ((Bh Cs Os most)∧((s9 most)∧(fM∧True)∧(nZ k)∧(lX es)∧True)∧Q (AV.rsl true 2 0 z 1) [(0,some (Blk.cells [AV.rsl true 1 0 k' 37])),(1,some (Blk.cells es')),(2,some (Blk.cells os))]):=by kernel_rfl
end
noncomputable section
def gG (i:Int) (Ls Ps:List AV):View:=⟨[(0,.fsl false Ls),(1,.fsl false Ps),(5,.nilsl),(6,I i)],[],[],0,48⟩
def eU (i:Int) (Ls Ps:List AV) (k:Nat) (es:List AV):View:=⟨[(0,.fsl false Ls),(1,.fsl false Ps),(6,I i)],[(5,.rsl true 0 0 k 37)],[(0,.cells es,.whole)],1,48⟩
def qh (y:Rw) (p:Int) (Ws O:List AV) (s:List UInt8):be:=aq [(5,2,.res (.fptr (kq y) 0)),(6,2,.res (.fptr (kq y) 0)),(6,6,.res (.fsl false Ws)),(7,4,.res (.str s))] [] (cz [(23,I p),(22,.agg O)]) [] []
@[simp] abbrev tb (Ls:List AV):=(AV.fsl false Ls=AV.fsl false Ls∧ac (AV.fsl false Ls)=true)
@[simp] abbrev tc (Ps:List AV):=(AV.fsl false Ps=AV.fsl false Ps∧ac (AV.fsl false Ps)=true)
@[simp] abbrev IE:=(AV.nilsl=AV.nilsl∧true=true)
abbrev qi (y:Rw):=[I y.1,I y.2,I y.3,I y.4]
@[simp] abbrev IF (Ls Ps:List AV) (Q:AExit→St→Prop) (i:Int):=((((tb Ls)∧(tc Ps)∧IE∧(I i=I i∧ac (I i)=true)∧True)∧True∧True)∧Q (AExit.exit 0) (gG i Ls Ps).st)
theorem IG (y:Rw) (i j p:Int) (Ls Ps Ws es':List AV) (o:Ob) (M N L C:AV) (s:List UInt8) (Nx:Prop) (Q:AExit→St→Prop):aw Tryz.prog opts0 40 (qh y p Ws (aa o M N L C) s) (ah Tryz.prog 50 4) (gG i Ls Ps).st (bf 0 [(0,39)] (eU j Ls Ps 1 es') Nx [] (gG i Ls Ps) Q)=
  (ak (ar i (Int.ofNat (ab Ls))) (ak (ar i 12) (ax Tryz.prog 22 (AV.fsl false Ls) (I i)=some (AV.fptr (qi y) 0)∧SC 23 [I y.2,I (af IntKind.i64 (Int.ofNat (ab Ps)+1))] (I p)∧ax Tryz.prog 22 (AV.fsl false Ls) (I i)=some (AV.fptr (qi y) 0)∧gI Tryz.prog 22 (AV.fsl false Ps) none (some (I p)) none=some (Eff.val (AV.fsl false Ws))∧SC 22 [AV.agg (qi y),AV.fsl false Ws] (AV.agg (aa o M N L C))∧aC (cQ Tryz.prog 33 (AV.agg (aa o M N L C)) 37) (gH Tryz.prog 23 9 (AV.fsl true [AV.int IntKind.u8 (af IntKind.u8 (af IntKind.i64 (97+i)))])=some (Eff.val (AV.str s))∧aC ((1+ab s).ble 9223372036854775807) ((((tb Ls)∧(tc Ps)∧(I (af IntKind.i64 (i+1))=I j∧ac (I j)=true)∧True)∧((true=true∧some 39=some 39∧0=0∧1=ab [AV.agg (aa {o with id:=([107]++s)} M N L C)]∧37=37)∧True)∧(flat [AV.agg (aa {o with id:=([107]++s)} M N L C)]=es'∧ad es'=true)∧True)∧Nx))) (IF Ls Ps Q i)) (IF Ls Ps Q i)):=by kernel_rfl
@[simp] abbrev IH (Ls Ps es:List AV) (Q:AExit→St→Prop) (i:Int) (k:Nat):=((((tb Ls)∧(tc Ps)∧(I i=I i∧ac (I i)=true)∧True)∧((true=true∧some 0=some 0∧0=0∧k=k∧37=37)∧True)∧(es=es∧ad es=true)∧True)∧Q (AExit.exit 0) (eU i Ls Ps k es).st)
theorem II (y:Rw) (i j p:Int) (k:Nat) (Ls Ps Ws es es':List AV) (o:Ob) (M N L C:AV) (s:List UInt8) (Nx:Prop) (Q:AExit→St→Prop):aw Tryz.prog opts0 40 (qh y p Ws (aa o M N L C) s) (ah Tryz.prog 50 4) (eU i Ls Ps k es).st (bf 0 [(0,40)] (eU j Ls Ps (k+1) es') Nx [(0,0)] (eU i Ls Ps k es) Q)=
  (ak (ar i (Int.ofNat (ab Ls))) (ak (ar i 12) (ax Tryz.prog 22 (AV.fsl false Ls) (I i)=some (AV.fptr (qi y) 0)∧SC 23 [I y.2,I (af IntKind.i64 (Int.ofNat (ab Ps)+1))] (I p)∧ax Tryz.prog 22 (AV.fsl false Ls) (I i)=some (AV.fptr (qi y) 0)∧gI Tryz.prog 22 (AV.fsl false Ps) none (some (I p)) none=some (Eff.val (AV.fsl false Ws))∧SC 22 [AV.agg (qi y),AV.fsl false Ws] (AV.agg (aa o M N L C))∧aC (cQ Tryz.prog 33 (AV.agg (aa o M N L C)) 37) (gH Tryz.prog 23 9 (AV.fsl true [AV.int IntKind.u8 (af IntKind.u8 (af IntKind.i64 (97+i)))])=some (Eff.val (AV.str s))∧aC ((1+ab s).ble 9223372036854775807) (aC (bo 37 [AV.agg (aa {o with id:=([107]++s)} M N L C)]&&(((k+ab [AV.agg (aa {o with id:=([107]++s)} M N L C)])*376).ble 140737488355328&&(aS (flat [AV.agg (aa {o with id:=([107]++s)} M N L C)])&&true))) (aC ((ab es).beq (k*37)) ((((tb Ls)∧(tc Ps)∧(I (af IntKind.i64 (i+1))=I j∧ac (I j)=true)∧True)∧((true=true∧some 40=some 40∧0=0∧k+1=k+ab [AV.agg (aa {o with id:=([107]++s)} M N L C)]∧37=37)∧True)∧(es++flat [AV.agg (aa {o with id:=([107]++s)} M N L C)]=es'∧ad es'=true)∧True)∧Nx))))) (IH Ls Ps es Q i k)) (IH Ls Ps es Q i k)):=by kernel_rfl
def wG (V W:View):bg:=fun st Q=>bR 0 [] V st∧Q (.exit 0) W.st
@[simp] abbrev IJ (Ls Ps:List AV):=(((tb Ls)∧(tc Ps)∧IE∧(I 0=I 0∧true=true)∧True)∧True∧True)
theorem Ur (i:Int) (Ls Ps:List AV) (Q:AV→ae→Prop):aL Tryz.prog opts0 40 (aq [] [(4,wG (gG 0 Ls Ps) (gG i Ls Ps))] aA [] []) 50 [.fsl false Ls,.fsl false Ps] [] 0 (fun v H _=>Q v H)=
  ((IJ Ls Ps)∧Q AV.nilsl []):=by kernel_rfl
theorem Us (i:Int) (Ls Ps:List AV) (k:Nat) (es:List AV) (Q:AV→ae→Prop):aL Tryz.prog opts0 40 (aq [] [(4,wG (gG 0 Ls Ps) (eU i Ls Ps k es))] aA [] []) 50 [.fsl false Ls,.fsl false Ps] [] 0 (fun v H _=>Q v H)=
  ((IJ Ls Ps)∧Q (AV.rsl true 0 0 k 37) [(0,some (Blk.cells es))]):=by kernel_rfl
end
end Go.Proofs.YtjhggnebkfpgcaaGreatDoor
namespace Go.Proofs.YtjhggnebkfpgcaaGreatDoor
set_option maxRecDepth 20000
open Go Go.RowKit
open Go.Proofs.Abs
def wH (b:Bool) (h:List Ob) (o:Ob):List Ob:=match b with
 |true=>fy aP h o
 |false=>h
def eV (L:List At) (l:List Ob):List Ob:=l.foldl (fun h o=>match cE o L with
 |true=>fy aP h o
 |false=>h) []
theorem Ut (L:List At) (l:List Ob) (o:Ob):eV L (l++[o])=match cE o L with
  |true=>fy aP (eV L l) o
  |false=>eV L l:=by
 unfold eV
 rw[List.foldl_append]
 rfl
theorem Uu (L:List At) (l:List Ob) (o:Ob):eV L (l++[o])=wH (cE o L) (eV L l) o:=Ut L l o
theorem qj (L:List At) (l:List Ob):Hp aP (eV L l) (eV L l).length∧(eV L l).Perm (l.filter fun o=>cE o L):=by
 have gen:∀ (l:List Ob) (h:List Ob),Hp aP h h.length→Hp aP (l.foldl (fun h o=>match cE o L with|true=>fy aP h o|false=>h) h) (l.foldl (fun h o=>match cE o L with|true=>fy aP h o|false=>h) h).length∧(l.foldl (fun h o=>match cE o L with|true=>fy aP h o|false=>h) h).Perm (h++l.filter fun o=>cE o L):=by
  intro l
  induction l with
  |nil=>intro h hh;exact ⟨hh,by simp⟩
  | cons o r ih=>
   intro h hh
   rw[List.foldl_cons,List.filter_cons]
   cases hb:cE o L with
   |true=>
    obtain ⟨h1,h2⟩:=ih (fy aP h o) (Tv ordO hh o)
    refine ⟨h1,h2.trans ?_⟩
    rw[if_pos rfl,List.append_cons]
    exact (Hf h o).append_right _
   |false=>
    rw[if_neg (by simp)]
    exact ih h hh
 have:=gen l [] (fun k a b _ hk=>absurd hk (Nat.not_lt_zero k))
 exact this
theorem IK (L:List At) (l:List Ob):(eV L l).length≤l.length:=by
 rw[(qj L l).2.length_eq]
 exact List.length_filter_le _ _
noncomputable def qk (i n most:Int) (Cs Os:List AV):List Ob→View
 |[]=>eH i n most Cs Os
 |x::r=>dT i n most Cs Os (r.length+1) (au (x::r))
theorem Uv (o:Ob):fy aP [] o=[o]:=rfl
theorem qo {l:List Ob} {i:Nat} {o:Ob} (hx:l[i]? =some o):ax Tryz.prog 72 (.fsl false (l.map aj)) (I (.ofNat i))=some (.fptr (ao o) 0):=
 fY (v:=aj o) (e:=33) (sz:=37) (by kernel_rfl) (by kernel_rfl) (by rw[List.getElem?_map,hx];rfl) rfl
theorem eW:∀l:List Ob,ad (l.map aj)=true
 |[]=>rfl
 |o::r=>by rw[List.map_cons,ad,Ny,eW r];rfl
section
variable {L:List At} {l:List Ob} {most:Int} {Q:AExit→St→Prop}
theorem Uw {i:Nat} (hi:i=l.length) (h:List Ob) (hq:Q (.exit 0) (qk (.ofNat i) (.ofNat l.length) most (L.map ag) (l.map aj) h).st):ALp Tryz.prog opts0.glob 0 (ah Tryz.prog 53 4) (qk (.ofNat i) (.ofNat l.length) most (L.map ag) (l.map aj) h).st Q:=by
 have hL:=bP L
 have hO:=eW l
 have no:ar (Int.ofNat i) (Int.ofNat l.length)=false:=ltInt_false.2 (by simp only[Int.ofNat_eq_natCast];omega)
 cases h with
 |nil=>
  refine ALp.round (A:=jU (aa zO .nilsl .nilsl .nilsl .nilsl) false true 0 []) (V2:=eH 0 (.ofNat l.length) most (L.map ag) (l.map aj)) (F:=eH (.ofNat i) (.ofNat l.length) most (L.map ag) (l.map aj)) (lk:=[(0,0)]) (lk':=[(0,0)]) base0 am (LsOk.no rfl) .refl ?_
  show aw Tryz.prog opts0 40 _ _ (eH (.ofNat i) (.ofNat l.length) most (L.map ag) (l.map aj)).st _
  rw[Iu]
  exact bz no ⟨⟨⟨⟨rfl,hL⟩,⟨rfl,rfl⟩,⟨rfl,hO⟩,⟨rfl,rfl⟩,⟨rfl,rfl⟩,trivial⟩,⟨⟨rfl,rfl⟩,trivial⟩,⟨rfl,rfl⟩,trivial⟩,hq⟩
 |cons x r=>
  have hc:=bw (x::r)
  refine ALp.round (A:=jU (aa zO .nilsl .nilsl .nilsl .nilsl) false false 0 []) (V2:=dT 0 (.ofNat l.length) most (L.map ag) (l.map aj) (r.length+1) (au (x::r))) (F:=dT (.ofNat i) (.ofNat l.length) most (L.map ag) (l.map aj) (r.length+1) (au (x::r))) (lk:=[(0,0),(1,1)]) (lk':=[(0,0),(1,1)]) base0 am (LsOk.no rfl) .refl ?_
  show aw Tryz.prog opts0 40 _ _ (dT (.ofNat i) (.ofNat l.length) most (L.map ag) (l.map aj) (r.length+1) (au (x::r))).st _
  rw[Iv]
  exact bz no ⟨⟨⟨⟨rfl,hL⟩,⟨rfl,rfl⟩,⟨rfl,hO⟩,⟨rfl,rfl⟩,⟨rfl,rfl⟩,trivial⟩,⟨⟨rfl,rfl⟩,trivial⟩,⟨⟨rfl,rfl,rfl,rfl,rfl⟩,trivial⟩,⟨rfl,hc⟩,trivial⟩,hq⟩
theorem Ux (hb:l.length≤80000) {i:Nat} {o:Ob} (g:l[i]? =some o) {b:Bool} (hi2:SC 52 [aj o,.fsl false (L.map ag)] (.bool b)) (h:List Ob) (hh:h.length≤i) (hn:ALp Tryz.prog opts0.glob 0 (ah Tryz.prog 53 4) (qk (.ofNat (i+1)) (.ofNat l.length) most (L.map ag) (l.map aj) (wH b h o)).st Q):ALp Tryz.prog opts0.glob 0 (ah Tryz.prog 53 4) (qk (.ofNat i) (.ofNat l.length) most (L.map ag) (l.map aj) h).st Q:=by
 have hL:=bP L
 have hO:=eW l
 have hi:i<l.length:=(List.getElem?_eq_some_iff.1 g).1
 have yes:ar (Int.ofNat i) (Int.ofNat l.length)=true:=ltInt_iff.2 (by simp only[Int.ofNat_eq_natCast];omega)
 have hw:af .i64 (Int.ofNat i+1)=Int.ofNat (i+1):=co (by simp;omega) (by simp;omega)
 have hx:=qo g
 have fo:=nV o
 cases b with
 | false=>
  simp only[wH] at hn
  cases h with
  |nil=>
   refine ALp.round (A:=jU (ao o) false true 0 []) (V2:=eH (.ofNat (i+1)) (.ofNat l.length) most (L.map ag) (l.map aj)) (F:=eH (.ofNat i) (.ofNat l.length) most (L.map ag) (l.map aj)) (lk:=[(0,0)]) (lk':=[(0,0)]) base0 am (LsOk.no rfl) .refl ?_
   show aw Tryz.prog opts0 40 _ _ (eH (.ofNat i) (.ofNat l.length) most (L.map ag) (l.map aj)).st _
   unfold aj at hi2
   unfold ao at hx fo hi2⊢
   rw[Iu,hw]
   exact a8 yes ⟨hx,aH fo ⟨hi2,⟨⟨⟨rfl,hL⟩,⟨rfl,rfl⟩,⟨rfl,hO⟩,⟨rfl,rfl⟩,⟨rfl,rfl⟩,trivial⟩,⟨⟨rfl,rfl⟩,trivial⟩,⟨rfl,rfl⟩,trivial⟩,hn⟩⟩
  |cons x r=>
   have hc:=bw (x::r)
   refine ALp.round (A:=jU (ao o) false false 0 []) (V2:=dT (.ofNat (i+1)) (.ofNat l.length) most (L.map ag) (l.map aj) (r.length+1) (au (x::r))) (F:=dT (.ofNat i) (.ofNat l.length) most (L.map ag) (l.map aj) (r.length+1) (au (x::r))) (lk:=[(0,0),(1,1)]) (lk':=[(0,0),(1,1)]) base0 am (LsOk.no rfl) .refl ?_
   show aw Tryz.prog opts0 40 _ _ (dT (.ofNat i) (.ofNat l.length) most (L.map ag) (l.map aj) (r.length+1) (au (x::r))).st _
   unfold aj at hi2
   unfold ao at hx fo hi2⊢
   rw[Iv,hw]
   exact a8 yes ⟨hx,aH fo ⟨hi2,⟨⟨⟨rfl,hL⟩,⟨rfl,rfl⟩,⟨rfl,hO⟩,⟨rfl,rfl⟩,⟨rfl,rfl⟩,trivial⟩,⟨⟨rfl,rfl⟩,trivial⟩,⟨⟨rfl,rfl,rfl,rfl,rfl⟩,trivial⟩,⟨rfl,hc⟩,trivial⟩,hn⟩⟩
 | true=>
  simp only[wH] at hn
  cases h with
  |nil=>
   rw[Uv] at hn
   have hp:=Is (K':=20) (m:=13) (m':=43) (H2:=[(0,some (.cells [.nilsl]))]) (a:=eG) (.iface _ (.ptr _ _ _ rfl)) (Ug o) (by omega) (by omega) (by omega) rfl (by omega) (bw _)
   refine ALp.round (A:=jU (ao o) true true 0 (au [o])) (V2:=dT (.ofNat (i+1)) (.ofNat l.length) most (L.map ag) (l.map aj) 1 (au [o])) (F:=eH (.ofNat i) (.ofNat l.length) most (L.map ag) (l.map aj)) (lk:=[(0,0),(1,20)]) (lk':=[(0,0)]) base0 am (LsOk.no rfl) .refl ?_
   show aw Tryz.prog opts0 40 _ _ (eH (.ofNat i) (.ofNat l.length) most (L.map ag) (l.map aj)).st _
   unfold aj at hi2 hp
   unfold ao at hx fo hi2 hp⊢
   rw[Uj,hw]
   exact a8 yes ⟨hx,aH fo ⟨hi2,hp,⟨⟨⟨rfl,hL⟩,⟨rfl,rfl⟩,⟨rfl,hO⟩,⟨rfl,rfl⟩,⟨rfl,rfl⟩,trivial⟩,⟨⟨rfl,rfl⟩,trivial⟩,⟨⟨rfl,rfl,rfl,rfl,rfl⟩,trivial⟩,⟨rfl,bw _⟩,trivial⟩,hn⟩⟩
  | cons x r=>
   have hlen:=Hg (lt:=aP) (x::r) o
   simp only[List.length_cons] at hh hlen
   have hp:=Ir (K':=20) (m:=14) (m':=44) (H2:=[(1,some (.cells (au (x::r)))),(0,some (.cells [.rsl true 1 0 (r.length+1) 37]))]) (a:=eG) (.iface _ (.ptr _ _ _ rfl)) (Uf (l:=x::r) (by simp only[List.length_cons];omega) o) (by omega) (by omega) (by omega) rfl rfl (by omega) (bw _) (bw _)
   revert hn hp
   generalize hPL:fy aP (x::r) o=PL
   rw[hPL] at hlen
   obtain ⟨y,q,rfl⟩:∃y q,PL=y::q:=by
    cases PL with
    |nil=>simp at hlen
    |cons y q=>exact ⟨y,q,rfl⟩
   simp only[List.length_cons] at hlen
   intro hn hp
   have hn:ALp Tryz.prog opts0.glob 0 (ah Tryz.prog 53 4) (dT (.ofNat (i+1)) (.ofNat l.length) most (L.map ag) (l.map aj) (q.length+1) (au (y::q))).st Q:=hn
   rw[hlen] at hn
   refine ALp.round (A:=jU (ao o) true false (r.length+1) (au (y::q))) (V2:=dT (.ofNat (i+1)) (.ofNat l.length) most (L.map ag) (l.map aj) (r.length+1+1) (au (y::q))) (F:=dT (.ofNat i) (.ofNat l.length) most (L.map ag) (l.map aj) (r.length+1) (au (x::r))) (lk:=[(0,0),(1,20)]) (lk':=[(0,0),(1,1)]) base0 am (LsOk.no rfl) .refl ?_
   show aw Tryz.prog opts0 40 _ _ (dT (.ofNat i) (.ofNat l.length) most (L.map ag) (l.map aj) (r.length+1) (au (x::r))).st _
   unfold aj at hi2 hp
   unfold ao at hx fo hi2 hp⊢
   rw[Uk,hw]
   exact a8 yes ⟨hx,aH fo ⟨hi2,hp,⟨⟨⟨rfl,hL⟩,⟨rfl,rfl⟩,⟨rfl,hO⟩,⟨rfl,rfl⟩,⟨rfl,rfl⟩,trivial⟩,⟨⟨rfl,rfl⟩,trivial⟩,⟨⟨rfl,rfl,rfl,rfl,rfl⟩,trivial⟩,⟨rfl,bw _⟩,trivial⟩,hn⟩⟩
theorem IL (hb:l.length≤80000) (his:∀o∈l,SC 52 [aj o,.fsl false (L.map ag)] (.bool (cE o L))) (hq:Q (.exit 0) (qk (.ofNat l.length) (.ofNat l.length) most (L.map ag) (l.map aj) (eV L l)).st):∀m i:Nat,i+m=l.length→ALp Tryz.prog opts0.glob 0 (ah Tryz.prog 53 4) (qk (.ofNat i) (.ofNat l.length) most (L.map ag) (l.map aj) (eV L (l.take i))).st Q
 |0,i,hi=>by
  rw[Nat.add_zero] at hi
  subst hi
  rw[List.take_of_length_le (Nat.le_refl _)]
  exact Uw rfl _ hq
 |m+1,i,hi=>by
  have hlt:i<l.length:=by omega
  have g:=List.getElem?_eq_getElem hlt
  have ih:=IL hb his hq m (i+1) (by omega)
  rw[fg g,Uu] at ih
  have h1:=IK L (l.take i)
  rw[List.length_take] at h1
  exact Ux hb g (his _ (List.getElem_mem hlt)) _ (by omega) ih
end
structure FS where
 live:List Ob
 junk:List Ob
 out:List (List UInt8)
def jX (s:FS):FS:=match (cF aP s.live)[s.live.length-1]? with
 |none=>s
 |some x=>⟨(cF aP s.live).take (s.live.length-1),x::s.junk,s.out++[x.id]⟩
def jc (most:Int) (s:FS):Bool:=ar most 0||ar (.ofNat s.out.length) most
def lY (most:Int):Nat→FS→FS
 |0,s=>s
 |f+1,s=>match jc most s with
  |true=>lY most f (jX s)
  |false=>s
noncomputable def jY (most:Int) (s:FS):View:=match s.out with
 |[]=>fN most s.live.length (au (s.live++s.junk))
 |_::_=>di most s.live.length (au (s.live++s.junk)) s.out.length (s.out.map .str)
section
variable {most:Int} {Q:AExit→St→Prop}
theorem IM {s:FS} (hs:s.out≠[]∨s.live≠[]) (h:s.live=[]∨jc most s=false) (hq:Q (.exit 2) (jY most s).st):ALp Tryz.prog opts0.glob 0 (ah Tryz.prog 53 10) (jY most s).st Q:=by
 obtain ⟨p,t,out⟩:=s
 have hc:=bw (p++t)
 have hs2:=ea out
 cases p with
 | nil=>
  cases out with
  |nil=>rcases hs with h|h<;>exact absurd rfl h
  |cons a r=>
   have hq:Q (.exit 2) (di most 0 (au ([]++t)) (a::r).length ((a::r).map .str)).st:=hq
   refine ALp.round (A:=jW 0 [] []) (V2:=di most 0 (au ([]++t)) (a::r).length ((a::r).map .str)) (F:=di most 0 (au ([]++t)) (a::r).length ((a::r).map .str)) (lk:=[(0,0),(1,1),(2,2)]) (lk':=[(0,0),(1,1),(2,2)]) base0 am (LsOk.no rfl) .refl ?_
   show aw Tryz.prog opts0 40 _ _ (di most 0 (au ([]++t)) (a::r).length ((a::r).map .str)).st _
   rw[Un]
   exact ⟨⟨⟨⟨rfl,rfl⟩,trivial⟩,⟨⟨rfl,rfl⟩,⟨rfl,rfl,rfl,rfl,rfl⟩,trivial⟩,⟨⟨rfl,rfl,rfl,rfl,rfl⟩,trivial⟩,⟨rfl,hc⟩,⟨rfl,hs2⟩,trivial⟩,hq⟩
 | cons x q=>
  have hg:jc most ⟨x::q,t,out⟩=false:=by
   rcases h with h|h
   ·cases h
   ·exact h
  simp only[jc,Bool.or_eq_false_iff] at hg
  cases out with
  |nil=>
   have hq:Q (.exit 2) (fN most (q.length+1) (au ((x::q)++t))).st:=hq
   refine ALp.round (A:=jW q.length [] (aa zO .nilsl .nilsl .nilsl .nilsl)) (V2:=di most q.length [] 1 []) (F:=fN most (q.length+1) (au ((x::q)++t))) (lk:=[(0,0),(1,1),(2,25)]) (lk':=[(0,0),(1,1)]) base0 am (LsOk.no rfl) .refl ?_
   show aw Tryz.prog opts0 40 _ _ (fN most (q.length+1) (au ((x::q)++t))).st _
   rw[Iy]
   exact bz hg.1 (bz hg.2 ⟨⟨⟨⟨rfl,rfl⟩,⟨rfl,rfl⟩,trivial⟩,⟨⟨rfl,rfl⟩,trivial⟩,⟨⟨rfl,rfl,rfl,rfl,rfl⟩,trivial⟩,⟨rfl,hc⟩,trivial⟩,hq⟩)
  |cons a r=>
   have hq:Q (.exit 2) (di most (q.length+1) (au ((x::q)++t)) (a::r).length ((a::r).map .str)).st:=hq
   refine ALp.round (A:=jW q.length [] (aa zO .nilsl .nilsl .nilsl .nilsl)) (V2:=di most q.length [] ((a::r).length+1) []) (F:=di most (q.length+1) (au ((x::q)++t)) (a::r).length ((a::r).map .str)) (lk:=[(0,0),(1,1),(2,26)]) (lk':=[(0,0),(1,1),(2,2)]) base0 am (LsOk.no rfl) .refl ?_
   show aw Tryz.prog opts0 40 _ _ (di most (q.length+1) (au ((x::q)++t)) (a::r).length ((a::r).map .str)).st _
   rw[IC]
   exact bz hg.1 (bz hg.2 ⟨⟨⟨⟨rfl,rfl⟩,trivial⟩,⟨⟨rfl,rfl⟩,⟨rfl,rfl,rfl,rfl,rfl⟩,trivial⟩,⟨⟨rfl,rfl,rfl,rfl,rfl⟩,trivial⟩,⟨rfl,hc⟩,⟨rfl,hs2⟩,trivial⟩,hq⟩)
theorem Uy {s:FS} (hb:s.live.length+s.out.length≤80000) (hp:Hp aP s.live s.live.length) (h0:s.live≠[]) (hg:jc most s=true) (hn:ALp Tryz.prog opts0.glob 0 (ah Tryz.prog 53 10) (jY most (jX s)).st Q):ALp Tryz.prog opts0.glob 0 (ah Tryz.prog 53 10) (jY most s).st Q:=by
 obtain ⟨p,t,out⟩:=s
 have hlen:0<p.length:=by
  cases p with
  |nil=>exact absurd rfl h0
  |cons _ _=>simp
 obtain ⟨x,r,h1,h2,h3,_,_,_,h7⟩:=v7 ordO hp hlen
 obtain ⟨n,hnl⟩:∃n,p.length=n+1:=⟨p.length-1,by omega⟩
 simp only at hb
 have hst:jX ⟨p,t,out⟩=⟨r,x::t,out++[x.id]⟩:=by
  unfold jX
  simp only[h1,h2]
 rw[hst] at hn
 have hrl:r.length=n:=by simp only at h7;omega
 have hn:ALp Tryz.prog opts0.glob 0 (ah Tryz.prog 53 10) (di most n (au (cF aP p++t)) (out.length+1) ((out++[x.id]).map .str)).st Q:=by
  have e:jY most ⟨r,x::t,out++[x.id]⟩=di most n (au (cF aP p++t)) (out.length+1) ((out++[x.id]).map .str):=by
   have e1:au (cF aP p++t)=au (r++x::t):=by rw[h3,List.append_assoc];rfl
   have e2:(out++[x.id]).length=out.length+1:=by simp
   rw[e1]
   unfold jY
   cases out with
   |nil=>simp only[List.nil_append,hrl];rfl
   |cons a q=>simp only[List.cons_append,hrl] at e2⊢;rw[e2]
  rw[e] at hn
  exact hn
 simp only at h1
 have hx:(cF aP p)[n]? =some x:=by rw[show n=p.length-1 by omega];exact h1
 have hcc:=bw (cF aP p++t)
 have hso:=ea (out++[x.id])
 have hpo:=qc (own:=true) (t:=t) hnl (by omega) hx
 cases out with
 | nil=>
  have b:=fun m m' (hm:m≤m')=>pZ (Z:=0) (K:=1) (m:=m) (m':=m') (args2:=[eG]) (H2:=[(1,some (.cells (au (p++t)))),(0,some (.cells [.rsl true 1 0 (n+1) 37]))]) (v2:= .iface 33 (aj x)) (c2:=[.rsl true 1 0 (n+1) 37]) (c2':=[.rsl true 1 0 n 37]) hpo (by decide) rfl rfl ⟨.iface _ (.ptr _ _ _ rfl),trivial⟩ ⟨.rsl _ _ _ _ _ _ rfl,trivial⟩ ⟨.rsl _ _ _ _ _ _ rfl,trivial⟩ (.same _ (nY x)) (bw _) (bw _) hm
  refine ALp.round (A:=jW n (au (cF aP p++t)) (ao x)) (V2:=di most n (au (cF aP p++t)) 1 [.str x.id]) (F:=fN most (n+1) (au (p++t))) (lk:=[(0,0),(1,1),(2,25)]) (lk':=[(0,0),(1,1)]) base0 am (LsOk.no rfl) .refl ?_
  show aw Tryz.prog opts0 40 _ _ (fN most p.length (au (p++t))).st _
  rw[hnl]
  unfold aj at b
  unfold ao at b⊢
  rw[Iy]
  simp only[jc,Bool.or_eq_true] at hg
  refine az (fun _=> ?_) (fun e=>az (fun _=> ?_) (fun e2=> ?_))
  ·exact ⟨b _ _ (by omega),⟨⟨⟨rfl,rfl⟩,trivial⟩,⟨⟨rfl,rfl⟩,⟨rfl,rfl,rfl,rfl,rfl⟩,trivial⟩,⟨⟨rfl,rfl,rfl,rfl,rfl⟩,trivial⟩,⟨rfl,hcc⟩,⟨rfl,rfl⟩,trivial⟩,hn⟩
  ·exact ⟨b _ _ (by omega),⟨⟨⟨rfl,rfl⟩,trivial⟩,⟨⟨rfl,rfl⟩,⟨rfl,rfl,rfl,rfl,rfl⟩,trivial⟩,⟨⟨rfl,rfl,rfl,rfl,rfl⟩,trivial⟩,⟨rfl,hcc⟩,⟨rfl,rfl⟩,trivial⟩,hn⟩
  ·rcases hg with h|h
   ·rw[e] at h;cases h
   ·rw[show ar (Int.ofNat ([]:List (List UInt8)).length) most=ar 0 most from rfl,e2] at h;cases h
 | cons a q=>
  simp only[List.length_cons] at hb
  have b:=fun m m' (hm:m≤m')=>pZ (Z:=0) (K:=1) (m:=m) (m':=m') (args2:=[eG]) (H2:=[(1,some (.cells (au (p++t)))),(0,some (.cells [.rsl true 1 0 (n+1) 37]))]) (v2:= .iface 33 (aj x)) (c2:=[.rsl true 1 0 (n+1) 37]) (c2':=[.rsl true 1 0 n 37]) hpo (by decide) rfl rfl ⟨.iface _ (.ptr _ _ _ rfl),trivial⟩ ⟨.rsl _ _ _ _ _ _ rfl,trivial⟩ ⟨.rsl _ _ _ _ _ _ rfl,trivial⟩ (.same _ (nY x)) (bw _) (bw _) hm
  have os1:(((a::q).map AV.str)++[AV.str x.id])=((a::q)++[x.id]).map .str:=by simp
  have c1:(Nat.ble (((a::q).length+1)*16) 140737488355328)=true:=iB (by simp only[List.length_cons];omega)
  have c2:Nat.beq (ab ((a::q).map AV.str)) ((a::q).length*1)=true:=by rw[beq_iff,aI,List.length_map,Nat.mul_one]
  refine ALp.round (A:=jW n (au (cF aP p++t)) (ao x)) (V2:=di most n (au (cF aP p++t)) ((a::q).length+1) (((a::q)++[x.id]).map .str)) (F:=di most (n+1) (au (p++t)) (a::q).length ((a::q).map .str)) (lk:=[(0,0),(1,1),(2,26)]) (lk':=[(0,0),(1,1),(2,2)]) base0 am (LsOk.no rfl) .refl ?_
  show aw Tryz.prog opts0 40 _ _ (di most p.length (au (p++t)) (a::q).length ((a::q).map .str)).st _
  rw[hnl]
  unfold aj at b
  unfold ao at b⊢
  rw[IC]
  simp only[jc,Bool.or_eq_true] at hg
  refine az (fun _=> ?_) (fun e=>az (fun _=> ?_) (fun e2=> ?_))
  ·exact ⟨b _ _ (by omega),aH (nX rfl c1 rfl) (aH c2 ⟨⟨⟨⟨rfl,rfl⟩,trivial⟩,⟨⟨rfl,rfl⟩,⟨rfl,rfl,rfl,rfl,rfl⟩,trivial⟩,⟨⟨rfl,rfl,rfl,rfl,rfl⟩,trivial⟩,⟨rfl,hcc⟩,⟨os1,hso⟩,trivial⟩,hn⟩)⟩
  ·exact ⟨b _ _ (by omega),aH (nX rfl c1 rfl) (aH c2 ⟨⟨⟨⟨rfl,rfl⟩,trivial⟩,⟨⟨rfl,rfl⟩,⟨rfl,rfl,rfl,rfl,rfl⟩,trivial⟩,⟨⟨rfl,rfl,rfl,rfl,rfl⟩,trivial⟩,⟨rfl,hcc⟩,⟨os1,hso⟩,trivial⟩,hn⟩)⟩
  ·rcases hg with h|h
   ·rw[e] at h;cases h
   ·rw[e2] at h;cases h
theorem Uz {s:FS} (hp:Hp aP s.live s.live.length) (h0:s.live≠[]):∃x r,jX s=⟨r,x::s.junk,s.out++[x.id]⟩∧Hp aP r r.length∧r.length+1=s.live.length:=by
 have hlen:0<s.live.length:=by
  cases h:s.live with
  |nil=>exact absurd h h0
  |cons _ _=>simp
 obtain ⟨x,r,h1,h2,h3,_,h5,_,h7⟩:=v7 ordO hp hlen
 exact ⟨x,r,by unfold jX;simp only[h1,h2],h5,by omega⟩
theorem IO:∀ (f:Nat) (s:FS),s.live.length=f→s.live.length+s.out.length≤80000→Hp aP s.live s.live.length→(s.out≠[]∨s.live≠[])→Q (.exit 2) (jY most (lY most f s)).st→ALp Tryz.prog opts0.glob 0 (ah Tryz.prog 53 10) (jY most s).st Q
 |0,s,hf,_,_,hs,hq=>IM hs (.inl (List.length_eq_zero_iff.1 hf)) hq
 | f+1,s,hf,hb,hp,hs,hq=>by
  have h0:s.live≠[]:=fun h=>by rw[h] at hf;cases hf
  rw[lY] at hq
  cases hg:jc most s with
  |false=>
   rw[hg] at hq
   exact IM hs (.inr hg) hq
  |true=>
   rw[hg] at hq
   obtain ⟨x,r,e,h5,h6⟩:=Uz hp h0
   refine Uy hb hp h0 hg (IO f (jX s) ?_ ?_ ?_ ?_ hq)
   ·rw[e];simp only;omega
   ·rw[e];simp only[List.length_append,List.length_singleton];omega
   ·rw[e];exact h5
   ·rw[e];exact .inl (by simp)
end
theorem Bi:br (cy Tryz.prog 53) 10=[ah Tryz.prog 53 10]:=by kernel_rfl
theorem Bj:br (cy Tryz.prog 53) 4=[ah Tryz.prog 53 4]:=by kernel_rfl
def jZ (most:Int) (L:List At) (l:List Ob):List (List UInt8):=(lY most (eV L l).length ⟨eV L l,[],[]⟩).out
theorem IP (s:List UInt8):fc 1 (.str s):=⟨rfl,rfl⟩
theorem UA {L:List At} {l:List Ob} (hb:l.length≤80000) (his:∀o∈l,SC 52 [aj o,.fsl false (L.map ag)] (.bool (cE o L))) (most:Int):SC 53 [.fsl false (l.map aj),.fsl false (L.map ag),I most] (.fsl false ((jZ most L l).map .str)):=by
 have hL:=bP L
 have hO:=eW l
 have hcl:ad [.fsl false (l.map aj),.fsl false (L.map ag),I most]=true:=by simp only[ad,ac,hL,hO,Bool.and_self]
 have hlen:ab (l.map aj)=l.length:=by rw[aI,List.length_map]
 have hrun:=fun (Q:AExit→St→Prop) hq=>IL (L:=L) (most:=most) (Q:=Q) hb his hq l.length 0 (Nat.zero_add _)
 have hok:=(qj L l).1
 have hln:=IK L l
 rw[List.take_zero] at hrun
 unfold jZ
 generalize eV L l=h at hrun hok hln⊢
 cases h with
 | nil=>
  refine dH (A:=aq [] [(4,ID (.ofNat (ab (l.map aj))) most (L.map ag) (l.map aj)),(10,qg [(0,0)] (jV most) (jV most))] aA [] []) base0 am
   (aN (LsOk.at2 rfl Bj Bi (fun st Q hs=> .seen base0.glob hs.1 (by
    have h2:=hs.2
    rw[hlen] at h2⊢
    exact hrun Q h2)) (fun st Q hs=> .seen base0.glob hs.1 (by
    refine ALp.round (A:=jW 0 [] []) (V2:=jV most) (F:=jV most) (lk:=[(0,0)]) (lk':=[(0,0)]) base0 am (LsOk.no rfl) .refl ?_
    rw[Um]
    exact ⟨⟨⟨⟨rfl,rfl⟩,⟨rfl,rfl⟩,trivial⟩,⟨⟨rfl,rfl⟩,trivial⟩,⟨rfl,rfl⟩,trivial⟩,hs.2⟩)))) hcl ?_
  rw[Uo]
  exact ⟨⟨⟨⟨rfl,hL⟩,⟨rfl,rfl⟩,⟨rfl,hO⟩,⟨rfl,rfl⟩,⟨rfl,rfl⟩,trivial⟩,⟨⟨rfl,rfl⟩,trivial⟩,⟨rfl,rfl⟩,trivial⟩,⟨⟨⟨rfl,rfl⟩,⟨rfl,rfl⟩,trivial⟩,⟨⟨rfl,rfl⟩,trivial⟩,⟨rfl,rfl⟩,trivial⟩,⟨.nilsl,(Frz.closed _ rfl).out,rfl,.nil⟩⟩
 | cons x r=>
  have hc:=bw (x::r)
  have hfo:=fun (Q:AExit→St→Prop)=>IO (most:=most) (Q:=Q) (x::r).length ⟨x::r,[],[]⟩ rfl (by simp only[List.length_nil,Nat.add_zero];omega) hok (.inr (by simp))
  generalize lY most (x::r).length ⟨x::r,[],[]⟩=s at hfo⊢
  obtain ⟨p,t,out⟩:=s
  have e0:jY most ⟨x::r,[],[]⟩=fN most (r.length+1) (au (x::r)):=by unfold jY;simp only[List.append_nil];rfl
  rw[e0] at hfo
  have L1:∀ (st:St) (Q:AExit→St→Prop),ta (.ofNat (ab (l.map aj))) most (L.map ag) (l.map aj) (r.length+1) (au (x::r)) st Q→AWp Tryz.prog opts0.glob 0 (.loop (ah Tryz.prog 53 4)) st Q:=fun st Q hs=> .seen base0.glob hs.1 (by
    have h2:=hs.2
    rw[hlen] at h2⊢
    exact hrun Q h2)
  cases out with
  | nil=>
   refine dH (A:=aq [] [(4,ta (.ofNat (ab (l.map aj))) most (L.map ag) (l.map aj) (r.length+1) (au (x::r))),(10,qg [(0,0),(1,1)] (fN most (r.length+1) (au (x::r))) (fN most p.length (au (p++t))))] aA [] []) base0 am
    (aN (LsOk.at2 rfl Bj Bi L1 (fun st Q hs=> .seen base0.glob hs.1 (hfo Q hs.2)))) hcl ?_
   rw[Up]
   exact ⟨⟨⟨⟨rfl,hL⟩,⟨rfl,rfl⟩,⟨rfl,hO⟩,⟨rfl,rfl⟩,⟨rfl,rfl⟩,trivial⟩,⟨⟨rfl,rfl⟩,trivial⟩,⟨rfl,rfl⟩,trivial⟩,⟨⟨⟨rfl,rfl⟩,⟨rfl,rfl⟩,trivial⟩,⟨⟨rfl,rfl⟩,trivial⟩,⟨⟨rfl,rfl,rfl,rfl,rfl⟩,trivial⟩,⟨rfl,hc⟩,trivial⟩,⟨.nilsl,(Frz.closed _ rfl).out,rfl,.nil⟩⟩
  | cons a q=>
   have hso:=ea (a::q)
   refine dH (A:=aq [] [(4,ta (.ofNat (ab (l.map aj))) most (L.map ag) (l.map aj) (r.length+1) (au (x::r))),(10,qg [(0,0),(1,1)] (fN most (r.length+1) (au (x::r))) (di most p.length (au (p++t)) (a::q).length ((a::q).map .str)))] aA [] []) base0 am
    (aN (LsOk.at2 rfl Bj Bi L1 (fun st Q hs=> .seen base0.glob hs.1 (hfo Q hs.2)))) hcl ?_
   rw[Uq]
   exact ⟨⟨⟨⟨rfl,hL⟩,⟨rfl,rfl⟩,⟨rfl,hO⟩,⟨rfl,rfl⟩,⟨rfl,rfl⟩,trivial⟩,⟨⟨rfl,rfl⟩,trivial⟩,⟨rfl,rfl⟩,trivial⟩,⟨⟨⟨rfl,rfl⟩,⟨rfl,rfl⟩,trivial⟩,⟨⟨rfl,rfl⟩,trivial⟩,⟨⟨rfl,rfl,rfl,rfl,rfl⟩,trivial⟩,⟨rfl,hc⟩,trivial⟩,⟨.fsl false ((a::q).map .str),(Frz.row rfl rfl (pH _).symm (by rw[List.length_map]) (fun e he=>by obtain ⟨a,_,rfl⟩:=List.mem_map.1 he;exact IP a) hso).out,hso,.refl _⟩⟩
theorem UB (n:Int) {N:Nat} (hN:N≤9223372036854775807):∃k,k≤N∧SC 23 [I n,I (af .i64 (Int.ofNat N+1))] (I (.ofNat k)):=by
 have run:∀ (m r:Int),aF m 0=false→(ar (n.tmod m) 0=true→af .i64 (n.tmod m+m)=r)→(ar (n.tmod m) 0=false→n.tmod m=r)→SC 23 [I n,I m] (I r):=fun m r h0 h1 h2=>by
  refine r5 (A:=ej) base0 jz (aN (LsOk.no rfl)) rfl ?_
  rw[ED]
  refine aH (by rw[h0];rfl) (az (fun h=> ?_) (fun h=> ?_))
  ·exact uG (by rw[h1 h])
  ·exact uG (by rw[h2 h])
 by_cases hb:N=9223372036854775807
 ·subst hb
  have hm:af .i64 (Int.ofNat 9223372036854775807+1)= -9223372036854775808:=by kernel_rfl
  rw[hm]
  have e:n.tmod (-9223372036854775808)=n.tmod 9223372036854775808:=Int.tmod_neg n _
  have h1:=Int.tmod_lt_of_pos n (b:=9223372036854775808) (by omega)
  have h2:=Int.lt_tmod_of_pos n (b:=9223372036854775808) (by omega)
  rw[←e] at h1 h2
  by_cases h:n.tmod (-9223372036854775808)<0
  ·refine ⟨(n.tmod (-9223372036854775808)+9223372036854775808).toNat,by omega,run _ _ rfl (fun _=> ?_) (fun h3=>absurd (ltInt_false.1 h3) (by omega))⟩
   generalize n.tmod (-9223372036854775808)=x at h h1 h2
   rw[ke]
   simp only[IntKind.wrap,IntKind.signed,IntKind.bits,Int.ofNat_eq_natCast]
   simp
   omega
  ·refine ⟨(n.tmod (-9223372036854775808)).toNat,by omega,run _ _ rfl (fun h3=>absurd (ltInt_iff.1 h3) h) (fun _=> ?_)⟩
   simp only[Int.ofNat_eq_natCast]
   omega
 ·have hm:af .i64 (Int.ofNat N+1)=(N:Int)+1:=by
   rw[co (by simp only[Int.ofNat_eq_natCast];omega) (by simp only[Int.ofNat_eq_natCast];omega)]
   rfl
  rw[hm]
  have h1:=Int.tmod_lt_of_pos n (b:=(N:Int)+1) (by omega)
  have h2:=Int.lt_tmod_of_pos n (b:=(N:Int)+1) (by omega)
  have h0:aF ((N:Int)+1) 0=false:=beqInt_false.2 (by omega)
  by_cases h:n.tmod ((N:Int)+1)<0
  ·refine ⟨(n.tmod ((N:Int)+1)+((N:Int)+1)).toNat,by omega,run _ _ h0 (fun _=> ?_) (fun h3=>absurd (ltInt_false.1 h3) (by omega))⟩
   rw[co (by omega) (by omega)]
   simp only[Int.ofNat_eq_natCast]
   omega
  ·refine ⟨(n.tmod ((N:Int)+1)).toNat,by omega,run _ _ h0 (fun h3=>absurd (ltInt_iff.1 h3) h) (fun _=> ?_)⟩
   simp only[Int.ofNat_eq_natCast]
   omega
theorem UC {t e:TypeId} {sz j:Nat} {R:List AV} (h1:dB Tryz.prog t=some e) (h2:bJ Tryz.prog e=some sz) (hh:mn sz R=true) (hj:j≤R.length):gI Tryz.prog t (.fsl false R) none (some (I (.ofNat j))) none=some (.val (.fsl false (R.take j))):=by
 have h:rM Tryz.prog t (.fsl false R) none (some (I (.ofNat j))) none=some (.obl (true&&(true&&(mn sz R&&(Nat.ble 0 j&&Nat.ble j (ab R))))) (.val (.fsl false ((R.drop 0).take (j-0))))):=by
  unfold rM
  simp only[oR,kj,h1,h2]
  rfl
 have:=DM h
 simp only[ES.ok] at this
 have:=this (by rw[hh,aI];simp[hj])
 simpa using this
theorem UD:∀l:List Rw,mn 4 (l.map aJ)=true
 |[]=>rfl
 |_::_=>rfl
def td (i:Nat):List UInt8:=[UInt8.ofNat (97+i)]
def eI (i:Nat):List UInt8:=[107]++td i
theorem UE:∀i,i<12→gH Tryz.prog 23 9 (.fsl true [.int .u8 (af .u8 (af .i64 (97+Int.ofNat i)))])=some (.val (.str (td i)))
 |0,_=>by kernel_rfl
 |1,_=>by kernel_rfl
 |2,_=>by kernel_rfl
 |3,_=>by kernel_rfl
 |4,_=>by kernel_rfl
 |5,_=>by kernel_rfl
 |6,_=>by kernel_rfl
 |7,_=>by kernel_rfl
 |8,_=>by kernel_rfl
 |9,_=>by kernel_rfl
 |10,_=>by kernel_rfl
 |11,_=>by kernel_rfl
 |n+12,h=>absurd h (by omega)
structure oa (o:Ob):Prop where
 h:nN o
 c:∀x∈o.cust,x.name∈cnL
 d:o.d0.has=true
theorem UF {o:Ob} (h:Ar o) {s:List UInt8} (hs:s.length≤8):oa {o with id:=s}:=by
 have ok:=Sw h
 refine ⟨⟨⟨ok.fit.n,ok.fit.l,ok.fit.c,ok.fit.m⟩,fun k=> ?_⟩,fun x hx=>(h.i.c3 x hx).1,h.i.dat⟩
 have hg:=ok.g k
 cases k with
 | uid=>exact ⟨by simp[aU],fun x hx=>by
   simp only[aU,List.mem_singleton] at hx;subst hx;exact vA hs⟩
 |_=>exact ⟨hg.n,hg.i⟩
noncomputable def qp (i:Int) (Ls Ps:List AV):List Ob→View
 |[]=>gG i Ls Ps
 |x::r=>eU i Ls Ps (r.length+1) (au (x::r))
theorem uH (o:Ob):aS (flat [.agg (ao o)])=true:=by rw[show flat [.agg (ao o)]=ao o from List.append_nil _];exact Es o
section
variable {l ps:List Rw}
theorem UG (hps:ps.length≤9223372036854775807) {i:Nat} {y:Rw} (hy:l[i]? =some y) (hi:i<12) (os:List Ob) (hos:os.length=i):∃o,oa o∧o.id=eI i∧∀Q:AExit→St→Prop,ALp Tryz.prog opts0.glob 0 (ah Tryz.prog 50 4) (qp (.ofNat (i+1)) (l.map aJ) (ps.map aJ) (os++[o])).st Q→ALp Tryz.prog opts0.glob 0 (ah Tryz.prog 50 4) (qp (.ofNat i) (l.map aJ) (ps.map aJ) os).st Q:=by
 obtain ⟨k,hk,hpk⟩:=UB y.a hps
 obtain ⟨o,hox,hob⟩:=Sr y (ps.take k)
 have hR:=fv l
 have hP:=fv ps
 have hl:i<(l.map aJ).length:=by
  obtain ⟨h1,_⟩:=List.getElem?_eq_some_iff.1 hy
  simpa using h1
 have yes:ar (Int.ofNat i) (Int.ofNat (ab (l.map aJ)))=true:=ltInt_iff.2 (by rw[aI];simp only[Int.ofNat_eq_natCast];omega)
 have y12:ar (Int.ofNat i) 12=true:=ltInt_iff.2 (by simp only[Int.ofNat_eq_natCast];omega)
 have gx:ax Tryz.prog 22 (.fsl false (l.map aJ)) (I (.ofNat i))=some (.fptr (kq y) 0):=fY (v:=aJ y) (e:=42) (sz:=4) (by kernel_rfl) (by kernel_rfl) (by rw[List.getElem?_map,hy];rfl) rfl
 have hw:af .i64 (Int.ofNat i+1)=Int.ofNat (i+1):=co (by simp;omega) (by simp;omega)
 have hsl:=UC (t:=22) (e:=42) (sz:=4) (R:=ps.map aJ) (j:=k) (by kernel_rfl) (by kernel_rfl) (UD ps) (by rw[List.length_map];exact hk)
 rw[←List.map_take] at hsl
 have hpl:ab (ps.map aJ)=ps.length:=by rw[aI,List.length_map]
 have hcv:=UE i hi
 have fo:=nV o
 refine ⟨{o with id:=eI i},UF hox (by simp[eI,td]),rfl,fun Q hq=> ?_⟩
 have hc2:=bw (os++[{o with id:=eI i}])
 have h1:=uH {o with id:=eI i}
 cases os with
 |nil=>
  have hq:ALp Tryz.prog opts0.glob 0 (ah Tryz.prog 50 4) (eU (.ofNat (i+1)) (l.map aJ) (ps.map aJ) 1 (au [{o with id:=eI i}])).st Q:=hq
  refine ALp.round (A:=qh y (.ofNat k) ((ps.take k).map aJ) (ao o) (td i)) (V2:=eU (.ofNat (i+1)) (l.map aJ) (ps.map aJ) 1 (au [{o with id:=eI i}])) (F:=gG (.ofNat i) (l.map aJ) (ps.map aJ)) (lk:=[(0,39)]) (lk':=[]) base0 am (LsOk.no rfl) .refl ?_
  show aw Tryz.prog opts0 40 _ _ (gG (.ofNat i) (l.map aJ) (ps.map aJ)).st _
  unfold aj at hob
  unfold ao at hob fo⊢
  rw[IG,hw,hpl]
  exact az (fun _=>a8 y12 ⟨gx,hpk,gx,hsl,hob,aH fo ⟨hcv,aH rfl ⟨⟨⟨⟨rfl,hR⟩,⟨rfl,hP⟩,⟨rfl,rfl⟩,trivial⟩,⟨⟨rfl,rfl,rfl,rfl,rfl⟩,trivial⟩,⟨rfl,hc2⟩,trivial⟩,hq⟩⟩⟩) (fun e=>by rw[yes] at e;cases e)
 |cons x r=>
  simp only[List.length_cons] at hos
  have hq:ALp Tryz.prog opts0.glob 0 (ah Tryz.prog 50 4) (eU (.ofNat (i+1)) (l.map aJ) (ps.map aJ) ((r++[{o with id:=eI i}]).length+1) (au ((x::r)++[{o with id:=eI i}]))).st Q:=hq
  rw[List.length_append,List.length_singleton] at hq
  have h2:Nat.ble ((r.length+1+1)*376) 140737488355328=true:=iB (by omega)
  have h3:Nat.beq (ab (au (x::r))) ((r.length+1)*37)=true:=by rw[beq_iff,aI,i8];rfl
  have e1:au (x::r)++ao {o with id:=eI i}=au ((x::r)++[{o with id:=eI i}]):=Iq _ _
  have e2:flat [.agg (ao {o with id:=eI i})]=ao {o with id:=eI i}:=List.append_nil _
  rw[←e2] at e1
  refine ALp.round (A:=qh y (.ofNat k) ((ps.take k).map aJ) (ao o) (td i)) (V2:=eU (.ofNat (i+1)) (l.map aJ) (ps.map aJ) (r.length+1+1) (au ((x::r)++[{o with id:=eI i}]))) (F:=eU (.ofNat i) (l.map aJ) (ps.map aJ) (r.length+1) (au (x::r))) (lk:=[(0,40)]) (lk':=[(0,0)]) base0 am (LsOk.no rfl) .refl ?_
  show aw Tryz.prog opts0 40 _ _ (eU (.ofNat i) (l.map aJ) (ps.map aJ) (r.length+1) (au (x::r))).st _
  unfold aj at hob
  unfold ao at hob fo h1 e1⊢
  rw[II,hw,hpl]
  exact az (fun _=>a8 y12 ⟨gx,hpk,gx,hsl,hob,aH fo ⟨hcv,aH rfl (aH (nX rfl h2 h1) (aH h3 ⟨⟨⟨⟨rfl,hR⟩,⟨rfl,hP⟩,⟨rfl,rfl⟩,trivial⟩,⟨⟨rfl,rfl,rfl,rfl,rfl⟩,trivial⟩,⟨e1,hc2⟩,trivial⟩,hq⟩))⟩⟩) (fun e=>by rw[yes] at e;cases e)
theorem UH {i:Nat} (hi:i=min l.length 12) (os:List Ob) {Q:AExit→St→Prop} (hq:Q (.exit 0) (qp (.ofNat i) (l.map aJ) (ps.map aJ) os).st):ALp Tryz.prog opts0.glob 0 (ah Tryz.prog 50 4) (qp (.ofNat i) (l.map aJ) (ps.map aJ) os).st Q:=by
 have hR:=fv l
 have hP:=fv ps
 have hlen:ab (l.map aJ)=l.length:=by rw[aI,List.length_map]
 have no:ar (Int.ofNat i) (Int.ofNat l.length)=true→ar (Int.ofNat i) 12=true→False:=fun e e2=>by
  have e:=ltInt_iff.1 e
  have e2:=ltInt_iff.1 e2
  simp only[Int.ofNat_eq_natCast] at e e2
  omega
 cases os with
 |nil=>
  refine ALp.round (A:=qh ⟨0,0,0,0⟩ 0 [] (aa zO .nilsl .nilsl .nilsl .nilsl) []) (V2:=eU 0 (l.map aJ) (ps.map aJ) 1 []) (F:=gG (.ofNat i) (l.map aJ) (ps.map aJ)) (lk:=[(0,39)]) (lk':=[]) base0 am (LsOk.no rfl) .refl ?_
  show aw Tryz.prog opts0 40 _ _ (gG (.ofNat i) (l.map aJ) (ps.map aJ)).st _
  rw[IG,hlen]
  exact az (fun e=>az (fun e2=>(no e e2).elim) fun _=>⟨⟨⟨⟨rfl,hR⟩,⟨rfl,hP⟩,⟨rfl,rfl⟩,⟨rfl,rfl⟩,trivial⟩,trivial,trivial⟩,hq⟩) fun _=>⟨⟨⟨⟨rfl,hR⟩,⟨rfl,hP⟩,⟨rfl,rfl⟩,⟨rfl,rfl⟩,trivial⟩,trivial,trivial⟩,hq⟩
 |cons x r=>
  have hc:=bw (x::r)
  refine ALp.round (A:=qh ⟨0,0,0,0⟩ 0 [] (aa zO .nilsl .nilsl .nilsl .nilsl) []) (V2:=eU 0 (l.map aJ) (ps.map aJ) (r.length+1+1) []) (F:=eU (.ofNat i) (l.map aJ) (ps.map aJ) (r.length+1) (au (x::r))) (lk:=[(0,40)]) (lk':=[(0,0)]) base0 am (LsOk.no rfl) .refl ?_
  show aw Tryz.prog opts0 40 _ _ (eU (.ofNat i) (l.map aJ) (ps.map aJ) (r.length+1) (au (x::r))).st _
  rw[II,hlen]
  exact az (fun e=>az (fun e2=>(no e e2).elim) fun _=>⟨⟨⟨⟨rfl,hR⟩,⟨rfl,hP⟩,⟨rfl,rfl⟩,trivial⟩,⟨⟨rfl,rfl,rfl,rfl,rfl⟩,trivial⟩,⟨rfl,hc⟩,trivial⟩,hq⟩) fun _=>⟨⟨⟨⟨rfl,hR⟩,⟨rfl,hP⟩,⟨rfl,rfl⟩,trivial⟩,⟨⟨rfl,rfl,rfl,rfl,rfl⟩,trivial⟩,⟨rfl,hc⟩,trivial⟩,hq⟩
def wI (os:List Ob):Prop:=∀i o,os[i]? =some o→oa o∧o.id=eI i
theorem IQ (hps:ps.length≤9223372036854775807):∀ (m i:Nat) (os:List Ob),i+m=min l.length 12→os.length=i→wI os→∃os',os'.length=min l.length 12∧wI os'∧∀Q:AExit→St→Prop,Q (.exit 0) (qp (.ofNat (min l.length 12)) (l.map aJ) (ps.map aJ) os').st→ALp Tryz.prog opts0.glob 0 (ah Tryz.prog 50 4) (qp (.ofNat i) (l.map aJ) (ps.map aJ) os).st Q
 | 0,i,os,hi,ho,hI=>⟨os,by omega,hI,fun Q hq=>by
   have e:i=min l.length 12:=by omega
   rw[←e] at hq
   exact UH e os hq⟩
 | m +1,i,os,hi,ho,hI=>by
  obtain ⟨o,h1,h2,h3⟩:=UG (l:=l) hps (List.getElem?_eq_getElem (show i<l.length by omega)) (by omega) os ho
  obtain ⟨os',k1,k2,k3⟩:=IQ hps m (i+1) (os++[o]) (by omega) (by simp[ho]) (fun j x hx=>by
   by_cases hj:j<os.length
   ·rw[List.getElem?_append_left hj] at hx
    exact hI j x hx
   ·rw[List.getElem?_append_right (by omega)] at hx
    have hj2:j-os.length=0:=by
     have:=(List.getElem?_eq_some_iff.1 hx).1
     simp at this
     omega
    rw[hj2] at hx
    cases hx
    have:j=i:=by omega
    subst this
    exact ⟨h1,h2⟩)
  exact ⟨os',k1,k2,fun Q hq=>h3 Q (k3 Q hq)⟩
end
theorem IR:br (cy Tryz.prog 50) 4=[ah Tryz.prog 50 4]:=by kernel_rfl
theorem UI {l ps:List Rw} (hps:ps.length≤9223372036854775807):∃os:List Ob,os.length=min l.length 12∧wI os∧SC 50 [.fsl false (l.map aJ),.fsl false (ps.map aJ)] (.fsl false (os.map aj)):=by
 obtain ⟨os,h1,h2,h3⟩:=IQ (l:=l) hps (min l.length 12) 0 [] (Nat.zero_add _) rfl (fun i o h=>by simp at h)
 refine ⟨os,h1,h2, ?_⟩
 have hR:=fv l
 have hP:=fv ps
 have hcl:ad [.fsl false (l.map aJ),.fsl false (ps.map aJ)]=true:=by simp only[ad,ac,hR,hP,Bool.and_self]
 have hcc:=eW os
 cases os with
 | nil=>
  refine dH (A:=aq [] [(4,wG (gG 0 (l.map aJ) (ps.map aJ)) (gG (.ofNat (min l.length 12)) (l.map aJ) (ps.map aJ)))] aA [] []) base0 am
   (aN (LsOk.at1 rfl IR fun st Q hs=> .seen base0.glob hs.1 (h3 Q hs.2))) hcl ?_
  rw[Ur]
  exact ⟨⟨⟨⟨rfl,hR⟩,⟨rfl,hP⟩,⟨rfl,rfl⟩,⟨rfl,rfl⟩,trivial⟩,trivial,trivial⟩,⟨.nilsl,(Frz.closed _ rfl).out,rfl,.nil⟩⟩
 | cons x r=>
  refine dH (A:=aq [] [(4,wG (gG 0 (l.map aJ) (ps.map aJ)) (eU (.ofNat (min l.length 12)) (l.map aJ) (ps.map aJ) (r.length+1) (au (x::r))))] aA [] []) base0 am
   (aN (LsOk.at1 rfl IR fun st Q hs=> .seen base0.glob hs.1 (h3 Q hs.2))) hcl ?_
  rw[Us]
  exact ⟨⟨⟨⟨rfl,hR⟩,⟨rfl,hP⟩,⟨rfl,rfl⟩,⟨rfl,rfl⟩,trivial⟩,trivial,trivial⟩,⟨.fsl false ((x::r).map aj),(Frz.row (es:=(x::r).map aj) rfl rfl rfl (by rw[List.length_map];rfl) (fun e he=>by obtain ⟨a,_,rfl⟩:=List.mem_map.1 he;exact ⟨rfl,rfl⟩) hcc).out,hcc,.refl _⟩⟩
theorem UJ:∀i j,i<12→j<12→eI i=eI j→i=j:=by
 have:∀i:Fin 12,∀j:Fin 12,eI i.val=eI j.val→i.val=j.val:=by decide
 exact fun i j hi hj h=>this ⟨i,hi⟩ ⟨j,hj⟩ h
end Go.Proofs.YtjhggnebkfpgcaaGreatDoor
namespace Go.Proofs.YtjhggnebkfpgcaaGreatDoor
open Go Go.RowKit
open Go.Proofs.Abs
noncomputable def IU:bi:={how:=fun f=>match fa [119,120,121,151,191,193,194] f with|true=> .fresh|false=>match fa [102,104,144,145,214,215] f with|true=> .keep|false=> .pure,summ:=fun _ _=>none,glob:=gl,lf:=100000}
theorem IV:SC 51 [] (.bool true):=
 Nt (O:=IU) (n:=20) Tryz.mixed (fun _ _ _ h=>by cases h) yf zG fun id h nx=>LY (O:=IU) (n:=19) (T:=[]) (F:=[]) rfl rfl (by kernel_rfl) trivial id h nx
def wJ (L:List At) (l:List Ob):List Ob:=iA aP (eV L l).length (eV L l)
def jd {α:Type} (most:Int) (n:Nat) (l:List α):List α:=match ar most 0 with
 |true=>l
 |false=>l.take (most.toNat-n)
theorem IW (most:Int):∀ (f:Nat) (s:FS),s.live.length=f→Hp aP s.live s.live.length→(lY most f s).out=s.out++jd most s.out.length ((iA aP f s.live).map (·.id))
 |0,s,_,_=>by
  simp only[lY,iA,jd,List.map_nil,List.take_nil]
  cases ar most 0<;>simp
 | f+1,s,hf,hp=>by
  have h0:s.live≠[]:=fun h=>by rw[h] at hf;cases hf
  have hlen:0<s.live.length:=by omega
  rw[lY]
  obtain ⟨x,r,h1,h2,h3,_,h5,_,h7⟩:=v7 ordO hp hlen
  have qc:iA aP (f+1) s.live=x::iA aP f r:=by
   rw[iA];simp only[h1,h2]
  have hst:jX s=⟨r,x::s.junk,s.out++[x.id]⟩:=by unfold jX;simp only[h1,h2]
  rw[qc]
  cases hg:jc most s with
  |false=>
   simp only[jc,Bool.or_eq_false_iff] at hg
   have h8:=ltInt_false.1 hg.2
   simp only[jd,hg.1]
   rw[show most.toNat-s.out.length=0 by simp only[Int.ofNat_eq_natCast] at h8;omega]
   simp
  | true=>
   have ih:=IW most f (jX s) (by rw[hst];simp only;omega) (by rw[hst];exact h5)
   rw[ih,hst]
   simp only[jd,List.length_append,List.length_singleton,List.map_cons]
   cases hm:ar most 0 with
   |true=>simp
   |false=>
    simp only[jc,hm,Bool.false_or] at hg
    have h8:=ltInt_iff.1 hg
    simp only[Int.ofNat_eq_natCast] at h8
    rw[show most.toNat-s.out.length=(most.toNat-(s.out.length+1))+1 by omega,List.take_succ_cons]
    simp
theorem IX (most:Int) (L:List At) (l:List Ob):jZ most L l=jd most 0 ((wJ L l).map (·.id)):=by
 unfold jZ
 rw[IW most _ ⟨eV L l,[],[]⟩ rfl (qj L l).1]
 rfl
theorem IY (L:List At) (l:List Ob):(wJ L l).Perm (l.filter fun o=>cE o L):=(AZ ordO _ _ rfl (qj L l).1).1.trans (qj L l).2
theorem UK (L:List At) (l:List Ob):(wJ L l).Pairwise fun a b=>aP b a=false:=(AZ ordO _ _ rfl (qj L l).1).2
theorem UL {o:Ob} (h:oa o) {s:List UInt8} (hs:s∈nameL):Gr (da s) s o:=
 ⟨fun hc=>(by decide:∀s∈nameL,da s=true→∀k∈kinds,aM k≠s) s hs hc,fun hc x hx e=>by
  have:=(by decide:∀n∈cnL,da n=true) _ (h.c x hx)
  rw[e,hc] at this
  cases this⟩
theorem IZ {l:List (List UInt8)} {i:Nat} {s:List UInt8} (h:l[i]? =some s):ax Tryz.prog 27 (.fsl false (l.map .str)) (I (.ofNat i))=some (.fptr [.str s] 0):=
 fY (v:= .str s) (e:=9) (sz:=1) (by kernel_rfl) (by kernel_rfl) (by rw[List.getElem?_map,h];rfl) rfl
theorem em {p:Nat} (h:p≤1000000):af .i64 (Int.ofNat p+1)=Int.ofNat (p+1):=co (by simp;omega) (by simp;omega)
theorem ep {i n:Nat} (h:i<n):ar (Int.ofNat i) (Int.ofNat n)=true:=ltInt_iff.2 (by simp only[Int.ofNat_eq_natCast];omega)
theorem je {i n:Nat} (h:n≤i):ar (Int.ofNat i) (Int.ofNat n)=false:=ltInt_false.2 (by simp only[Int.ofNat_eq_natCast];omega)
def UM (L:List At) (l:List Ob):Nat:=(l.filter fun o=>cE o L).length
section
variable {os:List Ob} {C:List At} {most:Int} {X:List AV} {Q:AExit→St→Prop}
end
section
variable {os:List Ob} {C:List At} {ids:List (List UInt8)} {i:Nat} {y:Ob} {Q:AExit→St→Prop}
end
section
variable {os S:List Ob} {C:List At} {ids:List (List UInt8)} {Q:AExit→St→Prop}
end
theorem UN {o:Ob} (ho:lD o) (hg:∀k,nB o k):(gC o).length≤90000:=by
 have h1:=Gv hg kinds
 have h2:=AA o.cust []
 have h4:=(AC o.cust []).len
 have h5:=ho.c
 rw[h2,List.length_map] at h4
 rw[show kinds.length=20 from rfl] at h1
 rw[gC,List.length_append]
 omega
set_option maxRecDepth 20000 in
theorem I1 {a b:Ob} (ha:a.d0.has=true) (hb:b.d0.has=true):SC 107 [aj a,aj b] (.bool (aP a b)):=by
 have h1:=dr a
 have h2:=dr b
 have hcl:ad [aj a,aj b]=true:=by simp only[aj,ad,ac,h1,h2,Bool.and_self]
 refine eB (A:=ej) base0 jz (aN (LsOk.no rfl)) hcl rfl ?_
 unfold aj ao
 rw[TZ,v8,ha,hb]
 simp only[decide_true,Bool.true_and,Bool.and_true,if_true]
 by_cases h:a.d0.t=b.d0.t
 ·rw[beqInt_iff.2 h,if_pos h]
  exact rfl
 ·rw[beqInt_false.2 h,if_neg h]
  show ak true _ _
  refine a8 rfl (a8 rfl (bz rfl ?_))
  by_cases h2:b.d0.t<a.d0.t
  ·rw[ltInt_iff.2 h2,decide_eq_true h2]
  ·rw[ltInt_false.2 (by omega),decide_eq_false h2]
def kF (o:Ob):List Ob→Nat
 |[]=>0
 |y::r=>match aP o y with
  |true=>0
  |false=>kF o r+1
theorem Bk (o:Ob):∀l,kF o l≤l.length
 |[]=>Nat.le_refl _
 |y::r=>by
  have:=Bk o r
  rw[kF]
  split<;>simp<;>omega
def er (o:Ob) (l:List Ob):List Ob:=l.take (kF o l)++o::l.drop (kF o l)
theorem I3 (o:Ob):er o []=[o]:=rfl
theorem UO (o y:Ob) (r:List Ob):er o (y::r)=match aP o y with
  |true=>o::y::r
  |false=>y::er o r:=by
 unfold er
 rw[kF]
 cases aP o y<;>simp
theorem Bl (o:Ob) (l:List Ob):(er o l).Perm (l++[o]):=by
 unfold er
 have h:=List.take_append_drop (kF o l) l
 refine (List.perm_middle).trans ?_
 rw[h]
 exact (List.perm_append_singleton o l).symm
theorem UP {o z:Ob} {l:List Ob} (h:z∈er o l):z=o∨z∈l:=by
 have:=(Bl o l).mem_iff.1 h
 rcases List.mem_append.1 this with h|h
 ·exact .inr h
 ·exact .inl (List.mem_singleton.1 h)
theorem I4 (o:Ob):∀ {l:List Ob},(l.Pairwise fun a b=>aP b a=false)→(er o l).Pairwise fun a b=>aP b a=false
 |[],_=>by rw[I3];exact List.pairwise_singleton _ _
 | y::r,h=>by
  have hc:=List.pairwise_cons.1 h
  rw[UO]
  cases hl:aP o y with
  |true=>
   refine List.pairwise_cons.2 ⟨fun z hz=> ?_,h⟩
   have hyo:=ordO.asy o y hl
   rcases List.mem_cons.1 hz with rfl|hz
   ·exact hyo
   ·exact ordO.tr o y z hyo (hc.1 z hz)
  |false=>
   refine List.pairwise_cons.2 ⟨fun z hz=> ?_,I4 o hc.2⟩
   rcases UP hz with rfl|hz
   ·exact hl
   ·exact hc.1 z hz
def gd (L:List At) (l:List Ob):List Ob:=l.foldl (fun out o=>match cE o L with
 |true=>er o out
 |false=>out) []
theorem UQ (L:List At) (l:List Ob) (o:Ob):gd L (l++[o])=match cE o L with
  |true=>er o (gd L l)
  |false=>gd L l:=by
 unfold gd
 rw[List.foldl_append]
 rfl
theorem wK (L:List At) (l:List Ob):(gd L l).Perm (l.filter fun o=>cE o L)∧(gd L l).Pairwise fun a b=>aP b a=false:=by
 have gen:∀ (l:List Ob) (h:List Ob),(h.Pairwise fun a b=>aP b a=false)→(l.foldl (fun out o=>match cE o L with|true=>er o out|false=>out) h).Perm (h++l.filter fun o=>cE o L)∧(l.foldl (fun out o=>match cE o L with|true=>er o out|false=>out) h).Pairwise fun a b=>aP b a=false:=by
  intro l
  induction l with
  |nil=>intro h hh;exact ⟨by simp,hh⟩
  | cons o r ih=>
   intro h hh
   rw[List.foldl_cons,List.filter_cons]
   cases hb:cE o L with
   |true=>
    obtain ⟨h1,h2⟩:=ih (er o h) (I4 o hh)
    refine ⟨h1.trans ?_,h2⟩
    rw[if_pos rfl,List.append_cons]
    exact (Bl o h).append_right _
   |false=>
    rw[if_neg (by simp)]
    exact ih h hh
 exact gen l [] .nil
theorem UR {L:List At} {os:List Ob} (hI:wI os) (hb:os.length≤12):gd L os=wJ L os:=by
 have h1:=(wK L os).1
 have h2:=IY L os
 refine Tz (h1.trans h2.symm) (wK L os).2 (UK L os) fun a ha b hb' e1 e2=> ?_
 obtain ⟨i,hi⟩:=List.getElem?_of_mem (List.mem_filter.1 (h2.mem_iff.1 ha)).1
 obtain ⟨j,hj⟩:=List.getElem?_of_mem (List.mem_filter.1 (h2.mem_iff.1 hb')).1
 have hid:=TA e1 e2
 rw[(hI i a hi).2,(hI j b hj).2] at hid
 have hi':=(List.getElem?_eq_some_iff.1 hi).1
 have hj':=(List.getElem?_eq_some_iff.1 hj).1
 have:i=j:=UJ i j (by omega) (by omega) hid
 subst this
 rw[hi] at hj
 exact Option.some.inj hj
def cB (l:List Ob) (j:Nat) (h:List AV):List AV:=au (l.take j)++(h++au (l.drop j))
theorem US {l:List Ob} {j:Nat} {h:List AV} {a:Ob} (ha:l[j]? =some a):bh Tryz.prog 33 (cB l (j+1) h) (0+(Int.ofNat j).toNat*37)=some (.agg (ao a)):=by
 have h1:eY Tryz.prog 33=some true:=by kernel_rfl
 have h2:bJ Tryz.prog 33=some 37:=by kernel_rfl
 have hj:j<l.length:=(List.getElem?_eq_some_iff.1 ha).1
 have e:cB l (j+1) h=au (l.take j)++(ao a++(h++au (l.drop (j+1)))):=by
  unfold cB
  rw[fg ha,pY,List.append_assoc]
  rfl
 have hl:(au (l.take j)).length=j*37:=by rw[i8,List.length_take,Nat.min_eq_left (by omega)]
 simp only[bh,h1,h2,Nat.zero_add,Int.toNat_natCast,Int.ofNat_eq_natCast]
 rw[e,←hl,show (37:Nat)=(ao a).length from rfl,A5]
 rfl
theorem I5 {l:List Ob} {j:Nat} {h:List AV} (hj:j≤l.length) (hh:h.length=37) (x:List AV) (hx:x.length=37):(cB l j h).take (0+(Int.ofNat j).toNat*37)++(x++(cB l j h).drop (0+(Int.ofNat j).toNat*37+ab x))=cB l j x:=by
 have hl:(au (l.take j)).length=j*37:=by rw[i8,List.length_take,Nat.min_eq_left hj]
 simp only[Nat.zero_add,Int.toNat_natCast,Int.ofNat_eq_natCast,aI,hx]
 unfold cB
 rw[←hl,List.take_append_of_le_length (Nat.le_refl _),List.take_length,List.drop_append,List.drop_of_length_le (by omega),List.nil_append,Nat.add_sub_cancel_left,List.drop_append,List.drop_of_length_le (by omega),hh,Nat.sub_self,List.drop_zero,List.nil_append]
theorem UT {l:List Ob} {j:Nat} {a:Ob} (ha:l[j]? =some a):cB l (j+1) (ao a)=cB l j (ao a):=by
 have hj:j<l.length:=(List.getElem?_eq_some_iff.1 ha).1
 unfold cB
 rw[fg ha,pY,List.append_assoc]
 have e:l.drop j=a::l.drop (j+1):=by
  rw[List.drop_eq_getElem_cons hj]
  congr 1
  exact (List.getElem?_eq_some_iff.1 ha).2
 rw[e,pX]
 rfl
theorem I6 {l:List Ob} {j:Nat} {h:List AV} (hj:j≤l.length) (hh:h.length=37):(cB l j h).length=(l.length+1)*37:=by
 unfold cB
 rw[List.length_append,List.length_append,i8,i8,hh,List.length_take,List.length_drop]
 omega
theorem UU (o:Ob) (l:List Ob):cB l (kF o l) (ao o)=au (er o l):=by
 unfold cB er
 rw[pY,pX]
theorem qq {l:List Ob} {j:Nat} {h:List AV} (hh:ad h=true):ad (cB l j h)=true:=by
 unfold cB
 rw[dh,dh,bw,bw,hh]
 rfl
section
variable {C:List At} {os:List Ob} {last i:Int} {Q:AExit→St→Prop}
end
def mw (C:List At) (os:List Ob):Nat→Nat
 |0=>os.length
 |i+1=>UM (C.take i) os
section
variable {C:List At} {os:List Ob} {Q:AExit→St→Prop}
end
section
variable {Cs As:List AV} {os:List Ob} {Q:AExit→St→Prop}
end
section
variable {C:List At} {b:Bool} {As Bs:List AV} {Q:AExit→St→Prop}
theorem UV (m:Nat) (h:m≤1000):af .i64 ((m:Int)-1)=(m:Int)-1:=co (by omega) (by omega)
end
theorem UW {H:ae} {id:Nat} {L:List Ob} {c:List AV} {k:Nat} (hg:hget H id=some (.cells c)) (hc:c=au L) (hk:k=L.length):Frz 0 H (.rsl true id 0 k 37) (.fsl false (L.map aj)):=
 .row (len:=k) rfl hg hc (by rw[hk,List.length_map]) (fun e he=>by obtain ⟨a,_,rfl⟩:=List.mem_map.1 he;exact ⟨rfl,rfl⟩) (eW L)
end Go.Proofs.YtjhggnebkfpgcaaGreatDoor
