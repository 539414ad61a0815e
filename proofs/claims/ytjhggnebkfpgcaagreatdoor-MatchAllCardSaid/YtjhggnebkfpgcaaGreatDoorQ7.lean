/- Vals, IsW, CfW, CfP, Is. -/
import Derived.Test.YtjhggnebkfpgcaaGreatDoorQ6
import Derived.Test.YtjhggnebkfpgcaaGreatDoorQ1
import Derived.KernelRfl
import Derived.Test.YtjhggnebkfpgcaaGreatDoorQ3
import Derived.Test.YtjhggnebkfpgcaaGreatDoorG5
namespace Go.Proofs.YtjhggnebkfpgcaaGreatDoor
open Go Go.RowKit
open Go.Proofs.Abs
noncomputable section
def vlV0 (s:List UInt8) (i n:Int) (Ls:List AV):View:=⟨[(1,.str s),(5,.nilsl),(8,.fsl false Ls),(9,I n),(10,I i)],[],[],0,25⟩
def vlV1 (s:List UInt8) (i n:Int) (k:Nat) (Ls es:List AV):View:=⟨[(1,.str s),(8,.fsl false Ls),(9,I n),(10,I i)],[(5,.rsl true 0 0 k 5)],[(0,.cells es,.whole)],1,25⟩
def vlA (c:List AV):Aid:=aidJ [(4,0,.res (.fptr c 0))] [] noSem [] []
@[simp] abbrev zr1 (Ls:List AV):=(AV.fsl false Ls=AV.fsl false Ls∧closedA (AV.fsl false Ls)=true)
@[simp] abbrev zr2 (s:List UInt8):=(AV.str s=AV.str s∧closedA (AV.str s)=true)
abbrev zr3 (D K:List AV) (q t y:Int):=[AV.agg [I t,I y,I q,AV.fsl false D,AV.fsl false K]]
@[simp] abbrev zr4 (n:Int):=(I n=I n∧closedA (I n)=true)
@[simp] abbrev zr7:=(AV.nilsl=AV.nilsl∧true=true)
abbrev zr8 (D K:List AV) (idx q t y:Int) (s':List UInt8):=(AV.fptr [AV.str s',I idx,I t,I y,I q,AV.fsl false D,AV.fsl false K] 0)
theorem vl_00 (s s':List UInt8) (i j n idx t y q:Int) (Ls D K:List AV) (N:Prop) (Q:AExit→St→Prop):wpK Tryz.prog opts0 40 (vlA (.str s'::I idx::itF t y q D K)) (lpCode Tryz.prog 99 4) (vlV0 s i n Ls).st (roundP 0 [] (vlV0 s j n Ls) N [] (vlV0 s i n Ls) Q)=
  (mtB (ltInt i n) (indexAddrA Tryz.prog 43 (AV.fsl false Ls) (I i)=some (zr8 D K idx q t y s')∧mtB (beqBytes s' s) ((((zr2 s)∧(AV.rsl true 13 0 (lenN (zr3 D K q t y)) 5=AV.nilsl∧true=true)∧(zr1 Ls)∧(zr4 n)∧(I (wrapA IntKind.i64 (i+1))=I j∧closedA (I j)=true)∧True)∧True∧True)∧N) ((((zr2 s)∧zr7∧(zr1 Ls)∧(zr4 n)∧(I (wrapA IntKind.i64 (i+1))=I j∧closedA (I j)=true)∧True)∧True∧True)∧N)) ((((zr2 s)∧zr7∧(zr1 Ls)∧(zr4 n)∧(I i=I i∧closedA (I i)=true)∧True)∧True∧True)∧Q (AExit.exit 0) (vlV0 s i n Ls).st)):=by kernel_rfl
theorem vl_01 (s s':List UInt8) (i j n idx t y q:Int) (Ls D K es':List AV) (N:Prop) (Q:AExit→St→Prop):wpK Tryz.prog opts0 40 (vlA (.str s'::I idx::itF t y q D K)) (lpCode Tryz.prog 99 4) (vlV0 s i n Ls).st (roundP 0 [(0,13)] (vlV1 s j n 1 Ls es') N [] (vlV0 s i n Ls) Q)=
  (mtB (ltInt i n) (indexAddrA Tryz.prog 43 (AV.fsl false Ls) (I i)=some (zr8 D K idx q t y s')∧mtB (beqBytes s' s) ((((zr2 s)∧(zr1 Ls)∧(zr4 n)∧(I (wrapA IntKind.i64 (i+1))=I j∧closedA (I j)=true)∧True)∧((true=true∧some 13=some 13∧0=0∧1=lenN (zr3 D K q t y)∧5=5)∧True)∧(flat (zr3 D K q t y)=es'∧closedAll es'=true)∧True)∧N) ((((zr2 s)∧(zr1 Ls)∧(zr4 n)∧(I (wrapA IntKind.i64 (i+1))=I j∧closedA (I j)=true)∧True)∧(False∧True)∧False∧True)∧N)) ((((zr2 s)∧zr7∧(zr1 Ls)∧(zr4 n)∧(I i=I i∧closedA (I i)=true)∧True)∧True∧True)∧Q (AExit.exit 0) (vlV0 s i n Ls).st)):=by kernel_rfl
@[simp] abbrev zr6 (Ls es:List AV) (Q:AExit→St→Prop) (i n:Int) (k:Nat) (s:List UInt8):=((((zr2 s)∧(zr1 Ls)∧(zr4 n)∧(I i=I i∧closedA (I i)=true)∧True)∧((true=true∧some 0=some 0∧0=0∧k=k∧5=5)∧True)∧(es=es∧closedAll es=true)∧True)∧Q (AExit.exit 0) (vlV1 s i n k Ls es).st)
theorem vl_11 (s s':List UInt8) (i j n idx t y q:Int) (k:Nat) (Ls D K es:List AV) (N:Prop) (Q:AExit→St→Prop):wpK Tryz.prog opts0 40 (vlA (.str s'::I idx::itF t y q D K)) (lpCode Tryz.prog 99 4) (vlV1 s i n k Ls es).st (roundP 0 [(0,0)] (vlV1 s j n k Ls es) N [(0,0)] (vlV1 s i n k Ls es) Q)=
  (mtB (ltInt i n) (indexAddrA Tryz.prog 43 (AV.fsl false Ls) (I i)=some (zr8 D K idx q t y s')∧mtB (beqBytes s' s) (oblB (allSize 5 (zr3 D K q t y)&&(((k+lenN (zr3 D K q t y))*72).ble 140737488355328&&(allOne (flat (zr3 D K q t y))&&true))) (oblB ((lenN es).beq (k*5)) ((((zr2 s)∧(zr1 Ls)∧(zr4 n)∧(I (wrapA IntKind.i64 (i+1))=I j∧closedA (I j)=true)∧True)∧((true=true∧some 0=some 14∧0=0∧k=k+lenN (zr3 D K q t y)∧5=5)∧True)∧False∧True)∧N))) ((((zr2 s)∧(zr1 Ls)∧(zr4 n)∧(I (wrapA IntKind.i64 (i+1))=I j∧closedA (I j)=true)∧True)∧((true=true∧some 0=some 0∧0=0∧k=k∧5=5)∧True)∧(es=es∧closedAll es=true)∧True)∧N)) (zr6 Ls es Q i n k s)):=by kernel_rfl
theorem vl_12 (s s':List UInt8) (i j n idx t y q:Int) (k k':Nat) (Ls D K es es':List AV) (N:Prop) (Q:AExit→St→Prop):wpK Tryz.prog opts0 40 (vlA (.str s'::I idx::itF t y q D K)) (lpCode Tryz.prog 99 4) (vlV1 s i n k Ls es).st (roundP 0 [(0,14)] (vlV1 s j n k' Ls es') N [(0,0)] (vlV1 s i n k Ls es) Q)=
  (mtB (ltInt i n) (indexAddrA Tryz.prog 43 (AV.fsl false Ls) (I i)=some (zr8 D K idx q t y s')∧mtB (beqBytes s' s) (oblB (allSize 5 (zr3 D K q t y)&&(((k+lenN (zr3 D K q t y))*72).ble 140737488355328&&(allOne (flat (zr3 D K q t y))&&true))) (oblB ((lenN es).beq (k*5)) ((((zr2 s)∧(zr1 Ls)∧(zr4 n)∧(I (wrapA IntKind.i64 (i+1))=I j∧closedA (I j)=true)∧True)∧((true=true∧some 14=some 14∧0=0∧k'=k+lenN (zr3 D K q t y)∧5=5)∧True)∧(es++flat (zr3 D K q t y)=es'∧closedAll es'=true)∧True)∧N))) ((((zr2 s)∧(zr1 Ls)∧(zr4 n)∧(I (wrapA IntKind.i64 (i+1))=I j∧closedA (I j)=true)∧True)∧((true=true∧some 14=some 0∧0=0∧k'=k∧5=5)∧True)∧False∧True)∧N)) (zr6 Ls es Q i n k s)):=by kernel_rfl
def vlL0 (s:List UInt8) (i n:Int) (Ls:List AV):LoopS:=fun st Q=>seesK 0 [] (vlV0 s 0 n Ls) st∧Q (.exit 0) (vlV0 s i n Ls).st
def vlL1 (s:List UInt8) (i n:Int) (k:Nat) (Ls es:List AV):LoopS:=fun st Q=>seesK 0 [] (vlV0 s 0 n Ls) st∧Q (.exit 0) (vlV1 s i n k Ls es).st
@[simp] abbrev zr5 (Ls:List AV) (s:List UInt8):=(((zr2 s)∧zr7∧(zr1 Ls)∧(I (Int.ofNat (lenN Ls))=I (Int.ofNat (lenN Ls))∧closedA (I (Int.ofNat (lenN Ls)))=true)∧(I 0=I 0∧true=true)∧True)∧True∧True)
theorem vl_fn0 (s:List UInt8) (i:Int) (Ls:List AV) (Q:AV→Heap→Prop):fnK Tryz.prog opts0 40 (aidJ [] [(4,vlL0 s i (.ofNat (lenN Ls)) Ls)] noSem [] []) 99 [.fsl false Ls,.str s] [] 0 (fun v H _=>Q v H)=
  ((zr5 Ls s)∧Q AV.nilsl []):=by kernel_rfl
theorem vl_fn1 (s:List UInt8) (i:Int) (k:Nat) (Ls es:List AV) (Q:AV→Heap→Prop):fnK Tryz.prog opts0 40 (aidJ [] [(4,vlL1 s i (.ofNat (lenN Ls)) k Ls es)] noSem [] []) 99 [.fsl false Ls,.str s] [] 0 (fun v H _=>Q v H)=
  ((zr5 Ls s)∧Q (AV.rsl true 0 0 k 5) [(0,some (Blk.cells es))]):=by kernel_rfl
def valsL (s:List UInt8):List At→List It
 |[]=>[]
 |a::r=>match beqBytes a.name s with
  |true=>a.v::valsL s r
  |false=>valsL s r
theorem vals_snoc (s:List UInt8) (a:At):∀l:List At,valsL s (l++[a])=match beqBytes a.name s with
  |true=>valsL s l++[a.v]
  |false=>valsL s l
 |[]=>by
  simp only[List.nil_append,valsL]
 |b::r=>by
  have ih:=vals_snoc s a r
  simp only[List.cons_append,valsL,ih]
  cases beqBytes b.name s<;>cases beqBytes a.name s<;>rfl
theorem vals_len (s:List UInt8):∀l:List At,(valsL s l).length≤l.length
 |[]=>Nat.le_refl _
 |a::r=>by
  have:=vals_len s r
  simp only[valsL]
  split
  ·simp only[List.length_cons];omega
  ·simp only[List.length_cons];omega
def vlW (s:List UInt8) (i n:Int) (Ls:List AV):List It→View
 |[]=>vlV0 s i n Ls
 |x::r=>vlV1 s i n (r.length+1) Ls (flat (itAs (x::r)))
theorem closed_flI (l:List It):closedAll (flat (itAs l))=true:=closed_flat (closed_its l) fun e he=>by
 rw[itAs_map] at he
 obtain ⟨x,_,rfl⟩:=List.mem_map.1 he
 have:=closed_it x
 cases x
 exact this
theorem its_snoc (l:List It) (x:It):itAs (l++[x])=itAs l++[itA x]:=by simp[itAs_map]
theorem idxT {f:Bool} {l:List At} {i:Nat} {s:List UInt8} {k t y n:Int} {d:List UInt8} {ks:List It} (hx:l[i]? =some ⟨s,k,.mk t y n d ks⟩):indexAddrA Tryz.prog 43 (.fsl f (l.map atA)) (.int .i64 (.ofNat i))=some (.fptr (.str s::I k::itF t y n (toBytes d) (itAs ks)) 0):=
 fsl_index (v:=atA ⟨s,k,.mk t y n d ks⟩) (e:=39) (sz:=7) (by kernel_rfl) (by kernel_rfl) (by rw[List.getElem?_map,hx];rfl) rfl
section
variable {s:List UInt8} {l:List At} {Q:AExit→St→Prop}
theorem vl_stop {i:Nat} (hi:i=l.length) (out:List It) (hq:Q (.exit 0) (vlW s (.ofNat i) (.ofNat l.length) (l.map atA) out).st):ALp Tryz.prog opts0.glob 0 (lpCode Tryz.prog 99 4) (vlW s (.ofNat i) (.ofNat l.length) (l.map atA) out).st Q:=by
 have hL:=closed_ats l
 have no:ltInt (Int.ofNat i) (Int.ofNat l.length)=true→False:=fun e=>by
  have e:=ltInt_iff.1 e
  subst hi
  simp only[Int.ofNat_eq_natCast] at e
  omega
 cases out with
 |nil=>
  refine ALp.round (A:=vlA (.str []::I 0::itF 0 0 0 [] [])) (V1:=vlV0 s 0 (.ofNat l.length) (l.map atA)) (V2:=vlV0 s 0 (.ofNat l.length) (l.map atA)) (F:=vlV0 s (.ofNat i) (.ofNat l.length) (l.map atA)) (lk:=[]) (lk':=[]) base0 aidJ_ok (LsOk.no rfl) .refl ?_
  show wpK Tryz.prog opts0 40 _ _ (vlV0 s (.ofNat i) (.ofNat l.length) (l.map atA)).st _
  rw[vl_00]
  exact mtB_of (fun e=>(no e).elim) fun _=>⟨⟨⟨⟨rfl,rfl⟩,⟨rfl,rfl⟩,⟨rfl,hL⟩,⟨rfl,rfl⟩,⟨rfl,rfl⟩,trivial⟩,trivial,trivial⟩,hq⟩
 |cons x r=>
  have hc:=closed_flI (x::r)
  refine ALp.round (A:=vlA (.str []::I 0::itF 0 0 0 [] [])) (V1:=vlV1 s 0 (.ofNat l.length) (r.length+1) (l.map atA) (flat (itAs (x::r)))) (V2:=vlV1 s 0 (.ofNat l.length) (r.length+1) (l.map atA) (flat (itAs (x::r)))) (F:=vlV1 s (.ofNat i) (.ofNat l.length) (r.length+1) (l.map atA) (flat (itAs (x::r)))) (lk:=[(0,0)]) (lk':=[(0,0)]) base0 aidJ_ok (LsOk.no rfl) .refl ?_
  show wpK Tryz.prog opts0 40 _ _ (vlV1 s (.ofNat i) (.ofNat l.length) (r.length+1) (l.map atA) (flat (itAs (x::r)))).st _
  rw[vl_11]
  exact mtB_of (fun e=>(no e).elim) fun _=>⟨⟨⟨⟨rfl,rfl⟩,⟨rfl,hL⟩,⟨rfl,rfl⟩,⟨rfl,rfl⟩,trivial⟩,⟨⟨rfl,rfl,rfl,rfl,rfl⟩,trivial⟩,⟨rfl,hc⟩,trivial⟩,hq⟩
theorem vl_step (hb:l.length≤100000) {i:Nat} {a:At} (g:l[i]? =some a) (out:List It) (ho:out.length≤i) (hn:ALp Tryz.prog opts0.glob 0 (lpCode Tryz.prog 99 4) (vlW s (.ofNat (i+1)) (.ofNat l.length) (l.map atA) (match beqBytes a.name s with|true=>out++[a.v]|false=>out)).st Q):ALp Tryz.prog opts0.glob 0 (lpCode Tryz.prog 99 4) (vlW s (.ofNat i) (.ofNat l.length) (l.map atA) out).st Q:=by
 have hL:=closed_ats l
 have hi:i<l.length:=(List.getElem?_eq_some_iff.1 g).1
 have yes:ltInt (Int.ofNat i) (Int.ofNat l.length)=true:=ltInt_iff.2 (by simp only[Int.ofNat_eq_natCast];omega)
 have hw:wrapA .i64 (Int.ofNat i+1)=Int.ofNat (i+1):=wrapA_i64 (by simp;omega) (by simp;omega)
 obtain ⟨s',idx,⟨t,y,q,dd,ks⟩⟩:=a
 have hx:=idxT (f:=false) g
 simp only at hn
 have e1:flat [.agg [I t,I y,I q,.fsl false (toBytes dd),.fsl false (itAs ks)]]=flat (itAs [(⟨t,y,q,dd,ks⟩:It)]):=rfl
 cases hb2:beqBytes s' s with
 | false=>
  rw[hb2] at hn
  dsimp only at hn
  cases out with
  |nil=>
   refine ALp.round (A:=vlA (.str s'::I idx::itF t y q (toBytes dd) (itAs ks))) (V1:=vlV0 s (.ofNat (i+1)) (.ofNat l.length) (l.map atA)) (V2:=vlV0 s (.ofNat (i+1)) (.ofNat l.length) (l.map atA)) (F:=vlV0 s (.ofNat i) (.ofNat l.length) (l.map atA)) (lk:=[]) (lk':=[]) base0 aidJ_ok (LsOk.no rfl) .refl ?_
   show wpK Tryz.prog opts0 40 _ _ (vlV0 s (.ofNat i) (.ofNat l.length) (l.map atA)).st _
   rw[vl_00,hw]
   exact mtT yes ⟨hx,mtF hb2 ⟨⟨⟨⟨rfl,rfl⟩,⟨rfl,rfl⟩,⟨rfl,hL⟩,⟨rfl,rfl⟩,⟨rfl,rfl⟩,trivial⟩,trivial,trivial⟩,hn⟩⟩
  |cons x r=>
   have hc:=closed_flI (x::r)
   refine ALp.round (A:=vlA (.str s'::I idx::itF t y q (toBytes dd) (itAs ks))) (V1:=vlV1 s (.ofNat (i+1)) (.ofNat l.length) (r.length+1) (l.map atA) (flat (itAs (x::r)))) (V2:=vlV1 s (.ofNat (i+1)) (.ofNat l.length) (r.length+1) (l.map atA) (flat (itAs (x::r)))) (F:=vlV1 s (.ofNat i) (.ofNat l.length) (r.length+1) (l.map atA) (flat (itAs (x::r)))) (lk:=[(0,0)]) (lk':=[(0,0)]) base0 aidJ_ok (LsOk.no rfl) .refl ?_
   show wpK Tryz.prog opts0 40 _ _ (vlV1 s (.ofNat i) (.ofNat l.length) (r.length+1) (l.map atA) (flat (itAs (x::r)))).st _
   rw[vl_11,hw]
   exact mtT yes ⟨hx,mtF hb2 ⟨⟨⟨⟨rfl,rfl⟩,⟨rfl,hL⟩,⟨rfl,rfl⟩,⟨rfl,rfl⟩,trivial⟩,⟨⟨rfl,rfl,rfl,rfl,rfl⟩,trivial⟩,⟨rfl,hc⟩,trivial⟩,hn⟩⟩
 | true=>
  rw[hb2] at hn
  dsimp only at hn
  cases out with
  |nil=>
   refine ALp.round (A:=vlA (.str s'::I idx::itF t y q (toBytes dd) (itAs ks))) (V1:=vlV1 s (.ofNat (i+1)) (.ofNat l.length) 1 (l.map atA) (flat (itAs [(⟨t,y,q,dd,ks⟩:It)]))) (V2:=vlV1 s (.ofNat (i+1)) (.ofNat l.length) 1 (l.map atA) (flat (itAs [(⟨t,y,q,dd,ks⟩:It)]))) (F:=vlV0 s (.ofNat i) (.ofNat l.length) (l.map atA)) (lk:=[(0,13)]) (lk':=[]) base0 aidJ_ok (LsOk.no rfl) .refl ?_
   show wpK Tryz.prog opts0 40 _ _ (vlV0 s (.ofNat i) (.ofNat l.length) (l.map atA)).st _
   rw[vl_01,hw]
   exact mtT yes ⟨hx,mtT hb2 ⟨⟨⟨⟨rfl,rfl⟩,⟨rfl,hL⟩,⟨rfl,rfl⟩,⟨rfl,rfl⟩,trivial⟩,⟨⟨rfl,rfl,rfl,rfl,rfl⟩,trivial⟩,⟨rfl,closed_flI _⟩,trivial⟩,hn⟩⟩
  |cons x r=>
   have hc:=closed_flI (x::r)
   have hE:flat (itAs ((x::r)++[(⟨t,y,q,dd,ks⟩:It)]))=flat (itAs (x::r))++flat [.agg [I t,I y,I q,.fsl false (toBytes dd),.fsl false (itAs ks)]]:=by rw[its_snoc,flat_append];rfl
   have hn:ALp Tryz.prog opts0.glob 0 (lpCode Tryz.prog 99 4) (vlV1 s (.ofNat (i+1)) (.ofNat l.length) ((r++[(⟨t,y,q,dd,ks⟩:It)]).length+1) (l.map atA) (flat (itAs ((x::r)++[(⟨t,y,q,dd,ks⟩:It)])))).st Q:=hn
   rw[List.length_append,List.length_singleton] at hn
   simp only[List.length_cons] at ho
   refine ALp.round (A:=vlA (.str s'::I idx::itF t y q (toBytes dd) (itAs ks))) (V1:=vlV1 s (.ofNat (i+1)) (.ofNat l.length) (r.length+1+1) (l.map atA) (flat (itAs ((x::r)++[(⟨t,y,q,dd,ks⟩:It)])))) (V2:=vlV1 s (.ofNat (i+1)) (.ofNat l.length) (r.length+1+1) (l.map atA) (flat (itAs ((x::r)++[(⟨t,y,q,dd,ks⟩:It)])))) (F:=vlV1 s (.ofNat i) (.ofNat l.length) (r.length+1) (l.map atA) (flat (itAs (x::r)))) (lk:=[(0,14)]) (lk':=[(0,0)]) base0 aidJ_ok (LsOk.no rfl) .refl ?_
   show wpK Tryz.prog opts0 40 _ _ (vlV1 s (.ofNat i) (.ofNat l.length) (r.length+1) (l.map atA) (flat (itAs (x::r)))).st _
   rw[vl_12,hw]
   refine mtT yes ⟨hx,mtT hb2 (oblB_of ?_ (oblB_of ?_ ⟨⟨⟨⟨rfl,rfl⟩,⟨rfl,hL⟩,⟨rfl,rfl⟩,⟨rfl,rfl⟩,trivial⟩,⟨⟨rfl,rfl,rfl,rfl,rfl⟩,trivial⟩,⟨hE.symm,closed_flI _⟩,trivial⟩,hn⟩))⟩
   ·simp[allSize,allOne,flat,AV.cells,lenN];omega
   ·rw[beq_iff,lenN_eq,flat_len5];rfl
theorem vl_run (hb:l.length≤100000) (hq:Q (.exit 0) (vlW s (.ofNat l.length) (.ofNat l.length) (l.map atA) (valsL s l)).st):∀m i:Nat,i+m=l.length→ALp Tryz.prog opts0.glob 0 (lpCode Tryz.prog 99 4) (vlW s (.ofNat i) (.ofNat l.length) (l.map atA) (valsL s (l.take i))).st Q
 |0,i,hi=>by
  rw[Nat.add_zero] at hi
  subst hi
  rw[List.take_of_length_le (Nat.le_refl _)]
  exact vl_stop rfl _ hq
 |m+1,i,hi=>by
  have hlt:i<l.length:=by omega
  have g:=List.getElem?_eq_getElem hlt
  have ih:=vl_run hb hq m (i+1) (by omega)
  rw[take_snoc g,vals_snoc] at ih
  have h1:=vals_len s (l.take i)
  rw[List.length_take] at h1
  exact vl_step hb g _ (by omega) ih
end
theorem vl_at:loopsAt (fnCode Tryz.prog 99) 4=[lpCode Tryz.prog 99 4]:=by kernel_rfl
set_option maxRecDepth 20000 in
theorem vals_sem {l:List At} (hb:l.length≤100000) (s:List UInt8):SC 99 [.fsl false (l.map atA),.str s] (.fsl false (itAs (valsL s l))):=by
 have hL:=closed_ats l
 have hcl:closedAll [.fsl false (l.map atA),.str s]=true:=by simp only[closedAll,closedA,hL,Bool.and_self]
 have hlen:lenN (l.map atA)=l.length:=by rw[lenN_eq,List.length_map]
 have hrun:=fun (Q:AExit→St→Prop) hq=>vl_run (s:=s) (l:=l) (Q:=Q) hb hq l.length 0 (Nat.zero_add _)
 generalize valsL s l=out at hrun⊢
 cases out with
 | nil=>
  refine fnK_semX (A:=aidJ [] [(4,vlL0 s (.ofNat l.length) (.ofNat (lenN (l.map atA))) (l.map atA))] noSem [] []) base0 aidJ_ok
   (fnLs_of (LsOk.at1 rfl vl_at fun st Q hs=> .seen base0.glob hs.1 (by
    have h2:=hs.2
    rw[hlen] at h2⊢
    exact hrun Q h2))) hcl ?_
  rw[vl_fn0]
  exact ⟨⟨⟨⟨rfl,rfl⟩,⟨rfl,rfl⟩,⟨rfl,hL⟩,⟨rfl,rfl⟩,⟨rfl,rfl⟩,trivial⟩,trivial,trivial⟩,⟨.nilsl,(Frz.closed _ rfl).out,rfl,.nil⟩⟩
 | cons x r=>
  refine fnK_semX (A:=aidJ [] [(4,vlL1 s (.ofNat l.length) (.ofNat (lenN (l.map atA))) (r.length+1) (l.map atA) (flat (itAs (x::r))))] noSem [] []) base0 aidJ_ok
   (fnLs_of (LsOk.at1 rfl vl_at fun st Q hs=> .seen base0.glob hs.1 (by
    have h2:=hs.2
    rw[hlen] at h2⊢
    exact hrun Q h2))) hcl ?_
  rw[vl_fn1]
  exact ⟨⟨⟨⟨rfl,rfl⟩,⟨rfl,rfl⟩,⟨rfl,hL⟩,⟨rfl,rfl⟩,⟨rfl,rfl⟩,trivial⟩,trivial,trivial⟩,⟨.fsl false (itAs (x::r)),(Frz.row rfl rfl rfl (by rw[its_length];rfl) goodEl_its (closed_its _)).out,closed_its _,.refl _⟩⟩
end
noncomputable section
theorem isd_fn (s:List UInt8) (idx t y q:Int) (D K:List AV) (Q:AV→Prop):fnK Tryz.prog opts0 40 aid0 97 [.agg (.str s::I idx::itF t y q D K)] [] 0 (fun v _ _=>Q v)=
  (Q (AV.bool (beqInt y 9))):=by kernel_rfl
def isV (i n:Int) (Ls O:List AV):View:=⟨[(1,.fsl false Ls),(4,.bool false),(7,.fsl false Ls),(8,I n),(9,I i)],[(2,.ptr 0 0)],[(0,.cells O,.whole)],1,32⟩
def isF:View:=⟨[(4,.bool false)],[],[],0,32⟩
def isT (b d c:Bool) (Vs As A:List AV):SemT:=fun f _ _ _=>match Nat.beq f 97 with
 |true=>some (.val (.bool b))
 | false=>match Nat.beq f 99 with
  |true=>some (.val (.fsl false Vs))
  | false=>match Nat.beq f 98 with
   |true=>some (.val (.bool d))
   | false=>match Nat.beq f 32 with
    |true=>some (.val (.fsl false As))
    |false=>match Nat.beq f 100 with
     |true=>some (.part [4] (.bool c) [(4,some (.cells A))] 25)
     |false=>none
def isA (x:List AV) (b d c:Bool) (Vs As:List AV):Aid:=aidJ [(3,0,.res (.fptr x 0))] [] (isT b d c Vs As x) [] []
@[simp] abbrev zs1 (Ls:List AV):=(AV.fsl false Ls=AV.fsl false Ls∧closedA (AV.fsl false Ls)=true)
@[simp] abbrev zs2:=(AV.bool false=AV.bool false∧true=true)
abbrev zs4 (D K:List AV) (idx q t y:Int) (s:List UInt8):=[AV.str s,I idx,I t,I y,I q,AV.fsl false D,AV.fsl false K]
@[simp] abbrev zs5 (C L M N:AV) (o:Ob):=((obF o M N L C)=(obF o M N L C)∧closedAll (obF o M N L C)=true)
@[simp] abbrev zs6:=((some 0=some 0∧0=0)∧True)
theorem is_r1 (i j n:Int) (Ls:List AV) (o:Ob) (M N L C:AV) (s:List UInt8) (idx t y q:Int) (D K Vs As:List AV) (d:Bool) (Nx:Prop) (Q:AExit→St→Prop):wpK Tryz.prog opts0 40 (isA (.str s::I idx::itF t y q D K) true d false Vs As) (lpCode Tryz.prog 52 3) (isV i n Ls (obF o M N L C)).st (roundP 0 [(0,0)] (isV j n Ls (obF o M N L C)) Nx [] isF Q)=
  (mtB (ltInt i n) (indexAddrA Tryz.prog 43 (AV.fsl false Ls) (I i)=some (AV.fptr (zs4 D K idx q t y s) 0)∧SC 97 [AV.agg (zs4 D K idx q t y s)] (AV.bool true)∧SC 99 [AV.fsl false Ls,AV.str s] (AV.fsl false Vs)∧SC 98 [AV.agg (obF o M N L C),AV.str s,AV.fsl false Vs] (AV.bool d)∧mtB (!d) (((zs2∧True)∧True∧True)∧Q AExit.ret isF.st) ((((zs1 Ls)∧zs2∧(zs1 Ls)∧(I n=I n∧closedA (I n)=true)∧(I (wrapA IntKind.i64 (i+1))=I j∧closedA (I j)=true)∧True)∧zs6∧(zs5 C L M N o)∧True)∧Nx)) (((zs2∧True)∧True∧True)∧Q (AExit.exit 0) isF.st)):=by kernel_rfl
theorem is_r0 (i j n:Int) (Ls:List AV) (o:Ob) (M N L C:AV) (s:List UInt8) (idx t y q:Int) (D K Vs As:List AV) (c:Bool) (Nx:Prop) (Q:AExit→St→Prop):wpK Tryz.prog opts0 40 (isA (.str s::I idx::itF t y q D K) false false c Vs As) (lpCode Tryz.prog 52 3) (isV i n Ls (obF o M N L C)).st (roundP 0 [(0,0)] (isV j n Ls (obF o M N L C)) Nx [] isF Q)=
  (mtB (ltInt i n) (indexAddrA Tryz.prog 43 (AV.fsl false Ls) (I i)=some (AV.fptr (zs4 D K idx q t y s) 0)∧SC 97 [AV.agg (zs4 D K idx q t y s)] (AV.bool false)∧SC 32 [AV.agg (obF o M N L C),AV.str s] (AV.fsl false As)∧BodySem Tryz.prog opts0.glob 100 [AV.fsl false As,AV.func (Fn.func 101) [] [AV.ptr 4 0]] [(4,some (Blk.cells (zs4 D K idx q t y s)))] 15 (AV.bool c) [(4,some (Blk.cells (zs4 D K idx q t y s)))] 40∧mtB (!c) (((zs2∧True)∧True∧True)∧Q AExit.ret isF.st) ((((zs1 Ls)∧zs2∧(zs1 Ls)∧(I n=I n∧closedA (I n)=true)∧(I (wrapA IntKind.i64 (i+1))=I j∧closedA (I j)=true)∧True)∧zs6∧(zs5 C L M N o)∧True)∧Nx)) (((zs2∧True)∧True∧True)∧Q (AExit.exit 0) isF.st)):=by kernel_rfl
def isL (e:AExit) (n:Int) (Ls O:List AV):LoopS:=fun st Q=>seesK 0 [(0,0)] (isV 0 n Ls O) st∧Q e isF.st
@[simp] abbrev zs3 (C L M N:AV) (Ls:List AV) (o:Ob):=(((zs1 Ls)∧zs2∧(zs1 Ls)∧(I (Int.ofNat (lenN Ls))=I (Int.ofNat (lenN Ls))∧closedA (I (Int.ofNat (lenN Ls)))=true)∧(I 0=I 0∧true=true)∧True)∧zs6∧(zs5 C L M N o)∧True)
theorem is_fn0 (Ls:List AV) (o:Ob) (M N L C:AV) (Q:AV→Prop):fnK Tryz.prog opts0 40 (aidJ [] [(3,isL .ret (.ofNat (lenN Ls)) Ls (obF o M N L C))] noSem [] []) 52 [.agg (obF o M N L C),.fsl false Ls] [] 0 (fun v _ _=>Q v)=
  ((zs3 C L M N Ls o)∧Q (AV.bool false)):=by kernel_rfl
theorem is_fn1 (Ls:List AV) (o:Ob) (M N L C:AV) (Q:AV→Prop):fnK Tryz.prog opts0 40 (aidJ [] [(3,isL (.exit 0) (.ofNat (lenN Ls)) Ls (obF o M N L C))] noSem [] []) 52 [.agg (obF o M N L C),.fsl false Ls] [] 0 (fun v _ _=>Q v)=
  ((zs3 C L M N Ls o)∧Q (AV.bool true)):=by kernel_rfl
def dtT (c:Bool) (As:List AV) (a b:Int):SemT:=fun f _ _ _=>match Nat.beq f 32 with
 |true=>some (.val (.fsl false As))
 |false=>match Nat.beq f 100 with
  |true=>some (.part [13,14] (.bool c) [(13,some (.cells [.int .i64 a])),(14,some (.cells [.int .i64 b]))] 25)
  |false=>none
theorem dt_fn (o:Ob) (M N L C:AV) (s:List UInt8) (Ws As:List AV) (t y q t' y' q':Int) (D K D' K':List AV) (c:Bool) (Q:AV→Prop):fnK Tryz.prog opts0 40 (aidJ [(1,1,.res (.fptr (itF t y q D K) 0)),(1,8,.res (.fptr (itF t' y' q' D' K') 0))] [] (dtT c As q q') [] []) 98 [.agg (obF o M N L C),.str s,.fsl false Ws] [] 0 (fun v _ _=>Q v)=
  (indexAddrA Tryz.prog 35 (AV.fsl false Ws) (I 0)=some (AV.fptr [I t,I y,I q,AV.fsl false D,AV.fsl false K] 0)∧indexAddrA Tryz.prog 35 (AV.fsl false Ws) (I (wrapA IntKind.i64 (Int.ofNat (lenN Ws)-1)))=some (AV.fptr [I t',I y',I q',AV.fsl false D',AV.fsl false K'] 0)∧SC 32 [AV.agg (obF o M N L C),AV.str s] (AV.fsl false As)∧BodySem Tryz.prog opts0.glob 100 [AV.fsl false As,AV.func (Fn.func 142) [] [AV.ptr 13 0,AV.ptr 14 0]] [(14,some (Blk.cells [I q'])),(13,some (Blk.cells [I q]))] 23 (AV.bool c) [(13,some (Blk.cells [I q])),(14,some (Blk.cells [I q']))] 48∧Q (AV.bool c)):=by kernel_rfl
end
noncomputable section
def xaV (As:List AV) (n i:Int) (s':List UInt8) (idx' t' y' q':Int) (D' K':List AV):View:=⟨[(0,.fsl false As),(4,I 0),(7,I n),(8,I i)],[(1,.func (.func 101) [] [.ptr 4 0])],[(4,.cells (.str s'::I idx'::itF t' y' q' D' K'),.whole)],25,19⟩
def xaF (s':List UInt8) (idx' t' y' q':Int) (D' K':List AV) (r:Int):View:=⟨[(4,I r)],[],[(4,.cells (.str s'::I idx'::itF t' y' q' D' K'),.whole)],80,19⟩
abbrev zt8 (D' K':List AV) (idx' q' t' y':Int) (s':List UInt8):=[AV.str s',I idx',I t',I y',I q',AV.fsl false D',AV.fsl false K']
@[simp] abbrev zt2 (D' K':List AV) (idx' q' t' y':Int) (s':List UInt8):=((zt8 D' K' idx' q' t' y' s')=(zt8 D' K' idx' q' t' y' s')∧closedAll (zt8 D' K' idx' q' t' y' s')=true)
@[simp] abbrev zt5:=(((Fn.func 101=Fn.func 101∧([]:List AV)=[]∧true=true)∧(some 4=some 4∧0=0)∧True)∧True)
@[simp] abbrev zt7 (As:List AV):=(AV.fsl false As=AV.fsl false As∧closedA (AV.fsl false As)=true)
@[simp] abbrev zt11:=(I 0=I 0∧true=true)
@[simp] abbrev zt13 (i r:Int):=((I i=I r∧closedA (I r)=true)∧True)
@[simp] abbrev zt15 (n:Int):=(I n=I n∧closedA (I n)=true)
@[simp] abbrev zt16 (r:Int):=((I 0=I r∧closedA (I r)=true)∧True)
abbrev zt17 (D K:List AV) (idx q t y:Int) (s:List UInt8):=[AV.str s,I idx,I t,I y,I q,AV.fsl false D,AV.fsl false K]
theorem xa_r (As:List AV) (n i j r:Int) (s:List UInt8) (idx t y q:Int) (D K:List AV) (s':List UInt8) (idx' t' y' q':Int) (D' K':List AV) (b:Bool) (N:Prop) (Q:AExit→St→Prop):wpK Tryz.prog opts0 40 (aidJ [(4,3,.res (.fptr (.str s::I idx::itF t y q D K) 0))] [] (manyS [(33,.bool b)]) [] [101]) (lpCode Tryz.prog 143 3) (xaV As n i s' idx' t' y' q' D' K').st (roundP 21 (idl 21) (xaV As n j s' idx' t' y' q' D' K') N (idl 21) (xaF s' idx' t' y' q' D' K' r) Q)=
  (mtB (ltInt i n) (indexAddrA Tryz.prog 43 (AV.fsl false As) (I i)=some (AV.fptr (zt17 D K idx q t y s) 0)∧SC 33 [AV.agg [I t,I y,I q,AV.fsl false D,AV.fsl false K],AV.agg [I t',I y',I q',AV.fsl false D',AV.fsl false K']] (AV.bool b)∧mtB b (((zt13 i r)∧True∧(zt2 D' K' idx' q' t' y' s')∧True)∧Q AExit.ret (xaF s' idx' t' y' q' D' K' r).st) ((((zt7 As)∧zt11∧(zt15 n)∧(I (wrapA IntKind.i64 (i+1))=I j∧closedA (I j)=true)∧True)∧zt5∧(zt2 D' K' idx' q' t' y' s')∧True)∧N)) (((zt16 r)∧True∧(zt2 D' K' idx' q' t' y' s')∧True)∧Q (AExit.exit 0) (xaF s' idx' t' y' q' D' K' r).st)):=by kernel_rfl
def xaL (e:AExit) (n r:Int) (As:List AV) (s':List UInt8) (idx' t' y' q':Int) (D' K':List AV):LoopS:=fun st Q=>seesK 21 (idl 21) (xaV As n 0 s' idx' t' y' q' D' K') st∧Q e (xaF s' idx' t' y' q' D' K' r).st
@[simp] abbrev zt1 (As:List AV):=((zt7 As)∧zt11∧(I (Int.ofNat (lenN As))=I (Int.ofNat (lenN As))∧closedA (I (Int.ofNat (lenN As)))=true)∧zt11∧True)
theorem xa_fn0 (As:List AV) (s':List UInt8) (idx' t' y' q':Int) (D' K':List AV) (Q:AV→Heap→Nat→Prop):fnK Tryz.prog opts0 40 (aidJ [] [(3,xaL (.exit 0) (.ofNat (lenN As)) 0 As s' idx' t' y' q' D' K')] noSem [] []) 143 [.fsl false As,.func (.func 101) [] [.ptr 4 0]] [(4,some (.cells (.str s'::I idx'::itF t' y' q' D' K')))] 21 Q=
  (((zt1 As)∧zt5∧(zt2 D' K' idx' q' t' y' s')∧True)∧Q (I (Int.negSucc 0)) [(4,some (Blk.cells (zt8 D' K' idx' q' t' y' s')))] 81):=by kernel_rfl
theorem xa_fn1 (As:List AV) (r:Int) (s':List UInt8) (idx' t' y' q':Int) (D' K':List AV) (Q:AV→Heap→Nat→Prop):fnK Tryz.prog opts0 40 (aidJ [] [(3,xaL .ret (.ofNat (lenN As)) r As s' idx' t' y' q' D' K')] noSem [] []) 143 [.fsl false As,.func (.func 101) [] [.ptr 4 0]] [(4,some (.cells (.str s'::I idx'::itF t' y' q' D' K')))] 21 Q=
  (((zt1 As)∧zt5∧(zt2 D' K' idx' q' t' y' s')∧True)∧Q (I r) [(4,some (Blk.cells (zt8 D' K' idx' q' t' y' s')))] 80):=by kernel_rfl
def xaT (r:Int) (s':List UInt8) (idx' t' y' q':Int) (D' K':List AV):SemT:=fun f _ _ _=>match Nat.beq f 143 with
 |true=>some (.part [4] (I r) [(4,some (.cells (.str s'::I idx'::itF t' y' q' D' K')))] 100)
 |false=>none
theorem xa_cf (As:List AV) (r:Int) (s':List UInt8) (idx' t' y' q':Int) (D' K':List AV) (Q:AV→Heap→Nat→Prop):fnK Tryz.prog opts0 40 (aidJ [] [] (xaT r s' idx' t' y' q' D' K') [] []) 100 [.fsl false As,.func (.func 101) [] [.ptr 4 0]] [(4,some (.cells (.str s'::I idx'::itF t' y' q' D' K')))] 15 Q=
  (BodySem Tryz.prog opts0.glob 143 [AV.fsl false As,AV.func (Fn.func 101) [] [AV.ptr 4 0]] [(4,some (Blk.cells (zt8 D' K' idx' q' t' y' s')))] 21 (I r) [(4,some (Blk.cells (zt8 D' K' idx' q' t' y' s')))] 121∧Q (AV.bool !ltInt r 0) [(4,some (Blk.cells (zt8 D' K' idx' q' t' y' s')))] 121):=by kernel_rfl
def xbV (As:List AV) (n i:Int) (least most:Int):View:=⟨[(0,.fsl false As),(4,I 0),(7,I n),(8,I i)],[(1,.func (.func 142) [] [.ptr 4 0,.ptr 5 0])],[(4,.cells [I least],.whole),(5,.cells [I most],.whole)],25,19⟩
def xbF (least most:Int) (r:Int):View:=⟨[(4,I r)],[],[(4,.cells [I least],.whole),(5,.cells [I most],.whole)],80,19⟩
@[simp] abbrev zt3:=(((Fn.func 142=Fn.func 142∧([]:List AV)=[]∧true=true)∧(some 4=some 4∧0=0)∧(some 5=some 5∧0=0)∧True)∧True)
@[simp] abbrev zt9 (least:Int):=([I least]=[I least]∧closedAll [I least]=true)
@[simp] abbrev zt10 (most:Int):=([I most]=[I most]∧closedAll [I most]=true)
theorem xb_r (As:List AV) (n i j r:Int) (s:List UInt8) (idx t y q:Int) (D K:List AV) (least most:Int) (N:Prop) (Q:AExit→St→Prop):wpK Tryz.prog opts0 40 (aidJ [(4,3,.res (.fptr (.str s::I idx::itF t y q D K) 0))] [] noSem [] [142]) (lpCode Tryz.prog 143 3) (xbV As n i least most).st (roundP 21 (idl 21) (xbV As n j least most) N (idl 21) (xbF least most r) Q)=
  (mtB (ltInt i n) (indexAddrA Tryz.prog 43 (AV.fsl false As) (I i)=some (AV.fptr (zt17 D K idx q t y s) 0)∧mtB (!ltInt q least) (mtB (!ltInt most q) (((zt13 i r)∧True∧(zt9 least)∧(zt10 most)∧True)∧Q AExit.ret (xbF least most r).st) ((((zt7 As)∧zt11∧(zt15 n)∧(I (wrapA IntKind.i64 (i+1))=I j∧closedA (I j)=true)∧True)∧zt3∧(zt9 least)∧(zt10 most)∧True)∧N)) ((((zt7 As)∧zt11∧(zt15 n)∧(I (wrapA IntKind.i64 (i+1))=I j∧closedA (I j)=true)∧True)∧zt3∧(zt9 least)∧(zt10 most)∧True)∧N)) (((zt16 r)∧True∧(zt9 least)∧(zt10 most)∧True)∧Q (AExit.exit 0) (xbF least most r).st)):=by kernel_rfl
def xbL (e:AExit) (n r:Int) (As:List AV) (least most:Int):LoopS:=fun st Q=>seesK 21 (idl 21) (xbV As n 0 least most) st∧Q e (xbF least most r).st
abbrev zt14 (most:Int):=(5,some (Blk.cells [I most]))
theorem xb_fn0 (As:List AV) (least most:Int) (Q:AV→Heap→Nat→Prop):fnK Tryz.prog opts0 40 (aidJ [] [(3,xbL (.exit 0) (.ofNat (lenN As)) 0 As least most)] noSem [] []) 143 [.fsl false As,.func (.func 142) [] [.ptr 4 0,.ptr 5 0]] [(4,some (.cells [I least])),(5,some (.cells [I most]))] 21 Q=
  (((zt1 As)∧zt3∧(zt9 least)∧(zt10 most)∧True)∧Q (I (Int.negSucc 0)) [(4,some (Blk.cells [I least])),(zt14 most)] 81):=by kernel_rfl
theorem xb_fn1 (As:List AV) (r:Int) (least most:Int) (Q:AV→Heap→Nat→Prop):fnK Tryz.prog opts0 40 (aidJ [] [(3,xbL .ret (.ofNat (lenN As)) r As least most)] noSem [] []) 143 [.fsl false As,.func (.func 142) [] [.ptr 4 0,.ptr 5 0]] [(4,some (.cells [I least])),(5,some (.cells [I most]))] 21 Q=
  (((zt1 As)∧zt3∧(zt9 least)∧(zt10 most)∧True)∧Q (I r) [(4,some (Blk.cells [I least])),(zt14 most)] 80):=by kernel_rfl
def xbT (r:Int) (least most:Int):SemT:=fun f _ _ _=>match Nat.beq f 143 with
 |true=>some (.part [4,5] (I r) [(4,some (.cells [I least])),(5,some (.cells [I most]))] 100)
 |false=>none
theorem xb_cf (As:List AV) (r:Int) (least most:Int) (Q:AV→Heap→Nat→Prop):fnK Tryz.prog opts0 40 (aidJ [] [] (xbT r least most) [] []) 100 [.fsl false As,.func (.func 142) [] [.ptr 4 0,.ptr 5 0]] [(4,some (.cells [I least])),(5,some (.cells [I most]))] 15 Q=
  (BodySem Tryz.prog opts0.glob 143 [AV.fsl false As,AV.func (Fn.func 142) [] [AV.ptr 4 0,AV.ptr 5 0]] [(zt14 most),(4,some (Blk.cells [I least]))] 21 (I r) [(4,some (Blk.cells [I least])),(zt14 most)] 121∧Q (AV.bool !ltInt r 0) [(zt14 most),(4,some (Blk.cells [I least])),(zt14 most)] 121):=by kernel_rfl
def xdV (As:List AV) (n i:Int) (Ls:List AV):View:=⟨[(0,.fsl false As),(4,I 0),(7,I n),(8,I i)],[(1,.func (.func 105) [] [.ptr 4 0])],[(4,.cells [.fsl false Ls],.whole)],25,19⟩
def xdF (Ls:List AV) (r:Int):View:=⟨[(4,I r)],[],[(4,.cells [.fsl false Ls],.whole)],80,19⟩
@[simp] abbrev zt4 (Ls:List AV):=([AV.fsl false Ls]=[AV.fsl false Ls]∧closedAll [AV.fsl false Ls]=true)
@[simp] abbrev zt6:=(((Fn.func 105=Fn.func 105∧([]:List AV)=[]∧true=true)∧(some 4=some 4∧0=0)∧True)∧True)
theorem xd_r (As:List AV) (n i j r:Int) (s:List UInt8) (idx t y q:Int) (D K:List AV) (Ls:List AV) (b c:Bool) (N:Prop) (Q:AExit→St→Prop):wpK Tryz.prog opts0 40 (aidJ [(4,3,.res (.fptr (.str s::I idx::itF t y q D K) 0))] [] (manyS [(46,.bool b),(106,.bool c)]) [] [105]) (lpCode Tryz.prog 143 3) (xdV As n i Ls).st (roundP 21 (idl 21) (xdV As n j Ls) N (idl 21) (xdF Ls r) Q)=
  (mtB (ltInt i n) (indexAddrA Tryz.prog 43 (AV.fsl false As) (I i)=some (AV.fptr (zt17 D K idx q t y s) 0)∧SC 46 [AV.str s] (AV.bool b)∧mtB (!b) (((zt13 i r)∧True∧(zt4 Ls)∧True)∧Q AExit.ret (xdF Ls r).st) (SC 106 [AV.agg (zt17 D K idx q t y s),AV.fsl false Ls] (AV.bool c)∧mtB (!c) (((zt13 i r)∧True∧(zt4 Ls)∧True)∧Q AExit.ret (xdF Ls r).st) ((((zt7 As)∧zt11∧(zt15 n)∧(I (wrapA IntKind.i64 (i+1))=I j∧closedA (I j)=true)∧True)∧zt6∧(zt4 Ls)∧True)∧N))) (((zt16 r)∧True∧(zt4 Ls)∧True)∧Q (AExit.exit 0) (xdF Ls r).st)):=by kernel_rfl
def xdL (e:AExit) (n r:Int) (As:List AV) (Ls:List AV):LoopS:=fun st Q=>seesK 21 (idl 21) (xdV As n 0 Ls) st∧Q e (xdF Ls r).st
abbrev zt12 (Ls:List AV):=[(4,some (Blk.cells [AV.fsl false Ls]))]
theorem xd_fn0 (As:List AV) (Ls:List AV) (Q:AV→Heap→Nat→Prop):fnK Tryz.prog opts0 40 (aidJ [] [(3,xdL (.exit 0) (.ofNat (lenN As)) 0 As Ls)] noSem [] []) 143 [.fsl false As,.func (.func 105) [] [.ptr 4 0]] [(4,some (.cells [.fsl false Ls]))] 21 Q=
  (((zt1 As)∧zt6∧(zt4 Ls)∧True)∧Q (I (Int.negSucc 0)) (zt12 Ls) 81):=by kernel_rfl
theorem xd_fn1 (As:List AV) (r:Int) (Ls:List AV) (Q:AV→Heap→Nat→Prop):fnK Tryz.prog opts0 40 (aidJ [] [(3,xdL .ret (.ofNat (lenN As)) r As Ls)] noSem [] []) 143 [.fsl false As,.func (.func 105) [] [.ptr 4 0]] [(4,some (.cells [.fsl false Ls]))] 21 Q=
  (((zt1 As)∧zt6∧(zt4 Ls)∧True)∧Q (I r) (zt12 Ls) 80):=by kernel_rfl
def xdT (r:Int) (Ls:List AV):SemT:=fun f _ _ _=>match Nat.beq f 143 with
 |true=>some (.part [4] (I r) [(4,some (.cells [.fsl false Ls]))] 100)
 |false=>none
theorem xd_cf (As:List AV) (r:Int) (Ls:List AV) (Q:AV→Heap→Nat→Prop):fnK Tryz.prog opts0 40 (aidJ [] [] (xdT r Ls) [] []) 100 [.fsl false As,.func (.func 105) [] [.ptr 4 0]] [(4,some (.cells [.fsl false Ls]))] 15 Q=
  (BodySem Tryz.prog opts0.glob 143 [AV.fsl false As,AV.func (Fn.func 105) [] [AV.ptr 4 0]] (zt12 Ls) 21 (I r) (zt12 Ls) 121∧Q (AV.bool !ltInt r 0) (zt12 Ls) 121):=by kernel_rfl
end
end Go.Proofs.YtjhggnebkfpgcaaGreatDoor
namespace Go.Proofs.YtjhggnebkfpgcaaGreatDoor
set_option maxRecDepth 20000
open Go Go.RowKit
open Go.Proofs.Abs
def pA (v:It) (a:At):Bool:=sameI a.v v
def pB (least most:Int) (a:At):Bool:= !ltInt (itN a.v) least&& !ltInt most (itN a.v)
def pD (kn:List UInt8→Bool) (rt:At→Bool) (a:At):Bool:= !kn a.name|| !rt a
def itT:It→Int| .mk t _ _ _ _=>t
def itY:It→Int| .mk _ y _ _ _=>y
theorem gl0':∀g l,opts0.glob g=some l→closedAll l=true:=base0.glob
section
variable {f:FuncId} {args args2:List AV} {v:AV} {es es2:List AV} {nx nx' K K2 m m':Nat} {H2:Heap}
theorem ren1c (h:BodySem Tryz.prog opts0.glob f args [(4,some (.cells es))] nx v [(4,some (.cells es))] nx') (g1:hget H2 K=some (.cells es)) (hA:RenL [(4,K)] args args2) (hv:closedA v=true) (c1:closedAll es=true) (hx:4<nx) (hm:m≤m'):BodySem Tryz.prog opts0.glob f args2 H2 m v [(K,some (.cells es))] m':=by
 refine BodySem.ren (lk:=[(4,K)]) gl0' h (by simp) (by simp) (fun p hp=> ?_) hA (fun i b hb=> ?_) (.same _ hv) (fun j b hb=> ?_) hm
 ·simp only[List.mem_cons,List.not_mem_nil,or_false] at hp
  subst hp
  exact .inl hx
 ·simp only[hget] at hb
  split at hb
  ·rename_i e
   have e:=beq_iff.1 e
   subst e
   cases hb
   exact ⟨K,.cells es,rfl,g1,RenL.same _ c1⟩
  ·cases hb
 ·simp only[hget] at hb
  split at hb
  ·rename_i e
   have e:=beq_iff.1 e
   subst e
   cases hb
   exact ⟨4,.cells es,by simp[flipLk,lookN],rfl,RenL.same _ c1⟩
  ·cases hb
theorem ren2c (h:BodySem Tryz.prog opts0.glob f args [(4,some (.cells es)),(5,some (.cells es2))] nx v [(4,some (.cells es)),(5,some (.cells es2))] nx') (hK:K≠K2) (g1:hget H2 K=some (.cells es)) (g2:hget H2 K2=some (.cells es2)) (hA:RenL [(4,K),(5,K2)] args args2) (hv:closedA v=true) (c1:closedAll es=true) (c2:closedAll es2=true) (hx:5<nx) (hm:m≤m'):BodySem Tryz.prog opts0.glob f args2 H2 m v [(K,some (.cells es)),(K2,some (.cells es2))] m':=by
 have hk:Nat.beq K K2=false:=beq_false_iff.2 hK
 refine BodySem.ren (lk:=[(4,K),(5,K2)]) gl0' h (by simp) (by simp[hK]) (fun p hp=> ?_) hA (fun i b hb=> ?_) (.same _ hv) (fun j b hb=> ?_) hm
 ·simp only[List.mem_cons,List.not_mem_nil,or_false] at hp
  rcases hp with rfl|rfl
  ·exact .inl (by simp only;omega)
  ·exact .inl hx
 ·simp only[hget] at hb
  split at hb
  ·rename_i e
   have e:=beq_iff.1 e
   subst e
   cases hb
   exact ⟨K,.cells es,rfl,g1,RenL.same _ c1⟩
  split at hb
  ·rename_i e
   have e:=beq_iff.1 e
   subst e
   cases hb
   exact ⟨K2,.cells es2,rfl,g2,RenL.same _ c2⟩
  ·cases hb
 ·simp only[hget] at hb
  split at hb
  ·rename_i e
   have e:=beq_iff.1 e
   subst e
   cases hb
   exact ⟨4,.cells es,by simp[flipLk,lookN],rfl,RenL.same _ c1⟩
  split at hb
  ·rename_i e
   have e:=beq_iff.1 e
   subst e
   cases hb
   exact ⟨5,.cells es2,by simp[flipLk,lookN,hk],rfl,RenL.same _ c2⟩
  ·cases hb
end
theorem renF {c d:List AV} {fn:Fn} {lk:List (Nat × Nat)} (h:RenL lk c d):RenV lk (.func fn [] c) (.func fn [] d):= .func _ _ _ _ rfl (renL_length h) (renL_get h)
 where
  renL_get:∀ {c d:List AV} {lk:List (Nat × Nat)},RenL lk c d→∀ (i:Nat) x y,c[i]? =some x→d[i]? =some y→RenV lk x y
    |[],[],_,_,i,x,y,h,_=>by simp at h
    | a::t,b::u,lk,h,0,x,y,hx,hy=>by
      simp only[List.getElem?_cons_zero,Option.some.injEq] at hx hy
      subst hx;subst hy;exact h.1
    |a::t,b::u,lk,h,i+1,x,y,hx,hy=>renL_get h.2 i x y (by simpa using hx) (by simpa using hy)
def fstO (p:At→Bool):List At→Nat→Option Nat
 |[],_=>none
 |a::r,i=>match p a with
  |true=>some i
  |false=>fstO p r (i+1)
def endQ (x:Option Nat) (S:Nat→Prop) (E:Prop):Prop:=match x with
 |some j=>S j
 |none=>E
theorem fst_any (p:At→Bool):∀ (l:List At) (i:Nat),(match fstO p l i with|some _=>true|none=>false)=l.any p
 |[],_=>rfl
 |a::r,i=>by
  rw[fstO,List.any_cons]
  cases p a with
  |true=>rfl
  |false=>exact fst_any p r (i+1)
def idxI' (x:Option Nat):Int:=match x with
 |some j=> .ofNat j
 |none=> -1
theorem closed_atR (s:List UInt8) (i:Int) (v:It):closedAll (.str s::I i::itF (itT v) (itY v) (itN v) (toBytes (itD v)) (itAs (itK v)))=true:=by
 have:=closed_atA ⟨s,i,v⟩
 obtain ⟨t,y,n,d,ks⟩:=v
 exact this
theorem idx_lt (x:Option Nat):(!ltInt (idxI' x) 0)=(match x with|some _=>true|none=>false):=by
 cases x with
 |none=>rfl
 |some j=>
  rw[idxI',ltInt_false.2 (by simp only[Int.ofNat_eq_natCast];omega)]
  rfl
section
variable {l:List At} {S0:List UInt8} {X0:Int} {v:It} {Q:AExit→St→Prop}
theorem xa_loop (hok:∀a∈l,okI big a.v) (hb:l.length≤100000):∀m i,i+m=l.length→endQ (fstO (pA v) (l.drop i) i) (fun j=>Q .ret (xaF S0 X0 (itT v) (itY v) (itN v) (toBytes (itD v)) (itAs (itK v)) (.ofNat j)).st) (Q (.exit 0) (xaF S0 X0 (itT v) (itY v) (itN v) (toBytes (itD v)) (itAs (itK v)) 0).st)→
  ALp Tryz.prog opts0.glob 21 (lpCode Tryz.prog 143 3) (xaV (l.map atA) (.ofNat l.length) (.ofNat i) S0 X0 (itT v) (itY v) (itN v) (toBytes (itD v)) (itAs (itK v))).st Q:=by
 have hL:=closed_ats l
 have hA:closedAll (.str S0::I X0::itF (itT v) (itY v) (itN v) (toBytes (itD v)) (itAs (itK v)))=true:=closed_atR S0 X0 v
 intro m
 induction m with
 |zero=>
  intro i hi hq
  rw[Nat.add_zero] at hi
  subst hi
  rw[List.drop_of_length_le (Nat.le_refl _)] at hq
  have hq:Q (.exit 0) (xaF S0 X0 (itT v) (itY v) (itN v) (toBytes (itD v)) (itAs (itK v)) 0).st:=hq
  refine ALp.round (A:=aidJ [(4,3,.res (.fptr (.str []::I 0::itF 0 0 0 [] []) 0))] [] (manyS [(33,.bool false)]) [] [101]) (V1:=xaV (l.map atA) (.ofNat l.length) 0 S0 X0 (itT v) (itY v) (itN v) (toBytes (itD v)) (itAs (itK v))) (V2:=xaV (l.map atA) (.ofNat l.length) 0 S0 X0 (itT v) (itY v) (itN v) (toBytes (itD v)) (itAs (itK v))) (F:=xaF S0 X0 (itT v) (itY v) (itN v) (toBytes (itD v)) (itAs (itK v)) 0) (lk:=idl 21) (lk':=idl 21) base0 aidJ_ok (LsOk.no rfl) .refl ?_
  rw[xa_r]
  refine mtF (ltInt_false.2 (by simp only[Int.ofNat_eq_natCast];omega)) ⟨⟨⟨⟨rfl,rfl⟩,trivial⟩,trivial,⟨rfl,hA⟩,trivial⟩,hq⟩
 | succ m ih=>
  intro i hi hq
  have hlt:i<l.length:=by omega
  have g:=List.getElem?_eq_getElem hlt
  have hm:=List.getElem_mem hlt
  have ih:=ih (i+1) (by omega)
  rw[List.drop_eq_getElem_cons hlt,fstO] at hq
  revert hq g hm
  generalize l[i]=a
  intro hq g hm
  have yes:ltInt (Int.ofNat i) (Int.ofNat l.length)=true:=ltInt_iff.2 (by simp only[Int.ofNat_eq_natCast];omega)
  have hw:wrapA .i64 (Int.ofNat i+1)=Int.ofNat (i+1):=wrapA_i64 (by simp;omega) (by simp;omega)
  have hsm:=tsame_sem a.v v (hok a hm)
  obtain ⟨s,idx,⟨t,y,q,d,ks⟩⟩:=a
  have hx:=idxT (f:=false) g
  cases hp:(pA v) ⟨s,idx,⟨t,y,q,d,ks⟩⟩ with
  |true=>
   rw[hp] at hq
   have hq:Q .ret (xaF S0 X0 (itT v) (itY v) (itN v) (toBytes (itD v)) (itAs (itK v)) (.ofNat i)).st:=hq
   refine ALp.round (A:=aidJ [(4,3,.res (.fptr (.str s::I idx::itF t y q (toBytes d) (itAs ks)) 0))] [] (manyS [(33,.bool true)]) [] [101]) (V1:=xaV (l.map atA) (.ofNat l.length) 0 S0 X0 (itT v) (itY v) (itN v) (toBytes (itD v)) (itAs (itK v))) (V2:=xaV (l.map atA) (.ofNat l.length) 0 S0 X0 (itT v) (itY v) (itN v) (toBytes (itD v)) (itAs (itK v))) (F:=xaF S0 X0 (itT v) (itY v) (itN v) (toBytes (itD v)) (itAs (itK v)) (.ofNat i)) (lk:=idl 21) (lk':=idl 21) base0 aidJ_ok (LsOk.no rfl) .refl ?_
   rw[xa_r]
   obtain ⟨t',y',q',d',ks'⟩:=v
   have hp:sameI ⟨t,y,q,d,ks⟩ ⟨t',y',q',d',ks'⟩=true:=hp
   simp only[hp] at hsm
   exact mtT yes ⟨hx,hsm,mtT rfl ⟨⟨⟨⟨rfl,rfl⟩,trivial⟩,trivial,⟨rfl,hA⟩,trivial⟩,hq⟩⟩
  |false=>
   rw[hp] at hq
   have ih:=ih hq
   refine ALp.round (A:=aidJ [(4,3,.res (.fptr (.str s::I idx::itF t y q (toBytes d) (itAs ks)) 0))] [] (manyS [(33,.bool false)]) [] [101]) (V1:=xaV (l.map atA) (.ofNat l.length) (.ofNat (i+1)) S0 X0 (itT v) (itY v) (itN v) (toBytes (itD v)) (itAs (itK v))) (V2:=xaV (l.map atA) (.ofNat l.length) (.ofNat (i+1)) S0 X0 (itT v) (itY v) (itN v) (toBytes (itD v)) (itAs (itK v))) (F:=xaF S0 X0 (itT v) (itY v) (itN v) (toBytes (itD v)) (itAs (itK v)) 0) (lk:=idl 21) (lk':=idl 21) base0 aidJ_ok (LsOk.no rfl) .refl ?_
   rw[xa_r,hw]
   obtain ⟨t',y',q',d',ks'⟩:=v
   have hp:sameI ⟨t,y,q,d,ks⟩ ⟨t',y',q',d',ks'⟩=false:=hp
   simp only[hp] at hsm
   exact mtT yes ⟨hx,hsm,mtF rfl ⟨⟨⟨⟨rfl,hL⟩,⟨rfl,rfl⟩,⟨rfl,rfl⟩,⟨rfl,rfl⟩,trivial⟩,⟨⟨⟨rfl,rfl,rfl⟩,⟨rfl,rfl⟩,trivial⟩,trivial⟩,⟨rfl,hA⟩,trivial⟩,ih⟩⟩
end
theorem xa_at:loopsAt (fnCode Tryz.prog 143) 3=[lpCode Tryz.prog 143 3]:=by kernel_rfl
theorem xa_if {l:List At} {S0:List UInt8} {X0:Int} {v:It} (hok:∀a∈l,okI big a.v) (hb:l.length≤100000):BodySem Tryz.prog opts0.glob 143 [.fsl false (l.map atA),.func (.func 101) [] [.ptr 4 0]] [(4,some (.cells (.str S0::I X0::itF (itT v) (itY v) (itN v) (toBytes (itD v)) (itAs (itK v)))))] 21 (I (idxI' (fstO (pA v) l 0))) [(4,some (.cells (.str S0::I X0::itF (itT v) (itY v) (itN v) (toBytes (itD v)) (itAs (itK v)))))] 121:=by
 have hL:=closed_ats l
 have hA:closedAll (.str S0::I X0::itF (itT v) (itY v) (itN v) (toBytes (itD v)) (itAs (itK v)))=true:=closed_atR S0 X0 v
 have hlen:lenN (l.map atA)=l.length:=by rw[lenN_eq,List.length_map]
 have hrun:=fun (Q:AExit→St→Prop)=>xa_loop (l:=l) (Q:=Q) (S0:=S0) (X0:=X0) (v:=v) hok hb l.length 0 (Nat.zero_add _)
 rw[List.drop_zero] at hrun
 generalize fstO (pA v) l 0=r at hrun⊢
 cases r with
 | none=>
  refine fnK_bodyX (k:=20) (A:=aidJ [] [(3,xaL (.exit 0) (.ofNat l.length) 0 (l.map atA) S0 X0 (itT v) (itY v) (itN v) (toBytes (itD v)) (itAs (itK v)))] noSem [] []) base0 aidJ_ok
   (fnLs_of (LsOk.at1 rfl xa_at fun st Q hs=> .seen base0.glob hs.1 (hrun Q hs.2))) ?_
  rw[←hlen,xa_fn0]
  exact ⟨⟨⟨⟨rfl,hL⟩,⟨rfl,rfl⟩,⟨rfl,rfl⟩,⟨rfl,rfl⟩,trivial⟩,⟨⟨⟨rfl,rfl,rfl⟩,⟨rfl,rfl⟩,trivial⟩,trivial⟩,⟨rfl,hA⟩,trivial⟩,⟨rfl,⟨_,Frz.closed _ rfl,.refl _⟩,⟨rfl,.cells (.str S0::I X0::itF (itT v) (itY v) (itN v) (toBytes (itD v)) (itAs (itK v))),.cells (.str S0::I X0::itF (itT v) (itY v) (itN v) (toBytes (itD v)) (itAs (itK v))),rfl,FrzL.closed _ hA,WkL.refl _⟩,trivial⟩⟩
 | some j=>
  refine fnK_bodyX (k:=20) (A:=aidJ [] [(3,xaL .ret (.ofNat l.length) (.ofNat j) (l.map atA) S0 X0 (itT v) (itY v) (itN v) (toBytes (itD v)) (itAs (itK v)))] noSem [] []) base0 aidJ_ok
   (fnLs_of (LsOk.at1 rfl xa_at fun st Q hs=> .seen base0.glob hs.1 (hrun Q hs.2))) ?_
  rw[←hlen,xa_fn1]
  exact ⟨⟨⟨⟨rfl,hL⟩,⟨rfl,rfl⟩,⟨rfl,rfl⟩,⟨rfl,rfl⟩,trivial⟩,⟨⟨⟨rfl,rfl,rfl⟩,⟨rfl,rfl⟩,trivial⟩,trivial⟩,⟨rfl,hA⟩,trivial⟩,⟨rfl,⟨_,Frz.closed _ rfl,.refl _⟩,⟨rfl,.cells (.str S0::I X0::itF (itT v) (itY v) (itN v) (toBytes (itD v)) (itAs (itK v))),.cells (.str S0::I X0::itF (itT v) (itY v) (itN v) (toBytes (itD v)) (itAs (itK v))),rfl,FrzL.closed _ hA,WkL.refl _⟩,trivial⟩⟩
theorem xa_cfb {l:List At} {S0:List UInt8} {X0:Int} {v:It} (hok:∀a∈l,okI big a.v) (hb:l.length≤100000):BodySem Tryz.prog opts0.glob 100 [.fsl false (l.map atA),.func (.func 101) [] [.ptr 4 0]] [(4,some (.cells (.str S0::I X0::itF (itT v) (itY v) (itN v) (toBytes (itD v)) (itAs (itK v)))))] 15 (.bool (l.any (pA v))) [(4,some (.cells (.str S0::I X0::itF (itT v) (itY v) (itN v) (toBytes (itD v)) (itAs (itK v)))))] 150:=by
 have hA:closedAll (.str S0::I X0::itF (itT v) (itY v) (itN v) (toBytes (itD v)) (itAs (itK v)))=true:=closed_atR S0 X0 v
 have h:=xa_if (l:=l) (S0:=S0) (X0:=X0) (v:=v) hok hb
 rw[←fst_any (pA v) l 0,←idx_lt]
 refine fnK_bodyX (k:=20) (A:=aidJ [] [] (xaT (idxI' (fstO (pA v) l 0)) S0 X0 (itT v) (itY v) (itN v) (toBytes (itD v)) (itAs (itK v))) [] []) base0 aidJ_ok (fnLs_of (LsOk.no rfl)) ?_
 rw[xa_cf]
 exact ⟨h,⟨rfl,⟨_,Frz.closed _ rfl,.refl _⟩,⟨rfl,.cells (.str S0::I X0::itF (itT v) (itY v) (itN v) (toBytes (itD v)) (itAs (itK v))),.cells (.str S0::I X0::itF (itT v) (itY v) (itN v) (toBytes (itD v)) (itAs (itK v))),rfl,FrzL.closed _ hA,WkL.refl _⟩,trivial⟩⟩
section
variable {l:List At} {least most:Int} {Q:AExit→St→Prop}
theorem xb_loop (hb:l.length≤100000):∀m i,i+m=l.length→endQ (fstO (pB least most) (l.drop i) i) (fun j=>Q .ret (xbF least most (.ofNat j)).st) (Q (.exit 0) (xbF least most 0).st)→
  ALp Tryz.prog opts0.glob 21 (lpCode Tryz.prog 143 3) (xbV (l.map atA) (.ofNat l.length) (.ofNat i) least most).st Q:=by
 have hL:=closed_ats l
 intro m
 induction m with
 |zero=>
  intro i hi hq
  rw[Nat.add_zero] at hi
  subst hi
  rw[List.drop_of_length_le (Nat.le_refl _)] at hq
  have hq:Q (.exit 0) (xbF least most 0).st:=hq
  refine ALp.round (A:=aidJ [(4,3,.res (.fptr (.str []::I 0::itF 0 0 0 [] []) 0))] [] noSem [] [142]) (V1:=xbV (l.map atA) (.ofNat l.length) 0 least most) (V2:=xbV (l.map atA) (.ofNat l.length) 0 least most) (F:=xbF least most 0) (lk:=idl 21) (lk':=idl 21) base0 aidJ_ok (LsOk.no rfl) .refl ?_
  rw[xb_r]
  refine mtF (ltInt_false.2 (by simp only[Int.ofNat_eq_natCast];omega)) ⟨⟨⟨⟨rfl,rfl⟩,trivial⟩,trivial,⟨rfl,rfl⟩,⟨rfl,rfl⟩,trivial⟩,hq⟩
 | succ m ih=>
  intro i hi hq
  have hlt:i<l.length:=by omega
  have g:=List.getElem?_eq_getElem hlt
  have hm:=List.getElem_mem hlt
  have ih:=ih (i+1) (by omega)
  rw[List.drop_eq_getElem_cons hlt,fstO] at hq
  revert hq g hm
  generalize l[i]=a
  intro hq g hm
  have yes:ltInt (Int.ofNat i) (Int.ofNat l.length)=true:=ltInt_iff.2 (by simp only[Int.ofNat_eq_natCast];omega)
  have hw:wrapA .i64 (Int.ofNat i+1)=Int.ofNat (i+1):=wrapA_i64 (by simp;omega) (by simp;omega)
  obtain ⟨s,idx,⟨t,y,q,d,ks⟩⟩:=a
  have hx:=idxT (f:=false) g
  cases hp:(pB least most) ⟨s,idx,⟨t,y,q,d,ks⟩⟩ with
  |true=>
   rw[hp] at hq
   have hq:Q .ret (xbF least most (.ofNat i)).st:=hq
   refine ALp.round (A:=aidJ [(4,3,.res (.fptr (.str s::I idx::itF t y q (toBytes d) (itAs ks)) 0))] [] noSem [] [142]) (V1:=xbV (l.map atA) (.ofNat l.length) 0 least most) (V2:=xbV (l.map atA) (.ofNat l.length) 0 least most) (F:=xbF least most (.ofNat i)) (lk:=idl 21) (lk':=idl 21) base0 aidJ_ok (LsOk.no rfl) .refl ?_
   rw[xb_r]
   have hp:(!ltInt q least&& !ltInt most q)=true:=hp
   rw[Bool.and_eq_true] at hp
   exact mtT yes ⟨hx,mtT hp.1 (mtT hp.2 ⟨⟨⟨⟨rfl,rfl⟩,trivial⟩,trivial,⟨rfl,rfl⟩,⟨rfl,rfl⟩,trivial⟩,hq⟩)⟩
  |false=>
   rw[hp] at hq
   have ih:=ih hq
   refine ALp.round (A:=aidJ [(4,3,.res (.fptr (.str s::I idx::itF t y q (toBytes d) (itAs ks)) 0))] [] noSem [] [142]) (V1:=xbV (l.map atA) (.ofNat l.length) (.ofNat (i+1)) least most) (V2:=xbV (l.map atA) (.ofNat l.length) (.ofNat (i+1)) least most) (F:=xbF least most 0) (lk:=idl 21) (lk':=idl 21) base0 aidJ_ok (LsOk.no rfl) .refl ?_
   rw[xb_r,hw]
   have hp:(!ltInt q least&& !ltInt most q)=false:=hp
   refine mtT yes ⟨hx,mtB_of (fun e=>mtF (by rw[e,Bool.true_and] at hp;exact hp) ⟨⟨⟨⟨rfl,hL⟩,⟨rfl,rfl⟩,⟨rfl,rfl⟩,⟨rfl,rfl⟩,trivial⟩,⟨⟨⟨rfl,rfl,rfl⟩,⟨rfl,rfl⟩,⟨rfl,rfl⟩,trivial⟩,trivial⟩,⟨rfl,rfl⟩,⟨rfl,rfl⟩,trivial⟩,ih⟩) (fun e=>⟨⟨⟨⟨rfl,hL⟩,⟨rfl,rfl⟩,⟨rfl,rfl⟩,⟨rfl,rfl⟩,trivial⟩,⟨⟨⟨rfl,rfl,rfl⟩,⟨rfl,rfl⟩,⟨rfl,rfl⟩,trivial⟩,trivial⟩,⟨rfl,rfl⟩,⟨rfl,rfl⟩,trivial⟩,ih⟩)⟩
end
theorem xb_at:loopsAt (fnCode Tryz.prog 143) 3=[lpCode Tryz.prog 143 3]:=by kernel_rfl
theorem xb_if {l:List At} {least most:Int} (hb:l.length≤100000):BodySem Tryz.prog opts0.glob 143 [.fsl false (l.map atA),.func (.func 142) [] [.ptr 4 0,.ptr 5 0]] [(4,some (.cells [I least])),(5,some (.cells [I most]))] 21 (I (idxI' (fstO (pB least most) l 0))) [(4,some (.cells [I least])),(5,some (.cells [I most]))] 121:=by
 have hL:=closed_ats l
 have hlen:lenN (l.map atA)=l.length:=by rw[lenN_eq,List.length_map]
 have hrun:=fun (Q:AExit→St→Prop)=>xb_loop (l:=l) (Q:=Q) (least:=least) (most:=most) hb l.length 0 (Nat.zero_add _)
 rw[List.drop_zero] at hrun
 generalize fstO (pB least most) l 0=r at hrun⊢
 cases r with
 | none=>
  refine fnK_bodyX (k:=20) (A:=aidJ [] [(3,xbL (.exit 0) (.ofNat l.length) 0 (l.map atA) least most)] noSem [] []) base0 aidJ_ok
   (fnLs_of (LsOk.at1 rfl xb_at fun st Q hs=> .seen base0.glob hs.1 (hrun Q hs.2))) ?_
  rw[←hlen,xb_fn0]
  exact ⟨⟨⟨⟨rfl,hL⟩,⟨rfl,rfl⟩,⟨rfl,rfl⟩,⟨rfl,rfl⟩,trivial⟩,⟨⟨⟨rfl,rfl,rfl⟩,⟨rfl,rfl⟩,⟨rfl,rfl⟩,trivial⟩,trivial⟩,⟨rfl,rfl⟩,⟨rfl,rfl⟩,trivial⟩,⟨rfl,⟨_,Frz.closed _ rfl,.refl _⟩,⟨rfl,.cells [I least],.cells [I least],rfl,FrzL.closed _ rfl,WkL.refl _⟩,⟨rfl,.cells [I most],.cells [I most],rfl,FrzL.closed _ rfl,WkL.refl _⟩,trivial⟩⟩
 | some j=>
  refine fnK_bodyX (k:=20) (A:=aidJ [] [(3,xbL .ret (.ofNat l.length) (.ofNat j) (l.map atA) least most)] noSem [] []) base0 aidJ_ok
   (fnLs_of (LsOk.at1 rfl xb_at fun st Q hs=> .seen base0.glob hs.1 (hrun Q hs.2))) ?_
  rw[←hlen,xb_fn1]
  exact ⟨⟨⟨⟨rfl,hL⟩,⟨rfl,rfl⟩,⟨rfl,rfl⟩,⟨rfl,rfl⟩,trivial⟩,⟨⟨⟨rfl,rfl,rfl⟩,⟨rfl,rfl⟩,⟨rfl,rfl⟩,trivial⟩,trivial⟩,⟨rfl,rfl⟩,⟨rfl,rfl⟩,trivial⟩,⟨rfl,⟨_,Frz.closed _ rfl,.refl _⟩,⟨rfl,.cells [I least],.cells [I least],rfl,FrzL.closed _ rfl,WkL.refl _⟩,⟨rfl,.cells [I most],.cells [I most],rfl,FrzL.closed _ rfl,WkL.refl _⟩,trivial⟩⟩
theorem xb_cfb {l:List At} {least most:Int} (hb:l.length≤100000):BodySem Tryz.prog opts0.glob 100 [.fsl false (l.map atA),.func (.func 142) [] [.ptr 4 0,.ptr 5 0]] [(4,some (.cells [I least])),(5,some (.cells [I most]))] 15 (.bool (l.any (pB least most))) [(4,some (.cells [I least])),(5,some (.cells [I most]))] 150:=by
 have h:=ren2c (K:=4) (K2:=5) (m:=21) (m':=121) (args2:=[.fsl false (l.map atA),.func (.func 142) [] [.ptr 4 0,.ptr 5 0]]) (H2:=[(5,some (.cells [I most])),(4,some (.cells [I least]))]) (xb_if (l:=l) (least:=least) (most:=most) hb) (by decide) rfl rfl ⟨.same _ (closed_ats l),renF ⟨.ptr _ _ _ rfl,.ptr _ _ _ rfl,trivial⟩,trivial⟩ rfl rfl rfl (by omega) (by omega)
 rw[←fst_any (pB least most) l 0,←idx_lt]
 refine fnK_bodyX (k:=20) (A:=aidJ [] [] (xbT (idxI' (fstO (pB least most) l 0)) least most) [] []) base0 aidJ_ok (fnLs_of (LsOk.no rfl)) ?_
 rw[xb_cf]
 exact ⟨h,⟨rfl,⟨_,Frz.closed _ rfl,.refl _⟩,⟨rfl,.cells [I least],.cells [I least],rfl,FrzL.closed _ rfl,WkL.refl _⟩,⟨rfl,.cells [I most],.cells [I most],rfl,FrzL.closed _ rfl,WkL.refl _⟩,trivial⟩⟩
section
variable {l:List At} {Ls:List AV} {kn:List UInt8→Bool} {rt:At→Bool} {Q:AExit→St→Prop}
theorem xd_loop (hLs:closedAll Ls=true) (hkn:∀a∈l,SC 46 [.str a.name] (.bool (kn a.name))) (hrt:∀a∈l,SC 106 [atA a,.fsl false Ls] (.bool (rt a))) (hb:l.length≤100000):∀m i,i+m=l.length→endQ (fstO (pD kn rt) (l.drop i) i) (fun j=>Q .ret (xdF Ls (.ofNat j)).st) (Q (.exit 0) (xdF Ls 0).st)→
  ALp Tryz.prog opts0.glob 21 (lpCode Tryz.prog 143 3) (xdV (l.map atA) (.ofNat l.length) (.ofNat i) Ls).st Q:=by
 have hL:=closed_ats l
 have hA:closedAll [.fsl false Ls]=true:=by simp only[closedAll,closedA,hLs,Bool.and_self]
 intro m
 induction m with
 |zero=>
  intro i hi hq
  rw[Nat.add_zero] at hi
  subst hi
  rw[List.drop_of_length_le (Nat.le_refl _)] at hq
  have hq:Q (.exit 0) (xdF Ls 0).st:=hq
  refine ALp.round (A:=aidJ [(4,3,.res (.fptr (.str []::I 0::itF 0 0 0 [] []) 0))] [] (manyS [(46,.bool true),(106,.bool true)]) [] [105]) (V1:=xdV (l.map atA) (.ofNat l.length) 0 Ls) (V2:=xdV (l.map atA) (.ofNat l.length) 0 Ls) (F:=xdF Ls 0) (lk:=idl 21) (lk':=idl 21) base0 aidJ_ok (LsOk.no rfl) .refl ?_
  rw[xd_r]
  refine mtF (ltInt_false.2 (by simp only[Int.ofNat_eq_natCast];omega)) ⟨⟨⟨⟨rfl,rfl⟩,trivial⟩,trivial,⟨rfl,hA⟩,trivial⟩,hq⟩
 | succ m ih=>
  intro i hi hq
  have hlt:i<l.length:=by omega
  have g:=List.getElem?_eq_getElem hlt
  have hm:=List.getElem_mem hlt
  have ih:=ih (i+1) (by omega)
  rw[List.drop_eq_getElem_cons hlt,fstO] at hq
  revert hq g hm
  generalize l[i]=a
  intro hq g hm
  have yes:ltInt (Int.ofNat i) (Int.ofNat l.length)=true:=ltInt_iff.2 (by simp only[Int.ofNat_eq_natCast];omega)
  have hw:wrapA .i64 (Int.ofNat i+1)=Int.ofNat (i+1):=wrapA_i64 (by simp;omega) (by simp;omega)
  have h1:=hkn a hm
  have h2:=hrt a hm
  obtain ⟨s,idx,⟨t,y,q,d,ks⟩⟩:=a
  have hx:=idxT (f:=false) g
  cases hp:(pD kn rt) ⟨s,idx,⟨t,y,q,d,ks⟩⟩ with
  |true=>
   rw[hp] at hq
   have hq:Q .ret (xdF Ls (.ofNat i)).st:=hq
   refine ALp.round (A:=aidJ [(4,3,.res (.fptr (.str s::I idx::itF t y q (toBytes d) (itAs ks)) 0))] [] (manyS [(46,.bool (kn s)),(106,.bool (rt ⟨s,idx,⟨t,y,q,d,ks⟩⟩))]) [] [105]) (V1:=xdV (l.map atA) (.ofNat l.length) 0 Ls) (V2:=xdV (l.map atA) (.ofNat l.length) 0 Ls) (F:=xdF Ls (.ofNat i)) (lk:=idl 21) (lk':=idl 21) base0 aidJ_ok (LsOk.no rfl) .refl ?_
   rw[xd_r]
   have hp:(!kn s|| !rt ⟨s,idx,⟨t,y,q,d,ks⟩⟩)=true:=hp
   refine mtT yes ⟨hx,h1,mtB_of (fun e=>⟨⟨⟨⟨rfl,rfl⟩,trivial⟩,trivial,⟨rfl,hA⟩,trivial⟩,hq⟩) (fun e=>⟨h2,mtT (by rw[e,Bool.false_or] at hp;exact hp) ⟨⟨⟨⟨rfl,rfl⟩,trivial⟩,trivial,⟨rfl,hA⟩,trivial⟩,hq⟩⟩)⟩
  |false=>
   rw[hp] at hq
   have ih:=ih hq
   refine ALp.round (A:=aidJ [(4,3,.res (.fptr (.str s::I idx::itF t y q (toBytes d) (itAs ks)) 0))] [] (manyS [(46,.bool (kn s)),(106,.bool (rt ⟨s,idx,⟨t,y,q,d,ks⟩⟩))]) [] [105]) (V1:=xdV (l.map atA) (.ofNat l.length) (.ofNat (i+1)) Ls) (V2:=xdV (l.map atA) (.ofNat l.length) (.ofNat (i+1)) Ls) (F:=xdF Ls 0) (lk:=idl 21) (lk':=idl 21) base0 aidJ_ok (LsOk.no rfl) .refl ?_
   rw[xd_r,hw]
   have hp:(!kn s|| !rt ⟨s,idx,⟨t,y,q,d,ks⟩⟩)=false:=hp
   rw[Bool.or_eq_false_iff] at hp
   exact mtT yes ⟨hx,h1,mtF hp.1 ⟨h2,mtF hp.2 ⟨⟨⟨⟨rfl,hL⟩,⟨rfl,rfl⟩,⟨rfl,rfl⟩,⟨rfl,rfl⟩,trivial⟩,⟨⟨⟨rfl,rfl,rfl⟩,⟨rfl,rfl⟩,trivial⟩,trivial⟩,⟨rfl,hA⟩,trivial⟩,ih⟩⟩⟩
end
theorem xd_at:loopsAt (fnCode Tryz.prog 143) 3=[lpCode Tryz.prog 143 3]:=by kernel_rfl
theorem xd_if {l:List At} {Ls:List AV} {kn:List UInt8→Bool} {rt:At→Bool} (hLs:closedAll Ls=true) (hkn:∀a∈l,SC 46 [.str a.name] (.bool (kn a.name))) (hrt:∀a∈l,SC 106 [atA a,.fsl false Ls] (.bool (rt a))) (hb:l.length≤100000):BodySem Tryz.prog opts0.glob 143 [.fsl false (l.map atA),.func (.func 105) [] [.ptr 4 0]] [(4,some (.cells [.fsl false Ls]))] 21 (I (idxI' (fstO (pD kn rt) l 0))) [(4,some (.cells [.fsl false Ls]))] 121:=by
 have hL:=closed_ats l
 have hA:closedAll [.fsl false Ls]=true:=by simp only[closedAll,closedA,hLs,Bool.and_self]
 have hlen:lenN (l.map atA)=l.length:=by rw[lenN_eq,List.length_map]
 have hrun:=fun (Q:AExit→St→Prop)=>xd_loop (l:=l) (Q:=Q) (Ls:=Ls) (kn:=kn) (rt:=rt) hLs hkn hrt hb l.length 0 (Nat.zero_add _)
 rw[List.drop_zero] at hrun
 generalize fstO (pD kn rt) l 0=r at hrun⊢
 cases r with
 | none=>
  refine fnK_bodyX (k:=20) (A:=aidJ [] [(3,xdL (.exit 0) (.ofNat l.length) 0 (l.map atA) Ls)] noSem [] []) base0 aidJ_ok
   (fnLs_of (LsOk.at1 rfl xd_at fun st Q hs=> .seen base0.glob hs.1 (hrun Q hs.2))) ?_
  rw[←hlen,xd_fn0]
  exact ⟨⟨⟨⟨rfl,hL⟩,⟨rfl,rfl⟩,⟨rfl,rfl⟩,⟨rfl,rfl⟩,trivial⟩,⟨⟨⟨rfl,rfl,rfl⟩,⟨rfl,rfl⟩,trivial⟩,trivial⟩,⟨rfl,hA⟩,trivial⟩,⟨rfl,⟨_,Frz.closed _ rfl,.refl _⟩,⟨rfl,.cells [.fsl false Ls],.cells [.fsl false Ls],rfl,FrzL.closed _ hA,WkL.refl _⟩,trivial⟩⟩
 | some j=>
  refine fnK_bodyX (k:=20) (A:=aidJ [] [(3,xdL .ret (.ofNat l.length) (.ofNat j) (l.map atA) Ls)] noSem [] []) base0 aidJ_ok
   (fnLs_of (LsOk.at1 rfl xd_at fun st Q hs=> .seen base0.glob hs.1 (hrun Q hs.2))) ?_
  rw[←hlen,xd_fn1]
  exact ⟨⟨⟨⟨rfl,hL⟩,⟨rfl,rfl⟩,⟨rfl,rfl⟩,⟨rfl,rfl⟩,trivial⟩,⟨⟨⟨rfl,rfl,rfl⟩,⟨rfl,rfl⟩,trivial⟩,trivial⟩,⟨rfl,hA⟩,trivial⟩,⟨rfl,⟨_,Frz.closed _ rfl,.refl _⟩,⟨rfl,.cells [.fsl false Ls],.cells [.fsl false Ls],rfl,FrzL.closed _ hA,WkL.refl _⟩,trivial⟩⟩
theorem xd_cfb {l:List At} {Ls:List AV} {kn:List UInt8→Bool} {rt:At→Bool} (hLs:closedAll Ls=true) (hkn:∀a∈l,SC 46 [.str a.name] (.bool (kn a.name))) (hrt:∀a∈l,SC 106 [atA a,.fsl false Ls] (.bool (rt a))) (hb:l.length≤100000):BodySem Tryz.prog opts0.glob 100 [.fsl false (l.map atA),.func (.func 105) [] [.ptr 4 0]] [(4,some (.cells [.fsl false Ls]))] 15 (.bool (l.any (pD kn rt))) [(4,some (.cells [.fsl false Ls]))] 150:=by
 have hA:closedAll [.fsl false Ls]=true:=by simp only[closedAll,closedA,hLs,Bool.and_self]
 have h:=xd_if (l:=l) (Ls:=Ls) (kn:=kn) (rt:=rt) hLs hkn hrt hb
 rw[←fst_any (pD kn rt) l 0,←idx_lt]
 refine fnK_bodyX (k:=20) (A:=aidJ [] [] (xdT (idxI' (fstO (pD kn rt) l 0)) Ls) [] []) base0 aidJ_ok (fnLs_of (LsOk.no rfl)) ?_
 rw[xd_cf]
 exact ⟨h,⟨rfl,⟨_,Frz.closed _ rfl,.refl _⟩,⟨rfl,.cells [.fsl false Ls],.cells [.fsl false Ls],rfl,FrzL.closed _ hA,WkL.refl _⟩,trivial⟩⟩
structure OkH (o:Ob):Prop where
 fit:FitO o
 g:∀k,OkG o k
theorem Okay.h {o:Ob} (h:Okay o):OkH o:=⟨h.fit,h.g⟩
theorem isd_sem (a:At):SC 97 [atA a] (.bool (beqInt (itY a.v) 9)):=by
 have hc:=closed_atA a
 obtain ⟨s,idx,⟨t,y,q,d,ks⟩⟩:=a
 refine fnK_semV (A:=aid0) base0 aidOk0 (fnLs_of (LsOk.no rfl)) (by rw[closedAll,hc];rfl) rfl ?_
 rw[atA_F,isd_fn]
 rfl
def fstN (l:List It):Int:=match l with
 |x::_=>itN x
 |[]=>0
def lstN (l:List It):Int:=match l.getLast? with
 |some x=>itN x
 |none=>0
def dateB (o:Ob) (s:List UInt8) (ws:List It):Bool:=(ofS (cusB s) o s).any (pB (fstN ws) (lstN ws))
theorem of_len {o:Ob} (h:OkH o) (c:Bool) (s:List UInt8):(ofS c o s).length≤1000:=by
 unfold ofS
 split
 ·simp
 ·rename_i k hk
  rw[tell_length]
  exact (h.g k).n
theorem tell_mem {s:List UInt8}:∀ {l:List It} {i:Nat} {a:At},a∈tellL s l i→a.v∈l
 |[],_,_,h=>by cases h
 |v::r,i,a,h=>by
  rw[tellL] at h
  rcases List.mem_cons.1 h with rfl|h
  ·exact List.mem_cons_self
  ·exact List.mem_cons_of_mem _ (tell_mem h)
theorem of_ok {o:Ob} (h:OkH o) {c:Bool} {s:List UInt8}:∀a∈ofS c o s,okI big a.v:=fun a ha=>by
 unfold ofS at ha
 split at ha
 ·cases ha
 ·rename_i k hk
  exact (h.g k).i _ (tell_mem ha)
theorem date_sem {o:Ob} (h:OkH o) {s:List UInt8} (hs:s∈nameL) {ws:List It} (hne:ws≠[]) (hb:ws.length≤100000):SC 98 [obA o,.str s,.fsl false (itAs ws)] (.bool (dateB o s ws)):=by
 have hof:=ofn_sem h.fit (cus_sem s hs) h.g
 have hlen:=of_len h (cusB s) s
 have hW:=closed_its ws
 have hcl:=closed_oc o (c:=[.str s,.fsl false (itAs ws)]) (by simp only[closedAll,closedA,hW,Bool.and_self])
 have hln:lenN (itAs ws)=ws.length:=by rw[lenN_eq,its_length]
 unfold dateB
 generalize ofS (cusB s) o s=l at hof hlen⊢
 obtain ⟨x0,r,rfl⟩:∃x r,ws=x::r:=by
  cases ws with
  |nil=>exact absurd rfl hne
  |cons x r=>exact ⟨x,r,rfl⟩
 have g1:(x0::r)[r.length]? =some ((x0::r)[r.length]'(by simp)):=List.getElem?_eq_getElem (by simp)
 have hl:(x0::r).getLast? =some ((x0::r)[r.length]'(by simp)):=by rw[List.getLast?_eq_getElem?];exact g1
 have e1:fstN (x0::r)=itN x0:=rfl
 have e2:lstN (x0::r)=itN ((x0::r)[r.length]'(by simp)):=by unfold lstN;rw[hl]
 rw[e1,e2]
 revert g1
 generalize (x0::r)[r.length]'(by simp)=x1
 intro g1
 have hw:wrapA .i64 (Int.ofNat (r.length+1)-1)=Int.ofNat r.length:=by
  rw[wrapA_i64 (by simp<;>omega) (by simp<;>(simp only[List.length_cons] at hb;omega))]
  simp only[Int.ofNat_eq_natCast]
  omega
 have hcf:=xb_cfb (l:=l) (least:=itN x0) (most:=itN x1) (by omega)
 obtain ⟨t,y,q,d,ks⟩:=x0
 obtain ⟨t',y',q',d',ks'⟩:=x1
 have i0:=idxI (f:=false) (ks:=⟨t,y,q,d,ks⟩::r) (i:=0) rfl
 have i1:=idxI (f:=false) g1
 have hcf:=ren2c (K:=13) (K2:=14) (m:=23) (m':=48) (args2:=[.fsl false (l.map atA),.func (.func 142) [] [.ptr 13 0,.ptr 14 0]]) (H2:=[(14,some (.cells [I q'])),(13,some (.cells [I q]))]) hcf (by decide) rfl rfl ⟨.same _ (closed_ats l),renF ⟨.ptr _ _ _ rfl,.ptr _ _ _ rfl,trivial⟩,trivial⟩ rfl rfl rfl (by omega) (by omega)
 refine fnK_semV (A:=aidJ [(1,1,.res (.fptr (itF t y q (toBytes d) (itAs ks)) 0)),(1,8,.res (.fptr (itF t' y' q' (toBytes d') (itAs ks')) 0))] [] (dtT (l.any (pB q q')) (l.map atA) q q') [] []) base0 aidJ_ok (fnLs_of (LsOk.no rfl)) hcl rfl ?_
 unfold obA obC at hof⊢
 rw[dt_fn,hln,List.length_cons,hw]
 exact ⟨i0,i1,hof,hcf,rfl⟩
def condB (o:Ob) (L:List At) (a:At):Bool:=match beqInt (itY a.v) 9 with
 |true=>dateB o a.name (valsL a.name L)
 |false=>(ofS (cusB a.name) o a.name).any (pA a.v)
theorem vals_ne {L:List At} {a:At} (h:a∈L):valsL a.name L≠[]:=by
 induction L with
 |nil=>cases h
 | cons b r ih=>
  rw[valsL]
  cases hb:beqBytes b.name a.name with
  |true=>simp
  |false=>
   rcases List.mem_cons.1 h with rfl|h
   ·rw[beqBytes_iff.2 rfl] at hb;cases hb
   ·exact ih h
section
variable {o:Ob} {L:List At} {Q:AExit→St→Prop}
theorem is_loop (ok:OkH o) (hn:∀a∈L,a.name∈nameL) (hb:L.length≤1000):∀m i,i+m=L.length→mtB ((L.drop i).all (condB o L)) (Q (.exit 0) isF.st) (Q .ret isF.st)→
  ALp Tryz.prog opts0.glob 0 (lpCode Tryz.prog 52 3) (isV (.ofNat i) (.ofNat L.length) (L.map atA) (obC o)).st Q:=by
 have hL:=closed_ats L
 have hO:=closed_obC o
 intro m
 induction m with
 |zero=>
  intro i hi hq
  rw[Nat.add_zero] at hi
  subst hi
  rw[List.drop_of_length_le (Nat.le_refl _)] at hq
  have hq:Q (.exit 0) isF.st:=hq
  refine ALp.round (A:=isA (.str []::I 0::itF 0 0 0 [] []) false false false [] []) (V1:=isV 0 (.ofNat L.length) (L.map atA) (obC o)) (V2:=isV 0 (.ofNat L.length) (L.map atA) (obC o)) (F:=isF) (lk:=[(0,0)]) (lk':=[]) base0 aidJ_ok (LsOk.no rfl) .refl ?_
  unfold obC at hO⊢
  rw[is_r0]
  exact mtF (ltInt_false.2 (by simp only[Int.ofNat_eq_natCast];omega)) ⟨⟨⟨⟨rfl,rfl⟩,trivial⟩,trivial,trivial⟩,hq⟩
 | succ m ih=>
  intro i hi hq
  have hlt:i<L.length:=by omega
  have g:=List.getElem?_eq_getElem hlt
  have hm:=List.getElem_mem hlt
  rw[List.drop_eq_getElem_cons hlt,List.all_cons] at hq
  have ih:=ih (i+1) (by omega)
  revert hq g hm
  generalize L[i]=a
  intro hq g hm
  have yes:ltInt (Int.ofNat i) (Int.ofNat L.length)=true:=ltInt_iff.2 (by simp only[Int.ofNat_eq_natCast];omega)
  have hw:wrapA .i64 (Int.ofNat i+1)=Int.ofNat (i+1):=wrapA_i64 (by simp;omega) (by simp;omega)
  have hs:=hn a hm
  have hd:=isd_sem a
  have hv:=vals_sem (l:=L) (by omega) a.name
  have hvl:=vals_len a.name L
  have hdt:=date_sem ok hs (vals_ne hm) (by omega)
  have hof:=ofn_sem ok.fit (cus_sem a.name hs) ok.g
  have hofl:=of_len ok (cusB a.name) a.name
  have hcf:=xa_cfb (l:=ofS (cusB a.name) o a.name) (S0:=a.name) (X0:=a.idx) (v:=a.v) (of_ok ok) (by omega)
  have hcc:condB o L a=match beqInt (itY a.v) 9 with|true=>dateB o a.name (valsL a.name L)|false=>(ofS (cusB a.name) o a.name).any (pA a.v):=rfl
  rw[hcc] at hq
  generalize valsL a.name L=Vs at hv hdt hq
  generalize ofS (cusB a.name) o a.name=As at hof hcf hq
  obtain ⟨s,idx,⟨t,y,q,d,ks⟩⟩:=a
  have hx:=idxT (f:=false) g
  rw[atA_F] at hd
  simp only at hs hv hdt hof hcf hq
  cases hy:beqInt y 9 with
  | true=>
   rw[show beqInt (itY ⟨t,y,q,d,ks⟩) 9=true from hy] at hd hq
   dsimp only at hq
   generalize dateB o s Vs=b at hdt hq
   cases b with
   |true=>
    rw[Bool.true_and] at hq
    have ih:=ih hq
    refine ALp.round (A:=isA (.str s::I idx::itF t y q (toBytes d) (itAs ks)) true true false (itAs Vs) []) (V1:=isV (.ofNat (i+1)) (.ofNat L.length) (L.map atA) (obC o)) (V2:=isV (.ofNat (i+1)) (.ofNat L.length) (L.map atA) (obC o)) (F:=isF) (lk:=[(0,0)]) (lk':=[]) base0 aidJ_ok (LsOk.no rfl) .refl ?_
    unfold obA at hdt
    unfold obC at hO hdt ih⊢
    rw[is_r1,hw]
    exact mtT yes ⟨hx,hd,hv,hdt,mtF rfl ⟨⟨⟨⟨rfl,hL⟩,⟨rfl,rfl⟩,⟨rfl,hL⟩,⟨rfl,rfl⟩,⟨rfl,rfl⟩,trivial⟩,⟨⟨rfl,rfl⟩,trivial⟩,⟨rfl,hO⟩,trivial⟩,ih⟩⟩
   |false=>
    rw[Bool.false_and] at hq
    have hq:Q .ret isF.st:=hq
    refine ALp.round (A:=isA (.str s::I idx::itF t y q (toBytes d) (itAs ks)) true false false (itAs Vs) []) (V1:=isV 0 (.ofNat L.length) (L.map atA) (obC o)) (V2:=isV 0 (.ofNat L.length) (L.map atA) (obC o)) (F:=isF) (lk:=[(0,0)]) (lk':=[]) base0 aidJ_ok (LsOk.no rfl) .refl ?_
    unfold obA at hdt
    unfold obC at hO hdt⊢
    rw[is_r1]
    exact mtT yes ⟨hx,hd,hv,hdt,mtT rfl ⟨⟨⟨⟨rfl,rfl⟩,trivial⟩,trivial,trivial⟩,hq⟩⟩
  | false=>
   rw[show beqInt (itY ⟨t,y,q,d,ks⟩) 9=false from hy] at hd hq
   dsimp only at hq
   have hcf:=ren1c (K:=4) (m:=15) (m':=40) (args2:=[.fsl false (As.map atA),.func (.func 101) [] [.ptr 4 0]]) (H2:=[(4,some (.cells (.str s::I idx::itF t y q (toBytes d) (itAs ks))))]) hcf rfl ⟨.same _ (closed_ats As),renF ⟨.ptr _ _ _ rfl,trivial⟩,trivial⟩ rfl (closed_atA ⟨s,idx,⟨t,y,q,d,ks⟩⟩) (by omega) (by omega)
   generalize As.any (pA ⟨t,y,q,d,ks⟩)=b at hcf hq
   cases b with
   |true=>
    rw[Bool.true_and] at hq
    have ih:=ih hq
    refine ALp.round (A:=isA (.str s::I idx::itF t y q (toBytes d) (itAs ks)) false false true [] (As.map atA)) (V1:=isV (.ofNat (i+1)) (.ofNat L.length) (L.map atA) (obC o)) (V2:=isV (.ofNat (i+1)) (.ofNat L.length) (L.map atA) (obC o)) (F:=isF) (lk:=[(0,0)]) (lk':=[]) base0 aidJ_ok (LsOk.no rfl) .refl ?_
    unfold obA at hof
    unfold obC at hO hof ih⊢
    rw[is_r0,hw]
    exact mtT yes ⟨hx,hd,hof,hcf,mtF rfl ⟨⟨⟨⟨rfl,hL⟩,⟨rfl,rfl⟩,⟨rfl,hL⟩,⟨rfl,rfl⟩,⟨rfl,rfl⟩,trivial⟩,⟨⟨rfl,rfl⟩,trivial⟩,⟨rfl,hO⟩,trivial⟩,ih⟩⟩
   |false=>
    rw[Bool.false_and] at hq
    have hq:Q .ret isF.st:=hq
    refine ALp.round (A:=isA (.str s::I idx::itF t y q (toBytes d) (itAs ks)) false false false [] (As.map atA)) (V1:=isV 0 (.ofNat L.length) (L.map atA) (obC o)) (V2:=isV 0 (.ofNat L.length) (L.map atA) (obC o)) (F:=isF) (lk:=[(0,0)]) (lk':=[]) base0 aidJ_ok (LsOk.no rfl) .refl ?_
    unfold obA at hof
    unfold obC at hO hof⊢
    rw[is_r0]
    exact mtT yes ⟨hx,hd,hof,hcf,mtT rfl ⟨⟨⟨⟨rfl,rfl⟩,trivial⟩,trivial,trivial⟩,hq⟩⟩
end
theorem is_at:loopsAt (fnCode Tryz.prog 52) 3=[lpCode Tryz.prog 52 3]:=by kernel_rfl
def isB (o:Ob) (L:List At):Bool:=L.all (condB o L)
theorem mis_sem {o:Ob} {L:List At} (ok:OkH o) (hn:∀a∈L,a.name∈nameL) (hb:L.length≤1000):SC 52 [obA o,.fsl false (L.map atA)] (.bool (isB o L)):=by
 have hL:=closed_ats L
 have hO:=closed_obC o
 have hcl:=closed_oc o (c:=[.fsl false (L.map atA)]) (by simp only[closedAll,closedA,hL,Bool.and_self])
 have hlen:lenN (L.map atA)=L.length:=by rw[lenN_eq,List.length_map]
 have hrun:=fun (Q:AExit→St→Prop)=>is_loop (Q:=Q) ok hn hb L.length 0 (Nat.zero_add _)
 rw[List.drop_zero] at hrun
 unfold isB
 generalize L.all (condB o L)=b at hrun⊢
 cases b with
 | true=>
  refine fnK_semV (A:=aidJ [] [(3,isL (.exit 0) (.ofNat (lenN (L.map atA))) (L.map atA) (obC o))] noSem [] []) base0 aidJ_ok
   (fnLs_of (LsOk.at1 rfl is_at fun st Q hs=> .seen base0.glob hs.1 (by
    rw[hlen]
    exact hrun Q hs.2))) hcl rfl ?_
  unfold obA
  unfold obC at hO⊢
  rw[is_fn1]
  exact ⟨⟨⟨⟨rfl,hL⟩,⟨rfl,rfl⟩,⟨rfl,hL⟩,⟨rfl,rfl⟩,⟨rfl,rfl⟩,trivial⟩,⟨⟨rfl,rfl⟩,trivial⟩,⟨rfl,hO⟩,trivial⟩,rfl⟩
 | false=>
  refine fnK_semV (A:=aidJ [] [(3,isL .ret (.ofNat (lenN (L.map atA))) (L.map atA) (obC o))] noSem [] []) base0 aidJ_ok
   (fnLs_of (LsOk.at1 rfl is_at fun st Q hs=> .seen base0.glob hs.1 (by
    rw[hlen]
    exact hrun Q hs.2))) hcl rfl ?_
  unfold obA
  unfold obC at hO⊢
  rw[is_fn0]
  exact ⟨⟨⟨⟨rfl,hL⟩,⟨rfl,rfl⟩,⟨rfl,hL⟩,⟨rfl,rfl⟩,⟨rfl,rfl⟩,trivial⟩,⟨⟨rfl,rfl⟩,trivial⟩,⟨rfl,hO⟩,trivial⟩,rfl⟩
end Go.Proofs.YtjhggnebkfpgcaaGreatDoor
