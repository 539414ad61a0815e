/- RLay, RLayP, Kno, ToldW, Told, Valid, SetI, ChgI, LawTold, Rws. -/
import Derived.Test.YtjhggnebkfpgcaaGreatDoorQ8
import Derived.KernelRfl
import Derived.Test.YtjhggnebkfpgcaaGreatDoorQ5
import Derived.Test.YtjhggnebkfpgcaaGreatDoorQ6
import Derived.Test.YtjhggnebkfpgcaaGreatDoorQ1
import Derived.Test.YtjhggnebkfpgcaaGreatDoorG5
import Derived.Shelf.Unicode.ValidAny
namespace Go.Proofs.YtjhggnebkfpgcaaGreatDoor
open Go Go.RowKit
open Go.Proofs.Abs
def rrO:Option Kd→AV
 |some k=> .tuple [rrA k,.bool true]
 |none=> .tuple [rrZ,.bool false]
def findR (c:Bool) (s:List UInt8):Option Kd:=match findL s kinds with
 |some k=>some k
 |none=>match c with
  |true=>some (.cus s)
  |false=>none
theorem findR_eq {c:Bool} {s:List UInt8} (h:c=true→∀k∈kinds,nameK k≠s):findR c s=findK c s:=by
 cases c with
 |true=>rw[findR,findL_none (h rfl)];rfl
 |false=>
  rw[findR]
  show _=findL s kinds
  cases findL s kinds<;>rfl
set_option maxRecDepth 20000 in
theorem rfind_sem {c:Bool} {s:List UInt8} (hc:SC 114 [.str s] (.bool c)):SC 63 [.str s] (rrO (findR c s)):=by
 refine fnK_semE (A:=rfA c) base0 aidJ_ok (fnLs_of (LsOk.no rfl)) rfl ?_
 rw[rfind_fn]
 refine And.intro rrows_sem ?_
 simp only[findR]
 repeat' first|refine And.intro hc ?_|refine mtB_of (fun _=> ?_) (fun _=> ?_)
 all_goals
  simp only[kinds,findL,nameK,dateN, *]
  exact end_eq rfl rfl
section
variable {o:Ob} {k:Kd} {s:List UInt8}
end
noncomputable def optsB:Opts:={how:=fun f=>match memN [119,120,121,151,191,193,194] f with|true=> .fresh|false=>match memN [102,104,144,145,214,215] f with|true=> .keep|false=> .pure,summ:=fun _ _=>none,glob:=gl,lf:=100000}
theorem known_sem:SC 21 [] (.bool true):=
 sem_of_calls (O:=optsB) (n:=20) Tryz.mixed (fun _ _ _ h=>by cases h) noCall_ok' gl_closed fun id h nx=>pureT_ok (O:=optsB) (n:=19) (T:=[]) (F:=[]) rfl rfl (by kernel_rfl) trivial id h nx
theorem fits_obC (o:Ob):fitsT Tryz.prog 33 (.agg (obC o)) 37=true:=by kernel_rfl
noncomputable section
def rnV0 (i:Int) (Ls:List AV):View:=⟨[(3,.nilsl),(4,.fsl false Ls),(5,I i)],[],[],0,46⟩
def rnV1 (i:Int) (k:Nat) (Ls es:List AV):View:=⟨[(4,.fsl false Ls),(5,I i)],[(3,.rsl true 0 0 k 1)],[(0,.cells es,.whole)],1,46⟩
def rnJ (b:Bool) (j i:Int) (k:Nat) (Ls es:List AV):View:=⟨[(4,.fsl false Ls),(5,I i),(6,.bool b),(7,I j)],[(3,.rsl true 0 0 k 1)],[(0,.cells es,.whole)],1,46⟩
def rnJ0 (b:Bool) (j i:Int) (Ls:List AV):View:=⟨[(3,.nilsl),(4,.fsl false Ls),(5,I i),(6,.bool b),(7,I j)],[],[],0,46⟩
def rnA (x:List UInt8) (c:List AV):Aid:=aidJ [(10,5,.ld (.str x)),(10,8,.res (.fptr c 0))] [] noSem [] []
@[simp] abbrev wc1 (Ls:List AV):=(AV.fsl false Ls=AV.fsl false Ls∧closedA (AV.fsl false Ls)=true)
@[simp] abbrev wc4 (k:Nat):=((true=true∧some 0=some 0∧0=0∧k=k∧1=1)∧True)
abbrev wc5 (D K:List AV) (idx q t y:Int) (s:List UInt8):=(AV.fptr [AV.str s,I idx,I t,I y,I q,AV.fsl false D,AV.fsl false K] 0)
@[simp] abbrev wc6 (i:Int):=(I i=I i∧closedA (I i)=true)
@[simp] abbrev wc9 (es:List AV):=(es=es∧closedAll es=true)
theorem rn_j (b b':Bool) (j j' i:Int) (k:Nat) (Ls es:List AV) (x s:List UInt8) (idx t y q:Int) (D K:List AV) (N:Prop) (Q:AExit→St→Prop):wpK Tryz.prog opts0 40 (rnA x (.str s::I idx::itF t y q D K)) (lpCode Tryz.prog 44 9) (rnJ b j i k Ls es).st (roundP 0 [(0,0)] (rnJ b' j' i k Ls es) N [(0,0)] (rnJ b j i k Ls es) Q)=
  (mtB (ltInt j (Int.ofNat k)) (mtB b ((((wc1 Ls)∧(wc6 i)∧(AV.bool true=AV.bool b'∧closedA (AV.bool b')=true)∧(I (wrapA IntKind.i64 (j+1))=I j'∧closedA (I j')=true)∧True)∧(wc4 k)∧(wc9 es)∧True)∧N) (oblB (nonneg j&&(j.toNat.blt k&&true)) (partA Tryz.prog 9 es (0+j.toNat*1)=some (AV.str x)∧indexAddrA Tryz.prog 43 (AV.fsl false Ls) (I i)=some (wc5 D K idx q t y s)∧(((wc1 Ls)∧(wc6 i)∧(AV.bool (beqBytes x s)=AV.bool b'∧closedA (AV.bool b')=true)∧(I (wrapA IntKind.i64 (j+1))=I j'∧closedA (I j')=true)∧True)∧(wc4 k)∧(wc9 es)∧True)∧N))) ((((wc1 Ls)∧(wc6 i)∧(AV.bool b=AV.bool b∧closedA (AV.bool b)=true)∧(I j=I j∧closedA (I j)=true)∧True)∧(wc4 k)∧(wc9 es)∧True)∧Q (AExit.exit 2) (rnJ b j i k Ls es).st)):=by kernel_rfl
@[simp] abbrev wc7:=(I 0=I 0∧true=true)
@[simp] abbrev wc8:=(AV.bool false=AV.bool false∧true=true)
@[simp] abbrev wc13:=(AV.nilsl=AV.nilsl∧true=true)
theorem rn_j0 (i:Int) (Ls:List AV) (N:Prop) (Q:AExit→St→Prop):wpK Tryz.prog opts0 40 (rnA [] []) (lpCode Tryz.prog 44 9) (rnJ0 false 0 i Ls).st (roundP 0 [] (rnJ0 false 0 i Ls) N [] (rnJ0 false 0 i Ls) Q)=
  (((wc13∧(wc1 Ls)∧(wc6 i)∧wc8∧wc7∧True)∧True∧True)∧Q (AExit.exit 2) (rnJ0 false 0 i Ls).st):=by kernel_rfl
def rnL (p:Prop) (b:Bool) (i:Int) (k:Nat) (Ls es:List AV):LoopS:=fun st Q=>p∧seesK 0 [(0,0)] (rnJ false 0 i k Ls es) st∧Q (.exit 2) (rnJ b (.ofNat k) i k Ls es).st
def rnL0 (i:Int) (Ls:List AV):LoopS:=fun st Q=>seesK 0 [] (rnJ0 false 0 i Ls) st∧Q (.exit 2) (rnJ0 false 0 i Ls).st
def rnB (c:List AV) (L:LoopS):Aid:=aidJ [(12,3,.res (.fptr c 0))] [(9,L)] noSem [] []
theorem rn_r0 (s:List UInt8) (idx t y q i j:Int) (D K Ls es':List AV) (k':Nat) (N:Prop) (Q:AExit→St→Prop):wpK Tryz.prog opts0 40 (rnB (.str s::I idx::itF t y q D K) (rnL0 i Ls)) (lpCode Tryz.prog 44 5) (rnV0 i Ls).st (roundP 0 [(0,9)] (rnV1 j k' Ls es') N [] (rnV0 i Ls) Q)=
  (mtB (ltInt i (Int.ofNat (lenN Ls))) (((wc13∧(wc1 Ls)∧(wc6 i)∧wc8∧wc7∧True)∧True∧True)∧indexAddrA Tryz.prog 43 (AV.fsl false Ls) (I i)=some (wc5 D K idx q t y s)∧(((wc1 Ls)∧(I (wrapA IntKind.i64 (i+1))=I j∧closedA (I j)=true)∧True)∧((true=true∧some 9=some 9∧0=0∧k'=lenN [AV.str s]∧1=1)∧True)∧(flat [AV.str s]=es'∧closedAll es'=true)∧True)∧N) (((wc13∧(wc1 Ls)∧(wc6 i)∧True)∧True∧True)∧Q (AExit.exit 0) (rnV0 i Ls).st)):=by kernel_rfl
theorem rn_r1 (p:Prop) (s:List UInt8) (idx t y q i j:Int) (D K Ls es es':List AV) (k k':Nat) (N:Prop) (Q:AExit→St→Prop):wpK Tryz.prog opts0 40 (rnB (.str s::I idx::itF t y q D K) (rnL p false i k Ls es)) (lpCode Tryz.prog 44 5) (rnV1 i k Ls es).st (roundP 0 [(0,10)] (rnV1 j k' Ls es') N [(0,0)] (rnV1 i k Ls es) Q)=
  (mtB (ltInt i (Int.ofNat (lenN Ls))) (p∧(((wc1 Ls)∧(wc6 i)∧wc8∧wc7∧True)∧(wc4 k)∧(wc9 es)∧True)∧indexAddrA Tryz.prog 43 (AV.fsl false Ls) (I i)=some (wc5 D K idx q t y s)∧oblB (allSize 1 [AV.str s]&&(((k+lenN [AV.str s])*16).ble 140737488355328&&(allOne (flat [AV.str s])&&true))) (oblB ((lenN es).beq (k*1)) ((((wc1 Ls)∧(I (wrapA IntKind.i64 (i+1))=I j∧closedA (I j)=true)∧True)∧((true=true∧some 10=some 10∧0=0∧k'=k+lenN [AV.str s]∧1=1)∧True)∧(es++flat [AV.str s]=es'∧closedAll es'=true)∧True)∧N))) ((((wc1 Ls)∧(wc6 i)∧True)∧(wc4 k)∧(wc9 es)∧True)∧Q (AExit.exit 0) (rnV1 i k Ls es).st)):=by kernel_rfl
theorem rn_r2 (p:Prop) (s:List UInt8) (idx t y q i j:Int) (D K Ls es es':List AV) (k k':Nat) (N:Prop) (Q:AExit→St→Prop):wpK Tryz.prog opts0 40 (rnB (.str s::I idx::itF t y q D K) (rnL p true i k Ls es)) (lpCode Tryz.prog 44 5) (rnV1 i k Ls es).st (roundP 0 [(0,0)] (rnV1 j k' Ls es') N [(0,0)] (rnV1 i k Ls es) Q)=
  (mtB (ltInt i (Int.ofNat (lenN Ls))) (p∧(((wc1 Ls)∧(wc6 i)∧wc8∧wc7∧True)∧(wc4 k)∧(wc9 es)∧True)∧(((wc1 Ls)∧(I (wrapA IntKind.i64 (i+1))=I j∧closedA (I j)=true)∧True)∧((true=true∧some 0=some 0∧0=0∧k'=k∧1=1)∧True)∧(es=es'∧closedAll es'=true)∧True)∧N) ((((wc1 Ls)∧(wc6 i)∧True)∧(wc4 k)∧(wc9 es)∧True)∧Q (AExit.exit 0) (rnV1 i k Ls es).st)):=by kernel_rfl
def rnF (n:Int) (k:Nat) (Ls es:List AV):LoopS:=fun st Q=>seesK 0 [] (rnV0 0 Ls) st∧Q (.exit 0) (rnV1 n k Ls es).st
theorem rn_fn (Ls es:List AV) (k:Nat) (n:Int) (o:Ob) (M N L C:AV) (Q:AV→Heap→Prop):fnK Tryz.prog opts0 40 (aidJ [] [(5,rnF n k Ls es)] (manyS [(45,.fsl false Ls)]) [] []) 44 [.agg (obF o M N L C)] [] 0 (fun v H _=>Q v H)=
  (SC 45 [AV.agg (obF o M N L C)] (AV.fsl false Ls)∧((wc13∧(wc1 Ls)∧wc7∧True)∧True∧True)∧Q (AV.rsl true 0 0 k 1) [(0,some (Blk.cells es))]):=by kernel_rfl
def saV (i:Int) (As Bs:List AV):View:=⟨[(0,.fsl false As),(1,.fsl false Bs),(5,I i)],[],[],0,55⟩
def saA (c:List AV) (r:Bool):Aid:=aidJ [(6,2,.res (.fptr c 0)),(6,7,.res (.fptr c 0)),(6,14,.res (.fptr c 0)),(6,19,.res (.fptr c 0)),(6,27,.res (.fptr c 0)),(6,32,.res (.fptr c 0))] [] (manyS [(35,.bool r)]) [] []
@[simp] abbrev wc11 (As:List AV):=(AV.fsl false As=AV.fsl false As∧closedA (AV.fsl false As)=true)
@[simp] abbrev wc12 (Bs:List AV):=(AV.fsl false Bs=AV.fsl false Bs∧closedA (AV.fsl false Bs)=true)
@[simp] abbrev wc2 (As Bs:List AV) (i:Int):=(((wc11 As)∧(wc12 Bs)∧(wc6 i)∧True)∧True∧True)
theorem sa_r (i j:Int) (As Bs:List AV) (s:List UInt8) (idx t y q:Int) (D K:List AV) (r:Bool) (N:Prop) (Q:AExit→St→Prop):wpK Tryz.prog opts0 40 (saA (.str s::I idx::itF t y q D K) r) (lpCode Tryz.prog 39 5) (saV i As Bs).st (roundP 0 [] (saV j As Bs) N [] (saV i As Bs) Q)=
  (mtB (ltInt i (Int.ofNat (lenN As))) (indexAddrA Tryz.prog 43 (AV.fsl false As) (I i)=some (wc5 D K idx q t y s)∧indexAddrA Tryz.prog 43 (AV.fsl false Bs) (I i)=some (wc5 D K idx q t y s)∧mtB (!beqBytes s s) ((wc2 As Bs i)∧Q AExit.ret (saV i As Bs).st) (indexAddrA Tryz.prog 43 (AV.fsl false As) (I i)=some (wc5 D K idx q t y s)∧indexAddrA Tryz.prog 43 (AV.fsl false Bs) (I i)=some (wc5 D K idx q t y s)∧mtB (!beqInt idx idx) ((wc2 As Bs i)∧Q AExit.ret (saV i As Bs).st) (indexAddrA Tryz.prog 43 (AV.fsl false As) (I i)=some (wc5 D K idx q t y s)∧indexAddrA Tryz.prog 43 (AV.fsl false Bs) (I i)=some (wc5 D K idx q t y s)∧SC 35 [AV.agg [I t,I y,I q,AV.fsl false D,AV.fsl false K],AV.agg [I t,I y,I q,AV.fsl false D,AV.fsl false K]] (AV.bool r)∧mtB (!r) ((wc2 As Bs i)∧Q AExit.ret (saV i As Bs).st) ((((wc11 As)∧(wc12 Bs)∧(I (wrapA IntKind.i64 (i+1))=I j∧closedA (I j)=true)∧True)∧True∧True)∧N)))) ((wc2 As Bs i)∧Q (AExit.exit 0) (saV i As Bs).st)):=by kernel_rfl
def saL (n:Int) (As Bs:List AV):LoopS:=fun st Q=>seesK 0 [] (saV 0 As Bs) st∧Q (.exit 0) (saV n As Bs).st
theorem sa_fn (n:Int) (As Bs:List AV) (Q:AV→Prop):fnK Tryz.prog opts0 40 (aidJ [] [(5,saL n As Bs)] noSem [] []) 39 [.fsl false As,.fsl false Bs] [] 0 (fun v _ _=>Q v)=
  (mtB (!beqInt (Int.ofNat (lenN As)) (Int.ofNat (lenN Bs))) (Q (AV.bool false)) ((((wc11 As)∧(wc12 Bs)∧wc7∧True)∧True∧True)∧Q (AV.bool true))):=by kernel_rfl
theorem kn_fn (h:RowH) (a m re g r p d ro:AV) (f:Bool) (s:List UInt8) (Q:AV→Prop):fnK Tryz.prog opts0 40 (aidJ [] [] (manyF [(61,fun _=>some (.tuple [.agg (rowW h a m re g r p d ro),.bool f]))]) [] []) 46 [.str s] [] 0 (fun v _ _=>Q v)=
  (SC 61 [AV.str s] (AV.tuple [AV.agg [AV.str h.1,I h.2,AV.bool h.3,AV.bool h.4,a,m,re,g,r,p,d,ro],AV.bool f])∧oblB (fitsT Tryz.prog 89 (AV.agg [AV.str h.1,I h.2,AV.bool h.3,AV.bool h.4,a,m,re,g,r,p,d,ro]) 12) (Q (AV.bool f))):=by kernel_rfl
theorem kr_fn (nm ch ss:List UInt8) (ty dt:Int) (mn st f:Bool) (s:List UInt8) (Q:AV→Prop):fnK Tryz.prog opts0 40 (aidJ [] [] (manyF [(63,fun _=>some (.tuple [.agg [.str nm,I ty,.bool mn,.bool st,.str ch,.str ss,I dt],.bool f]))]) [] []) 47 [.str s] [] 0 (fun v _ _=>Q v)=
  (SC 63 [AV.str s] (AV.tuple [AV.agg [AV.str nm,I ty,AV.bool mn,AV.bool st,AV.str ch,AV.str ss,I dt],AV.bool f])∧Q (AV.bool f)):=by kernel_rfl
theorem mr_fn (nm ch ss:List UInt8) (ty dt:Int) (mn st f:Bool) (s:List UInt8) (Q:AV→Prop):fnK Tryz.prog opts0 40 (aidJ [] [] (manyF [(63,fun _=>some (.tuple [.agg [.str nm,I ty,.bool mn,.bool st,.str ch,.str ss,I dt],.bool f]))]) [] []) 48 [.str s] [] 0 (fun v _ _=>Q v)=
  (SC 63 [AV.str s] (AV.tuple [AV.agg [AV.str nm,I ty,AV.bool mn,AV.bool st,AV.str ch,AV.str ss,I dt],AV.bool f])∧Q (AV.bool mn)):=by kernel_rfl
theorem tx_fn (s:List UInt8) (b:Bool) (Q:AV→Prop):fnK Tryz.prog opts0 40 (aidJ [] [] (manyS [(159,.bool b)]) [] []) 147 [.str s] [] 0 (fun v _ _=>Q v)=
  (mtB (!beqBytes s []) (mtB (!ltInt 120 (Int.ofNat (lenN s))) (SC 159 [AV.str s] (AV.bool b)∧Q (AV.bool b)) (Q (AV.bool false))) (Q (AV.bool false))):=by kernel_rfl
theorem tr_fn (s:List UInt8) (b:Bool) (Q:AV→Prop):fnK Tryz.prog opts0 40 (aidJ [] [] (manyS [(159,.bool b)]) [] []) 117 [.str s] [] 0 (fun v _ _=>Q v)=
  (mtB (!ltInt (Int.ofNat (lenN s)) 1) (mtB (!ltInt 120 (Int.ofNat (lenN s))) (SC 159 [AV.str s] (AV.bool b)∧Q (AV.bool b)) (Q (AV.bool false))) (Q (AV.bool false))):=by kernel_rfl
@[simp] abbrev wc15 (Q:AV→Prop) (p s:List UInt8):=(sliceA Tryz.prog 9 (AV.str s) none (some (I 2)) none=some (Eff.val (AV.str p))∧Q (AV.bool (beqBytes p [120,45])))
theorem hp_fn (s p:List UInt8) (Q:AV→Prop):fnK Tryz.prog opts0 40 (aidJ [(1,9,.res (.str p))] [] noSem [] []) 190 [.str s,.str [120,45]] [] 0 (fun v _ _=>Q v)=
  (mtB (!ltInt (Int.ofNat (lenN s)) 2) (wc15 Q p s) (Q (AV.bool false))):=by kernel_rfl
theorem hq_fn (s:List UInt8) (b:Bool) (Q:AV→Prop):fnK Tryz.prog opts0 40 (aidJ [] [] (manyS [(190,.bool b)]) [] []) 148 [.str s,.str [120,45]] [] 0 (fun v _ _=>Q v)=
  (SC 190 [AV.str s,AV.str [120,45]] (AV.bool b)∧Q (AV.bool b)):=by kernel_rfl
theorem ic_fn (s:List UInt8) (b c:Bool) (Q:AV→Prop):fnK Tryz.prog opts0 40 (aidJ [] [] (manyS [(147,.bool b),(148,.bool c)]) [] []) 111 [.str s] [] 0 (fun v _ _=>Q v)=
  (SC 147 [AV.str s] (AV.bool b)∧mtB b (SC 148 [AV.str s,AV.str [120,45]] (AV.bool c)∧Q (AV.bool c)) (Q (AV.bool false))):=by kernel_rfl
theorem ir_fn (s p:List UInt8) (b:Bool) (Q:AV→Prop):fnK Tryz.prog opts0 40 (aidJ [(1,9,.res (.str p))] [] (manyS [(117,.bool b)]) [] []) 114 [.str s] [] 0 (fun v _ _=>Q v)=
  (SC 117 [AV.str s] (AV.bool b)∧mtB b (mtB (!ltInt (Int.ofNat (lenN s)) 2) (wc15 Q p s) (Q (AV.bool false))) (Q (AV.bool false))):=by kernel_rfl
def tdV (s:List UInt8) (i:Int) (Ns O:List AV):View:=⟨[(10,.str s),(11,.fsl false Ns),(12,.fsl false Ns),(13,I i)],[(9,.ptr 0 0)],[(0,.cells O,.whole)],1,85⟩
def tdB (x:List UInt8):Aid:=aidJ [(12,2,.res (.fptr [.str x] 0)),(12,6,.res (.fptr [.str x] 0))] [] noSem [] []
@[simp] abbrev wc3 (Ns:List AV):=(AV.fsl false Ns=AV.fsl false Ns∧closedA (AV.fsl false Ns)=true)
@[simp] abbrev wc16 (s:List UInt8):=(AV.str s=AV.str s∧closedA (AV.str s)=true)
@[simp] abbrev wc10 (Ns O:List AV) (i:Int) (s:List UInt8):=(((wc16 s)∧(wc3 Ns)∧(wc3 Ns)∧(wc6 i)∧True)∧((some 0=some 0∧0=0)∧True)∧(O=O∧closedAll O=true)∧True)
theorem td_r (s x:List UInt8) (i j:Int) (Ns O:List AV) (N:Prop) (Q:AExit→St→Prop):wpK Tryz.prog opts0 40 (tdB x) (lpCode Tryz.prog 10 11) (tdV s i Ns O).st (roundP 0 [(0,0)] (tdV s j Ns O) N [(0,0)] (tdV s i Ns O) Q)=
  (mtB (ltInt i (Int.ofNat (lenN Ns))) (indexAddrA Tryz.prog 27 (AV.fsl false Ns) (I i)=some (AV.fptr [AV.str x] 0)∧indexAddrA Tryz.prog 27 (AV.fsl false Ns) (I i)=some (AV.fptr [AV.str x] 0)∧mtB (!beqBytes x x) ((wc10 Ns O i s)∧Q AExit.ret (tdV s i Ns O).st) ((((wc16 s)∧(wc3 Ns)∧(wc3 Ns)∧(I (wrapA IntKind.i64 (i+1))=I j∧closedA (I j)=true)∧True)∧((some 0=some 0∧0=0)∧True)∧(O=O∧closedAll O=true)∧True)∧N)) ((wc10 Ns O i s)∧Q (AExit.exit 0) (tdV s i Ns O).st)):=by kernel_rfl
def tdL (s:List UInt8) (n:Int) (Ns O:List AV):LoopS:=fun st Q=>seesK 0 [(0,5)] (tdV s 0 Ns O) st∧Q (.exit 0) (tdV s n Ns O).st
def tdS (O:List AV) (nm:List UInt8) (Ns As Bs:List AV) (k m d:Bool):SemT:=manyF [(22,fun _=>some (.agg O)),(43,fun _=>some (.str nm)),(41,fun _=>some (.fsl false Ns)),(44,fun _=>some (.fsl false Ns)),(21,fun _=>some (.bool true)),(40,fun _=>some (.fsl false As)),(45,fun _=>some (.fsl false As)),(32,fun _=>some (.fsl false Bs)),(17,fun _=>some (.fsl false Bs)),(39,fun _=>some (.bool true)),(46,fun _=>some (.bool k)),(47,fun _=>some (.bool k)),(42,fun _=>some (.bool m)),(48,fun _=>some (.bool m)),(26,fun _=>some (.bool d)),(49,fun _=>some (.bool d))]
@[simp] abbrev wc14 (C L M N:AV) (Q:AV→Prop) (d:Bool) (o:Ob):=(SC 26 [AV.agg (obF o M N L C)] (AV.bool d)∧SC 49 [AV.agg (obF o M N L C)] (AV.bool d)∧Q (AV.bool (decide (d=d))))
theorem td_fn1 (x:Rw) (Xs:List AV) (nm:Int) (odd s:List UInt8) (o:Ob) (M N L C:AV) (Ns As Bs:List AV) (k m d:Bool) (Q:AV→Prop):fnK Tryz.prog opts0 40 (aidJ [(3,2,.res (.bool true))] [(11,tdL odd (.ofNat (lenN Ns)) Ns (obF o M N L C))] (tdS (obF o M N L C) s Ns As Bs k m d) [] []) 10 [rwA x,.fsl false Xs,I nm,.str odd] [] 0 (fun v _ _=>Q v)=
  (SC 22 [AV.agg [I x.1,I x.2,I x.3,I x.4],AV.fsl false Xs] (AV.agg (obF o M N L C))∧oblB (fitsT Tryz.prog 33 (AV.agg (obF o M N L C)) 37) (SC 43 [I nm] (AV.str s)∧binA Tryz.prog BinOp.eql 3 (Operand.tmp 20) (Operand.const (Value.int IntKind.i64 0)) (I (nm.tmod 9)) (I 0)=some (AV.bool true)∧SC 41 [AV.agg (obF o M N L C)] (AV.fsl false Ns)∧SC 44 [AV.agg (obF o M N L C)] (AV.fsl false Ns)∧mtB (!beqInt (Int.ofNat (lenN Ns)) (Int.ofNat (lenN Ns))) (Q (AV.bool false)) ((((AV.str odd=AV.str odd∧closedA (AV.str odd)=true)∧(wc3 Ns)∧(wc3 Ns)∧wc7∧True)∧((some 5=some 5∧0=0)∧True)∧((obF o M N L C)=(obF o M N L C)∧closedAll (obF o M N L C)=true)∧True)∧SC 21 [] (AV.bool true)∧SC 40 [AV.agg (obF o M N L C)] (AV.fsl false As)∧SC 45 [AV.agg (obF o M N L C)] (AV.fsl false As)∧SC 39 [AV.fsl false As,AV.fsl false As] (AV.bool true)∧SC 32 [AV.agg (obF o M N L C),AV.str odd] (AV.fsl false Bs)∧SC 17 [AV.agg (obF o M N L C),AV.str odd] (AV.fsl false Bs)∧SC 39 [AV.fsl false Bs,AV.fsl false Bs] (AV.bool true)∧SC 46 [AV.str odd] (AV.bool k)∧SC 47 [AV.str odd] (AV.bool k)∧mtB (decide (k=k)) (SC 42 [AV.str odd] (AV.bool m)∧SC 48 [AV.str odd] (AV.bool m)∧mtB (decide (m=m)) (wc14 C L M N Q d o) (Q (AV.bool false))) (Q (AV.bool false))))):=by kernel_rfl
theorem td_fn0 (x:Rw) (Xs:List AV) (nm:Int) (odd s:List UInt8) (o:Ob) (M N L C:AV) (Ns As Bs:List AV) (k m d:Bool) (Q:AV→Prop):fnK Tryz.prog opts0 40 (aidJ [(3,2,.res (.bool false))] [(11,tdL s (.ofNat (lenN Ns)) Ns (obF o M N L C))] (tdS (obF o M N L C) s Ns As Bs k m d) [] []) 10 [rwA x,.fsl false Xs,I nm,.str odd] [] 0 (fun v _ _=>Q v)=
  (SC 22 [AV.agg [I x.1,I x.2,I x.3,I x.4],AV.fsl false Xs] (AV.agg (obF o M N L C))∧oblB (fitsT Tryz.prog 33 (AV.agg (obF o M N L C)) 37) (SC 43 [I nm] (AV.str s)∧binA Tryz.prog BinOp.eql 3 (Operand.tmp 20) (Operand.const (Value.int IntKind.i64 0)) (I (nm.tmod 9)) (I 0)=some (AV.bool false)∧SC 41 [AV.agg (obF o M N L C)] (AV.fsl false Ns)∧SC 44 [AV.agg (obF o M N L C)] (AV.fsl false Ns)∧mtB (!beqInt (Int.ofNat (lenN Ns)) (Int.ofNat (lenN Ns))) (Q (AV.bool false)) ((((wc16 s)∧(wc3 Ns)∧(wc3 Ns)∧wc7∧True)∧((some 5=some 5∧0=0)∧True)∧((obF o M N L C)=(obF o M N L C)∧closedAll (obF o M N L C)=true)∧True)∧SC 21 [] (AV.bool true)∧SC 40 [AV.agg (obF o M N L C)] (AV.fsl false As)∧SC 45 [AV.agg (obF o M N L C)] (AV.fsl false As)∧SC 39 [AV.fsl false As,AV.fsl false As] (AV.bool true)∧SC 32 [AV.agg (obF o M N L C),AV.str s] (AV.fsl false Bs)∧SC 17 [AV.agg (obF o M N L C),AV.str s] (AV.fsl false Bs)∧SC 39 [AV.fsl false Bs,AV.fsl false Bs] (AV.bool true)∧SC 46 [AV.str s] (AV.bool k)∧SC 47 [AV.str s] (AV.bool k)∧mtB (decide (k=k)) (SC 42 [AV.str s] (AV.bool m)∧SC 48 [AV.str s] (AV.bool m)∧mtB (decide (m=m)) (wc14 C L M N Q d o) (Q (AV.bool false))) (Q (AV.bool false))))):=by kernel_rfl
end
end Go.Proofs.YtjhggnebkfpgcaaGreatDoor
namespace Go.Proofs.YtjhggnebkfpgcaaGreatDoor
set_option maxRecDepth 20000
open Go Go.RowKit
open Go.Proofs.Abs
section
variable {L:List At} {out:List (List UInt8)} {i:Nat} {Q:AExit→St→Prop}
theorem orN (b:Bool) (x s:List UInt8) (r:List (List UInt8)):(b||inN s (x::r))=((b||beqBytes x s)||inN s r):=by
 simp only[inN,List.any_cons,Bool.or_assoc]
theorem rn_inner {a:At} (g:L[i]? =some a) (hb:out.length≤90000):∀m j (b:Bool),j+m=out.length→Q (.exit 2) (rnJ (b||inN a.name (out.drop j)) (.ofNat out.length) (.ofNat i) out.length (L.map atA) (out.map .str)).st→
  ALp Tryz.prog opts0.glob 0 (lpCode Tryz.prog 44 9) (rnJ b (.ofNat j) (.ofNat i) out.length (L.map atA) (out.map .str)).st Q:=by
 have hL:=closed_ats L
 have hc:=closed_strs out
 intro m
 induction m with
 |zero=>
  intro j b hj hq
  rw[Nat.add_zero] at hj
  subst hj
  rw[List.drop_of_length_le (Nat.le_refl _),show inN a.name []=false from rfl,Bool.or_false] at hq
  refine ALp.round (A:=rnA [] (.str []::I 0::itF 0 0 0 [] [])) (V1:=rnJ b 0 (.ofNat i) out.length (L.map atA) (out.map .str)) (V2:=rnJ b 0 (.ofNat i) out.length (L.map atA) (out.map .str)) (F:=rnJ b (.ofNat out.length) (.ofNat i) out.length (L.map atA) (out.map .str)) (lk:=[(0,0)]) (lk':=[(0,0)]) base0 aidJ_ok (LsOk.no rfl) .refl ?_
  rw[rn_j]
  refine mtB_of (fun e=> ?_) (fun _=>⟨⟨⟨⟨rfl,hL⟩,⟨rfl,rfl⟩,⟨rfl,rfl⟩,⟨rfl,rfl⟩,trivial⟩,⟨⟨rfl,rfl,rfl,rfl,rfl⟩,trivial⟩,⟨rfl,hc⟩,trivial⟩,hq⟩)
  have e:=ltInt_iff.1 e
  omega
 | succ m ih=>
  intro j b hj hq
  have hlt:j<out.length:=by omega
  have g2:=List.getElem?_eq_getElem hlt
  rw[List.drop_eq_getElem_cons hlt,orN] at hq
  have ih:=ih (j+1) _ (by omega) hq
  revert g2 ih
  generalize out[j]=x
  intro g2 ih
  obtain ⟨s,idx,⟨t,y,q,d,ks⟩⟩:=a
  simp only at ih
  have hix:=idxAt (f:=false) g
  have hw:wrapA .i64 (Int.ofNat j+1)=Int.ofNat (j+1):=wrapA_i64 (by simp;omega) (by simp;omega)
  have hob:(nonneg (Int.ofNat j)&&(Nat.blt (Int.ofNat j).toNat out.length&&true))=true:=by
   simp only[nonneg,Bool.true_and,Bool.and_true]
   exact blt_iff.2 hlt
  refine ALp.round (A:=rnA x (.str s::I idx::itF t y q (toBytes d) (itAs ks))) (V1:=rnJ (b||beqBytes x s) (.ofNat (j+1)) (.ofNat i) out.length (L.map atA) (out.map .str)) (V2:=rnJ (b||beqBytes x s) (.ofNat (j+1)) (.ofNat i) out.length (L.map atA) (out.map .str)) (F:=rnJ b (.ofNat j) (.ofNat i) out.length (L.map atA) (out.map .str)) (lk:=[(0,0)]) (lk':=[(0,0)]) base0 aidJ_ok (LsOk.no rfl) .refl ?_
  rw[rn_j,hw]
  refine mtB_of (fun _=>mtB_of (fun e=> ?_) (fun e=> ?_)) (fun e=>absurd e (lt_no hlt))
  ·subst e
   exact ⟨⟨⟨⟨rfl,hL⟩,⟨rfl,rfl⟩,⟨rfl,rfl⟩,⟨rfl,rfl⟩,trivial⟩,⟨⟨rfl,rfl,rfl,rfl,rfl⟩,trivial⟩,⟨rfl,hc⟩,trivial⟩,ih⟩
  ·subst e
   exact oblB_of hob ⟨part_str g2,hix,⟨⟨⟨rfl,hL⟩,⟨rfl,rfl⟩,⟨rfl,rfl⟩,⟨rfl,rfl⟩,trivial⟩,⟨⟨rfl,rfl,rfl,rfl,rfl⟩,trivial⟩,⟨rfl,hc⟩,trivial⟩,ih⟩
end
theorem rn_at9:loopsAt (lpCode Tryz.prog 44 5) 9=[lpCode Tryz.prog 44 9]:=by kernel_rfl
theorem rn_at5:loopsAt (fnCode Tryz.prog 44) 5=[lpCode Tryz.prog 44 5]:=by kernel_rfl
section
variable {L:List At} {Q:AExit→St→Prop}
theorem rn_loop (hb:L.length≤90000) (hq:Q (.exit 0) (rnV1 (.ofNat L.length) (nmS [] L).length (L.map atA) ((nmS [] L).map .str)).st):
  ∀m i:Nat,i+m=L.length→ALp Tryz.prog opts0.glob 0 (lpCode Tryz.prog 44 5) (rnV1 (.ofNat i) (nmS [] (L.take i)).length (L.map atA) ((nmS [] (L.take i)).map .str)).st Q:=by
 have hL:=closed_ats L
 have hlen:lenN (L.map atA)=L.length:=by rw[lenN_eq,List.length_map]
 intro m
 induction m with
 |zero=>
  intro i hi
  rw[Nat.add_zero] at hi
  subst hi
  rw[List.take_of_length_le (Nat.le_refl _)]
  have hc:=closed_strs (nmS [] L)
  refine ALp.round (A:=rnB (.str []::I 0::itF 0 0 0 [] []) (rnL False true (.ofNat L.length) (nmS [] L).length (L.map atA) ((nmS [] L).map .str))) (V1:=rnV1 0 0 (L.map atA) []) (V2:=rnV1 0 0 (L.map atA) []) (F:=rnV1 (.ofNat L.length) (nmS [] L).length (L.map atA) ((nmS [] L).map .str)) (lk:=[(0,0)]) (lk':=[(0,0)]) base0 aidJ_ok (LsOk.at1 rfl rn_at9 fun st Q hs=>hs.1.elim) .refl ?_
  rw[rn_r2,hlen]
  refine mtB_of (fun e=> ?_) (fun _=>⟨⟨⟨⟨rfl,hL⟩,⟨rfl,rfl⟩,trivial⟩,⟨⟨rfl,rfl,rfl,rfl,rfl⟩,trivial⟩,⟨rfl,hc⟩,trivial⟩,hq⟩)
  have e:=ltInt_iff.1 e
  omega
 | succ m ih=>
  intro i hi
  have hlt:i<L.length:=by omega
  have g:=List.getElem?_eq_getElem hlt
  have ih:=ih (i+1) (by omega)
  rw[take_snoc g,nmS_snoc] at ih
  have hpl:=nmS_len (L.take i) []
  have htl:=List.length_take_le i L
  rw[List.length_nil,Nat.zero_add] at hpl
  have hin:=fun (Q:AExit→St→Prop) (out:List (List UInt8)) h1=>rn_inner (Q:=Q) (out:=out) g h1 out.length 0 false (Nat.zero_add _)
  revert g ih hpl hin
  generalize L[i]=a
  generalize nmS [] (L.take i)=out
  obtain ⟨s,idx,⟨t,y,q,d,ks⟩⟩:=a
  intro g ih hpl hin
  have hix:=idxAt (f:=false) g
  have hc:=closed_strs out
  have hob:out.length≤90000:=by rw[List.length_take] at hpl;omega
  have hw:wrapA .i64 (Int.ofNat i+1)=Int.ofNat (i+1):=wrapA_i64 (by simp;omega) (by simp;omega)
  have yes:ltInt (Int.ofNat i) (Int.ofNat L.length)=true:=ltInt_iff.2 (by simp only[Int.ofNat_eq_natCast];omega)
  simp only at ih
  have hin:=fun Q=>hin Q out hob
  simp only[List.drop_zero,Bool.false_or] at hin
  cases hi2:inN s out with
  |true=>
   rw[hi2] at ih hin
   refine ALp.round (A:=rnB (.str s::I idx::itF t y q (toBytes d) (itAs ks)) (rnL True true (.ofNat i) out.length (L.map atA) (out.map .str))) (V1:=rnV1 (.ofNat (i+1)) out.length (L.map atA) (out.map .str)) (V2:=rnV1 (.ofNat (i+1)) out.length (L.map atA) (out.map .str)) (F:=rnV1 (.ofNat i) out.length (L.map atA) (out.map .str)) (lk:=[(0,0)]) (lk':=[(0,0)]) base0 aidJ_ok (LsOk.at1 rfl rn_at9 fun st Q hs=> .seen base0.glob hs.2.1 (hin Q hs.2.2)) .refl ?_
   rw[rn_r2,hw,hlen]
   exact mtB_of (fun _=>⟨trivial,⟨⟨⟨rfl,hL⟩,⟨rfl,rfl⟩,⟨rfl,rfl⟩,⟨rfl,rfl⟩,trivial⟩,⟨⟨rfl,rfl,rfl,rfl,rfl⟩,trivial⟩,⟨rfl,hc⟩,trivial⟩,⟨⟨⟨rfl,hL⟩,⟨rfl,rfl⟩,trivial⟩,⟨⟨rfl,rfl,rfl,rfl,rfl⟩,trivial⟩,⟨rfl,hc⟩,trivial⟩,ih⟩) (fun e=>absurd e (lt_no hlt))
  |false=>
   rw[hi2] at ih hin
   simp only[List.length_append,List.length_singleton,List.map_append,List.map_cons,List.map_nil] at ih
   refine ALp.round (A:=rnB (.str s::I idx::itF t y q (toBytes d) (itAs ks)) (rnL True false (.ofNat i) out.length (L.map atA) (out.map .str))) (V1:=rnV1 (.ofNat (i+1)) (out.length+1) (L.map atA) (out.map .str++[.str s])) (V2:=rnV1 (.ofNat (i+1)) (out.length+1) (L.map atA) (out.map .str++[.str s])) (F:=rnV1 (.ofNat i) out.length (L.map atA) (out.map .str)) (lk:=[(0,10)]) (lk':=[(0,0)]) base0 aidJ_ok (LsOk.at1 rfl rn_at9 fun st Q hs=> .seen base0.glob hs.2.1 (hin Q hs.2.2)) .refl ?_
   rw[rn_r1,hw,hlen]
   refine mtB_of (fun _=>⟨trivial,⟨⟨⟨rfl,hL⟩,⟨rfl,rfl⟩,⟨rfl,rfl⟩,⟨rfl,rfl⟩,trivial⟩,⟨⟨rfl,rfl,rfl,rfl,rfl⟩,trivial⟩,⟨rfl,hc⟩,trivial⟩,hix,oblB_of ?_ (oblB_of ?_ ⟨⟨⟨⟨rfl,hL⟩,⟨rfl,rfl⟩,trivial⟩,⟨⟨rfl,rfl,rfl,rfl,rfl⟩,trivial⟩,⟨rfl, ?_⟩,trivial⟩,ih⟩)⟩) (fun e=>absurd e (lt_no hlt))
   ·simp[allSize,allOne,flat,AV.cells,lenN];omega
   ·rw[beq_iff,lenN_eq,List.length_map,Nat.mul_one]
   ·rw[closedAll_append,hc];rfl
theorem rn_first {a:At} {r:List At} (hL:L=a::r) (hq:ALp Tryz.prog opts0.glob 0 (lpCode Tryz.prog 44 5) (rnV1 (.ofNat 1) 1 (L.map atA) [.str a.name]).st Q):ALp Tryz.prog opts0.glob 0 (lpCode Tryz.prog 44 5) (rnV0 0 (L.map atA)).st Q:=by
 have g:L[0]? =some a:=by rw[hL];rfl
 have hc:=closed_ats L
 have hlen:lenN (L.map atA)=r.length+1:=by rw[lenN_eq,List.length_map,hL];rfl
 obtain ⟨s,idx,⟨t,y,q,d,ks⟩⟩:=a
 have hix:=idxAt (f:=false) g
 refine ALp.round (A:=rnB (.str s::I idx::itF t y q (toBytes d) (itAs ks)) (rnL0 0 (L.map atA))) (V1:=rnV1 (.ofNat 1) 1 (L.map atA) [.str s]) (V2:=rnV1 (.ofNat 1) 1 (L.map atA) [.str s]) (F:=rnV0 0 (L.map atA)) (lk:=[(0,9)]) (lk':=[]) base0 aidJ_ok
  (LsOk.at1 rfl rn_at9 fun st Q hs=> .seen base0.glob hs.1 (by
   refine ALp.round (A:=rnA [] []) (V1:=rnJ0 false 0 0 (L.map atA)) (V2:=rnJ0 false 0 0 (L.map atA)) (F:=rnJ0 false 0 0 (L.map atA)) (lk:=[]) (lk':=[]) base0 aidJ_ok (LsOk.no rfl) .refl ?_
   rw[rn_j0]
   exact ⟨⟨⟨⟨rfl,rfl⟩,⟨rfl,hc⟩,⟨rfl,rfl⟩,⟨rfl,rfl⟩,⟨rfl,rfl⟩,trivial⟩,trivial,trivial⟩,hs.2⟩)) .refl ?_
 rw[rn_r0,hlen]
 refine mtB_of (fun _=>⟨⟨⟨⟨rfl,rfl⟩,⟨rfl,hc⟩,⟨rfl,rfl⟩,⟨rfl,rfl⟩,⟨rfl,rfl⟩,trivial⟩,trivial,trivial⟩,hix,⟨⟨⟨rfl,hc⟩,⟨rfl,rfl⟩,trivial⟩,⟨⟨rfl,rfl,rfl,rfl,rfl⟩,trivial⟩,⟨rfl,rfl⟩,trivial⟩,hq⟩) (fun e=> ?_)
 have e:=ltInt_false.1 e
 simp only[Int.ofNat_eq_natCast] at e
 omega
end
theorem rnames_sem {o:Ob} (ho:FitO o) (hb:(allS o).length≤90000):SC 44 [obA o] (.fsl false ((namesS o).map .str)):=by
 have hall:=rall_sem ho
 have hcl:closedAll [obA o]=true:=closed_oc o (c:=[]) rfl
 have hL:=closed_ats (allS o)
 have hc:=closed_strs (namesS o)
 obtain ⟨r,hr⟩:=all_cons o
 refine fnK_semX (A:=aidJ [] [(5,rnF (.ofNat (allS o).length) (namesS o).length ((allS o).map atA) ((namesS o).map .str))] (manyS [(45,.fsl false ((allS o).map atA))]) [] []) base0 aidJ_ok
  (fnLs_of (LsOk.at1 rfl rn_at5 fun st Q hs=> .seen base0.glob hs.1 (rn_first hr (by
   have h1:=rn_loop (L:=allS o) hb hs.2 r.length 1 (by rw[hr,List.length_cons];omega)
   have e1:nmS [] ((allS o).take 1)=[nameK .uid]:=by rw[hr];rfl
   rw[e1] at h1
   exact h1)))) hcl ?_
 unfold obA obC at hall⊢
 rw[rn_fn]
 exact ⟨hall,⟨⟨⟨rfl,rfl⟩,⟨rfl,hL⟩,⟨rfl,rfl⟩,trivial⟩,trivial,trivial⟩,.fsl false ((namesS o).map .str),(Frz.row rfl rfl (flat_strs _).symm (by rw[List.length_map]) (fun e he=>by obtain ⟨a,_,rfl⟩:=List.mem_map.1 he;exact good_str a) hc).out,hc,.refl _⟩
section
variable {l:List At} {Q:AExit→St→Prop}
theorem sa_loop (hok:∀a∈l,okI big a.v) (hb:l.length≤100000) (hq:Q (.exit 0) (saV (.ofNat l.length) (l.map atA) (l.map atA)).st):
  ∀m i:Nat,i+m=l.length→ALp Tryz.prog opts0.glob 0 (lpCode Tryz.prog 39 5) (saV (.ofNat i) (l.map atA) (l.map atA)).st Q:=by
 have hL:=closed_ats l
 have hlen:lenN (l.map atA)=l.length:=by rw[lenN_eq,List.length_map]
 intro m
 induction m with
 |zero=>
  intro i hi
  rw[Nat.add_zero] at hi
  subst hi
  refine ALp.round (A:=saA (.str []::I 0::itF 0 0 0 [] []) true) (V1:=saV 0 (l.map atA) (l.map atA)) (V2:=saV 0 (l.map atA) (l.map atA)) (F:=saV (.ofNat l.length) (l.map atA) (l.map atA)) (lk:=[]) (lk':=[]) base0 aidJ_ok (LsOk.no rfl) .refl ?_
  rw[sa_r,hlen]
  refine mtB_of (fun e=> ?_) (fun _=>⟨⟨⟨⟨rfl,hL⟩,⟨rfl,hL⟩,⟨rfl,rfl⟩,trivial⟩,trivial,trivial⟩,hq⟩)
  have e:=ltInt_iff.1 e
  omega
 |succ m ih=>
  intro i hi
  have hlt:i<l.length:=by omega
  have g:=List.getElem?_eq_getElem hlt
  have hm:=hok _ (List.getElem_mem hlt)
  have ih:=ih (i+1) (by omega)
  revert g hm
  generalize l[i]=a
  obtain ⟨s,idx,v⟩:=a
  intro g hm
  simp only at hm
  have hs:=same_sem v v hm
  rw[sameI_refl] at hs
  obtain ⟨t,y,q,d,ks⟩:=v
  have hix:=idxAt (f:=false) g
  have hw:wrapA .i64 (Int.ofNat i+1)=Int.ofNat (i+1):=wrapA_i64 (by simp;omega) (by simp;omega)
  refine ALp.round (A:=saA (.str s::I idx::itF t y q (toBytes d) (itAs ks)) true) (V1:=saV (.ofNat (i+1)) (l.map atA) (l.map atA)) (V2:=saV (.ofNat (i+1)) (l.map atA) (l.map atA)) (F:=saV (.ofNat i) (l.map atA) (l.map atA)) (lk:=[]) (lk':=[]) base0 aidJ_ok (LsOk.no rfl) .refl ?_
  rw[sa_r,hlen,hw]
  exact mtB_of (fun _=>⟨hix,hix,mtB_of (fun e=>by rw[beqBytes_iff.2 rfl] at e;cases e) fun _=>⟨hix,hix,mtB_of (fun e=>by rw[beqInt_iff.2 rfl] at e;cases e) fun _=>⟨hix,hix,hs,mtB_of (fun e=>by cases e) fun _=>⟨⟨⟨⟨rfl,hL⟩,⟨rfl,hL⟩,⟨rfl,rfl⟩,trivial⟩,trivial,trivial⟩,ih⟩⟩⟩⟩) (fun e=>absurd e (lt_no hlt))
end
theorem sa_at:loopsAt (fnCode Tryz.prog 39) 5=[lpCode Tryz.prog 39 5]:=by kernel_rfl
theorem sattrs_sem {l:List At} (hok:∀a∈l,okI big a.v) (hb:l.length≤100000):SC 39 [.fsl false (l.map atA),.fsl false (l.map atA)] (.bool true):=by
 have hL:=closed_ats l
 refine fnK_semV (A:=aidJ [] [(5,saL (.ofNat l.length) (l.map atA) (l.map atA))] noSem [] []) base0 aidJ_ok
  (fnLs_of (LsOk.at1 rfl sa_at fun st Q hs=> .seen base0.glob hs.1 (sa_loop hok hb hs.2 l.length 0 (Nat.zero_add _)))) (by simp only[closedAll,closedA,hL,Bool.and_self]) rfl ?_
 rw[sa_fn]
 exact mtB_of (fun e=>by rw[beqInt_iff.2 rfl] at e;cases e) fun _=>⟨⟨⟨⟨rfl,hL⟩,⟨rfl,hL⟩,⟨rfl,rfl⟩,trivial⟩,trivial,trivial⟩,rfl⟩
def isSome (k:Option Kd):Bool:=match k with
 |some _=>true
 |none=>false
theorem known_a {c:Bool} {s:List UInt8} (hc:SC 111 [.str s] (.bool c)):SC 46 [.str s] (.bool (isSome (findK c s))):=by
 have hf:=find_sem hc
 cases hk:findK c s with
 |none=>
  rw[hk] at hf
  have hz:=fits_rowZ
  have e:rowZ= .agg (rowW ⟨[],0,false,false⟩ .nilFunc .nilFunc .nilFunc .nilFunc .nilFunc .nilFunc .nilFunc .nilFunc):=rfl
  rw[rowO,e] at hf
  rw[e] at hz
  refine fnK_semV (A:=aidJ [] [] (manyF [(61,fun _=>some (.tuple [.agg (rowW ⟨[],0,false,false⟩ .nilFunc .nilFunc .nilFunc .nilFunc .nilFunc .nilFunc .nilFunc .nilFunc),.bool false]))]) [] []) base0 aidJ_ok (fnLs_of (LsOk.no rfl)) rfl rfl ?_
  rw[kn_fn]
  exact ⟨hf,oblB_of hz rfl⟩
 |some k=>
  rw[hk] at hf
  have hz:=fits_row k
  rw[rowO_some,fiT] at hf
  rw[rowC_eq] at hf hz
  refine fnK_semV (A:=aidJ [] [] (manyF [(61,fun _=>some (.tuple [.agg (rowW (hdK k) (addK k) (modK k) (remK k) (getF k) (rightF k) (putF k) (dropF k) (roomF k)),.bool true]))]) [] []) base0 aidJ_ok (fnLs_of (LsOk.no rfl)) rfl rfl ?_
  rw[kn_fn]
  exact ⟨hf,oblB_of hz rfl⟩
theorem known_r {c:Bool} {s:List UInt8} (hc:SC 114 [.str s] (.bool c)):SC 47 [.str s] (.bool (isSome (findR c s))):=by
 have hf:=rfind_sem hc
 cases hk:findR c s with
 |none=>
  rw[hk] at hf
  refine fnK_semV (A:=aidJ [] [] (manyF [(63,fun _=>some (.tuple [.agg [.str [],I 0,.bool false,.bool false,.str [],.str [],I 0],.bool false]))]) [] []) base0 aidJ_ok (fnLs_of (LsOk.no rfl)) rfl rfl ?_
  rw[kr_fn]
  exact ⟨hf,rfl⟩
 |some k=>
  rw[hk] at hf
  refine fnK_semV (A:=aidJ [] [] (manyF [(63,fun _=>some (.tuple [.agg [.str (nameK k),I (typeK k),.bool (manyK k),.bool (setK k),.str (chgK k),.str (staK k),I (datK k)],.bool true]))]) [] []) base0 aidJ_ok (fnLs_of (LsOk.no rfl)) rfl rfl ?_
  rw[kr_fn]
  exact ⟨hf,rfl⟩
theorem many_r {c:Bool} {s:List UInt8} (hc:SC 114 [.str s] (.bool c)) (he:findR c s=findK c s):SC 48 [.str s] (.bool (manyS' c s)):=by
 have hf:=rfind_sem hc
 rw[he] at hf
 unfold manyS'
 cases hk:findK c s with
 |none=>
  rw[hk] at hf
  refine fnK_semV (A:=aidJ [] [] (manyF [(63,fun _=>some (.tuple [.agg [.str [],I 0,.bool false,.bool false,.str [],.str [],I 0],.bool false]))]) [] []) base0 aidJ_ok (fnLs_of (LsOk.no rfl)) rfl rfl ?_
  rw[mr_fn]
  exact ⟨hf,rfl⟩
 |some k=>
  rw[hk] at hf
  refine fnK_semV (A:=aidJ [] [] (manyF [(63,fun _=>some (.tuple [.agg [.str (nameK k),I (typeK k),.bool (manyK k),.bool (setK k),.str (chgK k),.str (staK k),I (datK k)],.bool true]))]) [] []) base0 aidJ_ok (fnLs_of (LsOk.no rfl)) rfl rfl ?_
  rw[mr_fn]
  exact ⟨hf,rfl⟩
end Go.Proofs.YtjhggnebkfpgcaaGreatDoor
namespace Go.Proofs
open Go.Shelf
def Tryz.laysValid_ren:Go.Shelf.Ren:=⟨fun|196=>159|259=>192|n=>n,fun|9=>9|4=>4|3=>3|5=>5|12=>12|119=>203|0=>0|46=>162|139=>206|138=>205|53=>161|n=>n,fun|3=>1|4=>2|n=>n⟩
theorem Tryz.laysValid:Go.Proofs.Lays.n196 Tryz.prog Tryz.laysValid_ren:={
 mixed:=by kernel_rfl
 f196:=Tryz.func159.trans (congrArg some (by kernel_rfl))
 f259:=Tryz.func192.trans (congrArg some (by kernel_rfl))
 t0:=Tryz.underlying0
 a0:=Tryz.isAgg0
 z0:=Tryz.sizeOf0
 v0:=Tryz.zeroValue0
 t3:=Tryz.underlying3
 a3:=Tryz.isAgg3
 z3:=Tryz.sizeOf3
 v3:=Tryz.zeroValue3
 t4:=Tryz.underlying4
 a4:=Tryz.isAgg4
 z4:=Tryz.sizeOf4
 v4:=Tryz.zeroValue4
 t5:=Tryz.underlying5
 a5:=Tryz.isAgg5
 z5:=Tryz.sizeOf5
 v5:=Tryz.zeroValue5
 t9:=Tryz.underlying9
 a9:=Tryz.isAgg9
 z9:=Tryz.sizeOf9
 v9:=Tryz.zeroValue9
 t12:=Tryz.underlying12
 a12:=Tryz.isAgg12
 z12:=Tryz.sizeOf12
 v12:=Tryz.zeroValue12
 t46:=Tryz.underlying162
 a46:=Tryz.isAgg162
 z46:=Tryz.sizeOf162
 v46:=Tryz.zeroValue162
 t53:=Tryz.underlying161
 a53:=Tryz.isAgg161
 z53:=Tryz.sizeOf161
 v53:=Tryz.zeroValue161
 t119:=Tryz.underlying203
 a119:=Tryz.isAgg203
 z119:=Tryz.sizeOf203
 t138:=Tryz.underlying205
 a138:=Tryz.isAgg205
 z138:=Tryz.sizeOf205
 v138:=Tryz.zeroValue205
 t139:=Tryz.underlying206
 a139:=Tryz.isAgg206
 z139:=Tryz.sizeOf206
 v139:=Tryz.zeroValue206
 g3:=by kernel_rfl
 g4:=by kernel_rfl}
end Go.Proofs
namespace Go.Proofs.YtjhggnebkfpgcaaGreatDoor
open Go Go.RowKit
open Go.Proofs.Abs
theorem below_ev {w w':World} {I:Nat→Prop} {α:Nat→Option Nat} {H:Heap} (hb:Below w.heap.size w w'):Ev w I α H w' I α H:=
 ⟨⟨hb.os,hb.tape,hb.output⟩,fun _ h=>h,fun _ _ h=>h,hb.size,fun b h _=>hb.block b h,fun b h=>by unfold World.shape?;rw[hb.block b h],fun _ h=> .inl h,fun _ h=> .inr h⟩
theorem below_rel {G:Glob} {w w':World} {I:Nat→Prop} {α:Nat→Option Nat} {H:Heap} (_hg:∀g l,G g=some l→closedAll l=true) (r:Rel G w I α H) (hb:Below w.heap.size w w'):Rel G w' I α H where
 live id blk h:=by
  obtain ⟨b,h1,h2,h3⟩:=r.live id blk h
  exact ⟨b,h1,h2,h3.ev r (below_ev hb) (hb.block b (r.dom id b h1))⟩
 inj:=r.inj
 imm b h:=Nat.lt_of_lt_of_le (r.imm b h) hb.size
 dom id b h:=Nat.lt_of_lt_of_le (r.dom id b h) hb.size
 glob g l h:=by
  obtain ⟨h1,h2⟩:=r.glob g l h
  refine ⟨h1,fun j x hx=> ?_⟩
  obtain ⟨y,k1,k2⟩:=h2 j x hx
  refine ⟨y, ?_,k2.ev r (below_ev hb)⟩
  rw[←k1]
  simp only[World.cell?]
  rw[hb.block g (r.imm g h1)]
theorem fir_eq:∀c,c<256→firL[c]? =some (Lib.firstT c):=by decide+kernel
theorem acc_lo:∀i,i<16→accL[2*i]? =some (Lib.accLo i)∧accL[2*i+1]? =some (Lib.accHi i):=by decide+kernel
theorem u8_get {l:List Nat} {j n:Nat} (h:l[j]? =some n):(u8L l)[j]? =some (.int .u8 (.ofNat n)):=by rw[u8L,List.getElem?_map,h];rfl
theorem rel_u8 {w:World} {I:Nat→Prop} {α:Nat→Option Nat} {H:Heap} (r:Rel gl w I α H):Lib.Utf8Tabs 1 2 w:=by
 have h1:=(r.glob 1 (u8L firL) rfl).2
 have h2:=(r.glob 2 (u8L accL) rfl).2
 refine ⟨fun c hc=> ?_,fun i hi=> ?_⟩
 ·obtain ⟨y,k1,k2⟩:=h1 c _ (u8_get (fir_eq c hc))
  cases k2
  exact k1
 ·obtain ⟨y,k1,k2⟩:=h2 _ _ (u8_get (acc_lo i hi).1)
  obtain ⟨z,k3,k4⟩:=h2 _ _ (u8_get (acc_lo i hi).2)
  cases k2
  cases k4
  exact ⟨k1,k3⟩
theorem valid_sem (s:List UInt8) (hs:s.length≤9223372036854775807):SC 159 [.str s] (.bool (Lib.validD s)):=by
 refine bodySem_sem (H1:=[]) (m:=0) (u:= .bool (Lib.validD s)) base0.glob rfl ?_ ⟨_,(Frz.closed _ rfl).out,rfl,.refl _⟩
 intro w I α vs r ha hf
 obtain ⟨y,v',e1,k1,hl⟩:=ha.cons_inv
 have e2:=hl.nil_inv
 subst e2
 cases k1 with
 | str _ b hb=>
  obtain rfl:vs= #[.string b]:=by
   apply Array.toList_inj.1
   rw[e1]
  refine ⟨enters_of Tryz.func159 (by kernel_rfl) rfl _ _, ?_⟩
  refine (Any.utf8_ValidString Tryz.laysValid b w (by rw[←hb] at hs;exact hs) (rel_u8 r)).mono ?_
  rintro e w' ⟨rfl,hbw⟩
  refine ⟨_,rfl,⟨I,α,below_ev hbw,below_rel base0.glob r hbw, ?_,fun id h=> .inl h⟩,Nat.le_refl _⟩
  rw[hb]
  exact .bool _
end Go.Proofs.YtjhggnebkfpgcaaGreatDoor
namespace Go.Proofs.YtjhggnebkfpgcaaGreatDoor
open Go Go.RowKit
open Go.Proofs.Abs
structure SetI (o:Ob):Prop where
 ok:Okay o
 c:∀x∈o.cust,x.name∈nameL∧cusB x.name=true
theorem SetI.cus {o:Ob} (h:SetI o) {s:List UInt8} (hs:s∈nameL):CusOk (cusB s) s o:=
 ⟨fun hc=>(by decide:∀s∈nameL,cusB s=true→∀k∈kinds,nameK k≠s) s hs hc,fun hc x hx e=>by
  have:=(h.c x hx).2
  rw[e,hc] at this
  cases this⟩
theorem SetI.len {o:Ob} (h:SetI o):(allS o).length≤90000:=by
 have h1:=stdT_len h.ok.g kinds
 have h2:=cusR_len o.cust []
 have h4:=(wk_cusR o.cust []).len
 have h5:=h.ok.fit.c
 rw[h2,List.length_map] at h4
 rw[show kinds.length=20 from rfl] at h1
 rw[allS,List.length_append]
 omega
theorem mem_drop {α:Type} {l:List α} {i:Nat} {y:α} (h:y∈dropL l i):y∈l:=by
 simp only[dropL,List.mem_append] at h
 rcases h with h|h
 ·exact List.mem_of_mem_take h
 ·exact List.mem_of_mem_drop h
theorem len_drop {α:Type} {l:List α} {i n:Nat} (h:l.length≤n):(dropL l i).length≤n:=by
 simp only[dropL,List.length_append,List.length_take,List.length_drop]
 omega
theorem Okay.drop {o:Ob} (h:Okay o) (k:Kd) (j:Nat):Okay (dropK o j k):=by
 cases k with
 |nam=>exact ⟨⟨len_drop h.fit.n,h.fit.l,h.fit.c,h.fit.m⟩,fun s hs=>h.n s (mem_drop hs),h.l,h.c,h.i,h.m⟩
 |dat k=>exact h.date _ k
 |lnk=>exact ⟨⟨h.fit.n,len_drop h.fit.l,h.fit.c,h.fit.m⟩,h.n,fun s hs=>h.l s (mem_drop hs),h.c,h.i,h.m⟩
 |lim=>exact ⟨⟨h.fit.n,h.fit.l,h.fit.c,h.fit.m⟩,h.n,h.l,h.c,h.i,h.m⟩
 |cus s=>exact ⟨⟨h.fit.n,h.fit.l,len_drop h.fit.c,h.fit.m⟩,h.n,h.l,fun c hc=>h.c c (mem_drop hc),h.i,h.m⟩
 |_=>exact h
theorem SetI.d9 {o:Ob} (h:SetI o) (d:Dt):SetI {o with d9:=d}:=⟨h.ok.date d 9,h.c⟩
theorem ox_I {o:Ob} (h:OxF o):SetI o:=⟨okay_of h,fun x hx=>(by decide:∀s∈cnL,s∈nameL∧cusB s=true) _ (h.i.c3 x hx).1⟩
def textB (s:List UInt8):Bool:=match beqBytes s [] with
 |true=>false
 |false=>match ltInt 120 (.ofNat s.length) with
  |true=>false
  |false=>Lib.validD s
theorem text_a {s:List UInt8} (hs:s.length≤9223372036854775807):SC 147 [.str s] (.bool (textB s)):=by
 have hv:=valid_sem s hs
 refine fnK_semV (A:=aidJ [] [] (manyS [(159,.bool (Lib.validD s))]) [] []) base0 aidJ_ok (fnLs_of (LsOk.no rfl)) rfl rfl ?_
 rw[tx_fn,lenN_eq]
 unfold textB
 refine mtB_of (fun e=>mtB_of (fun e2=>⟨hv, ?_⟩) (fun e2=> ?_)) (fun e=> ?_)
 ·rw[Bool.not_eq_true'] at e e2;rw[e,e2]
 ·rw[Bool.not_eq_true'] at e;rw[Bool.not_eq_false'] at e2;rw[e,e2]
 ·rw[Bool.not_eq_false'] at e;rw[e]
theorem len_one {s:List UInt8}:ltInt (.ofNat s.length) 1=beqBytes s []:=by
 cases s with
 |nil=>rfl
 |cons a r=>
  rw[ltInt_false.2 (by simp only[List.length_cons,Int.ofNat_eq_natCast];omega)]
  rfl
theorem text_r {s:List UInt8} (hs:s.length≤9223372036854775807):SC 117 [.str s] (.bool (textB s)):=by
 have hv:=valid_sem s hs
 refine fnK_semV (A:=aidJ [] [] (manyS [(159,.bool (Lib.validD s))]) [] []) base0 aidJ_ok (fnLs_of (LsOk.no rfl)) rfl rfl ?_
 rw[tr_fn,lenN_eq,len_one]
 unfold textB
 refine mtB_of (fun e=>mtB_of (fun e2=>⟨hv, ?_⟩) (fun e2=> ?_)) (fun e=> ?_)
 ·rw[Bool.not_eq_true'] at e e2;rw[e,e2]
 ·rw[Bool.not_eq_true'] at e;rw[Bool.not_eq_false'] at e2;rw[e,e2]
 ·rw[Bool.not_eq_false'] at e;rw[e]
def preB (s:List UInt8):Bool:=match ltInt (.ofNat s.length) 2 with
 |true=>false
 |false=>beqBytes (s.take 2) [120,45]
theorem slice2 {s:List UInt8} (h:2≤s.length):sliceA Tryz.prog 9 (.str s) none (some (I 2)) none=some (.val (.str (s.take 2))):=by
 have h1:Nat.ble 0 2=true:=rfl
 have h2:Nat.ble 2 s.length=true:=Nat.ble_eq_true_of_le h
 show sliceStr Tryz.prog 9 s none (some 2) none=_
 have h3:Tryz.prog.underlying 9=some .string:=by kernel_rfl
 unfold sliceStr
 simp only[lenN_eq,Option.isNone_none,Option.getD_none,Option.getD_some,h1,h2,h3,Bool.and_self,List.drop_zero,Nat.sub_zero]
theorem pre_i (s:List UInt8):SC 190 [.str s,.str [120,45]] (.bool (preB s)):=by
 refine fnK_semV (A:=aidJ [(1,9,.res (.str (s.take 2)))] [] noSem [] []) base0 aidJ_ok (fnLs_of (LsOk.no rfl)) rfl rfl ?_
 rw[hp_fn,lenN_eq]
 unfold preB
 refine mtB_of (fun e=> ?_) (fun e=> ?_)
 ·rw[Bool.not_eq_true'] at e
  refine ⟨slice2 ?_,by rw[e]⟩
  have:=ltInt_false.1 e
  simp only[Int.ofNat_eq_natCast] at this
  omega
 ·rw[Bool.not_eq_false'] at e;rw[e]
theorem pre_a (s:List UInt8):SC 148 [.str s,.str [120,45]] (.bool (preB s)):=by
 refine fnK_semV (A:=aidJ [] [] (manyS [(190,.bool (preB s))]) [] []) base0 aidJ_ok (fnLs_of (LsOk.no rfl)) rfl rfl ?_
 rw[hq_fn]
 exact ⟨pre_i s,rfl⟩
theorem cus_a {s:List UInt8} (hs:s.length≤9223372036854775807):SC 111 [.str s] (.bool (textB s&&preB s)):=by
 refine fnK_semV (A:=aidJ [] [] (manyS [(147,.bool (textB s)),(148,.bool (preB s))]) [] []) base0 aidJ_ok (fnLs_of (LsOk.no rfl)) rfl rfl ?_
 rw[ic_fn]
 exact ⟨text_a hs,mtB_of (fun e=>⟨pre_a s,by rw[e,Bool.true_and]⟩) (fun e=>by rw[e,Bool.false_and])⟩
theorem cus_r {s:List UInt8} (hs:s.length≤9223372036854775807):SC 114 [.str s] (.bool (textB s&&preB s)):=by
 refine fnK_semV (A:=aidJ [(1,9,.res (.str (s.take 2)))] [] (manyS [(117,.bool (textB s))]) [] []) base0 aidJ_ok (fnLs_of (LsOk.no rfl)) rfl rfl ?_
 rw[ir_fn,lenN_eq]
 refine ⟨text_r hs,mtB_of (fun e=> ?_) (fun e=>by rw[e,Bool.false_and])⟩
 rw[e,Bool.true_and]
 unfold preB
 refine mtB_of (fun e=> ?_) (fun e=> ?_)
 ·rw[Bool.not_eq_true'] at e
  refine ⟨slice2 ?_,by rw[e]⟩
  have:=ltInt_false.1 e
  simp only[Int.ofNat_eq_natCast] at this
  omega
 ·rw[Bool.not_eq_false'] at e;rw[e]
theorem pre_no {s:List UInt8} (h:preB s=true):∀k∈kinds,nameK k≠s:=fun k hk e=>by
 subst e
 have:∀k∈kinds,preB (nameK k)=false:=by decide
 rw[this k hk] at h;cases h
theorem cus_any {o:Ob} (h:SetI o) {s:List UInt8} (hs:s.length≤9223372036854775807):∃c,SC 111 [.str s] (.bool c)∧SC 114 [.str s] (.bool c)∧CusOk c s o:=by
 by_cases hn:s∈nameL
 ·exact ⟨cusB s,cus_sem s hn,cusr_sem s hn,h.cus hn⟩
 ·refine ⟨_,cus_a hs,cus_r hs,fun hc=>pre_no ?_,fun _ x hx e=>hn ?_⟩
  ·rw[Bool.and_eq_true] at hc;exact hc.2
  ·rw[←e];exact (h.c x hx).1
section
variable {ns:List (List UInt8)} {s:List UInt8} {O:List AV} {Q:AExit→St→Prop}
theorem td_loop (hb:ns.length≤100000) (hO:closedAll O=true) (hq:Q (.exit 0) (tdV s (.ofNat ns.length) (ns.map .str) O).st):∀m i,i+m=ns.length→ALp Tryz.prog opts0.glob 0 (lpCode Tryz.prog 10 11) (tdV s (.ofNat i) (ns.map .str) O).st Q:=by
 have hN:=closed_strs ns
 have hlen:lenN (ns.map AV.str)=ns.length:=by rw[lenN_eq,List.length_map]
 intro m
 induction m with
 |zero=>
  intro i hi
  rw[Nat.add_zero] at hi
  subst hi
  refine ALp.round (A:=tdB []) (V1:=tdV s 0 (ns.map .str) O) (V2:=tdV s 0 (ns.map .str) O) (F:=tdV s (.ofNat ns.length) (ns.map .str) O) (lk:=[(0,0)]) (lk':=[(0,0)]) base0 aidJ_ok (LsOk.no rfl) .refl ?_
  rw[td_r,hlen]
  refine mtB_of (fun e=> ?_) (fun _=>⟨⟨⟨⟨rfl,rfl⟩,⟨rfl,hN⟩,⟨rfl,hN⟩,⟨rfl,rfl⟩,trivial⟩,⟨⟨rfl,rfl⟩,trivial⟩,⟨rfl,hO⟩,trivial⟩,hq⟩)
  have e:=ltInt_iff.1 e
  omega
 |succ m ih=>
  intro i hi
  have hlt:i<ns.length:=by omega
  have g:=List.getElem?_eq_getElem hlt
  have ih:=ih (i+1) (by omega)
  revert g
  generalize ns[i]=x
  intro g
  have hx:indexAddrA Tryz.prog 27 (.fsl false (ns.map .str)) (I (.ofNat i))=some (.fptr [.str x] 0):=fsl_index (v:= .str x) (e:=9) (sz:=1) (by kernel_rfl) (by kernel_rfl) (by rw[List.getElem?_map,g];rfl) rfl
  have hw:wrapA .i64 (Int.ofNat i+1)=Int.ofNat (i+1):=wrapA_i64 (by simp;omega) (by simp;omega)
  refine ALp.round (A:=tdB x) (V1:=tdV s (.ofNat (i+1)) (ns.map .str) O) (V2:=tdV s (.ofNat (i+1)) (ns.map .str) O) (F:=tdV s (.ofNat i) (ns.map .str) O) (lk:=[(0,0)]) (lk':=[(0,0)]) base0 aidJ_ok (LsOk.no rfl) .refl ?_
  rw[td_r,hlen,hw]
  exact mtB_of (fun _=>⟨hx,hx,mtB_of (fun e=>by rw[beqBytes_iff.2 rfl] at e;cases e) fun _=>⟨⟨⟨⟨rfl,rfl⟩,⟨rfl,hN⟩,⟨rfl,hN⟩,⟨rfl,rfl⟩,trivial⟩,⟨⟨rfl,rfl⟩,trivial⟩,⟨rfl,hO⟩,trivial⟩,ih⟩⟩) (fun e=>absurd e (lt_no hlt))
end
theorem td_at:loopsAt (fnCode Tryz.prog 10) 11=[lpCode Tryz.prog 10 11]:=by kernel_rfl
theorem eql9 (x y:Operand) (a b:Int):binA Tryz.prog .eql 3 x y (I a) (I b)=some (.bool (beqInt a b)):=by kernel_rfl
theorem nmS_in:∀ (l:List At) (out:List (List UInt8)),(nmS out l).length≤out.length+l.length:=fun l out=>nmS_len l out
theorem of_okA {o:Ob} (h:Okay o) {c:Bool} {s:List UInt8}:∀a∈ofS c o s,okI big a.v:=fun a ha=>by
  unfold ofS at ha
  split at ha
  · cases ha
  · rename_i k hk
    exact (h.g k).i _ (mem ha)
 where
  mem {s:List UInt8}:∀ {l:List It} {i:Nat} {a:At},a∈tellL s l i→a.v∈l
    |[],_,_,h=>by cases h
    | v::r,i,a,h=>by
      rw[tellL] at h
      rcases List.mem_cons.1 h with rfl|h
      · exact List.mem_cons_self
      · exact List.mem_cons_of_mem _ (mem h)
set_option maxRecDepth 20000 in
theorem law_sem (x:Rw) (l:List Rw) (nm:Int) (odd:List UInt8) (hodd:odd.length≤9223372036854775807):SC 10 [rwA x,.fsl false (l.map rwA),I nm,.str odd] (.bool true):=by
 obtain ⟨o,hox,hob⟩:=object_sem x l
 have hI:=ox_I hox
 have ok:=hI.ok
 have hR:=closed_rws l
 have hO:=closed_obC o
 have fo:=fits_obC o
 have hcl:closedAll [rwA x,.fsl false (l.map rwA),I nm,.str odd]=true:=by simp only[closedAll,closedA,hR,rwA,rwC,Bool.and_self]
 have hns:=names_sem ok.fit ok.g (fun c hc=>(hox.i.c3 c hc).1)
 have hnr:=rnames_sem ok.fit hI.len
 have hall:=all_sem ok.fit ok.g (fun c hc=>(hox.i.c3 c hc).1)
 have hrall:=rall_sem ok.fit
 have hallok:∀a∈allS o,okI big a.v:=fun a ha=>by
  have hcu:=hI.cus (all_in hox ha)
  have h2:a∈ofN a.name (allS o):=by
   unfold ofN
   exact List.mem_filter.2 ⟨ha,beqBytes_iff.2 rfl⟩
  rw[of_all hcu] at h2
  exact of_okA ok a h2
 have hsall:=sattrs_sem hallok (by have:=hI.len;omega)
 have hN:=closed_strs (namesS o)
 have hnb:(namesS o).length≤100000:=by
  have h1:=nmS_in (allS o) []
  have h2:=hI.len
  unfold namesS
  simp only[List.length_nil,Nat.zero_add] at h1
  omega
 have hsn:=sound_sem o
 have hsr:=soundr_sem o
 have hname:=name_sem nm
 have rest:∀s:List UInt8,s.length≤9223372036854775807→∃ (Bs:List At) (k m:Bool),SC 32 [obA o,.str s] (.fsl false (Bs.map atA))∧SC 17 [obA o,.str s] (.fsl false (Bs.map atA))∧SC 39 [.fsl false (Bs.map atA),.fsl false (Bs.map atA)] (.bool true)∧SC 46 [.str s] (.bool k)∧SC 47 [.str s] (.bool k)∧SC 42 [.str s] (.bool m)∧SC 48 [.str s] (.bool m):=fun s hs=>by
  obtain ⟨c,h1,h2,hcu⟩:=cus_any hI hs
  have e:findR c s=findK c s:=findR_eq hcu.1
  have ho:=rof_sem ok.fit hI.len s
  rw[of_all hcu] at ho
  have hb:(ofS c o s).length≤100000:=by
   rw[←of_all hcu]
   have:=List.length_filter_le (fun a=>beqBytes a.name s) (allS o)
   have h2:=hI.len
   unfold ofN
   omega
  have hk:=known_r h2
  rw[e] at hk
  exact ⟨ofS c o s,_,_,ofn_sem ok.fit h1 ok.g,ho,sattrs_sem (of_okA ok) hb,known_a h1,hk,many_sem h1,many_r h2 e⟩
 have two:∀b:Bool,decide (b=b)=true:=fun b=>by simp
 cases h9:beqInt (nm.tmod 9) 0 with
 | true=>
  obtain ⟨Bs,k,m,r1,r2,r3,r4,r5,r6,r7⟩:=rest odd hodd
  refine fnK_semV (A:=aidJ [(3,2,.res (.bool true))] [(11,tdL odd (.ofNat (lenN ((namesS o).map AV.str))) ((namesS o).map .str) (obC o))] (tdS (obC o) (ofL nameL [] nm) ((namesS o).map .str) ((allS o).map atA) (Bs.map atA) k m (soundB o)) [] []) base0 aidJ_ok
   (fnLs_of (LsOk.at1 rfl td_at fun st Q hs=> .seen base0.glob hs.1 (td_loop hnb hO (by
    have:=hs.2
    rw[lenN_eq,List.length_map] at this
    exact this) (namesS o).length 0 (Nat.zero_add _)))) hcl rfl ?_
  unfold obA at hob hns hnr hall hrall r1 r2 hsn hsr
  unfold obC at hO fo hob hns hnr hall hrall r1 r2 hsn hsr⊢
  rw[td_fn1]
  exact ⟨hob,oblB_of fo ⟨hname,by rw[eql9,h9],hns,hnr,mF (by rw[beqInt_iff.2 rfl];rfl) ⟨⟨⟨⟨rfl,rfl⟩,⟨rfl,hN⟩,⟨rfl,hN⟩,⟨rfl,rfl⟩,trivial⟩,⟨⟨rfl,rfl⟩,trivial⟩,⟨rfl,hO⟩,trivial⟩,known_sem,hall,hrall,hsall,r1,r2,r3,r4,r5,mT (two _) ⟨r6,r7,mT (two _) ⟨hsn,hsr,by rw[two]⟩⟩⟩⟩⟩
 | false=>
  have hnl:(ofL nameL [] nm).length≤9223372036854775807:=by
   have:∀s∈nameL,s.length≤100:=by decide
   have:=this _ (ofL_mem nameL [] nm (by simp[nameL]))
   omega
  obtain ⟨Bs,k,m,r1,r2,r3,r4,r5,r6,r7⟩:=rest _ hnl
  refine fnK_semV (A:=aidJ [(3,2,.res (.bool false))] [(11,tdL (ofL nameL [] nm) (.ofNat (lenN ((namesS o).map AV.str))) ((namesS o).map .str) (obC o))] (tdS (obC o) (ofL nameL [] nm) ((namesS o).map .str) ((allS o).map atA) (Bs.map atA) k m (soundB o)) [] []) base0 aidJ_ok
   (fnLs_of (LsOk.at1 rfl td_at fun st Q hs=> .seen base0.glob hs.1 (td_loop hnb hO (by
    have:=hs.2
    rw[lenN_eq,List.length_map] at this
    exact this) (namesS o).length 0 (Nat.zero_add _)))) hcl rfl ?_
  unfold obA at hob hns hnr hall hrall r1 r2 hsn hsr
  unfold obC at hO fo hob hns hnr hall hrall r1 r2 hsn hsr⊢
  rw[td_fn0]
  exact ⟨hob,oblB_of fo ⟨hname,by rw[eql9,h9],hns,hnr,mF (by rw[beqInt_iff.2 rfl];rfl) ⟨⟨⟨⟨rfl,rfl⟩,⟨rfl,hN⟩,⟨rfl,hN⟩,⟨rfl,rfl⟩,trivial⟩,⟨⟨rfl,rfl⟩,trivial⟩,⟨rfl,hO⟩,trivial⟩,known_sem,hall,hrall,hsall,r1,r2,r3,r4,r5,mT (two _) ⟨r6,r7,mT (two _) ⟨hsn,hsr,by rw[two]⟩⟩⟩⟩⟩
theorem rws_of:∀ {ess:List (List AV)},(∀c∈ess,(∃a b d z:Int,c=[.int .i64 a,.int .i64 b,.int .i64 d,.int .i64 z]∧(IntKind.i64.min≤a∧a≤IntKind.i64.max)∧(IntKind.i64.min≤b∧b≤IntKind.i64.max)∧(IntKind.i64.min≤d∧d≤IntKind.i64.max)∧(IntKind.i64.min≤z∧z≤IntKind.i64.max))∧c.length=4)→∃l:List Rw,ess.map mkElem=l.map rwA∧l.length=ess.length
 |[],_=>⟨[],rfl,rfl⟩
 |c::t,h=>by
  obtain ⟨⟨a,b,d,z,rfl,_⟩,_⟩:=h c (by simp)
  obtain ⟨l,e,hl⟩:=rws_of (ess:=t) fun c hc=>h c (by simp[hc])
  refine ⟨⟨a,b,d,z⟩::l, ?_,by simp[hl]⟩
  rw[List.map_cons,e]
  rfl
section
variable {P:Program} {H:Type} {enc:TypeId × Value→H} {w:World} {base:Nat} {spare:Nat→Bool} {held:Bool} {v:Value} {d:DataW H} {ps:List MemPlace} {t e i:TypeId}
theorem open_rws {f0 f1 f2 f3:Field} (ht:P.underlying t=some (.slice e)) (hs:P.underlying e=some (.struct #[f0,f1,f2,f3])) (h0:f0.type=i∧f0.offset=0) (h1:f1.type=i∧f1.offset=1) (h2:f2.type=i∧f2.offset=2) (h3:f3.type=i∧f3.offset=3)
  (he:P.underlying i=some (.int .i64)) (hc:P.cellsOf i=1) (h4:P.cellsOf e=4) (hok:Value.okWide P w .any base t v) (h:DataW.Trod enc P w 0 spare held t v d ps):
  ∃ (l:List Rw),l.length≤9223372036854775807∧Rep w (fun b=>b<w.heap.size) (fun _=>none) (.fsl false (l.map rwA)) v:=by
 rcases open_slice ht (reads_four hs h0 h1 h2 h3 he hc h4) hok h with rfl|⟨ess,hr,hp,hl⟩
 ·exact ⟨[],by simp,Wk.nil.out _ _ _ _ .nilsl⟩
 ·obtain ⟨l,e1,e2⟩:=rws_of hp
  refine ⟨l,by rw[e2];exact hl, ?_⟩
  rw[e1] at hr
  exact hr
end
end Go.Proofs.YtjhggnebkfpgcaaGreatDoor
