/- MalW, MalP, LawMal, Rws, Valid. -/
import Derived.Test.YtjhggnebkfpgcaaGreatDoorQ8
import Derived.KernelRfl
import Derived.Test.YtjhggnebkfpgcaaGreatDoorQ2
import Derived.Test.YtjhggnebkfpgcaaGreatDoorG5
import Derived.Test.YtjhggnebkfpgcaaGreatDoorQ1
import Derived.Shelf.Unicode.ValidAny
namespace Go.Proofs.YtjhggnebkfpgcaaGreatDoor
open Go Go.RowKit
open Go.Proofs.Abs
noncomputable section
def zaV (last i:Int) (Os Cs:List AV):View:=⟨[(6,.bool false),(7,.fsl false Os),(8,.fsl false Cs),(9,I last),(10,I i)],[],[],0,156⟩
def zaF (r:Bool) (Os Cs:List AV):View:=⟨[(6,.bool r),(7,.fsl false Os),(8,.fsl false Cs)],[],[],0,156⟩
def zkV (two:Bool) (k last i:Int) (Os Cs:List AV):View:=⟨[(11,.bool two),(12,I k),(6,.bool false),(7,.fsl false Os),(8,.fsl false Cs),(9,I last),(10,I i)],[],[],0,156⟩
def zjV (two:Bool) (j k last i:Int) (Os Cs:List AV):View:=⟨[(13,I j),(11,.bool two),(12,I k),(6,.bool false),(7,.fsl false Os),(8,.fsl false Cs),(9,I last),(10,I i)],[],[],0,156⟩
def zjA (x y:List AV):Aid:=aidJ [(18,4,.res (.fptr x 0)),(18,9,.res (.fptr y 0))] [] noSem [] []
@[simp] abbrev wf1 (Cs:List AV):=(AV.fsl false Cs=AV.fsl false Cs∧closedA (AV.fsl false Cs)=true)
@[simp] abbrev wf3 (Os:List AV):=(AV.fsl false Os=AV.fsl false Os∧closedA (AV.fsl false Os)=true)
@[simp] abbrev wf4:=(AV.bool false=AV.bool false∧true=true)
@[simp] abbrev wf8 (i:Int):=(I i=I i∧closedA (I i)=true)
@[simp] abbrev wf9 (last:Int):=(I last=I last∧closedA (I last)=true)
@[simp] abbrev wf19 (k:Int):=(I k=I k∧closedA (I k)=true)
@[simp] abbrev wf21 (two:Bool):=(AV.bool two=AV.bool two∧closedA (AV.bool two)=true)
theorem zj_r (two two':Bool) (s s':List UInt8) (a t y q a' t' y' q':Int) (D K D' K':List AV) (j j' k last i:Int) (Os Cs:List AV) (Nx:Prop) (Q:AExit→St→Prop):wpK Tryz.prog opts0 40 (zjA (.str s::I a::itF t y q D K) (.str s'::I a'::itF t' y' q' D' K')) (lpCode Tryz.prog 14 17) (zjV two j k last i Os Cs).st (roundP 0 [] (zjV two' j' k last i Os Cs) Nx [] (zjV two j k last i Os Cs) Q)=
  (mtB (ltInt j k) (mtB two ((((I (wrapA IntKind.i64 (j+1))=I j'∧closedA (I j')=true)∧(AV.bool true=AV.bool two'∧closedA (AV.bool two')=true)∧(wf19 k)∧wf4∧(wf3 Os)∧(wf1 Cs)∧(wf9 last)∧(wf8 i)∧True)∧True∧True)∧Nx) (indexAddrA Tryz.prog 43 (AV.fsl false Cs) (I k)=some (AV.fptr [AV.str s,I a,I t,I y,I q,AV.fsl false D,AV.fsl false K] 0)∧indexAddrA Tryz.prog 43 (AV.fsl false Cs) (I j)=some (AV.fptr [AV.str s',I a',I t',I y',I q',AV.fsl false D',AV.fsl false K'] 0)∧(((I (wrapA IntKind.i64 (j+1))=I j'∧closedA (I j')=true)∧(AV.bool (beqBytes s s')=AV.bool two'∧closedA (AV.bool two')=true)∧(wf19 k)∧wf4∧(wf3 Os)∧(wf1 Cs)∧(wf9 last)∧(wf8 i)∧True)∧True∧True)∧Nx)) ((((I j=I j∧closedA (I j)=true)∧(wf21 two)∧(wf19 k)∧wf4∧(wf3 Os)∧(wf1 Cs)∧(wf9 last)∧(wf8 i)∧True)∧True∧True)∧Q (AExit.exit 4) (zjV two j k last i Os Cs).st)):=by kernel_rfl
def zjL (p:Prop) (two two':Bool) (k last i:Int) (Os Cs:List AV):LoopS:=fun st Q=>p∧seesK 0 [] (zjV two 0 k last i Os Cs) st∧Q (.exit 4) (zjV two' k k last i Os Cs).st
@[simp] abbrev wf5:=(I 0=I 0∧true=true)
theorem zk_r (p:Prop) (two two':Bool) (k k' last i:Int) (Os Cs:List AV) (Nx:Prop) (Q:AExit→St→Prop):wpK Tryz.prog opts0 40 (aidJ [] [(17,zjL p two two' k last i Os Cs)] noSem [] []) (lpCode Tryz.prog 14 14) (zkV two k last i Os Cs).st (roundP 0 [] (zkV two' k' last i Os Cs) Nx [] (zkV two k last i Os Cs) Q)=
  (mtB (ltInt k i) (p∧((wf5∧(wf21 two)∧(wf19 k)∧wf4∧(wf3 Os)∧(wf1 Cs)∧(wf9 last)∧(wf8 i)∧True)∧True∧True)∧(((AV.bool two'=AV.bool two'∧closedA (AV.bool two')=true)∧(I (wrapA IntKind.i64 (k+1))=I k'∧closedA (I k')=true)∧wf4∧(wf3 Os)∧(wf1 Cs)∧(wf9 last)∧(wf8 i)∧True)∧True∧True)∧Nx) ((((wf21 two)∧(wf19 k)∧wf4∧(wf3 Os)∧(wf1 Cs)∧(wf9 last)∧(wf8 i)∧True)∧True∧True)∧Q (AExit.exit 2) (zkV two k last i Os Cs).st)):=by kernel_rfl
def zkL (p:Prop) (two:Bool) (last i:Int) (Os Cs:List AV):LoopS:=fun st Q=>p∧seesK 0 [] (zkV false 0 last i Os Cs) st∧Q (.exit 2) (zkV two i last i Os Cs).st
def zaA (p:Prop) (two:Bool) (last i:Int) (Os Cs Cs' Is:List AV):Aid:=aidJ [(21,3,.res (.fsl false Cs'))] [(14,zkL p two last i Os Cs)] (manyS [(53,.fsl false Is)]) [] []
@[simp] abbrev wf23 (Cs Os:List AV) (r:Bool):=(((AV.bool false=AV.bool r∧closedA (AV.bool r)=true)∧(wf3 Os)∧(wf1 Cs)∧True)∧True∧True)
theorem za_r (p:Prop) (two r:Bool) (last last' i i':Int) (Os Cs Cs' Is:List AV) (Nx:Prop) (Q:AExit→St→Prop):wpK Tryz.prog opts0 40 (zaA p two last i Os Cs Cs' Is) (lpCode Tryz.prog 14 10) (zaV last i Os Cs).st (roundP 0 [] (zaV last' i' Os Cs) Nx [] (zaF r Os Cs) Q)=
  (mtB (!ltInt (Int.ofNat (lenN Cs)) i) (p∧((wf4∧wf5∧wf4∧(wf3 Os)∧(wf1 Cs)∧(wf9 last)∧(wf8 i)∧True)∧True∧True)∧mtB two ((((AV.bool true=AV.bool r∧closedA (AV.bool r)=true)∧(wf3 Os)∧(wf1 Cs)∧True)∧True∧True)∧Q AExit.ret (zaF r Os Cs).st) (sliceA Tryz.prog 43 (AV.fsl false Cs) none (some (I i)) none=some (Eff.val (AV.fsl false Cs'))∧SC 53 [AV.fsl false Os,AV.fsl false Cs',I (Int.negSucc 0)] (AV.fsl false Is)∧mtB (ltInt last (Int.ofNat (lenN Is))) ((wf23 Cs Os r)∧Q AExit.ret (zaF r Os Cs).st) (((wf4∧(wf3 Os)∧(wf1 Cs)∧(I (Int.ofNat (lenN Is))=I last'∧closedA (I last')=true)∧(I (wrapA IntKind.i64 (i+1))=I i'∧closedA (I i')=true)∧True)∧True∧True)∧Nx))) ((wf23 Cs Os r)∧Q (AExit.exit 0) (zaF r Os Cs).st)):=by kernel_rfl
def zaL (p:Prop) (e:AExit) (r:Bool) (n:Int) (Os Cs:List AV):LoopS:=fun st Q=>p∧seesK 0 [] (zaV n 0 Os Cs) st∧Q e (zaF r Os Cs).st
def zsV0 (i:Int) (Cs As:List AV):View:=⟨[(8,.fsl false Cs),(15,.fsl false As),(16,.fsl true []),(17,I i)],[],[],0,156⟩
def zsV1 (i:Int) (Cs As:List AV) (n:Nat) (es:List AV):View:=⟨[(8,.fsl false Cs),(15,.fsl false As),(17,I i)],[(16,.rsl true 0 0 n 37)],[(0,.cells es,.whole)],1,156⟩
def zsA (x y:List AV):Aid:=aidJ [(30,15,.ld (.agg x)),(30,19,.ld (.agg y))] [] noSem [] []
@[simp] abbrev wf2 (As:List AV):=(AV.fsl false As=AV.fsl false As∧closedA (AV.fsl false As)=true)
@[simp] abbrev wf10:=(AV.fsl true []=AV.fsl true []∧true=true)
theorem zs_r0 (i i':Int) (Cs As:List AV) (Nx:Prop) (Q:AExit→St→Prop):wpK Tryz.prog opts0 40 (aidJ [(28,4,.res (.bool false))] [] noSem [] []) (lpCode Tryz.prog 14 29) (zsV0 i Cs As).st (roundP 0 [] (zsV0 i' Cs As) Nx [] (zsV0 i Cs As) Q)=
  (binA Tryz.prog BinOp.lss 3 (Operand.tmp 90) (Operand.tmp 93) (I i) (I 0)=some (AV.bool false)∧(((wf1 Cs)∧(wf2 As)∧wf10∧(wf8 i)∧True)∧True∧True)∧Q (AExit.exit 6) (zsV0 i Cs As).st):=by kernel_rfl
@[simp] abbrev wf25 (n:Nat):=((true=true∧some 0=some 0∧0=0∧n=n∧37=37)∧True)
theorem zs_r1 (i i':Int) (Cs As:List AV) (n:Nat) (es es' x y:List AV) (Nx:Prop) (Q:AExit→St→Prop):wpK Tryz.prog opts0 40 (zsA x y) (lpCode Tryz.prog 14 29) (zsV1 i Cs As n es).st (roundP 0 [(0,0)] (zsV1 i' Cs As n es') Nx [(0,0)] (zsV1 i Cs As n es) Q)=
  (mtB (ltInt i (wrapA IntKind.i64 ((Int.ofNat n).tdiv 2))) (oblB (nonneg (wrapA IntKind.i64 (wrapA IntKind.i64 (Int.ofNat n-1)-i))&&((wrapA IntKind.i64 (wrapA IntKind.i64 (Int.ofNat n-1)-i)).toNat.blt n&&true)) (partA Tryz.prog 33 es (0+(wrapA IntKind.i64 (wrapA IntKind.i64 (Int.ofNat n-1)-i)).toNat*37)=some (AV.agg x)∧oblB (nonneg i&&(i.toNat.blt n&&true)) (partA Tryz.prog 33 es (0+i.toNat*37)=some (AV.agg y)∧oblB (nonneg i&&(i.toNat.blt n&&true)) (oblB (fitsT Tryz.prog 33 (AV.agg x) 37) (oblB ((0+i.toNat*37+37).ble (lenN es)) (oblB (nonneg (wrapA IntKind.i64 (wrapA IntKind.i64 (Int.ofNat n-1)-i))&&((wrapA IntKind.i64 (wrapA IntKind.i64 (Int.ofNat n-1)-i)).toNat.blt n&&true)) (oblB (fitsT Tryz.prog 33 (AV.agg y) 37) (oblB ((0+(wrapA IntKind.i64 (wrapA IntKind.i64 (Int.ofNat n-1)-i)).toNat*37+37).ble (lenN (List.take (0+i.toNat*37) es++(x++List.drop (0+i.toNat*37+lenN x) es)))) ((((wf1 Cs)∧(wf2 As)∧(I (wrapA IntKind.i64 (i+1))=I i'∧closedA (I i')=true)∧True)∧(wf25 n)∧(List.take (0+(wrapA IntKind.i64 (wrapA IntKind.i64 (Int.ofNat n-1)-i)).toNat*37) (List.take (0+i.toNat*37) es++(x++List.drop (0+i.toNat*37+lenN x) es))++(y++List.drop (0+(wrapA IntKind.i64 (wrapA IntKind.i64 (Int.ofNat n-1)-i)).toNat*37+lenN y) (List.take (0+i.toNat*37) es++(x++List.drop (0+i.toNat*37+lenN x) es)))=es'∧closedAll es'=true)∧True)∧Nx))))))))) ((((wf1 Cs)∧(wf2 As)∧(wf8 i)∧True)∧(wf25 n)∧(es=es∧closedAll es=true)∧True)∧Q (AExit.exit 6) (zsV1 i Cs As n es).st)):=by kernel_rfl
def zdV0 (i:Int) (b:Bool) (Cs As Bs:List AV):View:=⟨[(8,.fsl false Cs),(15,.fsl false As),(16,.fsl b Bs),(18,.nilsl),(19,I i)],[],[],0,156⟩
def zdV1 (i:Int) (b:Bool) (Cs As Bs:List AV) (k:Nat) (es:List AV):View:=⟨[(8,.fsl false Cs),(15,.fsl false As),(16,.fsl b Bs),(19,I i)],[(18,.rsl true 0 0 k 7)],[(0,.cells es,.whole)],1,156⟩
def zdA (x:List AV):Aid:=aidJ [(35,3,.res (.fptr x 0))] [] noSem [] []
abbrev wf7 (D K:List AV) (ix q t y:Int) (s:List UInt8):=[AV.str s,I ix,I t,I y,I q,AV.fsl false D,AV.fsl false K]
@[simp] abbrev wf14:=(AV.nilsl=AV.nilsl∧true=true)
@[simp] abbrev wf15 (Bs:List AV) (b:Bool):=(AV.fsl b Bs=AV.fsl b Bs∧closedA (AV.fsl b Bs)=true)
theorem zd_r0 (i i':Int) (b:Bool) (Cs As Bs es':List AV) (s:List UInt8) (ix t y q:Int) (D K:List AV) (Nx:Prop) (Q:AExit→St→Prop):wpK Tryz.prog opts0 40 (zdA (.str s::I ix::itF t y q D K)) (lpCode Tryz.prog 14 34) (zdV0 i b Cs As Bs).st (roundP 0 [(0,8)] (zdV1 i' b Cs As Bs 1 es') Nx [] (zdV0 i b Cs As Bs) Q)=
  (mtB (!ltInt i 0) (indexAddrA Tryz.prog 43 (AV.fsl false Cs) (I i)=some (AV.fptr (wf7 D K ix q t y s) 0)∧(((wf1 Cs)∧(wf2 As)∧(wf15 Bs b)∧(I (wrapA IntKind.i64 (i-1))=I i'∧closedA (I i')=true)∧True)∧((true=true∧some 8=some 8∧0=0∧1=lenN [AV.agg (wf7 D K ix q t y s)]∧7=7)∧True)∧(flat [AV.agg (wf7 D K ix q t y s)]=es'∧closedAll es'=true)∧True)∧Nx) ((((wf1 Cs)∧(wf2 As)∧(wf15 Bs b)∧wf14∧(wf8 i)∧True)∧True∧True)∧Q (AExit.exit 8) (zdV0 i b Cs As Bs).st)):=by kernel_rfl
theorem zd_r1 (i i':Int) (b:Bool) (k:Nat) (Cs As Bs es es':List AV) (s:List UInt8) (ix t y q:Int) (D K:List AV) (Nx:Prop) (Q:AExit→St→Prop):wpK Tryz.prog opts0 40 (zdA (.str s::I ix::itF t y q D K)) (lpCode Tryz.prog 14 34) (zdV1 i b Cs As Bs k es).st (roundP 0 [(0,9)] (zdV1 i' b Cs As Bs (k+1) es') Nx [(0,0)] (zdV1 i b Cs As Bs k es) Q)=
  (mtB (!ltInt i 0) (indexAddrA Tryz.prog 43 (AV.fsl false Cs) (I i)=some (AV.fptr (wf7 D K ix q t y s) 0)∧oblB (allSize 7 [AV.agg (wf7 D K ix q t y s)]&&(((k+lenN [AV.agg (wf7 D K ix q t y s)])*96).ble 140737488355328&&(allOne (flat [AV.agg (wf7 D K ix q t y s)])&&true))) (oblB ((lenN es).beq (k*7)) ((((wf1 Cs)∧(wf2 As)∧(wf15 Bs b)∧(I (wrapA IntKind.i64 (i-1))=I i'∧closedA (I i')=true)∧True)∧((true=true∧some 9=some 9∧0=0∧k+1=k+lenN [AV.agg (wf7 D K ix q t y s)]∧7=7)∧True)∧(es++flat [AV.agg (wf7 D K ix q t y s)]=es'∧closedAll es'=true)∧True)∧Nx))) ((((wf1 Cs)∧(wf2 As)∧(wf15 Bs b)∧(wf8 i)∧True)∧((true=true∧some 0=some 0∧0=0∧k=k∧7=7)∧True)∧(es=es∧closedAll es=true)∧True)∧Q (AExit.exit 8) (zdV1 i b Cs As Bs k es).st)):=by kernel_rfl
def zcV (i:Int) (As Bs:List AV):View:=⟨[(15,.fsl false As),(20,.fsl false Bs),(21,I i)],[],[],0,156⟩
def zcF:View:=⟨[],[],[],0,156⟩
def zcA (s s':List UInt8):Aid:=aidJ [(42,2,.res (.fptr [.str s] 0)),(42,6,.res (.fptr [.str s'] 0))] [] noSem [] []
@[simp] abbrev wf16 (Bs:List AV):=(AV.fsl false Bs=AV.fsl false Bs∧closedA (AV.fsl false Bs)=true)
theorem zc_r (i i':Int) (As Bs:List AV) (s s':List UInt8) (Nx:Prop) (Q:AExit→St→Prop):wpK Tryz.prog opts0 40 (zcA s s') (lpCode Tryz.prog 14 41) (zcV i As Bs).st (roundP 0 [] (zcV i' As Bs) Nx [] zcF Q)=
  (mtB (ltInt i (Int.ofNat (lenN As))) (indexAddrA Tryz.prog 27 (AV.fsl false As) (I i)=some (AV.fptr [AV.str s] 0)∧indexAddrA Tryz.prog 27 (AV.fsl false Bs) (I i)=some (AV.fptr [AV.str s'] 0)∧mtB (!beqBytes s s') ((True∧True∧True)∧Q AExit.ret zcF.st) ((((wf2 As)∧(wf16 Bs)∧(I (wrapA IntKind.i64 (i+1))=I i'∧closedA (I i')=true)∧True)∧True∧True)∧Nx)) ((True∧True∧True)∧Q (AExit.exit 10) zcF.st)):=by kernel_rfl
def aidC2 (A:Aid) (r m:Nat) (V:View) (r' m':Nat) (V':View):Aid:={A with cut:=fun r0=>match Nat.beq r0 r with
 |true=>some (letC m V)
 |false=>match Nat.beq r0 r' with
  |true=>some (letC m' V')
  |false=>none}
theorem aidC2_ok {P:Program} {O:Opts} {A:Aid} {r m r' m':Nat} {V V':View} (hA:AidOk P O A):AidOk P O (aidC2 A r m V r' m' V'):=
 ⟨hA.cx,hA.sum,hA.inl,fun q C hC nx0 s K hk=>by
  simp only[aidC2] at hC
  split at hC
  ·simp only[Option.some.injEq] at hC
   subst hC
   exact ⟨V.st,letsG_says hk.1,hk.2⟩
  ·split at hC
   ·simp only[Option.some.injEq] at hC
    subst hC
    exact ⟨V'.st,letsG_says hk.1,hk.2⟩
   ·cases hC⟩
def zfF (I0 As:List AV):List AV→Option AV
 |[_,.nilsl,_]=>some (.fsl false I0)
 |_=>some (.fsl false As)
def zfT (r:Int) (Os Cs I0 As:List AV):SemT:=manyF [(50,fun _=>some (.fsl false Os)),(56,fun _=>some (.fsl false Cs)),(51,fun _=>some (.bool true)),(55,fun _=>some (I r)),(53,zfF I0 As)]
def zsL (p:Prop) (lk:List (Nat × Nat)) (V W:View):LoopS:=fun st Q=>p∧seesK 0 lk V st∧Q (.exit 6) W.st
def zdL (p:Prop) (V W:View):LoopS:=fun st Q=>p∧seesK 0 [] V st∧Q (.exit 8) W.st
def zcL (p:Prop) (As Bs:List AV):LoopS:=fun st Q=>p∧seesK 0 [] (zcV 0 As Bs) st∧Q (.exit 10) zcF.st
def zfV (b:Bool) (Cs As Bs:List AV):View:=⟨[(8,.fsl false Cs),(15,.fsl false As),(16,.fsl b Bs)],[],[],200,156⟩
def zgV (b:Bool) (As Bs:List AV) (d:AV):View:=⟨[(15,.fsl false As),(16,.fsl b Bs),(18,d)],[],[],400,156⟩
abbrev wf24 (Ps l:List AV):=[AV.fsl false l,AV.fsl false Ps]
theorem zf_ret (p:Prop) (r:Int) (l Ps w Os Cs I0:List AV) (Q:AV→Prop):fnK Tryz.prog opts0 40 (aidJ [] [(10,zaL p .ret true (.ofNat (lenN Os)) Os Cs)] (zfT r Os Cs I0 []) [] []) 14 [.fsl false l,.fsl false Ps,.fsl false w] [] 0 (fun v _ _=>Q v)=
  (SC 50 (wf24 Ps l) (AV.fsl false Os)∧SC 56 [AV.fsl false w,I 1] (AV.fsl false Cs)∧SC 51 [] (AV.bool true)∧SC 53 [AV.fsl false Os,AV.nilsl,I (Int.negSucc 0)] (AV.fsl false I0)∧mtB (!beqInt (Int.ofNat (lenN I0)) (Int.ofNat (lenN Os))) (Q (AV.bool false)) (SC 55 [AV.fsl false Cs] (I r)∧mtB (!beqInt r 0) (Q (AV.bool true)) (p∧((wf4∧(wf3 Os)∧(wf1 Cs)∧(I (Int.ofNat (lenN Os))=I (Int.ofNat (lenN Os))∧closedA (I (Int.ofNat (lenN Os)))=true)∧wf5∧True)∧True∧True)∧Q (AV.bool true)))):=by kernel_rfl
@[simp] abbrev wf12 (As Cs:List AV) (j:Int):=((Frz 0 (zsV0 j Cs As).st.heap (AV.fsl false Cs) (AV.fsl false Cs)∧Frz 0 (zsV0 j Cs As).st.heap (AV.fsl false As) (AV.fsl false As)∧Frz 0 (zsV0 j Cs As).st.heap (AV.fsl true []) (AV.fsl true [])∧True)∧True)
@[simp] abbrev wf18 (As I0:List AV) (Q:AV→Prop):=(True∧(((wf2 As)∧(AV.fsl false I0=AV.fsl false I0∧closedA (AV.fsl false I0)=true)∧wf5∧True)∧True∧True)∧Q (AV.bool true))
@[simp] abbrev wf20 (Cs:List AV):=((wf4∧(AV.fsl false []=AV.fsl false []∧true=true)∧(wf1 Cs)∧wf5∧wf5∧True)∧True∧True)
abbrev wf22:=(Eff.val (AV.fsl true []))
theorem zf_00 (l Ps w:List AV) (j k k':Int) (Cs As I0:List AV) (Q:AV→Prop):fnK Tryz.prog opts0 40 (aidC2 (aidJ [(26,1,.res (.fsl true []))] [(10,zaL True (.exit 0) false (.ofNat (lenN ([]:List AV))) [] Cs),(29,zsL True [] (zsV0 0 Cs As) (zsV0 j Cs As)),(34,zdL True (zdV0 k true Cs As []) (zdV0 k' true Cs As [])),(41,zcL True As I0)] (zfT 0 [] Cs I0 As) [] []) 31 0 (zfV true Cs As []) 36 0 (zgV true As [] .nilsl)) 14 [.fsl false l,.fsl false Ps,.fsl false w] [] 0 (fun v _ _=>Q v)=
  (SC 50 (wf24 Ps l) (AV.fsl false [])∧SC 56 [AV.fsl false w,I 1] (AV.fsl false Cs)∧SC 51 [] (AV.bool true)∧SC 53 [AV.fsl false [],AV.nilsl,I (Int.negSucc 0)] (AV.fsl false I0)∧mtB (!beqInt (Int.ofNat (lenN I0)) 0) (Q (AV.bool false)) (SC 55 [AV.fsl false Cs] (I 0)∧True∧(wf20 Cs)∧SC 53 [AV.fsl false [],AV.fsl false Cs,I (Int.negSucc 0)] (AV.fsl false As)∧sliceA Tryz.prog 72 (AV.fsl false []) none (some (I 0)) (some (I 0))=some wf22∧True∧(((wf1 Cs)∧(wf2 As)∧wf10∧wf5∧True)∧True∧True)∧(wf12 As Cs j)∧True∧(((wf1 Cs)∧(wf2 As)∧wf10∧wf14∧(I (wrapA IntKind.i64 (Int.ofNat (lenN Cs)-1))=I k∧closedA (I k)=true)∧True)∧True∧True)∧((Frz 0 (zdV0 k' true Cs As []).st.heap (AV.fsl false As) (AV.fsl false As)∧Frz 0 (zdV0 k' true Cs As []).st.heap (AV.fsl true []) (AV.fsl true [])∧Frz 0 (zdV0 k' true Cs As []).st.heap AV.nilsl AV.nilsl∧True)∧True)∧SC 53 [AV.fsl true [],AV.nilsl,I (Int.negSucc 0)] (AV.fsl false I0)∧mtB (!beqInt (Int.ofNat (lenN As)) (Int.ofNat (lenN I0))) (Q (AV.bool false)) (wf18 As I0 Q))):=by kernel_rfl
theorem zf_01 (l Ps w:List AV) (j k k':Int) (m:Nat) (Cs As I0 Ds ds:List AV) (Q:AV→Prop):fnK Tryz.prog opts0 40 (aidC2 (aidJ [(26,1,.res (.fsl true []))] [(10,zaL True (.exit 0) false (.ofNat (lenN ([]:List AV))) [] Cs),(29,zsL True [] (zsV0 0 Cs As) (zsV0 j Cs As)),(34,zdL True (zdV0 k true Cs As []) (zdV1 k' true Cs As [] m ds)),(41,zcL True As As)] (zfT 0 [] Cs I0 As) [] []) 31 0 (zfV true Cs As []) 36 0 (zgV true As [] (.fsl false Ds))) 14 [.fsl false l,.fsl false Ps,.fsl false w] [] 0 (fun v _ _=>Q v)=
  (SC 50 (wf24 Ps l) (AV.fsl false [])∧SC 56 [AV.fsl false w,I 1] (AV.fsl false Cs)∧SC 51 [] (AV.bool true)∧SC 53 [AV.fsl false [],AV.nilsl,I (Int.negSucc 0)] (AV.fsl false I0)∧mtB (!beqInt (Int.ofNat (lenN I0)) 0) (Q (AV.bool false)) (SC 55 [AV.fsl false Cs] (I 0)∧True∧(wf20 Cs)∧SC 53 [AV.fsl false [],AV.fsl false Cs,I (Int.negSucc 0)] (AV.fsl false As)∧sliceA Tryz.prog 72 (AV.fsl false []) none (some (I 0)) (some (I 0))=some wf22∧True∧(((wf1 Cs)∧(wf2 As)∧wf10∧wf5∧True)∧True∧True)∧(wf12 As Cs j)∧True∧(((wf1 Cs)∧(wf2 As)∧wf10∧wf14∧(I (wrapA IntKind.i64 (Int.ofNat (lenN Cs)-1))=I k∧closedA (I k)=true)∧True)∧True∧True)∧((Frz 0 (zdV1 k' true Cs As [] m ds).st.heap (AV.fsl false As) (AV.fsl false As)∧Frz 0 (zdV1 k' true Cs As [] m ds).st.heap (AV.fsl true []) (AV.fsl true [])∧Frz 0 (zdV1 k' true Cs As [] m ds).st.heap (AV.rsl true 0 0 m 7) (AV.fsl false Ds)∧True)∧True)∧SC 53 [AV.fsl true [],AV.fsl false Ds,I (Int.negSucc 0)] (AV.fsl false As)∧mtB (!beqInt (Int.ofNat (lenN As)) (Int.ofNat (lenN As))) (Q (AV.bool false)) (True∧(((wf2 As)∧(wf2 As)∧wf5∧True)∧True∧True)∧Q (AV.bool true)))):=by kernel_rfl
abbrev wf11 (C L M N:AV) (Os:List AV) (o:Ob):=(AV.agg (obF o M N L C)::Os)
@[simp] abbrev wf6 (C L M N:AV) (Cs Os:List AV) (o:Ob):=((wf4∧(AV.fsl false (wf11 C L M N Os o)=AV.fsl false (wf11 C L M N Os o)∧closedA (AV.fsl false (wf11 C L M N Os o))=true)∧(wf1 Cs)∧(I (Int.ofNat (lenN (wf11 C L M N Os o)))=I (Int.ofNat (lenN (wf11 C L M N Os o)))∧closedA (I (Int.ofNat (lenN (wf11 C L M N Os o))))=true)∧wf5∧True)∧True∧True)
@[simp] abbrev wf13 (As Bs Cs es:List AV) (j:Int) (n:Nat):=((Frz 0 (zsV1 j Cs As n es).st.heap (AV.fsl false Cs) (AV.fsl false Cs)∧Frz 0 (zsV1 j Cs As n es).st.heap (AV.fsl false As) (AV.fsl false As)∧Frz 0 (zsV1 j Cs As n es).st.heap (AV.rsl true 0 0 n 37) (AV.fsl false Bs)∧True)∧True)
@[simp] abbrev wf17 (As Cs Os es0:List AV) (C L M N:AV) (n:Nat) (o:Ob):=(((wf1 Cs)∧(wf2 As)∧wf5∧True)∧((true=true∧some 7=some 7∧0=0∧n=0+lenN (wf11 C L M N Os o)∧37=37)∧True)∧(flat (wf11 C L M N Os o)=es0∧closedAll es0=true)∧True)
theorem zf_10 (l Ps w:List AV) (o:Ob) (M N L C:AV) (Os:List AV) (j k k':Int) (n:Nat) (Cs As I0 Bs es0 es:List AV) (Q:AV→Prop):fnK Tryz.prog opts0 40 (aidC2 (aidJ [(26,1,.res (.fsl true []))] [(10,zaL True (.exit 0) false (.ofNat (lenN (.agg (obF o M N L C)::Os))) (.agg (obF o M N L C)::Os) Cs),(29,zsL True [(0,7)] (zsV1 0 Cs As n es0) (zsV1 j Cs As n es)),(34,zdL True (zdV0 k false Cs As Bs) (zdV0 k' false Cs As Bs)),(41,zcL True As I0)] (zfT 0 (.agg (obF o M N L C)::Os) Cs I0 As) [] []) 31 0 (zfV false Cs As Bs) 36 0 (zgV false As Bs .nilsl)) 14 [.fsl false l,.fsl false Ps,.fsl false w] [] 0 (fun v _ _=>Q v)=
  (SC 50 (wf24 Ps l) (AV.fsl false (wf11 C L M N Os o))∧SC 56 [AV.fsl false w,I 1] (AV.fsl false Cs)∧SC 51 [] (AV.bool true)∧SC 53 [AV.fsl false (wf11 C L M N Os o),AV.nilsl,I (Int.negSucc 0)] (AV.fsl false I0)∧mtB (!beqInt (Int.ofNat (lenN I0)) (Int.ofNat (lenN (wf11 C L M N Os o)))) (Q (AV.bool false)) (SC 55 [AV.fsl false Cs] (I 0)∧True∧(wf6 C L M N Cs Os o)∧SC 53 [AV.fsl false (wf11 C L M N Os o),AV.fsl false Cs,I (Int.negSucc 0)] (AV.fsl false As)∧sliceA Tryz.prog 72 (AV.fsl false (wf11 C L M N Os o)) none (some (I 0)) (some (I 0))=some wf22∧oblB (allSize 37 (wf11 C L M N Os o)&&(((0+lenN (wf11 C L M N Os o))*376).ble 140737488355328&&true)) (True∧(wf17 As Cs Os es0 C L M N n o)∧(wf13 As Bs Cs es j n)∧True∧(((wf1 Cs)∧(wf2 As)∧(wf16 Bs)∧wf14∧(I (wrapA IntKind.i64 (Int.ofNat (lenN Cs)-1))=I k∧closedA (I k)=true)∧True)∧True∧True)∧((Frz 0 (zdV0 k' false Cs As Bs).st.heap (AV.fsl false As) (AV.fsl false As)∧Frz 0 (zdV0 k' false Cs As Bs).st.heap (AV.fsl false Bs) (AV.fsl false Bs)∧Frz 0 (zdV0 k' false Cs As Bs).st.heap AV.nilsl AV.nilsl∧True)∧True)∧SC 53 [AV.fsl false Bs,AV.nilsl,I (Int.negSucc 0)] (AV.fsl false I0)∧mtB (!beqInt (Int.ofNat (lenN As)) (Int.ofNat (lenN I0))) (Q (AV.bool false)) (wf18 As I0 Q)))):=by kernel_rfl
theorem zf_11 (l Ps w:List AV) (o:Ob) (M N L C:AV) (Os:List AV) (j k k':Int) (n:Nat) (m:Nat) (Cs As I0 Bs es0 es Ds ds:List AV) (Q:AV→Prop):fnK Tryz.prog opts0 40 (aidC2 (aidJ [(26,1,.res (.fsl true []))] [(10,zaL True (.exit 0) false (.ofNat (lenN (.agg (obF o M N L C)::Os))) (.agg (obF o M N L C)::Os) Cs),(29,zsL True [(0,7)] (zsV1 0 Cs As n es0) (zsV1 j Cs As n es)),(34,zdL True (zdV0 k false Cs As Bs) (zdV1 k' false Cs As Bs m ds)),(41,zcL True As As)] (zfT 0 (.agg (obF o M N L C)::Os) Cs I0 As) [] []) 31 0 (zfV false Cs As Bs) 36 0 (zgV false As Bs (.fsl false Ds))) 14 [.fsl false l,.fsl false Ps,.fsl false w] [] 0 (fun v _ _=>Q v)=
  (SC 50 (wf24 Ps l) (AV.fsl false (wf11 C L M N Os o))∧SC 56 [AV.fsl false w,I 1] (AV.fsl false Cs)∧SC 51 [] (AV.bool true)∧SC 53 [AV.fsl false (wf11 C L M N Os o),AV.nilsl,I (Int.negSucc 0)] (AV.fsl false I0)∧mtB (!beqInt (Int.ofNat (lenN I0)) (Int.ofNat (lenN (wf11 C L M N Os o)))) (Q (AV.bool false)) (SC 55 [AV.fsl false Cs] (I 0)∧True∧(wf6 C L M N Cs Os o)∧SC 53 [AV.fsl false (wf11 C L M N Os o),AV.fsl false Cs,I (Int.negSucc 0)] (AV.fsl false As)∧sliceA Tryz.prog 72 (AV.fsl false (wf11 C L M N Os o)) none (some (I 0)) (some (I 0))=some wf22∧oblB (allSize 37 (wf11 C L M N Os o)&&(((0+lenN (wf11 C L M N Os o))*376).ble 140737488355328&&true)) (True∧(wf17 As Cs Os es0 C L M N n o)∧(wf13 As Bs Cs es j n)∧True∧(((wf1 Cs)∧(wf2 As)∧(wf16 Bs)∧wf14∧(I (wrapA IntKind.i64 (Int.ofNat (lenN Cs)-1))=I k∧closedA (I k)=true)∧True)∧True∧True)∧((Frz 0 (zdV1 k' false Cs As Bs m ds).st.heap (AV.fsl false As) (AV.fsl false As)∧Frz 0 (zdV1 k' false Cs As Bs m ds).st.heap (AV.fsl false Bs) (AV.fsl false Bs)∧Frz 0 (zdV1 k' false Cs As Bs m ds).st.heap (AV.rsl true 0 0 m 7) (AV.fsl false Ds)∧True)∧True)∧SC 53 [AV.fsl false Bs,AV.fsl false Ds,I (Int.negSucc 0)] (AV.fsl false As)∧mtB (!beqInt (Int.ofNat (lenN As)) (Int.ofNat (lenN As))) (Q (AV.bool false)) (True∧(((wf2 As)∧(wf2 As)∧wf5∧True)∧True∧True)∧Q (AV.bool true))))):=by kernel_rfl
end
end Go.Proofs.YtjhggnebkfpgcaaGreatDoor
namespace Go.Proofs.YtjhggnebkfpgcaaGreatDoor
set_option maxRecDepth 20000
open Go Go.RowKit
open Go.Proofs.Abs
theorem vals_no {s:List UInt8}:∀ {L:List At},(∀a∈L,a.name≠s)→valsL s L=[]
 |[],_=>rfl
 |a::r,h=>by rw[valsL,beqBytes_no (h a (by simp)),vals_no fun b hb=>h b (by simp[hb])]
theorem vals_one:∀ {L:List At},(L.map (·.name)).Nodup→∀ {a:At},a∈L→valsL a.name L=[a.v]
 |[],_,_,h=>by cases h
 | b::r,hn,a,h=>by
  rw[List.map_cons,List.nodup_cons] at hn
  rcases List.mem_cons.1 h with h|h
  ·subst h
   rw[valsL,beqBytes_iff.2 rfl,vals_no fun c hc e=>hn.1 (List.mem_map.2 ⟨c,hc,e⟩)]
  ·have hne:b.name≠a.name:=fun e=>hn.1 (List.mem_map.2 ⟨a,h,e.symm⟩)
   rw[valsL,beqBytes_no hne,vals_one hn.2 h]
def cond1 (o:Ob) (a:At):Bool:=match beqInt (itY a.v) 9 with
 |true=>dateB o a.name [a.v]
 |false=>(ofS (cusB a.name) o a.name).any (pA a.v)
theorem isB_iff {o:Ob} {L:List At} (hn:(L.map (·.name)).Nodup):isB o L=true↔∀a∈L,cond1 o a=true:=by
 unfold isB
 rw[List.all_eq_true]
 refine ⟨fun h a ha=> ?_,fun h a ha=> ?_⟩
 all_goals
  have h1:=h a ha
  unfold condB at*
  unfold cond1 at*
  rw[vals_one hn ha] at*
  exact h1
theorem isB_perm {o:Ob} {L D:List At} (hp:D.Perm L) (hn:(L.map (·.name)).Nodup):isB o D=isB o L:=by
 have hd:(D.map (·.name)).Nodup:=(hp.map _).nodup_iff.2 hn
 rw[Bool.eq_iff_iff,isB_iff hd,isB_iff hn]
 exact ⟨fun h a ha=>h a (hp.mem_iff.2 ha),fun h a ha=>h a (hp.mem_iff.1 ha)⟩
theorem isB_sub {o:Ob} {L D:List At} (hs:D.Sublist L) (hn:(L.map (·.name)).Nodup) (h:isB o L=true):isB o D=true:=by
 rw[isB_iff (hn.sublist (hs.map _))]
 exact fun a ha=>(isB_iff hn).1 h a (hs.subset ha)
theorem filt_le {p q:Ob→Bool} (h:∀o,p o=true→q o=true):∀l:List Ob,(l.filter p).length≤(l.filter q).length
 |[]=>Nat.le_refl _
 | o::r=>by
  have ih:=filt_le h r
  rw[List.filter_cons,List.filter_cons]
  cases hp:p o with
  |true=>rw[if_pos rfl,if_pos (h o hp)];simp only[List.length_cons];omega
  |false=>
   rw[if_neg (by simp)]
   split
   ·simp only[List.length_cons];omega
   ·exact ih
theorem cntB_sub {L D:List At} (hs:D.Sublist L) (hn:(L.map (·.name)).Nodup) (l:List Ob):cntB L l≤cntB D l:=filt_le (fun _ h=>isB_sub hs hn h) l
def dupK (C:List At):Nat→Bool
 |0=>false
 |k+1=>dupK C k||(match C[k]? with
  |none=>false
  |some a=>(C.take k).any fun x=>beqBytes a.name x.name)
theorem dup_nodup {C:List At}:∀ {i:Nat},i≤C.length→dupK C i=false→((C.take i).map (·.name)).Nodup
 |0,_,_=>by simp
 |i+1,hi,h=>by
  have g:=List.getElem?_eq_getElem (show i<C.length by omega)
  rw[dupK,g,Bool.or_eq_false_iff] at h
  rw[take_snoc g,List.map_append,List.map_singleton]
  refine nodup_snoc (dup_nodup (by omega) h.1) fun hm=> ?_
  obtain ⟨x,hx,e⟩:=List.mem_map.1 hm
  have:=List.any_eq_false.1 h.2 x hx
  rw[beqBytes_iff.2 e.symm] at this
  exact this rfl
theorem dup_up {C:List At} {i:Nat} (h:dupK C i=true):∀j,i≤j→dupK C j=true
 |0,hj=>by
  have:i=0:=by omega
  subst this
  exact h
 | j+1,hj=>by
  by_cases e:i=j+1
  ·subst e;exact h
  ·rw[dupK,dup_up h j (by omega)]
   rfl
theorem pop_same {C D:List At} {os P:List Ob} (hI:LsI os) (hb:os.length≤12) (hp:P.Perm os) (hd:D.Perm C) (hn:(C.map (·.name)).Nodup):popS D P=popS C os:=by
 have e:(fun o=>isB o D)=fun o=>isB o C:=funext fun o=>isB_perm hd hn
 have h1:=pop_perm D P
 rw[e] at h1
 have h2:=pop_perm C os
 refine sorted_eq (h1.trans ((hp.filter _).trans h2.symm)) (pop_sorted D P) (pop_sorted C os) fun a ha b hb' e1 e2=> ?_
 obtain ⟨i,hi⟩:=List.getElem?_of_mem (List.mem_filter.1 (h2.mem_iff.1 ha)).1
 obtain ⟨j,hj⟩:=List.getElem?_of_mem (List.mem_filter.1 (h2.mem_iff.1 hb')).1
 have hid:=ltO_id e1 e2
 rw[(hI i a hi).2,(hI j b hj).2] at hid
 have hi':=(List.getElem?_eq_some_iff.1 hi).1
 have hj':=(List.getElem?_eq_some_iff.1 hj).1
 have:i=j:=chS_inj i j (by omega) (by omega) hid
 subst this
 rw[hi] at hj
 exact Option.some.inj hj
section
variable {C:List At} {os:List Ob} {last i:Int} {Q:AExit→St→Prop}
theorem zj_loop (hb:C.length≤1000) {k:Nat} {a:At} (hk:C[k]? =some a) (t0:Bool)
  (hq:Q (.exit 4) (zjV (t0||(C.take k).any fun x=>beqBytes a.name x.name) (.ofNat k) (.ofNat k) last i (os.map obA) (C.map atA)).st):
  ∀m j,j+m=k→ALp Tryz.prog opts0.glob 0 (lpCode Tryz.prog 14 17) (zjV (t0||(C.take j).any fun x=>beqBytes a.name x.name) (.ofNat j) (.ofNat k) last i (os.map obA) (C.map atA)).st Q:=by
 have hL:=closed_ats C
 have hO:=closed_obs os
 intro m
 induction m with
 |zero=>
  intro j hj
  have hj:j=k:=by omega
  subst hj
  generalize (t0||(C.take j).any fun x=>beqBytes a.name x.name)=tt at hq⊢
  refine ALp.round (A:=zjA (.str []::I 0::itF 0 0 0 [] []) (.str []::I 0::itF 0 0 0 [] [])) (V1:=zjV tt 0 (.ofNat j) last i (os.map obA) (C.map atA)) (V2:=zjV tt 0 (.ofNat j) last i (os.map obA) (C.map atA)) (F:=zjV tt (.ofNat j) (.ofNat j) last i (os.map obA) (C.map atA)) (lk:=[]) (lk':=[]) base0 aidJ_ok (LsOk.no rfl) .refl ?_
  rw[zj_r]
  exact mtF (ltn_n (Nat.le_refl _)) ⟨⟨⟨⟨rfl,rfl⟩,⟨rfl,rfl⟩,⟨rfl,rfl⟩,⟨rfl,rfl⟩,⟨rfl,hO⟩,⟨rfl,hL⟩,⟨rfl,rfl⟩,⟨rfl,rfl⟩,trivial⟩,trivial,trivial⟩,hq⟩
 | succ m ih=>
  intro j hj
  have hkl:k<C.length:=(List.getElem?_eq_some_iff.1 hk).1
  have g:=List.getElem?_eq_getElem (show j<C.length by omega)
  have ih:=ih (j+1) (by omega)
  rw[take_snoc g,List.any_append,←Bool.or_assoc] at ih
  revert g ih
  generalize C[j]=x
  intro g ih
  have e1:(([x]:List At).any fun x=>beqBytes a.name x.name)=beqBytes a.name x.name:=by rw[List.any_cons,List.any_nil,Bool.or_false]
  rw[e1] at ih
  revert ih
  generalize (t0||(C.take j).any fun x=>beqBytes a.name x.name)=tt
  intro ih
  obtain ⟨s,ix,⟨t,y,q,d,ks⟩⟩:=a
  obtain ⟨s',ix',⟨t',y',q',d',ks'⟩⟩:=x
  simp only at ih
  refine ALp.round (A:=zjA (.str s::I ix::itF t y q (toBytes d) (itAs ks)) (.str s'::I ix'::itF t' y' q' (toBytes d') (itAs ks'))) (V1:=zjV (tt||beqBytes s s') (.ofNat (j+1)) (.ofNat k) last i (os.map obA) (C.map atA)) (V2:=zjV (tt||beqBytes s s') (.ofNat (j+1)) (.ofNat k) last i (os.map obA) (C.map atA)) (F:=zjV tt (.ofNat j) (.ofNat k) last i (os.map obA) (C.map atA)) (lk:=[]) (lk':=[]) base0 aidJ_ok (LsOk.no rfl) .refl ?_
  rw[zj_r,wrp (p:=j) (by omega)]
  refine mtT (ltn_y (by omega)) (mtB_of (fun e=> ?_) fun e=>⟨idxT hk,idxT g, ?_⟩)
  ·subst e
   exact ⟨⟨⟨⟨rfl,rfl⟩,⟨rfl,rfl⟩,⟨rfl,rfl⟩,⟨rfl,rfl⟩,⟨rfl,hO⟩,⟨rfl,hL⟩,⟨rfl,rfl⟩,⟨rfl,rfl⟩,trivial⟩,trivial,trivial⟩,ih⟩
  ·subst e
   exact ⟨⟨⟨⟨rfl,rfl⟩,⟨rfl,rfl⟩,⟨rfl,rfl⟩,⟨rfl,rfl⟩,⟨rfl,hO⟩,⟨rfl,hL⟩,⟨rfl,rfl⟩,⟨rfl,rfl⟩,trivial⟩,trivial,trivial⟩,ih⟩
theorem zj_at:loopsAt (lpCode Tryz.prog 14 14) 17=[lpCode Tryz.prog 14 17]:=by kernel_rfl
theorem zk_at:loopsAt (lpCode Tryz.prog 14 10) 14=[lpCode Tryz.prog 14 14]:=by kernel_rfl
theorem zk_loop (hb:C.length≤1000) {i:Nat} (hi:i≤C.length)
  (hq:Q (.exit 2) (zkV (dupK C i) (.ofNat i) last (.ofNat i) (os.map obA) (C.map atA)).st):
  ∀m k,k+m=i→ALp Tryz.prog opts0.glob 0 (lpCode Tryz.prog 14 14) (zkV (dupK C k) (.ofNat k) last (.ofNat i) (os.map obA) (C.map atA)).st Q:=by
 have hL:=closed_ats C
 have hO:=closed_obs os
 intro m
 induction m with
 |zero=>
  intro k hk
  have hk:k=i:=by omega
  subst hk
  generalize dupK C k=tt at hq⊢
  refine ALp.round (A:=aidJ [] [(17,zjL False tt false (.ofNat k) last (.ofNat k) (os.map obA) (C.map atA))] noSem [] []) (V1:=zkV false 0 last (.ofNat k) (os.map obA) (C.map atA)) (V2:=zkV false 0 last (.ofNat k) (os.map obA) (C.map atA)) (F:=zkV tt (.ofNat k) last (.ofNat k) (os.map obA) (C.map atA)) (lk:=[]) (lk':=[]) base0 aidJ_ok (LsOk.at1 rfl zj_at fun st Q hs=>hs.1.elim) .refl ?_
  rw[zk_r]
  exact mtF (ltn_n (Nat.le_refl _)) ⟨⟨⟨⟨rfl,rfl⟩,⟨rfl,rfl⟩,⟨rfl,rfl⟩,⟨rfl,hO⟩,⟨rfl,hL⟩,⟨rfl,rfl⟩,⟨rfl,rfl⟩,trivial⟩,trivial,trivial⟩,hq⟩
 |succ m ih=>
  intro k hk
  have g:=List.getElem?_eq_getElem (show k<C.length by omega)
  have ih:=ih (k+1) (by omega)
  have hd:dupK C (k+1)=(dupK C k||(C.take k).any fun x=>beqBytes (C[k]'(show k<C.length by omega)).name x.name):=by rw[dupK,g]
  rw[hd] at ih
  have hj:=fun (Q:AExit→St→Prop) hq=>zj_loop (os:=os) (last:=last) (i:= .ofNat i) (Q:=Q) hb g (dupK C k) hq k 0 (Nat.zero_add _)
  simp only[List.take_zero,List.any_nil,Bool.or_false] at hj
  revert ih hj
  generalize (dupK C k||(C.take k).any fun x=>beqBytes (C[k]'(show k<C.length by omega)).name x.name)=tt'
  generalize dupK C k=tt
  intro ih hj
  refine ALp.round (A:=aidJ [] [(17,zjL True tt tt' (.ofNat k) last (.ofNat i) (os.map obA) (C.map atA))] noSem [] []) (V1:=zkV tt' (.ofNat (k+1)) last (.ofNat i) (os.map obA) (C.map atA)) (V2:=zkV tt' (.ofNat (k+1)) last (.ofNat i) (os.map obA) (C.map atA)) (F:=zkV tt (.ofNat k) last (.ofNat i) (os.map obA) (C.map atA)) (lk:=[]) (lk':=[]) base0 aidJ_ok (LsOk.at1 rfl zj_at fun st Q hs=> .seen base0.glob hs.2.1 (hj Q hs.2.2)) .refl ?_
  rw[zk_r,wrp (p:=k) (by omega)]
  exact mtT (ltn_y (by omega)) ⟨trivial,⟨⟨⟨rfl,rfl⟩,⟨rfl,rfl⟩,⟨rfl,rfl⟩,⟨rfl,rfl⟩,⟨rfl,hO⟩,⟨rfl,hL⟩,⟨rfl,rfl⟩,⟨rfl,rfl⟩,trivial⟩,trivial,trivial⟩,⟨⟨⟨rfl,rfl⟩,⟨rfl,rfl⟩,⟨rfl,rfl⟩,⟨rfl,hO⟩,⟨rfl,hL⟩,⟨rfl,rfl⟩,⟨rfl,rfl⟩,trivial⟩,trivial,trivial⟩,ih⟩
end
def lastN (C:List At) (os:List Ob):Nat→Nat
 |0=>os.length
 |i+1=>cntB (C.take i) os
def exD (d:Bool):AExit:=match d with
 |true=> .ret
 |false=> .exit 0
theorem sl_ats {C:List At} {i:Nat} (hi:i≤C.length):sliceA Tryz.prog 43 (.fsl false (C.map atA)) none (some (I (.ofNat i))) none=some (.val (.fsl false ((C.take i).map atA))):=by
 have hh:headSize 7 (C.map atA)=true:=by
  cases C with
  |nil=>rfl
  |cons a r=>obtain ⟨s,ix,⟨t,y,q,d,ks⟩⟩:=a;rfl
 rw[List.map_take]
 exact sl_takeL (e:=39) (sz:=7) (by kernel_rfl) (by kernel_rfl) hh (by rw[List.length_map];exact hi)
theorem find_len {L:List At} {l:List Ob}:(findS (-1) L l).length=cntB L l:=by
 rw[find_eq,takM,ltInt_iff.2 (by decide)]
 rw[List.length_map,(pop_perm L l).length_eq]
 rfl
section
variable {C:List At} {os:List Ob} {Q:AExit→St→Prop}
theorem za_run (hb:C.length≤1000) (hf:∀i,i≤C.length→SC 53 [.fsl false (os.map obA),.fsl false ((C.take i).map atA),I (-1)] (.fsl false ((findS (-1) (C.take i) os).map .str)))
  (hq:Q (exD (dupK C C.length)) (zaF (dupK C C.length) (os.map obA) (C.map atA)).st):
  ∀m i,i+m=C.length+1→(∀j,j<i→dupK C j=false)→ALp Tryz.prog opts0.glob 0 (lpCode Tryz.prog 14 10) (zaV (.ofNat (lastN C os i)) (.ofNat i) (os.map obA) (C.map atA)).st Q:=by
 have hL:=closed_ats C
 have hO:=closed_obs os
 have hlen:lenN (C.map atA)=C.length:=by rw[lenN_eq,List.length_map]
 intro m
 induction m with
 |zero=>
  intro i hi hd
  have hi:i=C.length+1:=by omega
  subst hi
  rw[hd C.length (by omega)] at hq
  have hq:Q (.exit 0) (zaF false (os.map obA) (C.map atA)).st:=hq
  refine ALp.round (A:=zaA False false (.ofNat (lastN C os (C.length+1))) (.ofNat (C.length+1)) (os.map obA) (C.map atA) [] []) (V1:=zaV 0 0 (os.map obA) (C.map atA)) (V2:=zaV 0 0 (os.map obA) (C.map atA)) (F:=zaF false (os.map obA) (C.map atA)) (lk:=[]) (lk':=[]) base0 aidJ_ok (LsOk.at1 rfl zk_at fun st Q hs=>hs.1.elim) .refl ?_
  rw[za_r,hlen]
  exact mtF (by rw[ltn_y (Nat.lt_succ_self _)];rfl) ⟨⟨⟨⟨rfl,rfl⟩,⟨rfl,hO⟩,⟨rfl,hL⟩,trivial⟩,trivial,trivial⟩,hq⟩
 | succ m ih=>
  intro i hi hd
  have hil:i≤C.length:=by omega
  have hk:=fun (Q:AExit→St→Prop) hq=>zk_loop (os:=os) (last:= .ofNat (lastN C os i)) (Q:=Q) hb hil hq i 0 (Nat.zero_add _)
  have hyes:(!ltInt (Int.ofNat C.length) (Int.ofNat i))=true:=by rw[ltn_n hil];rfl
  cases hdi:dupK C i with
  |true=>
   have hd2:=dup_up hdi C.length hil
   rw[hd2] at hq
   rw[hdi] at hk
   have hq:Q .ret (zaF true (os.map obA) (C.map atA)).st:=hq
   refine ALp.round (A:=zaA True true (.ofNat (lastN C os i)) (.ofNat i) (os.map obA) (C.map atA) [] []) (V1:=zaV 0 0 (os.map obA) (C.map atA)) (V2:=zaV 0 0 (os.map obA) (C.map atA)) (F:=zaF true (os.map obA) (C.map atA)) (lk:=[]) (lk':=[]) base0 aidJ_ok (LsOk.at1 rfl zk_at fun st Q hs=> .seen base0.glob hs.2.1 (hk Q hs.2.2)) .refl ?_
   rw[za_r,hlen]
   exact mtT hyes ⟨trivial,⟨⟨⟨rfl,rfl⟩,⟨rfl,rfl⟩,⟨rfl,rfl⟩,⟨rfl,hO⟩,⟨rfl,hL⟩,⟨rfl,rfl⟩,⟨rfl,rfl⟩,trivial⟩,trivial,trivial⟩,⟨⟨⟨rfl,rfl⟩,⟨rfl,hO⟩,⟨rfl,hL⟩,trivial⟩,trivial,trivial⟩,hq⟩
  | false=>
   have ih:=ih (i+1) (by omega) (fun j hj=>by
    by_cases e:j=i
    ·subst e;exact hdi
    ·exact hd j (by omega))
   rw[hdi] at hk
   have hfi:=hf i hil
   have hle:cntB (C.take i) os≤lastN C os i:=by
    cases i with
    |zero=>exact cntB_le _ _
    |succ i=>
     refine cntB_sub ?_ (dup_nodup hil hdi) os
     rw[take_snoc (List.getElem?_eq_getElem (show i<C.length by omega))]
     exact List.sublist_append_left _ _
   have hfl:lenN ((findS (-1) (C.take i) os).map AV.str)=cntB (C.take i) os:=by rw[lenN_eq,List.length_map,find_len]
   have hsl:=sl_ats hil
   refine ALp.round (A:=zaA True false (.ofNat (lastN C os i)) (.ofNat i) (os.map obA) (C.map atA) ((C.take i).map atA) ((findS (-1) (C.take i) os).map .str)) (V1:=zaV (.ofNat (cntB (C.take i) os)) (.ofNat (i+1)) (os.map obA) (C.map atA)) (V2:=zaV (.ofNat (cntB (C.take i) os)) (.ofNat (i+1)) (os.map obA) (C.map atA)) (F:=zaF false (os.map obA) (C.map atA)) (lk:=[]) (lk':=[]) base0 aidJ_ok (LsOk.at1 rfl zk_at fun st Q hs=> .seen base0.glob hs.2.1 (hk Q hs.2.2)) .refl ?_
   rw[za_r,hlen,hfl,wrp (p:=i) (by omega)]
   exact mtT hyes ⟨trivial,⟨⟨⟨rfl,rfl⟩,⟨rfl,rfl⟩,⟨rfl,rfl⟩,⟨rfl,hO⟩,⟨rfl,hL⟩,⟨rfl,rfl⟩,⟨rfl,rfl⟩,trivial⟩,trivial,trivial⟩,hsl,hfi,mtF (ltn_n hle) ⟨⟨⟨⟨rfl,rfl⟩,⟨rfl,hO⟩,⟨rfl,hL⟩,⟨rfl,rfl⟩,⟨rfl,rfl⟩,trivial⟩,trivial,trivial⟩,ih⟩⟩
end
section
variable {Cs As:List AV} {os:List Ob} {Q:AExit→St→Prop}
theorem zs_run0 (hC:closedAll Cs=true) (hA:closedAll As=true) (hq:Q (.exit 6) (zsV0 0 Cs As).st):ALp Tryz.prog opts0.glob 0 (lpCode Tryz.prog 14 29) (zsV0 0 Cs As).st Q:=by
 refine ALp.round (A:=aidJ [(28,4,.res (.bool false))] [] noSem [] []) (V1:=zsV0 0 Cs As) (V2:=zsV0 0 Cs As) (F:=zsV0 0 Cs As) (lk:=[]) (lk':=[]) base0 aidJ_ok (LsOk.no rfl) .refl ?_
 rw[zs_r0]
 exact ⟨lss_f (Int.le_refl _),⟨⟨⟨rfl,hC⟩,⟨rfl,hA⟩,⟨rfl,rfl⟩,⟨rfl,rfl⟩,trivial⟩,trivial,trivial⟩,hq⟩
theorem half_n (n:Nat) (h:n≤1000):wrapA .i64 ((Int.ofNat n).tdiv 2)=Int.ofNat (n/2):=by
 rw[show (Int.ofNat n).tdiv 2=Int.ofNat (n/2) from rfl]
 exact wrapA_i64 (by simp only[Int.ofNat_eq_natCast];omega) (by simp only[Int.ofNat_eq_natCast];omega)
theorem far_n {n i:Nat} (h:n≤1000) (hi:i<n):wrapA .i64 (wrapA .i64 (Int.ofNat n-1)-Int.ofNat i)=Int.ofNat (n-1-i):=by
 rw[wrapA_i64 (n:=Int.ofNat n-1) (by simp only[Int.ofNat_eq_natCast];omega) (by simp only[Int.ofNat_eq_natCast];omega),wrapA_i64 (by simp only[Int.ofNat_eq_natCast];omega) (by simp only[Int.ofNat_eq_natCast];omega)]
 simp only[Int.ofNat_eq_natCast]
 omega
def swR (n:Nat):Nat→Nat→List Ob→List Ob
 |0,_,P=>P
 |m+1,i,P=>swR n m (i+1) (swp P i (n-1-i))
theorem swR_perm (n:Nat):∀ (m i:Nat) (P:List Ob),(swR n m i P).Perm P
 |0,_,_=> .refl _
 |m+1,i,P=>(swR_perm n m (i+1) _).trans (swp_perm P i (n-1-i))
theorem zs_run (hb:os.length≤1000) (hC:closedAll Cs=true) (hA:closedAll As=true):
  ∀m i (P:List Ob),i+m=os.length/2→P.Perm os→Q (.exit 6) (zsV1 (.ofNat (os.length/2)) Cs As os.length (flO (swR os.length m i P))).st→ALp Tryz.prog opts0.glob 0 (lpCode Tryz.prog 14 29) (zsV1 (.ofNat i) Cs As os.length (flO P)).st Q:=by
 intro m
 induction m with
 |zero=>
  intro i P hi hP hq
  have hi:i=os.length/2:=by omega
  subst hi
  refine ALp.round (A:=zsA (obC zO) (obC zO)) (V1:=zsV1 0 Cs As os.length (flO P)) (V2:=zsV1 0 Cs As os.length (flO P)) (F:=zsV1 (.ofNat (os.length/2)) Cs As os.length (flO P)) (lk:=[(0,0)]) (lk':=[(0,0)]) base0 aidJ_ok (LsOk.no rfl) .refl ?_
  rw[zs_r1,half_n _ hb]
  exact mtF (ltn_n (Nat.le_refl _)) ⟨⟨⟨⟨rfl,hC⟩,⟨rfl,hA⟩,⟨rfl,rfl⟩,trivial⟩,⟨⟨rfl,rfl,rfl,rfl,rfl⟩,trivial⟩,⟨rfl,closed_flO P⟩,trivial⟩,hq⟩
 | succ m ih=>
  intro i P hi hP hq
  have hl:=hP.length_eq
  have hi1:i<P.length:=by omega
  have hj1:os.length-1-i<P.length:=by omega
  have ga:=List.getElem?_eq_getElem hi1
  have gb:=List.getElem?_eq_getElem hj1
  have ih:=ih (i+1) (swp P i (os.length-1-i)) (by omega) ((swp_perm P i (os.length-1-i)).trans hP) hq
  revert ga gb
  generalize P[i]=a
  generalize P[os.length-1-i]=b
  intro ga gb
  have h1:=spl_ob hi1 b
  have h2:=spl_ob (l:=P.set i b) (i:=os.length-1-i) (by rw[List.length_set];exact hj1) a
  rw[←swp_set ga gb] at h2
  have hfar:=far_n hb (show i<os.length by omega)
  have hlen1:(flO P).length=P.length*37:=flO_len P
  have hlen:(flO (P.set i b)).length=P.length*37:=by rw[flO_len,List.length_set]
  refine ALp.round (A:=zsA (obC b) (obC a)) (V1:=zsV1 (.ofNat (i+1)) Cs As os.length (flO (swp P i (os.length-1-i)))) (V2:=zsV1 (.ofNat (i+1)) Cs As os.length (flO (swp P i (os.length-1-i)))) (F:=zsV1 (.ofNat i) Cs As os.length (flO P)) (lk:=[(0,0)]) (lk':=[(0,0)]) base0 aidJ_ok (LsOk.no rfl) .refl ?_
  rw[zs_r1,half_n _ hb,hfar,wrp (p:=i) (by omega),h1,h2]
  refine mtT (ltn_y (by omega)) (oblB_of (flO_blt (by omega)) ⟨part_obj gb,oblB_of (flO_blt (by omega)) ⟨part_obj ga,oblB_of (flO_blt (by omega)) (oblB_of (fits_obh b) (oblB_of (ble_of ?_) (oblB_of (flO_blt (by omega)) (oblB_of (fits_obh a) (oblB_of (ble_of ?_) ⟨⟨⟨⟨rfl,hC⟩,⟨rfl,hA⟩,⟨rfl,rfl⟩,trivial⟩,⟨⟨rfl,rfl,rfl,rfl,rfl⟩,trivial⟩,⟨rfl,closed_flO _⟩,trivial⟩,ih⟩)))))⟩⟩)
  ·rw[lenN_eq,hlen1]
   simp only[Int.ofNat_eq_natCast,Int.toNat_natCast]
   omega
  ·rw[lenN_eq,hlen]
   simp only[Int.ofNat_eq_natCast,Int.toNat_natCast]
   omega
end
section
variable {C:List At} {b:Bool} {As Bs:List AV} {Q:AExit→St→Prop}
noncomputable def zdW (i:Int) (b:Bool) (Cs As Bs:List AV):List At→View
 |[]=>zdV0 i b Cs As Bs
 |a::r=>zdV1 i b Cs As Bs (r.length+1) (flT (a::r))
theorem neg_no:(!ltInt (-1) 0)=false:=by decide
theorem zd_stop (hA:closedAll As=true) (hB:closedAll Bs=true) (L:List At) (hq:Q (.exit 8) (zdW (-1) b (C.map atA) As Bs L).st):ALp Tryz.prog opts0.glob 0 (lpCode Tryz.prog 14 34) (zdW (-1) b (C.map atA) As Bs L).st Q:=by
 have hL:=closed_ats C
 cases L with
 |nil=>
  refine ALp.round (A:=zdA (.str []::I 0::itF 0 0 0 [] [])) (V1:=zdV1 0 b (C.map atA) As Bs 1 []) (V2:=zdV1 0 b (C.map atA) As Bs 1 []) (F:=zdV0 (-1) b (C.map atA) As Bs) (lk:=[(0,8)]) (lk':=[]) base0 aidJ_ok (LsOk.no rfl) .refl ?_
  show wpK Tryz.prog opts0 40 _ _ (zdV0 (-1) b (C.map atA) As Bs).st _
  rw[zd_r0]
  exact mtF neg_no ⟨⟨⟨⟨rfl,hL⟩,⟨rfl,hA⟩,⟨rfl,hB⟩,⟨rfl,rfl⟩,⟨rfl,rfl⟩,trivial⟩,trivial,trivial⟩,hq⟩
 |cons x r=>
  have hc:=closed_flT (x::r)
  refine ALp.round (A:=zdA (.str []::I 0::itF 0 0 0 [] [])) (V1:=zdV1 0 b (C.map atA) As Bs (r.length+1+1) []) (V2:=zdV1 0 b (C.map atA) As Bs (r.length+1+1) []) (F:=zdV1 (-1) b (C.map atA) As Bs (r.length+1) (flT (x::r))) (lk:=[(0,9)]) (lk':=[(0,0)]) base0 aidJ_ok (LsOk.no rfl) .refl ?_
  show wpK Tryz.prog opts0 40 _ _ (zdV1 (-1) b (C.map atA) As Bs (r.length+1) (flT (x::r))).st _
  rw[zd_r1]
  exact mtF neg_no ⟨⟨⟨⟨rfl,hL⟩,⟨rfl,hA⟩,⟨rfl,hB⟩,⟨rfl,rfl⟩,trivial⟩,⟨⟨rfl,rfl,rfl,rfl,rfl⟩,trivial⟩,⟨rfl,hc⟩,trivial⟩,hq⟩
theorem dec_m (m:Nat) (h:m≤1000):wrapA .i64 ((m:Int)-1)=(m:Int)-1:=wrapA_i64 (by omega) (by omega)
theorem zd_step (hA:closedAll As=true) (hB:closedAll Bs=true) (hb:C.length≤1000) {m:Nat} {a:At} (g:C[m]? =some a) (L:List At) (hl:L.length≤1000)
  (hn:ALp Tryz.prog opts0.glob 0 (lpCode Tryz.prog 14 34) (zdW ((m:Int)-1) b (C.map atA) As Bs (L++[a])).st Q):ALp Tryz.prog opts0.glob 0 (lpCode Tryz.prog 14 34) (zdW (.ofNat m) b (C.map atA) As Bs L).st Q:=by
 have hL:=closed_ats C
 have hm:m<C.length:=(List.getElem?_eq_some_iff.1 g).1
 have yes:(!ltInt (Int.ofNat m) 0)=true:=by rw[ltInt_false.2 (by simp only[Int.ofNat_eq_natCast];omega)];rfl
 have hw:wrapA .i64 (Int.ofNat m-1)=(m:Int)-1:=dec_m m (by omega)
 have hask:=fun k (h:k≤100000)=>ask_at a (k:=k) h
 obtain ⟨s,ix,⟨t,y,q,d,ks⟩⟩:=a
 have gx:=idxT (f:=false) g
 cases L with
 |nil=>
  have hc:=closed_flT [⟨s,ix,.mk t y q d ks⟩]
  have hn:ALp Tryz.prog opts0.glob 0 (lpCode Tryz.prog 14 34) (zdV1 ((m:Int)-1) b (C.map atA) As Bs 1 (flT [⟨s,ix,.mk t y q d ks⟩])).st Q:=hn
  refine ALp.round (A:=zdA (.str s::I ix::itF t y q (toBytes d) (itAs ks))) (V1:=zdV1 ((m:Int)-1) b (C.map atA) As Bs 1 (flT [⟨s,ix,.mk t y q d ks⟩])) (V2:=zdV1 ((m:Int)-1) b (C.map atA) As Bs 1 (flT [⟨s,ix,.mk t y q d ks⟩])) (F:=zdV0 (.ofNat m) b (C.map atA) As Bs) (lk:=[(0,8)]) (lk':=[]) base0 aidJ_ok (LsOk.no rfl) .refl ?_
  show wpK Tryz.prog opts0 40 _ _ (zdV0 (.ofNat m) b (C.map atA) As Bs).st _
  rw[zd_r0,hw]
  exact mtT yes ⟨gx,⟨⟨⟨rfl,hL⟩,⟨rfl,hA⟩,⟨rfl,hB⟩,⟨rfl,rfl⟩,trivial⟩,⟨⟨rfl,rfl,rfl,rfl,rfl⟩,trivial⟩,⟨rfl,hc⟩,trivial⟩,hn⟩
 |cons x r=>
  simp only[List.length_cons] at hl
  have hn:ALp Tryz.prog opts0.glob 0 (lpCode Tryz.prog 14 34) (zdV1 ((m:Int)-1) b (C.map atA) As Bs ((r++[(⟨s,ix,.mk t y q d ks⟩:At)]).length+1) (flT ((x::r)++[⟨s,ix,.mk t y q d ks⟩]))).st Q:=hn
  rw[List.length_append,List.length_singleton] at hn
  have hc:=closed_flT ((x::r)++[⟨s,ix,.mk t y q d ks⟩])
  have e1:flT (x::r)++flT [⟨s,ix,.mk t y q d ks⟩]=flT ((x::r)++[⟨s,ix,.mk t y q d ks⟩]):=(flT_app _ _).symm
  refine ALp.round (A:=zdA (.str s::I ix::itF t y q (toBytes d) (itAs ks))) (V1:=zdV1 ((m:Int)-1) b (C.map atA) As Bs (r.length+1+1) (flT ((x::r)++[⟨s,ix,.mk t y q d ks⟩]))) (V2:=zdV1 ((m:Int)-1) b (C.map atA) As Bs (r.length+1+1) (flT ((x::r)++[⟨s,ix,.mk t y q d ks⟩]))) (F:=zdV1 (.ofNat m) b (C.map atA) As Bs (r.length+1) (flT (x::r))) (lk:=[(0,9)]) (lk':=[(0,0)]) base0 aidJ_ok (LsOk.no rfl) .refl ?_
  show wpK Tryz.prog opts0 40 _ _ (zdV1 (.ofNat m) b (C.map atA) As Bs (r.length+1) (flT (x::r))).st _
  rw[zd_r1,hw]
  exact mtT yes ⟨gx,oblB_of (hask _ (by omega)) (oblB_of (len_flT (x::r)) ⟨⟨⟨⟨rfl,hL⟩,⟨rfl,hA⟩,⟨rfl,hB⟩,⟨rfl,rfl⟩,trivial⟩,⟨⟨rfl,rfl,rfl,rfl,rfl⟩,trivial⟩,⟨e1,hc⟩,trivial⟩,hn⟩)⟩
theorem zd_run (hA:closedAll As=true) (hB:closedAll Bs=true) (hb:C.length≤1000) (hq:Q (.exit 8) (zdW (-1) b (C.map atA) As Bs C.reverse).st):
  ∀m,m≤C.length→ALp Tryz.prog opts0.glob 0 (lpCode Tryz.prog 14 34) (zdW ((m:Int)-1) b (C.map atA) As Bs (C.drop m).reverse).st Q
 |0,_=>by
  rw[List.drop_zero]
  exact zd_stop hA hB _ hq
 |m+1,hm=>by
  have hlt:m<C.length:=by omega
  have g:=List.getElem?_eq_getElem hlt
  have ih:=zd_run hA hB hb hq m (by omega)
  rw[List.drop_eq_getElem_cons hlt,List.reverse_cons] at ih
  have:=zd_step hA hB hb g (C.drop (m+1)).reverse (by rw[List.length_reverse,List.length_drop];omega) ih
  rw[show (((m+1:Nat):Int)-1)=Int.ofNat m by simp only[Int.ofNat_eq_natCast];omega]
  exact this
end
theorem zc_run {ids:List (List UInt8)} {Q:AExit→St→Prop} (hb:ids.length≤1000) (hq:Q (.exit 10) zcF.st):∀m i,i+m=ids.length→ALp Tryz.prog opts0.glob 0 (lpCode Tryz.prog 14 41) (zcV (.ofNat i) (ids.map .str) (ids.map .str)).st Q:=by
 have hS:=closed_strs ids
 have hlen:lenN (ids.map AV.str)=ids.length:=by rw[lenN_eq,List.length_map]
 intro m
 induction m with
 |zero=>
  intro i hi
  have hi:i=ids.length:=by omega
  subst hi
  refine ALp.round (A:=zcA [] []) (V1:=zcV 0 (ids.map .str) (ids.map .str)) (V2:=zcV 0 (ids.map .str) (ids.map .str)) (F:=zcF) (lk:=[]) (lk':=[]) base0 aidJ_ok (LsOk.no rfl) .refl ?_
  rw[zc_r,hlen]
  exact mtF (ltn_n (Nat.le_refl _)) ⟨⟨trivial,trivial,trivial⟩,hq⟩
 |succ m ih=>
  intro i hi
  have hlt:i<ids.length:=by omega
  have g:=List.getElem?_eq_getElem hlt
  refine ALp.round (A:=zcA ids[i] ids[i]) (V1:=zcV (.ofNat (i+1)) (ids.map .str) (ids.map .str)) (V2:=zcV (.ofNat (i+1)) (ids.map .str) (ids.map .str)) (F:=zcF) (lk:=[]) (lk':=[]) base0 aidJ_ok (LsOk.no rfl) .refl ?_
  rw[zc_r,hlen,wrp (p:=i) (by omega)]
  exact mtT (ltn_y hlt) ⟨idxId g,idxId g,mtF (by rw[beqBytes_iff.2 rfl];rfl) ⟨⟨⟨⟨rfl,hS⟩,⟨rfl,hS⟩,⟨rfl,rfl⟩,trivial⟩,trivial,trivial⟩,ih (i+1) (by omega)⟩⟩
theorem za_at:loopsAt (fnCode Tryz.prog 14) 10=[lpCode Tryz.prog 14 10]:=by kernel_rfl
theorem zs_at:loopsAt (fnCode Tryz.prog 14) 29=[lpCode Tryz.prog 14 29]:=by kernel_rfl
theorem zd_at:loopsAt (fnCode Tryz.prog 14) 34=[lpCode Tryz.prog 14 34]:=by kernel_rfl
theorem zc_at:loopsAt (fnCode Tryz.prog 14) 41=[lpCode Tryz.prog 14 41]:=by kernel_rfl
theorem find_all {C:List At} {os:List Ob} (hn:∀a∈C,a.name∈nameL) (hb:C.length≤1000) (hob:os.length≤80000) (ho:∀o∈os,OxL o):SC 53 [.fsl false (os.map obA),.fsl false (C.map atA),I (-1)] (.fsl false ((findS (-1) C os).map .str)):=
 find_sem' hob (fun o h=>mis_sem (ho o h).h hn hb) (-1)
theorem sl_none (os:List Ob):sliceA Tryz.prog 72 (.fsl false (os.map obA)) none (some (I 0)) (some (I 0))=some (.val (.fsl true [])):=by
 have h1:elemOfA Tryz.prog 72=some 33:=by kernel_rfl
 have h2:sizeA Tryz.prog 33=some 37:=by kernel_rfl
 have hh:headSize 37 (os.map obA)=true:=by cases os<;>rfl
 show sliceFsl Tryz.prog 72 false (os.map obA) none (some 0) (some 0)=_
 unfold sliceFsl
 simp only[h1,h2,hh]
 cases os<;>rfl
theorem ls4m {P:Program} {G:Glob} {nx0 r1 r2 r3 r4:Nat} {L1 L2 L3 L4:LoopS} {b1 b2 b3 b4:Code} {c:Code} {A:Aid} (hA:A.ls=manyL [(r1,L1),(r2,L2),(r3,L3),(r4,L4)]) (a1:loopsAt c r1=[b1]) (a2:loopsAt c r2=[b2]) (a3:loopsAt c r3=[b3]) (a4:loopsAt c r4=[b4])
  (h1:∀s Q,L1 s Q→AWp P G nx0 (.loop b1) s Q) (h2:∀s Q,L2 s Q→AWp P G nx0 (.loop b2) s Q) (h3:∀s Q,L3 s Q→AWp P G nx0 (.loop b3) s Q) (h4:∀s Q,L4 s Q→AWp P G nx0 (.loop b4) s Q):LsOk P G nx0 A c:=
 LsOk.many hA fun p hp b hb s Q hs=>by
  simp only[List.mem_cons,List.not_mem_nil,or_false] at hp
  rcases hp with rfl|rfl|rfl|rfl
  ·rw[a1,List.mem_singleton] at hb;subst hb;exact h1 s Q hs
  ·rw[a2,List.mem_singleton] at hb;subst hb;exact h2 s Q hs
  ·rw[a3,List.mem_singleton] at hb;subst hb;exact h3 s Q hs
  ·rw[a4,List.mem_singleton] at hb;subst hb;exact h4 s Q hs
theorem frz_obs {H:Heap} {id:Nat} {L:List Ob} {c:List AV} {k:Nat} (hg:hget H id=some (.cells c)) (hc:c=flO L) (hk:k=L.length):Frz 0 H (.rsl true id 0 k 37) (.fsl false (L.map obA)):=
 .row (len:=k) rfl hg hc (by rw[hk,List.length_map]) (fun e he=>by obtain ⟨a,_,rfl⟩:=List.mem_map.1 he;exact ⟨rfl,rfl⟩) (closed_obs L)
theorem allSize_ob:∀l:List Ob,allSize 37 (l.map obA)=true
 |[]=>rfl
 |o::r=>by
  rw[List.map_cons,allSize,allSize_ob r]
  rfl
theorem law_sem (l ps w:List Rw) (hps:ps.length≤9223372036854775807):SC 14 [.fsl false (l.map rwA),.fsl false (ps.map rwA),.fsl false (w.map rwA)] (.bool true):=by
 obtain ⟨os,hol,hI,hlist⟩:=list_ex (l:=l) hps
 have hb:os.length≤12:=by omega
 have hR:=closed_rws l
 have hP:=closed_rws ps
 have hW:=closed_rws w
 have hO:=closed_obs os
 have hcl:closedAll [.fsl false (l.map rwA),.fsl false (ps.map rwA),.fsl false (w.map rwA)]=true:=by simp only[closedAll,closedA,hR,hP,hW,Bool.and_self]
 have hmem:∀o∈os,OxL o:=fun o ho=>by
  obtain ⟨j,hj⟩:=List.getElem?_of_mem ho
  exact (hI j o hj).1
 have hwant:=want_sem w 1
 have hCn:∀a∈wantS 1 w,a.name∈nameL:=fun a h=>want_name h
 have hCb:=want_len 1 w
 generalize wantS 1 w=C at hwant hCn hCb
 have hL:=closed_ats C
 have hrt:=mright_sem hCn (by omega)
 have hf0:=(find_all (C:=[]) (os:=os) (fun _ h=>by cases h) (Nat.zero_le _) (by omega) hmem).wkA (args:=[.fsl false (os.map obA),.nilsl,I (-1)]) (.cons (.refl _) (.cons .nil (.cons (.refl _) .nil)))
 have hl0:(findS (-1) ([]:List At) os).length=os.length:=by
  rw[find_len]
  unfold cntB
  rw[List.filter_eq_self.2 fun o _=>(rfl:isB o []=true)]
 have hf:∀i,i≤C.length→SC 53 [.fsl false (os.map obA),.fsl false ((C.take i).map atA),I (-1)] (.fsl false ((findS (-1) (C.take i) os).map .str)):=fun i _=>find_all (fun a h=>hCn a (List.mem_of_mem_take h)) (by rw[List.length_take];omega) (by omega) hmem
 have hrun:=fun (Q:AExit→St→Prop) hq=>za_run (Q:=Q) (show C.length≤1000 by omega) hf hq (C.length+1) 0 (Nat.zero_add _) (fun j hj=>absurd hj (Nat.not_lt_zero j))
 have e0:lastN C os 0=lenN (os.map obA):=by rw[lenN_eq,List.length_map];rfl
 rw[e0] at hrun
 have hlo:lenN (os.map obA)=os.length:=by rw[lenN_eq,List.length_map]
 have hl1:lenN ((findS (-1) ([]:List At) os).map AV.str)=os.length:=by rw[lenN_eq,List.length_map,hl0]
 by_cases hr:rightI C=0
 case neg=>
  refine fnK_semV (A:=aidJ [] [(10,zaL False .ret true (.ofNat (lenN (os.map obA))) (os.map obA) (C.map atA))] (zfT (rightI C) (os.map obA) (C.map atA) ((findS (-1) ([]:List At) os).map .str) []) [] []) base0 aidJ_ok (fnLs_of (LsOk.at1 rfl za_at fun st Q hs=>hs.1.elim)) hcl rfl ?_
  rw[zf_ret,hl1,hlo]
  exact ⟨hlist,hwant,known14_sem,hf0,mtF (by rw[beqInt_iff.2 rfl];rfl) ⟨hrt,mtT (by rw[beqInt_false.2 hr];rfl) rfl⟩⟩
 rw[hr] at hrt
 cases hd:dupK C C.length with
 |true=>
  rw[hd] at hrun
  refine fnK_semV (A:=aidJ [] [(10,zaL True .ret true (.ofNat (lenN (os.map obA))) (os.map obA) (C.map atA))] (zfT 0 (os.map obA) (C.map atA) ((findS (-1) ([]:List At) os).map .str) []) [] []) base0 aidJ_ok (fnLs_of (LsOk.at1 rfl za_at fun st Q hs=> .seen base0.glob hs.2.1 (hrun Q hs.2.2))) hcl rfl ?_
  rw[zf_ret,hl1,hlo]
  exact ⟨hlist,hwant,known14_sem,hf0,mtF (by rw[beqInt_iff.2 rfl];rfl) ⟨hrt,mtF rfl ⟨trivial,⟨⟨⟨rfl,rfl⟩,⟨rfl,hO⟩,⟨rfl,hL⟩,⟨rfl,rfl⟩,⟨rfl,rfl⟩,trivial⟩,trivial,trivial⟩,rfl⟩⟩⟩
 | false=>
  rw[hd] at hrun
  have hnd:=dup_nodup (Nat.le_refl _) hd
  rw[List.take_length] at hnd
  have hfa:=hf C.length (Nat.le_refl _)
  rw[List.take_length] at hfa
  have hDn:∀a∈C.reverse,a.name∈nameL:=fun a h=>hCn a (List.mem_reverse.1 h)
  have hDl:C.reverse.length=C.length:=List.length_reverse
  have hpm:=swR_perm os.length (os.length/2) 0 os
  have hsame:=find_eq (-1) C.reverse (swR os.length (os.length/2) 0 os)
  rw[pop_same hI hb hpm (List.reverse_perm C) hnd,←find_eq] at hsame
  have hfb:=find_all (C:=C.reverse) (os:=swR os.length (os.length/2) 0 os) hDn (by omega) (by have:=hpm.length_eq;omega) (fun o h=>hmem o (hpm.mem_iff.1 h))
  rw[hsame] at hfb
  have hAl:(findS (-1) C os).length≤1000:=by
   have:=cntB_le C os
   rw[find_len]
   omega
  have hS:=closed_strs (findS (-1) C os)
  have hlA:lenN ((findS (-1) C os).map AV.str)=(findS (-1) C os).length:=by rw[lenN_eq,List.length_map]
  have hlC:lenN (C.map atA)=C.length:=by rw[lenN_eq,List.length_map]
  have hzc:=fun (Q:AExit→St→Prop) hq=>zc_run (ids:=findS (-1) C os) (Q:=Q) hAl hq (findS (-1) C os).length 0 (Nat.zero_add _)
  have hdec:wrapA .i64 (Int.ofNat C.length-1)=(C.length:Int)-1:=dec_m C.length (by omega)
  have hsl:=sl_none os
  generalize hPe:swR os.length (os.length/2) 0 os=P at hpm hfb
  have hPo:=closed_obs P
  have hPl:=hpm.length_eq
  have hz0:=fun (Q:AExit→St→Prop) hq=>zd_run (b:=true) (As:=(findS (-1) C os).map .str) (Bs:=[]) (Q:=Q) hS rfl (show C.length≤1000 by omega) hq C.length (Nat.le_refl _)
  have hz1:=fun (Q:AExit→St→Prop) hq=>zd_run (b:=false) (As:=(findS (-1) C os).map .str) (Bs:=P.map obA) (Q:=Q) hS hPo (show C.length≤1000 by omega) hq C.length (Nat.le_refl _)
  rw[List.drop_of_length_le (Nat.le_refl _)] at hz0 hz1
  have hs1:=fun (Q:AExit→St→Prop) hq=>zs_run (os:=os) (Cs:=C.map atA) (As:=(findS (-1) C os).map .str) (Q:=Q) (by omega) hL hS (os.length/2) 0 os (Nat.zero_add _) (.refl _) hq
  rw[hPe] at hs1
  have hal:=allSize_ob os
  have hen:beqInt (Int.ofNat (findS (-1) C os).length) (Int.ofNat (findS (-1) C os).length)=true:=beqInt_iff.2 rfl
  cases hD:C.reverse with
  | nil=>
   have hC:C=[]:=List.reverse_eq_nil_iff.1 hD
   rw[hD] at hz0 hz1 hfb
   have hfb:=hfb.wkA (args:=[.fsl false (P.map obA),.nilsl,I (-1)]) (.cons (.refl _) (.cons .nil (.cons (.refl _) .nil)))
   subst hC
   cases os with
   | nil=>
    have hPn:P=[]:=List.eq_nil_of_length_eq_zero hPl
    subst hPn
    have hfb:=hfb.wkA (args:=[.fsl true [],.nilsl,I (-1)]) (.cons .full (.refl _))
    refine fnK_semV (A:=aidC2 (aidJ [(26,1,.res (.fsl true []))] [(10,zaL True (.exit 0) false (.ofNat (lenN ([]:List AV))) [] []),(29,zsL True [] (zsV0 0 [] ((findS (-1) ([]:List At) ([]:List Ob)).map .str)) (zsV0 0 [] ((findS (-1) ([]:List At) ([]:List Ob)).map .str))),(34,zdL True (zdV0 (-1) true [] ((findS (-1) ([]:List At) ([]:List Ob)).map .str) []) (zdV0 (-1) true [] ((findS (-1) ([]:List At) ([]:List Ob)).map .str) [])),(41,zcL True ((findS (-1) ([]:List At) ([]:List Ob)).map .str) ((findS (-1) ([]:List At) ([]:List Ob)).map .str))] (zfT 0 [] [] ((findS (-1) ([]:List At) ([]:List Ob)).map .str) ((findS (-1) ([]:List At) ([]:List Ob)).map .str)) [] []) 31 0 (zfV true [] ((findS (-1) ([]:List At) ([]:List Ob)).map .str) []) 36 0 (zgV true ((findS (-1) ([]:List At) ([]:List Ob)).map .str) [] .nilsl)) base0 (aidC2_ok aidJ_ok)
     (fnLs_of (ls4m rfl za_at zs_at zd_at zc_at (fun st Q hs=> .seen base0.glob hs.2.1 (hrun Q hs.2.2)) (fun st Q hs=> .seen base0.glob hs.2.1 (zs_run0 hL hS hs.2.2)) (fun st Q hs=> .seen base0.glob hs.2.1 (hz0 Q hs.2.2)) (fun st Q hs=> .seen base0.glob hs.2.1 (hzc Q hs.2.2)))) hcl rfl ?_
    rw[zf_00]
    have hneg:wrapA .i64 (Int.ofNat (lenN ([]:List AV))-1)= -1:=by kernel_rfl
    rw[hl1,hneg]
    exact ⟨hlist,hwant,known14_sem,hf0,mtF (by first|rfl|(rw[beqInt_iff.2 rfl];rfl)) ⟨hrt,trivial,⟨⟨⟨rfl,rfl⟩,⟨rfl,hO⟩,⟨rfl,hL⟩,⟨rfl,rfl⟩,⟨rfl,rfl⟩,trivial⟩,trivial,trivial⟩,hfa,hsl,trivial,⟨⟨⟨rfl,hL⟩,⟨rfl,hS⟩,⟨rfl,rfl⟩,⟨rfl,rfl⟩,trivial⟩,trivial,trivial⟩,⟨⟨.closed _ hL,.closed _ hS,.closed _ rfl,trivial⟩,trivial⟩,trivial,⟨⟨⟨rfl,hL⟩,⟨rfl,hS⟩,⟨rfl,rfl⟩,⟨rfl,rfl⟩,⟨rfl,rfl⟩,trivial⟩,trivial,trivial⟩,⟨⟨.closed _ hS,.closed _ rfl,.closed _ rfl,trivial⟩,trivial⟩,hfb,mtF (by first|rfl|(rw[hen];rfl)|(rw[beqInt_iff.2 rfl];rfl)) ⟨trivial,⟨⟨⟨rfl,hS⟩,⟨rfl,hS⟩,⟨rfl,rfl⟩,trivial⟩,trivial,trivial⟩,rfl⟩⟩⟩
   | cons o r=>
    refine fnK_semV (A:=aidC2 (aidJ [(26,1,.res (.fsl true []))] [(10,zaL True (.exit 0) false (.ofNat (lenN (AV.agg (obF o (matA o) (namA o) (lnkA o) (cusA o))::r.map obA))) (.agg (obF o (matA o) (namA o) (lnkA o) (cusA o))::r.map obA) []),(29,zsL True [(0,7)] (zsV1 0 [] ((findS (-1) ([]:List At) (o::r)).map .str) (r.length+1) (flO (o::r))) (zsV1 (.ofNat ((r.length+1)/2)) [] ((findS (-1) ([]:List At) (o::r)).map .str) (r.length+1) (flO P))),(34,zdL True (zdV0 (-1) false [] ((findS (-1) ([]:List At) (o::r)).map .str) (P.map obA)) (zdV0 (-1) false [] ((findS (-1) ([]:List At) (o::r)).map .str) (P.map obA))),(41,zcL True ((findS (-1) ([]:List At) (o::r)).map .str) ((findS (-1) ([]:List At) (o::r)).map .str))] (zfT 0 (.agg (obF o (matA o) (namA o) (lnkA o) (cusA o))::r.map obA) [] ((findS (-1) ([]:List At) (o::r)).map .str) ((findS (-1) ([]:List At) (o::r)).map .str)) [] []) 31 0 (zfV false [] ((findS (-1) ([]:List At) (o::r)).map .str) (P.map obA)) 36 0 (zgV false ((findS (-1) ([]:List At) (o::r)).map .str) (P.map obA) .nilsl)) base0 (aidC2_ok aidJ_ok)
     (fnLs_of (ls4m rfl za_at zs_at zd_at zc_at (fun st Q hs=> .seen base0.glob hs.2.1 (hrun Q hs.2.2)) (fun st Q hs=> .seen base0.glob hs.2.1 (hs1 Q hs.2.2)) (fun st Q hs=> .seen base0.glob hs.2.1 (hz1 Q hs.2.2)) (fun st Q hs=> .seen base0.glob hs.2.1 (hzc Q hs.2.2)))) hcl rfl ?_
    rw[zf_10]
    have hlx:lenN ((o::r).map obA)=r.length+1:=by rw[lenN_eq,List.length_map];rfl
    have hn0:r.length+1=0+lenN ((o::r).map obA):=by rw[hlx,Nat.zero_add]
    have hbe:(!beqInt (Int.ofNat (r.length+1)) (Int.ofNat (lenN ((o::r).map obA))))=false:=by rw[hlx,beqInt_iff.2 rfl];rfl
    have hl1:lenN ((findS (-1) ([]:List At) (o::r)).map AV.str)=r.length+1:=hl1
    have hobl:(allSize 37 ((o::r).map obA)&&(Nat.ble ((0+lenN ((o::r).map obA))*376) 140737488355328&&true))=true:=by
     have h1:Nat.ble ((0+lenN ((o::r).map obA))*376) 140737488355328=true:=ble_of (by rw[hlx];simp only[List.length_cons] at hb;omega)
     rw[hal,h1];rfl
    have hneg:wrapA .i64 (Int.ofNat (lenN ([]:List AV))-1)= -1:=by kernel_rfl
    rw[hl1,hneg]
    exact ⟨hlist,hwant,known14_sem,hf0,mtF hbe ⟨hrt,trivial,⟨⟨⟨rfl,rfl⟩,⟨rfl,hO⟩,⟨rfl,hL⟩,⟨rfl,rfl⟩,⟨rfl,rfl⟩,trivial⟩,trivial,trivial⟩,hfa,hsl,oblB_of hobl ⟨trivial,⟨⟨⟨rfl,hL⟩,⟨rfl,hS⟩,⟨rfl,rfl⟩,trivial⟩,⟨⟨rfl,rfl,rfl,hn0,rfl⟩,trivial⟩,⟨rfl,closed_flO _⟩,trivial⟩,⟨⟨.closed _ hL,.closed _ hS,frz_obs rfl rfl hPl.symm,trivial⟩,trivial⟩,trivial,⟨⟨⟨rfl,hL⟩,⟨rfl,hS⟩,⟨rfl,hPo⟩,⟨rfl,rfl⟩,⟨rfl,rfl⟩,trivial⟩,trivial,trivial⟩,⟨⟨.closed _ hS,.closed _ hPo,.closed _ rfl,trivial⟩,trivial⟩,hfb,mtF (by first|rfl|(rw[hen];rfl)|(rw[beqInt_iff.2 rfl];rfl)) ⟨trivial,⟨⟨⟨rfl,hS⟩,⟨rfl,hS⟩,⟨rfl,rfl⟩,trivial⟩,trivial,trivial⟩,rfl⟩⟩⟩⟩
  | cons x q=>
   rw[hD] at hz0 hz1 hfb
   cases os with
   | nil=>
    have hPn:P=[]:=List.eq_nil_of_length_eq_zero hPl
    subst hPn
    have hfb:=hfb.wkA (args:=[.fsl true [],.fsl false ((x::q).map atA),I (-1)]) (.cons .full (.refl _))
    refine fnK_semV (A:=aidC2 (aidJ [(26,1,.res (.fsl true []))] [(10,zaL True (.exit 0) false (.ofNat (lenN ([]:List AV))) [] (C.map atA)),(29,zsL True [] (zsV0 0 (C.map atA) ((findS (-1) C ([]:List Ob)).map .str)) (zsV0 0 (C.map atA) ((findS (-1) C ([]:List Ob)).map .str))),(34,zdL True (zdV0 ((C.length:Int)-1) true (C.map atA) ((findS (-1) C ([]:List Ob)).map .str) []) (zdV1 (-1) true (C.map atA) ((findS (-1) C ([]:List Ob)).map .str) [] (q.length+1) (flT (x::q)))),(41,zcL True ((findS (-1) C ([]:List Ob)).map .str) ((findS (-1) C ([]:List Ob)).map .str))] (zfT 0 [] (C.map atA) ((findS (-1) ([]:List At) ([]:List Ob)).map .str) ((findS (-1) C ([]:List Ob)).map .str)) [] []) 31 0 (zfV true (C.map atA) ((findS (-1) C ([]:List Ob)).map .str) []) 36 0 (zgV true ((findS (-1) C ([]:List Ob)).map .str) [] (.fsl false ((x::q).map atA)))) base0 (aidC2_ok aidJ_ok)
     (fnLs_of (ls4m rfl za_at zs_at zd_at zc_at (fun st Q hs=> .seen base0.glob hs.2.1 (hrun Q hs.2.2)) (fun st Q hs=> .seen base0.glob hs.2.1 (zs_run0 hL hS hs.2.2)) (fun st Q hs=> .seen base0.glob hs.2.1 (hz0 Q hs.2.2)) (fun st Q hs=> .seen base0.glob hs.2.1 (hzc Q hs.2.2)))) hcl rfl ?_
    rw[zf_01]
    rw[hl1,hlA,hlC,hdec]
    exact ⟨hlist,hwant,known14_sem,hf0,mtF (by first|rfl|(rw[beqInt_iff.2 rfl];rfl)) ⟨hrt,trivial,⟨⟨⟨rfl,rfl⟩,⟨rfl,hO⟩,⟨rfl,hL⟩,⟨rfl,rfl⟩,⟨rfl,rfl⟩,trivial⟩,trivial,trivial⟩,hfa,hsl,trivial,⟨⟨⟨rfl,hL⟩,⟨rfl,hS⟩,⟨rfl,rfl⟩,⟨rfl,rfl⟩,trivial⟩,trivial,trivial⟩,⟨⟨.closed _ hL,.closed _ hS,.closed _ rfl,trivial⟩,trivial⟩,trivial,⟨⟨⟨rfl,hL⟩,⟨rfl,hS⟩,⟨rfl,rfl⟩,⟨rfl,rfl⟩,⟨rfl,rfl⟩,trivial⟩,trivial,trivial⟩,⟨⟨.closed _ hS,.closed _ rfl,frz_ats rfl rfl rfl,trivial⟩,trivial⟩,hfb,mtF (by first|rfl|(rw[hen];rfl)|(rw[beqInt_iff.2 rfl];rfl)) ⟨trivial,⟨⟨⟨rfl,hS⟩,⟨rfl,hS⟩,⟨rfl,rfl⟩,trivial⟩,trivial,trivial⟩,rfl⟩⟩⟩
   | cons o r=>
    refine fnK_semV (A:=aidC2 (aidJ [(26,1,.res (.fsl true []))] [(10,zaL True (.exit 0) false (.ofNat (lenN (AV.agg (obF o (matA o) (namA o) (lnkA o) (cusA o))::r.map obA))) (.agg (obF o (matA o) (namA o) (lnkA o) (cusA o))::r.map obA) (C.map atA)),(29,zsL True [(0,7)] (zsV1 0 (C.map atA) ((findS (-1) C (o::r)).map .str) (r.length+1) (flO (o::r))) (zsV1 (.ofNat ((r.length+1)/2)) (C.map atA) ((findS (-1) C (o::r)).map .str) (r.length+1) (flO P))),(34,zdL True (zdV0 ((C.length:Int)-1) false (C.map atA) ((findS (-1) C (o::r)).map .str) (P.map obA)) (zdV1 (-1) false (C.map atA) ((findS (-1) C (o::r)).map .str) (P.map obA) (q.length+1) (flT (x::q)))),(41,zcL True ((findS (-1) C (o::r)).map .str) ((findS (-1) C (o::r)).map .str))] (zfT 0 (.agg (obF o (matA o) (namA o) (lnkA o) (cusA o))::r.map obA) (C.map atA) ((findS (-1) ([]:List At) (o::r)).map .str) ((findS (-1) C (o::r)).map .str)) [] []) 31 0 (zfV false (C.map atA) ((findS (-1) C (o::r)).map .str) (P.map obA)) 36 0 (zgV false ((findS (-1) C (o::r)).map .str) (P.map obA) (.fsl false ((x::q).map atA)))) base0 (aidC2_ok aidJ_ok)
     (fnLs_of (ls4m rfl za_at zs_at zd_at zc_at (fun st Q hs=> .seen base0.glob hs.2.1 (hrun Q hs.2.2)) (fun st Q hs=> .seen base0.glob hs.2.1 (hs1 Q hs.2.2)) (fun st Q hs=> .seen base0.glob hs.2.1 (hz1 Q hs.2.2)) (fun st Q hs=> .seen base0.glob hs.2.1 (hzc Q hs.2.2)))) hcl rfl ?_
    rw[zf_11]
    have hlx:lenN ((o::r).map obA)=r.length+1:=by rw[lenN_eq,List.length_map];rfl
    have hn0:r.length+1=0+lenN ((o::r).map obA):=by rw[hlx,Nat.zero_add]
    have hbe:(!beqInt (Int.ofNat (r.length+1)) (Int.ofNat (lenN ((o::r).map obA))))=false:=by rw[hlx,beqInt_iff.2 rfl];rfl
    have hl1:lenN ((findS (-1) ([]:List At) (o::r)).map AV.str)=r.length+1:=hl1
    have hobl:(allSize 37 ((o::r).map obA)&&(Nat.ble ((0+lenN ((o::r).map obA))*376) 140737488355328&&true))=true:=by
     have h1:Nat.ble ((0+lenN ((o::r).map obA))*376) 140737488355328=true:=ble_of (by rw[hlx];simp only[List.length_cons] at hb;omega)
     rw[hal,h1];rfl
    rw[hl1,hlA,hlC,hdec]
    exact ⟨hlist,hwant,known14_sem,hf0,mtF hbe ⟨hrt,trivial,⟨⟨⟨rfl,rfl⟩,⟨rfl,hO⟩,⟨rfl,hL⟩,⟨rfl,rfl⟩,⟨rfl,rfl⟩,trivial⟩,trivial,trivial⟩,hfa,hsl,oblB_of hobl ⟨trivial,⟨⟨⟨rfl,hL⟩,⟨rfl,hS⟩,⟨rfl,rfl⟩,trivial⟩,⟨⟨rfl,rfl,rfl,hn0,rfl⟩,trivial⟩,⟨rfl,closed_flO _⟩,trivial⟩,⟨⟨.closed _ hL,.closed _ hS,frz_obs rfl rfl hPl.symm,trivial⟩,trivial⟩,trivial,⟨⟨⟨rfl,hL⟩,⟨rfl,hS⟩,⟨rfl,hPo⟩,⟨rfl,rfl⟩,⟨rfl,rfl⟩,trivial⟩,trivial,trivial⟩,⟨⟨.closed _ hS,.closed _ hPo,frz_ats rfl rfl rfl,trivial⟩,trivial⟩,hfb,mtF (by first|rfl|(rw[hen];rfl)|(rw[beqInt_iff.2 rfl];rfl)) ⟨trivial,⟨⟨⟨rfl,hS⟩,⟨rfl,hS⟩,⟨rfl,rfl⟩,trivial⟩,trivial,trivial⟩,rfl⟩⟩⟩⟩
end Go.Proofs.YtjhggnebkfpgcaaGreatDoor
namespace Go.Proofs.YtjhggnebkfpgcaaGreatDoor
open Go Go.RowKit
open Go.Proofs.Abs
theorem rws_of:∀ {ess:List (List AV)},(∀c∈ess,(∃a b d z:Int,c=[.int .i64 a,.int .i64 b,.int .i64 d,.int .i64 z]∧(IntKind.i64.min≤a∧a≤IntKind.i64.max)∧(IntKind.i64.min≤b∧b≤IntKind.i64.max)∧(IntKind.i64.min≤d∧d≤IntKind.i64.max)∧(IntKind.i64.min≤z∧z≤IntKind.i64.max))∧c.length=4)→∃l:List Rw,ess.map mkElem=l.map rwA∧l.length=ess.length
 |[],_=>⟨[],rfl,rfl⟩
 |c::t,h=>by
  obtain ⟨⟨a,b,d,z,rfl,_⟩,_⟩:=h c (by simp)
  obtain ⟨l,e,hl⟩:=rws_of (ess:=t) fun c hc=>h c (by simp[hc])
  refine ⟨⟨a,b,d,z⟩::l, ?_,by simp[hl]⟩
  rw[List.map_cons,e]
  rfl
section
variable {P:Program} {H:Type} {enc:TypeId × Value→H} {w:World} {base:Nat} {spare:Nat→Bool} {held:Bool} {v:Value} {d:DataW H} {ps:List MemPlace} {t e i:TypeId}
theorem open_rws {f0 f1 f2 f3:Field} (ht:P.underlying t=some (.slice e)) (hs:P.underlying e=some (.struct #[f0,f1,f2,f3])) (h0:f0.type=i∧f0.offset=0) (h1:f1.type=i∧f1.offset=1) (h2:f2.type=i∧f2.offset=2) (h3:f3.type=i∧f3.offset=3)
  (he:P.underlying i=some (.int .i64)) (hc:P.cellsOf i=1) (h4:P.cellsOf e=4) (hok:Value.okWide P w .any base t v) (h:DataW.Trod enc P w 0 spare held t v d ps):
  ∃ (l:List Rw),l.length≤9223372036854775807∧Rep w (fun b=>b<w.heap.size) (fun _=>none) (.fsl false (l.map rwA)) v:=by
 rcases open_slice ht (reads_four hs h0 h1 h2 h3 he hc h4) hok h with rfl|⟨ess,hr,hp,hl⟩
 ·exact ⟨[],by simp,Wk.nil.out _ _ _ _ .nilsl⟩
 ·obtain ⟨l,e1,e2⟩:=rws_of hp
  refine ⟨l,by rw[e2];exact hl, ?_⟩
  rw[e1] at hr
  exact hr
end
end Go.Proofs.YtjhggnebkfpgcaaGreatDoor
namespace Go.Proofs
open Go.Shelf
def Tryz.laysValid_ren:Go.Shelf.Ren:=⟨fun|196=>159|259=>192|n=>n,fun|9=>9|4=>4|3=>3|5=>5|12=>12|119=>203|0=>0|46=>162|139=>206|138=>205|53=>161|n=>n,fun|3=>1|4=>2|n=>n⟩
theorem Tryz.laysValid:Go.Proofs.Lays.n196 Tryz.prog Tryz.laysValid_ren:={
 mixed:=by kernel_rfl
 f196:=Tryz.func159.trans (congrArg some (by kernel_rfl))
 f259:=Tryz.func192.trans (congrArg some (by kernel_rfl))
 t0:=Tryz.underlying0
 a0:=Tryz.isAgg0
 z0:=Tryz.sizeOf0
 v0:=Tryz.zeroValue0
 t3:=Tryz.underlying3
 a3:=Tryz.isAgg3
 z3:=Tryz.sizeOf3
 v3:=Tryz.zeroValue3
 t4:=Tryz.underlying4
 a4:=Tryz.isAgg4
 z4:=Tryz.sizeOf4
 v4:=Tryz.zeroValue4
 t5:=Tryz.underlying5
 a5:=Tryz.isAgg5
 z5:=Tryz.sizeOf5
 v5:=Tryz.zeroValue5
 t9:=Tryz.underlying9
 a9:=Tryz.isAgg9
 z9:=Tryz.sizeOf9
 v9:=Tryz.zeroValue9
 t12:=Tryz.underlying12
 a12:=Tryz.isAgg12
 z12:=Tryz.sizeOf12
 v12:=Tryz.zeroValue12
 t46:=Tryz.underlying162
 a46:=Tryz.isAgg162
 z46:=Tryz.sizeOf162
 v46:=Tryz.zeroValue162
 t53:=Tryz.underlying161
 a53:=Tryz.isAgg161
 z53:=Tryz.sizeOf161
 v53:=Tryz.zeroValue161
 t119:=Tryz.underlying203
 a119:=Tryz.isAgg203
 z119:=Tryz.sizeOf203
 t138:=Tryz.underlying205
 a138:=Tryz.isAgg205
 z138:=Tryz.sizeOf205
 v138:=Tryz.zeroValue205
 t139:=Tryz.underlying206
 a139:=Tryz.isAgg206
 z139:=Tryz.sizeOf206
 v139:=Tryz.zeroValue206
 g3:=by kernel_rfl
 g4:=by kernel_rfl}
end Go.Proofs
namespace Go.Proofs.YtjhggnebkfpgcaaGreatDoor
open Go Go.RowKit
open Go.Proofs.Abs
theorem fir_eq:∀c,c<256→firL[c]? =some (Lib.firstT c):=by decide+kernel
theorem acc_lo:∀i,i<16→accL[2*i]? =some (Lib.accLo i)∧accL[2*i+1]? =some (Lib.accHi i):=by decide+kernel
end Go.Proofs.YtjhggnebkfpgcaaGreatDoor
