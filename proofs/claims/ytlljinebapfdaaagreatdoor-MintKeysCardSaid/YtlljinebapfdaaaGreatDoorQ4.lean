import Derived.Test.YtlljinebapfdaaaGreatDoorQ3
import Derived.KernelRfl
import Derived.Test.YtlljinebapfdaaaGreatDoorQ1
import Derived.Test.YtlljinebapfdaaaGreatDoorG5
namespace Go.Proofs.YtlljinebapfdaaaGreatDoor
open Go Go.RowKit
open Go.Proofs.Abs
noncomputable section
def CH:AV→AV
 | .nilsl=> .fsl false []
 |v=>v
def ww:List AV→Option AV
 |[.agg [t,y,n,d,k]]=>some (.agg [t,y,n,CH d,CH k])
 |_=>none
def df (o:Ob) (M N L C:AV):List AV:= .str [49]::(ai o M N L C).drop 1
def Mm:List AV→ab→Option nJ
 |[.ptr a 0],h=>match hget h a with
  |some (.cells [.map m,c,n,x,y,.rsl o b f (k+1) z])=>some (.part [a,m] .nilsl [(a,some (.cells [.map m,c,n,x,y,.rsl o b f (k+1) z])),(m,some (.mapb 0 [] []))] 23)
  |_=>none
 |_,_=>none
theorem Mn (c n:Int) (T:AV) (Q:AV→Option Blk→Option Blk→Nat→Prop):aq Tryz.prog opts0 40 (ak [] [] aA [] [26]) 10 [.ptr 1682 0] [(1682,some (.cells [.map 1680,I c,.int .u64 n,.bool true,.bool true,T])),(1680,some (.mapb 0 [] []))] 2604 (fun v H m=>Q v (hget H 1682) (hget H 1680) m)=
  (Q AV.nilsl (some (Blk.cells [AV.map 1680,I c,AV.int IntKind.u64 n,AV.bool true,AV.bool true,T])) (some (Blk.mapb 0 [] [])) 2627):=by kernel_rfl
def rL:AV:= .agg [I 4325500,I 1,I 0,.nilsl,.fsl false [.agg [I 4325463,I 5,I 2,.fsl false [],.fsl false []],.agg [I 4325524,I 7,I 0,.fsl false (aj [49]),.fsl false []]]]
abbrev mI:=[I 4325463,I 5,I 2,AV.fsl false [],AV.fsl false []]
abbrev rM:=[I 4325500,I 1,I 0,AV.nilsl,AV.rsl true 37 0 2 5]
abbrev wx:=[I 4325524,I 7,I 0,AV.fsl false [AV.int IntKind.u8 49],AV.nilsl]
abbrev CI:=[I 4325524,I 7,I 0,AV.fsl false [AV.int IntKind.u8 49],AV.fsl false []]
theorem Mo (Q:AV→ab→Prop):aq Tryz.prog opts0 40 (ak [] [] (de [(110,ww)]) [] [123]) 58 [.fsl true [.agg [I 4325463,I 5,I 2,.fsl false [],.fsl false []],.agg [I 4325524,I 7,I 0,.fsl false (aj [49]),.nilsl]]] [] 0 (fun v H _=>Q v H)=
  (SC 110 [AV.agg mI] (AV.agg mI)∧SC 110 [AV.agg wx] (AV.agg CI)∧Q (AV.agg rM) [(37,some (Blk.cells [I 4325463,I 5,I 2,AV.fsl false [],AV.fsl false [],I 4325524,I 7,I 0,AV.fsl false [AV.int IntKind.u8 49],AV.fsl false []])),(30,some (Blk.cells wx)),(22,none),(15,some (Blk.cells mI)),(7,some (Blk.cells rM)),(4,some (Blk.cells rM)),(0,some (Blk.cells rM))]):=by kernel_rfl
def wy (t p q:AV) (As m:List AV) (r:Int) (b g:Bool):dF:=fun f args h nx=>match Nat.beq f 4 with
 |true=>some (.part [] (.tuple [.ptr (nx+1675) 0,.ptr (nx+1890) 0]) [(nx+1890,some (.cells [.nilsl,I 5,.int .u64 1,.nilsl,I 0])),(nx+1675,some (.cells [.map (nx+1673),I 5,.int .u64 1,.bool true,.bool true,.nilsl])),(nx+1673,some (.mapb 0 [] []))] 2027)
 |false=>match Nat.beq f 10 with
  |true=>Mm args h
  |false=>de [(58,fun _=>some rL),(6,uZ),(8,fun _=>some t),(111,fun _=>some (.tuple [p,I r])),(112,fun _=>some (.tuple [.fsl false As,I 0])),(113,bF b),(110,ww),(54,fun _=>some (.fsl false m)),(56,fun _=>some q),(25,CE),(120,bF g),(121,bF true),(224,fun _=>some (.fsl false (aj [0,0,0,0,0,0,0,1]))),(5,bF true)] f args h nx
def dg (D O:List AV) (t i:Int):View:=⟨[(3,.fsl false D),(13,I t),(20,I i)],[(18,.ptr 0 0)],[(0,.cells O,.whole)],1,164⟩
def wA (D O:List AV) (t k:Int):bL:=fun st Q=>dd 0 [(0,2780)] (dg D O t 0) st∧Q (.exit 0) (dg D O t k).st
def wB (le:Int) (l:bL) (S:dF):aV:=ak [(4,3,.res (I le))] [(15,l)] S [59,124] [9,22,23,24,52,53,47,50,109,7,55,116,117,115,181,223,57,10,26,122,194,195,48,49,11]
abbrev wC:=(AV.fsl false [AV.int IntKind.u8 0,AV.int IntKind.u8 0,AV.int IntKind.u8 0,AV.int IntKind.u8 0,AV.int IntKind.u8 0,AV.int IntKind.u8 0,AV.int IntKind.u8 0,AV.int IntKind.u8 1])
abbrev oJ (K:List AV):=[I 4325521,I 1,I 0,AV.fsl false [],AV.fsl false K]
abbrev CJ:=[(1682,some (Blk.cells [AV.map 1680,I 5,AV.int IntKind.u64 2,AV.bool true,AV.bool true,AV.rsl true 2562 0 1 5])),(1680,some (Blk.mapb 0 [] []))]
theorem CK (Rs D K As m:List AV) (length lack now le k r:Int) (b g:Bool) (p q:Ob) (M N L C N' L' C':AV) (Q:AV→Prop):aq Tryz.prog opts0 40 (wB le (wA D (df q (.fsl false m) N' L' C') (now%70) k) (wy (.agg [I 4325521,I 1,I 0,.fsl false [],.fsl false K]) (.agg (ai p M N L C)) (.agg (df q (.fsl false m) N' L' C')) As m r b g)) 3 [.fsl false Rs,I length,I lack,.fsl false D,I now] [] 0 (fun v _ _=>Q v)=
  (let R1:Prop:=aa (!ah (Int.ofNat (ac m)) (az IntKind.i64 (le.tdiv 8))) (Q (AV.bool false)) ((((AV.fsl false D=AV.fsl false D∧ad (AV.fsl false D)=true)∧(I (now%70)=I (now%70)∧ad (I (now%70))=true)∧(I 0=I 0∧true=true)∧True)∧((some 2780=some 2780∧0=0)∧True)∧((ai {q with id:=[49]} (AV.fsl false m) N' L' C')=(ai {q with id:=[49]} (AV.fsl false m) N' L' C')∧ae (ai {q with id:=[49]} (AV.fsl false m) N' L' C')=true)∧True)∧aa q.d1.1 (aa (decide ((!ah q.st 1)= !au (now%70) q.d1.t)) (Q (AV.bool (ah q.d9.2 (now%70)))) (Q (AV.bool false))) (aa (decide ((!ah q.st 1)=false)) (Q (AV.bool (ah q.d9.2 (now%70)))) (Q (AV.bool false))));let R2:Prop:=aa (!g) (Q (AV.bool true)) (BodySem Tryz.prog opts0.glob 10 [AV.ptr 1682 0] CJ 2604 AV.nilsl CJ 2627∧ax (a9 Tryz.prog 51 (AV.agg (ai {q with id:=[49]} (AV.fsl false m) N' L' C')) 37) (SC 121 [AV.agg (ai {q with id:=[49]} (AV.fsl false m) N' L' C')] (AV.bool true)∧SC 25 [AV.agg (ai {q with id:=[49]} (AV.fsl false m) N' L' C')] (AV.agg (ai {q with id:=[49]} (AV.fsl false m) N' L' C'))∧ax (a9 Tryz.prog 51 (AV.agg (ai {q with id:=[49]} (AV.fsl false m) N' L' C')) 37) (SC 58 [AV.fsl true [AV.agg mI,AV.agg wx]] (AV.agg [I 4325500,I 1,I 0,AV.nilsl,AV.fsl false [AV.agg mI,AV.agg CI]])∧ax (a9 Tryz.prog 51 (AV.agg (ai {q with id:=[49]} (AV.fsl false m) N' L' C')) 37) (SC 25 [AV.agg (ai {q with id:=[49]} (AV.fsl false m) N' L' C')] (AV.agg (ai {q with id:=[49]} (AV.fsl false m) N' L' C'))∧ax (a9 Tryz.prog 51 (AV.agg (ai {q with id:=[49]} (AV.fsl false m) N' L' C')) 37) (ax (a9 Tryz.prog 51 (AV.agg (ai {q with id:=[49]} (AV.fsl false m) N' L' C')) 37) (aa (!ah q.3 3) (Q (AV.bool false)) (aa (!ah q.4 le) (Q (AV.bool false)) (R1))))))));(BodySem Tryz.prog opts0.glob 4 [AV.nilsl,I 5] [] 7 (AV.tuple [AV.ptr 1682 0,AV.ptr 1897 0]) [(1897,some (Blk.cells [AV.nilsl,I 5,AV.int IntKind.u64 1,AV.nilsl,I 0])),(1682,some (Blk.cells [AV.map 1680,I 5,AV.int IntKind.u64 1,AV.bool true,AV.bool true,AV.nilsl])),(1680,some (Blk.mapb 0 [] []))] 2034∧SC 5 [] (AV.bool true)∧SC 6 [I length,I 3] (I (length%3))∧cL Tryz.prog 29 (AV.agg [I 128,I 192,I 256]) (I (length%3))=some (I le)∧SC 6 [I now,I 70] (I (now%70))∧SC 8 [I 3,I le,AV.fsl false Rs,I lack] (AV.agg (oJ K))∧SC 110 [AV.agg [I 4325463,I 5,I 2,AV.nilsl,AV.nilsl]] (AV.agg mI)∧SC 110 [AV.agg (oJ K)] (AV.agg (oJ K))∧SC 111 [AV.agg [AV.str [],I 2,I 0,I 0,I 0,AV.nilsl,I 1,AV.bool false,I 0,AV.bool false,I 0,AV.bool false,I 0,AV.bool false,I 0,AV.bool false,I 0,AV.bool false,I 0,AV.bool false,I 0,AV.bool false,I 0,AV.bool false,I 0,AV.bool false,I 0,I 0,AV.str [],AV.nilsl,AV.nilsl,AV.nilsl,AV.bool false,I 0,I 0,I 0,AV.bool false],AV.agg (oJ K)] (AV.tuple [AV.agg (ai p M N L C),I r])∧ax (a9 Tryz.prog 51 (AV.agg (ai p M N L C)) 37) (aa (!ah r 0) (aa (!ah r 0) (aa (!ah r 0) (aa (!ah r 0) (Q (AV.bool true)) (SC 25 [AV.agg zL] (AV.agg zL)∧Q (AV.bool false))) (aa (!ah r 0) (Q (AV.bool true)) (SC 25 [AV.agg zL] (AV.agg zL)∧Q (AV.bool false)))) (Q (AV.bool true))) (ax (a9 Tryz.prog 51 (AV.agg (ai p M N L C)) 37) (ax (a9 Tryz.prog 51 (AV.agg (ai p M N L C)) 37) (aa (ah p.3 0) (Q (AV.bool true)) (aa (ah p.4 0) (Q (AV.bool true)) (SC 112 [AV.agg (oJ K)] (AV.tuple [AV.fsl false As,I 0])∧SC 113 [AV.fsl false As,AV.func (Fn.func 114) [] []] (AV.bool b)∧aa b (aa (!ah p.3 3) (Q (AV.bool true)) (aa (!ah p.4 128) (aa (!ah p.4 192) (aa (!ah p.4 256) (Q (AV.bool true)) (SC 54 [AV.agg [I (now%70),AV.fsl false D,AV.str []],I (az IntKind.i64 (p.4.tdiv 8)),I 0] (AV.fsl false m)∧SC 224 [AV.int IntKind.u64 1] wC∧SC 56 [AV.agg (ai {p with id:=[49]} (AV.fsl false m) N L C),I (now%70)] (AV.agg (ai {q with id:=[49]} (AV.fsl false m) N' L' C'))∧ax (a9 Tryz.prog 51 (AV.agg (ai {q with id:=[49]} (AV.fsl false m) N' L' C')) 37) (SC 120 [AV.agg (ai {q with id:=[49]} (AV.fsl false m) N' L' C')] (AV.bool g)∧R2))) (SC 54 [AV.agg [I (now%70),AV.fsl false D,AV.str []],I (az IntKind.i64 (p.4.tdiv 8)),I 0] (AV.fsl false m)∧SC 224 [AV.int IntKind.u64 1] wC∧SC 56 [AV.agg (ai {p with id:=[49]} (AV.fsl false m) N L C),I (now%70)] (AV.agg (ai {q with id:=[49]} (AV.fsl false m) N' L' C'))∧ax (a9 Tryz.prog 51 (AV.agg (ai {q with id:=[49]} (AV.fsl false m) N' L' C')) 37) (SC 120 [AV.agg (ai {q with id:=[49]} (AV.fsl false m) N' L' C')] (AV.bool g)∧R2))) (SC 54 [AV.agg [I (now%70),AV.fsl false D,AV.str []],I (az IntKind.i64 (p.4.tdiv 8)),I 0] (AV.fsl false m)∧SC 224 [AV.int IntKind.u64 1] wC∧SC 56 [AV.agg (ai {p with id:=[49]} (AV.fsl false m) N L C),I (now%70)] (AV.agg (ai {q with id:=[49]} (AV.fsl false m) N' L' C'))∧ax (a9 Tryz.prog 51 (AV.agg (ai {q with id:=[49]} (AV.fsl false m) N' L' C')) 37) (SC 120 [AV.agg (ai {q with id:=[49]} (AV.fsl false m) N' L' C')] (AV.bool g)∧R2)))) (Q (AV.bool true)))))))))):=by kernel_rfl
end
noncomputable section
@[simp] abbrev wD (D:List AV):=(AV.fsl false D=AV.fsl false D∧ad (AV.fsl false D)=true)
@[simp] abbrev wE (D:List AV) (i t:Int):=((wD D)∧(I t=I t∧ad (I t)=true)∧(I i=I i∧ad (I i)=true)∧True)
@[simp] abbrev wF:=((some 0=some 0∧0=0)∧True)
theorem Mp (D m:List AV) (x y t:Int) (i j:Int) (q:Ob) (N L C:AV) (Nx:Prop) (Q:AExit→St→Prop):aN Tryz.prog opts0 40 (ak [(14,4,.res (.bool true)),(17,3,.res (.bool true)),(18,2,.res (.fptr [.int .u8 x] 0)),(19,3,.res (.fptr [.int .u8 y] 0))] [] aA [] []) (aJ Tryz.prog 3 15) (dg D (df q (.fsl false m) N L C) t i).st (bP 0 [(0,0)] (dg D (df q (.fsl false m) N L C) t j) Nx [] (dg D [] t i) Q)=
  (aU Tryz.prog BinOp.lss 3 (Operand.tmp 119) (Operand.tmp 122) (I i) (I (Int.ofNat (ac m)))=some (AV.bool true)∧aU Tryz.prog BinOp.lss 3 (Operand.tmp 126) (Operand.tmp 128) (I i) (I (Int.ofNat (ac D)))=some (AV.bool true)∧aQ Tryz.prog 23 (AV.fsl false D) (I i)=some (AV.fptr [AV.int IntKind.u8 x] 0)∧aQ Tryz.prog 23 (AV.fsl false m) (I i)=some (AV.fptr [AV.int IntKind.u8 y] 0)∧aa (!ah y x) (((wE D i t)∧((none=some 0∧0=0)∧True)∧False∧True)∧Q AExit.ret (dg D [] t i).st) ((((wD D)∧(I t=I t∧ad (I t)=true)∧(I (az IntKind.i64 (i+1))=I j∧ad (I j)=true)∧True)∧wF∧((ai {q with id:=[49]} (AV.fsl false m) N L C)=(ai {q with id:=[49]} (AV.fsl false m) N L C)∧ae (ai {q with id:=[49]} (AV.fsl false m) N L C)=true)∧True)∧Nx)):=by kernel_rfl
theorem Mq (D m:List AV) (y t:Int) (i j:Int) (q:Ob) (N L C:AV) (Nx:Prop) (Q:AExit→St→Prop):aN Tryz.prog opts0 40 (ak [(14,4,.res (.bool true)),(17,3,.res (.bool false)),(19,3,.res (.fptr [.int .u8 y] 0))] [] aA [] []) (aJ Tryz.prog 3 15) (dg D (df q (.fsl false m) N L C) t i).st (bP 0 [(0,0)] (dg D (df q (.fsl false m) N L C) t j) Nx [] (dg D [] t i) Q)=
  (aU Tryz.prog BinOp.lss 3 (Operand.tmp 119) (Operand.tmp 122) (I i) (I (Int.ofNat (ac m)))=some (AV.bool true)∧aU Tryz.prog BinOp.lss 3 (Operand.tmp 126) (Operand.tmp 128) (I i) (I (Int.ofNat (ac D)))=some (AV.bool false)∧aQ Tryz.prog 23 (AV.fsl false m) (I i)=some (AV.fptr [AV.int IntKind.u8 y] 0)∧aa (!ah y 0) (((wE D i t)∧((none=some 0∧0=0)∧True)∧False∧True)∧Q AExit.ret (dg D [] t i).st) ((((wD D)∧(I t=I t∧ad (I t)=true)∧(I (az IntKind.i64 (i+1))=I j∧ad (I j)=true)∧True)∧wF∧((ai {q with id:=[49]} (AV.fsl false m) N L C)=(ai {q with id:=[49]} (AV.fsl false m) N L C)∧ae (ai {q with id:=[49]} (AV.fsl false m) N L C)=true)∧True)∧Nx)):=by kernel_rfl
theorem Mr (D m:List AV) (t:Int) (i:Int) (q:Ob) (N L C:AV) (Nx:Prop) (Q:AExit→St→Prop):aN Tryz.prog opts0 40 (ak [(14,4,.res (.bool false))] [] aA [] []) (aJ Tryz.prog 3 15) (dg D (df q (.fsl false m) N L C) t i).st (bP 0 [] (dg D [] t i) Nx [(0,0)] (dg D (df q (.fsl false m) N L C) t i) Q)=
  (aU Tryz.prog BinOp.lss 3 (Operand.tmp 119) (Operand.tmp 122) (I i) (I (Int.ofNat (ac m)))=some (AV.bool false)∧((wE D i t)∧wF∧((ai {q with id:=[49]} (AV.fsl false m) N L C)=(ai {q with id:=[49]} (AV.fsl false m) N L C)∧ae (ai {q with id:=[49]} (AV.fsl false m) N L C)=true)∧True)∧Q (AExit.exit 0) (dg D (df q (AV.fsl false m) N L C) t i).st):=by kernel_rfl
abbrev CL:=(Blk.cells [AV.int IntKind.u8 0,AV.int IntKind.u8 0,AV.int IntKind.u8 0,AV.int IntKind.u8 0,AV.int IntKind.u8 0,AV.int IntKind.u8 0,AV.int IntKind.u8 0,AV.int IntKind.u8 1])
theorem Ms (Q:AV→ab→Prop):aq Tryz.prog opts0 40 (ak [] [] aA [] [150,173,210,154]) 224 [.int .u64 1] [] 0 (fun v H _=>Q v H)=
  (Q (AV.rsl true 187 0 8 1) [(187,some CL),(169,some CL),(149,none),(129,none),(109,none),(89,none),(69,none),(49,none),(29,none),(5,some (Blk.cells [AV.rsl true 169 0 8 1]))]):=by kernel_rfl
theorem Mt (p:Ob) (M N L C:AV) (Q:AV→Prop):aq Tryz.prog opts0 40 (ak [] [] aA [] []) 121 [.agg (ai p M N L C)] [] 0 (fun v _ _=>Q v)=
  (aa (!ah p.7 5) (Q (AV.bool !ah p.7 6)) (Q (AV.bool false))):=by kernel_rfl
end
theorem Mu (x y:AV) (f:Bool) (es:List AV) (n p:Nat) (Q:AV→ab→Nat→Prop):aq Tryz.prog opts0 40 aX 54 [.agg [x,.fsl f es,y],I (.ofNat n),I (.ofNat p)] [] 0 Q=
  (aa (au 1048576 (Int.ofNat n)) (Q AV.nilsl [(0,some (Blk.cells [x,AV.fsl f es,y]))] 9) (ax (eB (Int.ofNat n)&&(eB (Int.ofNat n)&&((Int.ofNat n).toNat.ble (Int.ofNat n).toNat&&(1*(Int.ofNat n).toNat).ble 281474976710656&&(Int.ofNat n).toNat.ble 9223372036854775807&&true&&true))) (aa (au (Int.ofNat p) (Int.ofNat (ac es))) (ax (eB (Int.ofNat p)&&(mQ 1 es&&(p.ble (ac es)&&(ac es).ble (ac es)))) (ax (bT 1 (List.take (ac es-p) (List.drop p es))&&bu (flat (List.take (ac es-p) (List.drop p es)))) (ax ((0+ac (List.take (min (ac (List.take (ac es-p) (List.drop p es))) (Int.ofNat n).toNat*1) (flat (List.take (ac es-p) (List.drop p es))))).ble (ac (flat (bV (AV.int IntKind.u8 0) (Int.ofNat n).toNat)))) (Q (AV.rsl true 9 0 (Int.ofNat n).toNat 1) [(9,some (Blk.cells (List.take (min (ac (List.take (ac es-p) (List.drop p es))) (Int.ofNat n).toNat*1) (flat (List.take (ac es-p) (List.drop p es)))++List.drop (0+ac (List.take (min (ac (List.take (ac es-p) (List.drop p es))) (Int.ofNat n).toNat*1) (flat (List.take (ac es-p) (List.drop p es))))) (flat (bV (AV.int IntKind.u8 0) (Int.ofNat n).toNat))))),(0,some (Blk.cells [x,AV.fsl f es,y]))] 28)))) (Q (AV.rsl true 9 0 (Int.ofNat n).toNat 1) [(9,some (Blk.cells (flat (bV (AV.int IntKind.u8 0) (Int.ofNat n).toNat)))),(0,some (Blk.cells [x,AV.fsl f es,y]))] 22)))):=by kernel_rfl
def cm (l:List UInt8) (n p:Nat):List UInt8:=(l.drop p).take n++List.replicate (n-(l.length-p)) 0
theorem wG (l:List UInt8) (n p:Nat):(cm l n p).length=n:=by simp[cm];omega
theorem Mv {x y:AV} {f:Bool} {l:List UInt8} {n p:Nat} (hx:ad x=true) (hy:ad y=true) (hn:n≤1048576) (_hl:l.length≤9223372036854775807):
  SC 54 [.agg [x,.fsl f (aj l),y],I (.ofNat n),I (.ofNat p)] (.fsl false (aj (cm l n p))):=by
 refine im (A:=aX) base0 ci (ar (LsOk.no rfl)) (by simp[ad,ae,hx,hy]) ?_
 rw[Mu]
 refine ao (fun h=> ?_) (fun h=> ?_)
 ·have h:(1048576:Int)<n:=ltInt_iff.1 h
  omega
 refine oblB_iff.2 ⟨?_, ?_⟩
 ·simp only[Int.ofNat_eq_natCast,Int.toNat_natCast,nonneg_iff.2 (Int.natCast_nonneg n),Bool.true_and,Bool.and_true,Bool.and_eq_true]
  exact ⟨⟨Nat.ble_eq_true_of_le (Nat.le_refl _),Nat.ble_eq_true_of_le (by omega)⟩,Nat.ble_eq_true_of_le (by omega)⟩
 have hrep:flat (bV (.int .u8 0) n)=aj (List.replicate n 0):=by rw[zh,tZ]
 refine ao (fun h=> ?_) (fun h=> ?_)
 ·have h:(p:Int)<ac (aj l):=ltInt_iff.1 h
  rw[dr] at h
  have hp:p<l.length:=by omega
  refine oblB_iff.2 ⟨?_, ?_⟩
  ·rw[dr,FE]
   simp only[Int.ofNat_eq_natCast,nonneg_iff.2 (Int.natCast_nonneg p),Bool.true_and,Bool.and_eq_true]
   exact ⟨Nat.ble_eq_true_of_le (by omega),Nat.ble_eq_true_of_le (Nat.le_refl _)⟩
  have e1:List.take (ac (aj l)-p) (List.drop p (aj l))=aj (l.drop p):=by
   rw[dr,zf,ze]
   show aj (List.take (l.length-p) (l.drop p))=_
   rw[List.take_of_length_le (by simp)]
  rw[e1]
  refine oblB_iff.2 ⟨by simp, ?_⟩
  have e2:List.take (min (ac (aj (l.drop p))) (Int.ofNat n).toNat*1) (flat (aj (l.drop p)))=aj ((l.drop p).take n):=by
   rw[dr,tZ,ze]
   show aj (List.take (min (l.drop p).length n*1) (l.drop p))=_
   congr 1
   rw[Nat.mul_one,←List.take_eq_take_min.symm]
   simp[Nat.min_comm]
  rw[e2]
  have e3:flat (bV (.int .u8 0) (Int.ofNat n).toNat)=aj (List.replicate n 0):=hrep
  rw[e3]
  refine oblB_iff.2 ⟨?_, ?_⟩
  ·rw[dr,dr]
   exact Nat.ble_eq_true_of_le (by simp;omega)
  refine ⟨?_, ?_⟩
  ·refine Frz.out (Frz.bytes rfl rfl ?_ (wG l n p).symm)
   rw[dr,zf,←FB]
   congr 1
   unfold cm
   congr 1
   simp
   omega
  ·simp[ad]
 ·have h:(ac (aj l):Int)≤p:=ltInt_false.1 h
  rw[dr] at h
  have hp:l.length≤p:=by omega
  refine ⟨?_, ?_⟩
  ·refine Frz.out (Frz.bytes rfl rfl ?_ (wG l n p).symm)
   have e3:flat (bV (.int .u8 0) (Int.ofNat n).toNat)=aj (List.replicate n 0):=hrep
   rw[e3]
   congr 1
   unfold cm
   rw[List.drop_of_length_le hp,show l.length-p=0 by omega]
   simp
  ·simp[ad]
def iT (d:List UInt8) (i:Nat):UInt8:=(d[i]?).getD 0
theorem Mw (d:List UInt8) {n i:Nat} (h:i<n):(cm d n 0)[i]? =some (iT d i):=by
 unfold cm iT
 rw[List.drop_zero,Nat.sub_zero]
 by_cases hi:i<d.length
 ·rw[List.getElem?_append_left (by rw[List.length_take];omega),List.getElem?_take,if_pos h]
  rw[List.getElem?_eq_getElem hi]
  rfl
 ·have hd:d[i]? =none:=List.getElem?_eq_none (by omega)
  rw[hd]
  have ht:List.take n d=d:=List.take_of_length_le (by omega)
  rw[ht,List.getElem?_append_right (by omega),List.getElem?_replicate,if_pos (by omega)]
  rfl
section
variable {d m:List UInt8} {q:Ob} {N L C:AV} {t:Int}
set_option maxRecDepth 20000 in
theorem CM (hc:ae (df q (.fsl false (aj m)) N L C)=true) (hn:m.length≤100) (hm:∀i,i<m.length→m[i]? =some (iT d i)):∀k i,i+k=m.length→∀Q,Q (.exit 0) (dg (aj d) (df q (.fsl false (aj m)) N L C) t (.ofNat m.length)).st→ALp Tryz.prog opts0.glob 0 (aJ Tryz.prog 3 15) (dg (aj d) (df q (.fsl false (aj m)) N L C) t (.ofNat i)).st Q:=by
 have hD:ad (.fsl false (aj d))=true:=by simp[ad]
 intro k
 induction k with
 |zero=>
  intro i hi Q hq
  rw[Nat.add_zero] at hi
  subst hi
  refine ALp.round (A:=ak [(14,4,.res (.bool false))] [] aA [] []) (V2:=dg (aj d) [] t (.ofNat m.length)) (F:=dg (aj d) (df q (.fsl false (aj m)) N L C) t (.ofNat m.length)) (lk:=[]) (lk':=[(0,0)]) base0 ap (LsOk.no rfl) .refl ?_
  rw[Mr]
  exact ⟨jG (by rw[dr];simp only[Int.ofNat_eq_natCast];omega),⟨⟨⟨rfl,hD⟩,⟨rfl,rfl⟩,⟨rfl,rfl⟩,trivial⟩,⟨⟨rfl,rfl⟩,trivial⟩,⟨rfl,hc⟩,trivial⟩,hq⟩
 | succ k ih=>
  intro i hi Q hq
  have hlt:i<m.length:=by omega
  have hx:=qs (f:=false) (hm i hlt)
  have ih:=ih (i+1) (by omega) Q hq
  have hw:az .i64 (Int.ofNat i+1)=Int.ofNat (i+1):=eS (by simp;omega) (by simp;omega)
  by_cases hd:i<d.length
  ·have gd:d[i]? =some (iT d i):=by
    unfold iT
    rw[List.getElem?_eq_getElem hd]
    rfl
   have hy:=qs (f:=false) gd
   refine ALp.round (A:=ak [(14,4,.res (.bool true)),(17,3,.res (.bool true)),(18,2,.res (.fptr [.int .u8 (.ofNat (iT d i).toNat)] 0)),(19,3,.res (.fptr [.int .u8 (.ofNat (iT d i).toNat)] 0))] [] aA [] []) (V2:=dg (aj d) (df q (.fsl false (aj m)) N L C) t (.ofNat (i+1))) (F:=dg (aj d) [] t (.ofNat i)) (lk:=[(0,0)]) (lk':=[]) base0 ap (LsOk.no rfl) .refl ?_
   rw[Mp,hw]
   exact ⟨mz (by rw[dr];simp only[Int.ofNat_eq_natCast];omega),mz (by rw[dr];simp only[Int.ofNat_eq_natCast];omega),hy,hx,ao (fun e=>by rw[beqInt_iff.2 rfl] at e;cases e) fun _=>⟨⟨⟨⟨rfl,hD⟩,⟨rfl,rfl⟩,⟨rfl,rfl⟩,trivial⟩,⟨⟨rfl,rfl⟩,trivial⟩,⟨rfl,hc⟩,trivial⟩,ih⟩⟩
  ·have gz:iT d i=0:=by
    unfold iT
    rw[List.getElem?_eq_none (by omega)]
    rfl
   rw[gz] at hx
   refine ALp.round (A:=ak [(14,4,.res (.bool true)),(17,3,.res (.bool false)),(19,3,.res (.fptr [.int .u8 0] 0))] [] aA [] []) (V2:=dg (aj d) (df q (.fsl false (aj m)) N L C) t (.ofNat (i+1))) (F:=dg (aj d) [] t (.ofNat i)) (lk:=[(0,0)]) (lk':=[]) base0 ap (LsOk.no rfl) .refl ?_
   rw[Mq,hw]
   exact ⟨mz (by rw[dr];simp only[Int.ofNat_eq_natCast];omega),jG (by rw[dr];simp only[Int.ofNat_eq_natCast];omega),hx,ao (fun e=>by rw[beqInt_iff.2 rfl] at e;cases e) fun _=>⟨⟨⟨⟨rfl,hD⟩,⟨rfl,rfl⟩,⟨rfl,rfl⟩,trivial⟩,⟨⟨rfl,rfl⟩,trivial⟩,⟨rfl,hc⟩,trivial⟩,ih⟩⟩
end
theorem CN:bX (dG Tryz.prog 3) 15=[aJ Tryz.prog 3 15]:=by kernel_rfl
def fE (o:Ob) (t:Int):Int:=match o.d1.has&& !au t o.d1.t with
 |false=>1
 |true=>match o.d4.has&& !au t o.d4.t with
  |false=>2
  |true=>3
def fF (o:Ob) (t:Int):Ob:={o with st:=fE o t,d0:=⟨true,t⟩,d9:=⟨true,t⟩}
theorem wH {o:Ob} {t:Int} (k:Int) (h:fE o t=k):cZ (aw (fF o t)) (aw {o with st:=k,d0:=⟨true,t⟩,d9:=⟨true,t⟩}):=by
 unfold fF
 rw[h]
 refine dZ ?_
 have:=bR {o with st:=k,d0:=⟨true,t⟩,d9:=⟨true,t⟩}
 simpa only[aw,ad] using this
set_option maxRecDepth 20000 in
theorem Mx {o:Ob} (ho:dQ o) (t:Int) (hst:o.st=1):SC 56 [aw o,I t] (aw (fF o t)):=by
 have hcl:=dR o (c:=[I t]) rfl
 have cA:=ow (o:={o with st:=1}) ⟨ho.n,ho.l,ho.c,ho.m⟩
 have cB:=ow (o:={o with st:=1,d0:=⟨true,t⟩,d9:=⟨true,t⟩}) ⟨ho.n,ho.l,ho.c,ho.m⟩
 have e0:[aw o,I t]=[.agg ((ai o (cU o) (b6 o) (b7 o) (bw o)).set 6 (I 1)),I t]:=by
  unfold aw aB ai
  rw[hst]
  rfl
 refine bt (A:=CF) base0 ap (ar (LsOk.no rfl)) hcl ?_
 rw[e0]
 refine Eq.mpr (Me o (cU o) (b6 o) (b7 o) (bw o) t (fun u=>cZ (aw (fF o t)) u)) ?_
 repeat' first|refine ao (fun _=> ?_) (fun _=> ?_)|refine And.intro cA ?_|refine And.intro cB ?_|refine br (by kernel_rfl) ?_|exact wH 1 (by unfold fE;simp_all)|exact wH 2 (by unfold fE;simp_all)|exact wH 3 (by unfold fE;simp_all)
noncomputable section
def kO (As:List AV) (n i:Int):View:=⟨[(0,.fsl false As),(1,.func (.func 114) [] []),(4,I 0),(7,I n),(8,I i)],[],[],0,19⟩
def jQ (r:Int):View:=⟨[(4,I r)],[],[],0,19⟩
@[simp] abbrev CO:=(AV.func (Fn.func 114) [] []=AV.func (Fn.func 114) [] []∧true=true)
theorem wI (As:List AV) (n i j r:Int) (s:List UInt8) (idx t y q:Int) (D K:List AV) (N:Prop) (Q:AExit→St→Prop):aN Tryz.prog opts0 40 (ak [(4,3,.res (.fptr (.str s::I idx::am t y q D K) 0))] [] aA [114] []) (aJ Tryz.prog 180 3) (kO As n i).st (bP 0 [] (kO As n j) N [] (jQ r) Q)=
  (aa (au i n) (aQ Tryz.prog 212 (AV.fsl false As) (I i)=some (AV.fptr [AV.str s,I idx,I t,I y,I q,AV.fsl false D,AV.fsl false K] 0)∧aa (ag s [67,114,121,112,116,111,103,114,97,112,104,105,99,32,85,115,97,103,101,32,77,97,115,107]) ((((I i=I r∧ad (I r)=true)∧True)∧True∧True)∧Q AExit.ret (jQ r).st) ((((AV.fsl false As=AV.fsl false As∧ad (AV.fsl false As)=true)∧CO∧(I 0=I 0∧true=true)∧(I n=I n∧ad (I n)=true)∧(I (az IntKind.i64 (i+1))=I j∧ad (I j)=true)∧True)∧True∧True)∧N)) ((((I 0=I r∧ad (I r)=true)∧True)∧True∧True)∧Q (AExit.exit 0) (jQ r).st)):=by kernel_rfl
def rN (e:AExit) (n r:Int) (As:List AV):bL:=fun st Q=>dd 0 [] (kO As n 0) st∧Q e (jQ r).st
@[simp] abbrev CP (As:List AV):=(((AV.fsl false As=AV.fsl false As∧ad (AV.fsl false As)=true)∧CO∧(I 0=I 0∧true=true)∧(I (Int.ofNat (ac As))=I (Int.ofNat (ac As))∧ad (I (Int.ofNat (ac As)))=true)∧(I 0=I 0∧true=true)∧True)∧True∧True)
theorem My (As:List AV) (Q:AV→Prop):aq Tryz.prog opts0 40 (ak [] [(3,rN (.exit 0) (.ofNat (ac As)) 0 As)] aA [] []) 180 [.fsl false As,.func (.func 114) [] []] [] 0 (fun v _ _=>Q v)=
  ((CP As)∧Q (I (Int.negSucc 0))):=by kernel_rfl
theorem Mz (As:List AV) (r:Int) (Q:AV→Prop):aq Tryz.prog opts0 40 (ak [] [(3,rN .ret (.ofNat (ac As)) r As)] aA [] []) 180 [.fsl false As,.func (.func 114) [] []] [] 0 (fun v _ _=>Q v)=
  ((CP As)∧Q (I r)):=by kernel_rfl
theorem MA (As:List AV) (r:Int) (Q:AV→Prop):aq Tryz.prog opts0 40 (ak [] [] (bq [(180,I r)]) [] []) 113 [.fsl false As,.func (.func 114) [] []] [] 0 (fun v _ _=>Q v)=
  (SC 180 [AV.fsl false As,AV.func (Fn.func 114) [] []] (I r)∧Q (AV.bool !au r 0)):=by kernel_rfl
end
end Go.Proofs.YtlljinebapfdaaaGreatDoor
namespace Go.Proofs.YtlljinebapfdaaaGreatDoor
set_option maxRecDepth 20000
open Go Go.RowKit
open Go.Proofs.Abs
section
variable {l:List At}
theorem MB (hb:l.length≤100000):∀m i,i+m=l.length→∃ (e:AExit) (r:Int),(e= .exit 0∧r=0∨e= .ret)∧∀Q,Q e (jQ r).st→ALp Tryz.prog opts0.glob 0 (aJ Tryz.prog 180 3) (kO (l.map aW) (.ofNat l.length) (.ofNat i)).st Q:=by
 have hL:=jI l
 intro m
 induction m with
 |zero=>
  intro i hi
  rw[Nat.add_zero] at hi
  subst hi
  refine ⟨.exit 0,0,.inl ⟨rfl,rfl⟩,fun Q hq=> ?_⟩
  refine ALp.round (A:=ak [(4,3,.res (.fptr (.str []::I 0::am 0 0 0 [] []) 0))] [] aA [114] []) (V2:=kO (l.map aW) (.ofNat l.length) 0) (F:=jQ 0) (lk:=[]) (lk':=[]) base0 ap (LsOk.no rfl) .refl ?_
  rw[wI]
  exact ao (fun e=>by rw[ltInt_iff] at e;omega) fun _=>⟨⟨⟨⟨rfl,rfl⟩,trivial⟩,trivial,trivial⟩,hq⟩
 | succ m ih=>
  intro i hi
  have hlt:i<l.length:=by omega
  have g:=List.getElem?_eq_getElem hlt
  obtain ⟨e,r,he,hr⟩:=ih (i+1) (by omega)
  revert g
  generalize l[i]=a
  intro g
  have yes:au (Int.ofNat i) (Int.ofNat l.length)=true:=ltInt_iff.2 (by simp only[Int.ofNat_eq_natCast];omega)
  have hw:az .i64 (Int.ofNat i+1)=Int.ofNat (i+1):=eS (by simp;omega) (by simp;omega)
  obtain ⟨s,idx,⟨t,y,q,d,ks⟩⟩:=a
  have hx:=wr g
  cases hp:ag s [67,114,121,112,116,111,103,114,97,112,104,105,99,32,85,115,97,103,101,32,77,97,115,107] with
  |true=>
   refine ⟨.ret,.ofNat i,.inr rfl,fun Q hq=> ?_⟩
   refine ALp.round (A:=ak [(4,3,.res (.fptr (.str s::I idx::am t y q (aj d) (af ks)) 0))] [] aA [114] []) (V2:=kO (l.map aW) (.ofNat l.length) 0) (F:=jQ (.ofNat i)) (lk:=[]) (lk':=[]) base0 ap (LsOk.no rfl) .refl ?_
   rw[wI]
   refine ao (fun _=>⟨hx,ao (fun _=>⟨⟨⟨⟨rfl,rfl⟩,trivial⟩,trivial,trivial⟩,hq⟩) fun e=> ?_⟩) fun e=> ?_
   ·rw[hp] at e;cases e
   ·rw[yes] at e;cases e
  |false=>
   refine ⟨e,r,he,fun Q hq=> ?_⟩
   refine ALp.round (A:=ak [(4,3,.res (.fptr (.str s::I idx::am t y q (aj d) (af ks)) 0))] [] aA [114] []) (V2:=kO (l.map aW) (.ofNat l.length) (.ofNat (i+1))) (F:=jQ 0) (lk:=[]) (lk':=[]) base0 ap (LsOk.no rfl) .refl ?_
   rw[wI,hw]
   refine ao (fun _=>⟨hx,ao (fun e=> ?_) fun _=>⟨⟨⟨⟨rfl,hL⟩,⟨rfl,rfl⟩,⟨rfl,rfl⟩,⟨rfl,rfl⟩,⟨rfl,rfl⟩,trivial⟩,trivial,trivial⟩,hr Q hq⟩⟩) fun e=> ?_
   ·rw[hp] at e;cases e
   ·rw[yes] at e;cases e
end
theorem CQ:bX (dG Tryz.prog 180) 3=[aJ Tryz.prog 180 3]:=by kernel_rfl
theorem MC {l:List At} (hb:l.length≤100000):∃b:Bool,SC 113 [.fsl false (l.map aW),.func (.func 114) [] []] (.bool b):=by
 have hL:=jI l
 have hlen:ac (l.map aW)=l.length:=by rw[aC,List.length_map]
 have hcl:ae [.fsl false (l.map aW),.func (.func 114) [] []]=true:=by simp only[ae,ad,hL,Bool.and_self]
 have:∃r:Int,SC 180 [.fsl false (l.map aW),.func (.func 114) [] []] (I r):=by
  obtain ⟨e,r,he,hr⟩:=MB hb l.length 0 (Nat.zero_add _)
  rcases he with ⟨rfl,rfl⟩|rfl
  ·refine ⟨_,bt (v:=I (Int.negSucc 0)) (A:=ak [] [(3,rN (.exit 0) (.ofNat (ac (l.map aW))) 0 (l.map aW))] aA [] []) base0 ap
    (ar (LsOk.at1 rfl CQ fun st Q hs=> .seen base0.glob hs.1 (by rw[hlen];exact hr Q hs.2))) hcl ?_⟩
   rw[My]
   exact ⟨⟨⟨⟨rfl,hL⟩,⟨rfl,rfl⟩,⟨rfl,rfl⟩,⟨rfl,rfl⟩,⟨rfl,rfl⟩,trivial⟩,trivial,trivial⟩,dZ rfl⟩
  ·refine ⟨_,bt (v:=I r) (A:=ak [] [(3,rN .ret (.ofNat (ac (l.map aW))) r (l.map aW))] aA [] []) base0 ap
    (ar (LsOk.at1 rfl CQ fun st Q hs=> .seen base0.glob hs.1 (by rw[hlen];exact hr Q hs.2))) hcl ?_⟩
   rw[Mz]
   exact ⟨⟨⟨⟨rfl,hL⟩,⟨rfl,rfl⟩,⟨rfl,rfl⟩,⟨rfl,rfl⟩,⟨rfl,rfl⟩,trivial⟩,trivial,trivial⟩,dZ rfl⟩
 obtain ⟨r,h⟩:=this
 refine ⟨!au r 0,bt (A:=ak [] [] (bq [(180,I r)]) [] []) base0 ap (ar (LsOk.no rfl)) hcl ?_⟩
 rw[MA]
 exact ⟨h,dZ rfl⟩
end Go.Proofs.YtlljinebapfdaaaGreatDoor
namespace Go.Proofs.YtlljinebapfdaaaGreatDoor
open Go Go.RowKit
open Go.Proofs.Abs
noncomputable section
def MD (g:List UInt8→Bool):List AV→Option AV
 |[.str s]=>some (.bool (g s))
 |_=>none
def kP (g:List UInt8→Bool):aV:=ak [] [] (de [(186,MD g)]) [232,257] []
theorem ME (g:List UInt8→Bool) (Q:AV→Prop):aq Tryz.prog opts0 40 (kP g) 188 [.fsl false [],I 6,.func (.func 186) [] []] [] 0 (fun v _ _=>Q v)=
  (Q (AV.bool true)):=by kernel_rfl
theorem MF (g:List UInt8→Bool) (x0:List UInt8) (Q:AV→Prop):aq Tryz.prog opts0 40 (kP g) 188 [.fsl false [.str x0],I 6,.func (.func 186) [] []] [] 0 (fun v _ _=>Q v)=
  (SC 186 [AV.str x0] (AV.bool (g x0))∧aa (!g x0) (Q (AV.bool false)) (Q (AV.bool !au 6 (Int.ofNat (ac [AV.str x0]))))):=by kernel_rfl
theorem MG (g:List UInt8→Bool) (x0 x1:List UInt8) (Q:AV→Prop):aq Tryz.prog opts0 40 (kP g) 188 [.fsl false [.str x0,.str x1],I 6,.func (.func 186) [] []] [] 0 (fun v _ _=>Q v)=
  (SC 186 [AV.str x0] (AV.bool (g x0))∧aa (!g x0) (Q (AV.bool false)) (SC 186 [AV.str x1] (AV.bool (g x1))∧aa (!g x1) (Q (AV.bool false)) (aa (ag x1 x0) (Q (AV.bool false)) (Q (AV.bool !au 6 (Int.ofNat (ac [AV.str x0,AV.str x1]))))))):=by kernel_rfl
theorem MH (g:List UInt8→Bool) (x0 x1 x2:List UInt8) (Q:AV→Prop):aq Tryz.prog opts0 40 (kP g) 188 [.fsl false [.str x0,.str x1,.str x2],I 6,.func (.func 186) [] []] [] 0 (fun v _ _=>Q v)=
  (SC 186 [AV.str x0] (AV.bool (g x0))∧aa (!g x0) (Q (AV.bool false)) (SC 186 [AV.str x1] (AV.bool (g x1))∧aa (!g x1) (Q (AV.bool false)) (aa (ag x1 x0) (Q (AV.bool false)) (SC 186 [AV.str x2] (AV.bool (g x2))∧aa (!g x2) (Q (AV.bool false)) (aa (ag x2 x0) (Q (AV.bool false)) (aa (ag x2 x1) (Q (AV.bool false)) (Q (AV.bool !au 6 (Int.ofNat (ac [AV.str x0,AV.str x1,AV.str x2])))))))))):=by kernel_rfl
theorem MI (g:List UInt8→Bool) (x0 x1 x2 x3:List UInt8) (Q:AV→Prop):aq Tryz.prog opts0 40 (kP g) 188 [.fsl false [.str x0,.str x1,.str x2,.str x3],I 6,.func (.func 186) [] []] [] 0 (fun v _ _=>Q v)=
  (SC 186 [AV.str x0] (AV.bool (g x0))∧aa (!g x0) (Q (AV.bool false)) (SC 186 [AV.str x1] (AV.bool (g x1))∧aa (!g x1) (Q (AV.bool false)) (aa (ag x1 x0) (Q (AV.bool false)) (SC 186 [AV.str x2] (AV.bool (g x2))∧aa (!g x2) (Q (AV.bool false)) (aa (ag x2 x0) (Q (AV.bool false)) (aa (ag x2 x1) (Q (AV.bool false)) (SC 186 [AV.str x3] (AV.bool (g x3))∧aa (!g x3) (Q (AV.bool false)) (aa (ag x3 x0) (Q (AV.bool false)) (aa (ag x3 x1) (Q (AV.bool false)) (aa (ag x3 x2) (Q (AV.bool false)) (Q (AV.bool !au 6 (Int.ofNat (ac [AV.str x0,AV.str x1,AV.str x2,AV.str x3])))))))))))))):=by kernel_rfl
theorem MJ (g:List UInt8→Bool) (x0 x1 x2 x3 x4:List UInt8) (Q:AV→Prop):aq Tryz.prog opts0 40 (kP g) 188 [.fsl false [.str x0,.str x1,.str x2,.str x3,.str x4],I 6,.func (.func 186) [] []] [] 0 (fun v _ _=>Q v)=
  (SC 186 [AV.str x0] (AV.bool (g x0))∧aa (!g x0) (Q (AV.bool false)) (SC 186 [AV.str x1] (AV.bool (g x1))∧aa (!g x1) (Q (AV.bool false)) (aa (ag x1 x0) (Q (AV.bool false)) (SC 186 [AV.str x2] (AV.bool (g x2))∧aa (!g x2) (Q (AV.bool false)) (aa (ag x2 x0) (Q (AV.bool false)) (aa (ag x2 x1) (Q (AV.bool false)) (SC 186 [AV.str x3] (AV.bool (g x3))∧aa (!g x3) (Q (AV.bool false)) (aa (ag x3 x0) (Q (AV.bool false)) (aa (ag x3 x1) (Q (AV.bool false)) (aa (ag x3 x2) (Q (AV.bool false)) (SC 186 [AV.str x4] (AV.bool (g x4))∧aa (!g x4) (Q (AV.bool false)) (aa (ag x4 x0) (Q (AV.bool false)) (aa (ag x4 x1) (Q (AV.bool false)) (aa (ag x4 x2) (Q (AV.bool false)) (aa (ag x4 x3) (Q (AV.bool false)) (Q (AV.bool !au 6 (Int.ofNat (ac [AV.str x0,AV.str x1,AV.str x2,AV.str x3,AV.str x4]))))))))))))))))))):=by kernel_rfl
theorem MK (g:List UInt8→Bool) (x0 x1 x2 x3 x4 x5:List UInt8) (Q:AV→Prop):aq Tryz.prog opts0 40 (kP g) 188 [.fsl false [.str x0,.str x1,.str x2,.str x3,.str x4,.str x5],I 6,.func (.func 186) [] []] [] 0 (fun v _ _=>Q v)=
  (SC 186 [AV.str x0] (AV.bool (g x0))∧aa (!g x0) (Q (AV.bool false)) (SC 186 [AV.str x1] (AV.bool (g x1))∧aa (!g x1) (Q (AV.bool false)) (aa (ag x1 x0) (Q (AV.bool false)) (SC 186 [AV.str x2] (AV.bool (g x2))∧aa (!g x2) (Q (AV.bool false)) (aa (ag x2 x0) (Q (AV.bool false)) (aa (ag x2 x1) (Q (AV.bool false)) (SC 186 [AV.str x3] (AV.bool (g x3))∧aa (!g x3) (Q (AV.bool false)) (aa (ag x3 x0) (Q (AV.bool false)) (aa (ag x3 x1) (Q (AV.bool false)) (aa (ag x3 x2) (Q (AV.bool false)) (SC 186 [AV.str x4] (AV.bool (g x4))∧aa (!g x4) (Q (AV.bool false)) (aa (ag x4 x0) (Q (AV.bool false)) (aa (ag x4 x1) (Q (AV.bool false)) (aa (ag x4 x2) (Q (AV.bool false)) (aa (ag x4 x3) (Q (AV.bool false)) (SC 186 [AV.str x5] (AV.bool (g x5))∧aa (!g x5) (Q (AV.bool false)) (aa (ag x5 x0) (Q (AV.bool false)) (aa (ag x5 x1) (Q (AV.bool false)) (aa (ag x5 x2) (Q (AV.bool false)) (aa (ag x5 x3) (Q (AV.bool false)) (aa (ag x5 x4) (Q (AV.bool false)) (Q (AV.bool !au 6 (Int.ofNat (ac [AV.str x0,AV.str x1,AV.str x2,AV.str x3,AV.str x4,AV.str x5]))))))))))))))))))))))))):=by kernel_rfl
def ML (g:Lk→Bool):List AV→Option AV
 |[.agg [.int _ t,.str s]]=>some (.bool (g ⟨t,s⟩))
 |_=>none
def iU (g:Lk→Bool):aV:=ak [] [] (de [(190,ML g)]) [233,258] []
theorem MM (g:Lk→Bool) (Q:AV→Prop):aq Tryz.prog opts0 40 (iU g) 189 [.fsl false [],I 8,.func (.func 190) [] []] [] 0 (fun v _ _=>Q v)=
  (Q (AV.bool true)):=by kernel_rfl
abbrev iV (x0:Lk):=[AV.agg [I x0.1,AV.str x0.2]]
theorem MN (g:Lk→Bool) (x0:Lk) (Q:AV→Prop):aq Tryz.prog opts0 40 (iU g) 189 [.fsl false [aO x0],I 8,.func (.func 190) [] []] [] 0 (fun v _ _=>Q v)=
  (SC 190 (iV x0) (AV.bool (g {ty:=x0.1,id:=x0.2}))∧aa (!g {ty:=x0.1,id:=x0.2}) (Q (AV.bool false)) (Q (AV.bool !au 8 (Int.ofNat (ac (iV x0)))))):=by kernel_rfl
abbrev kQ (x1:Lk):=[AV.agg [I x1.1,AV.str x1.2]]
theorem MO (g:Lk→Bool) (x0 x1:Lk) (Q:AV→Prop):aq Tryz.prog opts0 40 (iU g) 189 [.fsl false [aO x0,aO x1],I 8,.func (.func 190) [] []] [] 0 (fun v _ _=>Q v)=
  (SC 190 (iV x0) (AV.bool (g {ty:=x0.1,id:=x0.2}))∧aa (!g {ty:=x0.1,id:=x0.2}) (Q (AV.bool false)) (SC 190 (kQ x1) (AV.bool (g {ty:=x1.1,id:=x1.2}))∧aa (!g {ty:=x1.1,id:=x1.2}) (Q (AV.bool false)) (aa (ah x1.1 x0.1&&(ag x1.2 x0.2&&true)) (Q (AV.bool false)) (Q (AV.bool !au 8 (Int.ofNat (ac [AV.agg [I x0.1,AV.str x0.2],AV.agg [I x1.1,AV.str x1.2]]))))))):=by kernel_rfl
abbrev mJ (x2:Lk):=[AV.agg [I x2.1,AV.str x2.2]]
theorem MP (g:Lk→Bool) (x0 x1 x2:Lk) (Q:AV→Prop):aq Tryz.prog opts0 40 (iU g) 189 [.fsl false [aO x0,aO x1,aO x2],I 8,.func (.func 190) [] []] [] 0 (fun v _ _=>Q v)=
  (SC 190 (iV x0) (AV.bool (g {ty:=x0.1,id:=x0.2}))∧aa (!g {ty:=x0.1,id:=x0.2}) (Q (AV.bool false)) (SC 190 (kQ x1) (AV.bool (g {ty:=x1.1,id:=x1.2}))∧aa (!g {ty:=x1.1,id:=x1.2}) (Q (AV.bool false)) (aa (ah x1.1 x0.1&&(ag x1.2 x0.2&&true)) (Q (AV.bool false)) (SC 190 (mJ x2) (AV.bool (g {ty:=x2.1,id:=x2.2}))∧aa (!g {ty:=x2.1,id:=x2.2}) (Q (AV.bool false)) (aa (ah x2.1 x0.1&&(ag x2.2 x0.2&&true)) (Q (AV.bool false)) (aa (ah x2.1 x1.1&&(ag x2.2 x1.2&&true)) (Q (AV.bool false)) (Q (AV.bool !au 8 (Int.ofNat (ac [AV.agg [I x0.1,AV.str x0.2],AV.agg [I x1.1,AV.str x1.2],AV.agg [I x2.1,AV.str x2.2]])))))))))):=by kernel_rfl
abbrev oK (x3:Lk):=[AV.agg [I x3.1,AV.str x3.2]]
theorem MQ (g:Lk→Bool) (x0 x1 x2 x3:Lk) (Q:AV→Prop):aq Tryz.prog opts0 40 (iU g) 189 [.fsl false [aO x0,aO x1,aO x2,aO x3],I 8,.func (.func 190) [] []] [] 0 (fun v _ _=>Q v)=
  (SC 190 (iV x0) (AV.bool (g {ty:=x0.1,id:=x0.2}))∧aa (!g {ty:=x0.1,id:=x0.2}) (Q (AV.bool false)) (SC 190 (kQ x1) (AV.bool (g {ty:=x1.1,id:=x1.2}))∧aa (!g {ty:=x1.1,id:=x1.2}) (Q (AV.bool false)) (aa (ah x1.1 x0.1&&(ag x1.2 x0.2&&true)) (Q (AV.bool false)) (SC 190 (mJ x2) (AV.bool (g {ty:=x2.1,id:=x2.2}))∧aa (!g {ty:=x2.1,id:=x2.2}) (Q (AV.bool false)) (aa (ah x2.1 x0.1&&(ag x2.2 x0.2&&true)) (Q (AV.bool false)) (aa (ah x2.1 x1.1&&(ag x2.2 x1.2&&true)) (Q (AV.bool false)) (SC 190 (oK x3) (AV.bool (g {ty:=x3.1,id:=x3.2}))∧aa (!g {ty:=x3.1,id:=x3.2}) (Q (AV.bool false)) (aa (ah x3.1 x0.1&&(ag x3.2 x0.2&&true)) (Q (AV.bool false)) (aa (ah x3.1 x1.1&&(ag x3.2 x1.2&&true)) (Q (AV.bool false)) (aa (ah x3.1 x2.1&&(ag x3.2 x2.2&&true)) (Q (AV.bool false)) (Q (AV.bool !au 8 (Int.ofNat (ac [AV.agg [I x0.1,AV.str x0.2],AV.agg [I x1.1,AV.str x1.2],AV.agg [I x2.1,AV.str x2.2],AV.agg [I x3.1,AV.str x3.2]])))))))))))))):=by kernel_rfl
theorem MR (g:Lk→Bool) (x0 x1 x2 x3 x4:Lk) (Q:AV→Prop):aq Tryz.prog opts0 40 (iU g) 189 [.fsl false [aO x0,aO x1,aO x2,aO x3,aO x4],I 8,.func (.func 190) [] []] [] 0 (fun v _ _=>Q v)=
  (SC 190 (iV x0) (AV.bool (g {ty:=x0.1,id:=x0.2}))∧aa (!g {ty:=x0.1,id:=x0.2}) (Q (AV.bool false)) (SC 190 (kQ x1) (AV.bool (g {ty:=x1.1,id:=x1.2}))∧aa (!g {ty:=x1.1,id:=x1.2}) (Q (AV.bool false)) (aa (ah x1.1 x0.1&&(ag x1.2 x0.2&&true)) (Q (AV.bool false)) (SC 190 (mJ x2) (AV.bool (g {ty:=x2.1,id:=x2.2}))∧aa (!g {ty:=x2.1,id:=x2.2}) (Q (AV.bool false)) (aa (ah x2.1 x0.1&&(ag x2.2 x0.2&&true)) (Q (AV.bool false)) (aa (ah x2.1 x1.1&&(ag x2.2 x1.2&&true)) (Q (AV.bool false)) (SC 190 (oK x3) (AV.bool (g {ty:=x3.1,id:=x3.2}))∧aa (!g {ty:=x3.1,id:=x3.2}) (Q (AV.bool false)) (aa (ah x3.1 x0.1&&(ag x3.2 x0.2&&true)) (Q (AV.bool false)) (aa (ah x3.1 x1.1&&(ag x3.2 x1.2&&true)) (Q (AV.bool false)) (aa (ah x3.1 x2.1&&(ag x3.2 x2.2&&true)) (Q (AV.bool false)) (SC 190 [AV.agg [I x4.1,AV.str x4.2]] (AV.bool (g {ty:=x4.1,id:=x4.2}))∧aa (!g {ty:=x4.1,id:=x4.2}) (Q (AV.bool false)) (aa (ah x4.1 x0.1&&(ag x4.2 x0.2&&true)) (Q (AV.bool false)) (aa (ah x4.1 x1.1&&(ag x4.2 x1.2&&true)) (Q (AV.bool false)) (aa (ah x4.1 x2.1&&(ag x4.2 x2.2&&true)) (Q (AV.bool false)) (aa (ah x4.1 x3.1&&(ag x4.2 x3.2&&true)) (Q (AV.bool false)) (Q (AV.bool !au 8 (Int.ofNat (ac [AV.agg [I x0.1,AV.str x0.2],AV.agg [I x1.1,AV.str x1.2],AV.agg [I x2.1,AV.str x2.2],AV.agg [I x3.1,AV.str x3.2],AV.agg [I x4.1,AV.str x4.2]]))))))))))))))))))):=by kernel_rfl
theorem MS (g:Lk→Bool) (x0 x1 x2 x3 x4 x5:Lk) (Q:AV→Prop):aq Tryz.prog opts0 40 (iU g) 189 [.fsl false [aO x0,aO x1,aO x2,aO x3,aO x4,aO x5],I 8,.func (.func 190) [] []] [] 0 (fun v _ _=>Q v)=
  (SC 190 (iV x0) (AV.bool (g {ty:=x0.1,id:=x0.2}))∧aa (!g {ty:=x0.1,id:=x0.2}) (Q (AV.bool false)) (SC 190 (kQ x1) (AV.bool (g {ty:=x1.1,id:=x1.2}))∧aa (!g {ty:=x1.1,id:=x1.2}) (Q (AV.bool false)) (aa (ah x1.1 x0.1&&(ag x1.2 x0.2&&true)) (Q (AV.bool false)) (SC 190 (mJ x2) (AV.bool (g {ty:=x2.1,id:=x2.2}))∧aa (!g {ty:=x2.1,id:=x2.2}) (Q (AV.bool false)) (aa (ah x2.1 x0.1&&(ag x2.2 x0.2&&true)) (Q (AV.bool false)) (aa (ah x2.1 x1.1&&(ag x2.2 x1.2&&true)) (Q (AV.bool false)) (SC 190 (oK x3) (AV.bool (g {ty:=x3.1,id:=x3.2}))∧aa (!g {ty:=x3.1,id:=x3.2}) (Q (AV.bool false)) (aa (ah x3.1 x0.1&&(ag x3.2 x0.2&&true)) (Q (AV.bool false)) (aa (ah x3.1 x1.1&&(ag x3.2 x1.2&&true)) (Q (AV.bool false)) (aa (ah x3.1 x2.1&&(ag x3.2 x2.2&&true)) (Q (AV.bool false)) (SC 190 [AV.agg [I x4.1,AV.str x4.2]] (AV.bool (g {ty:=x4.1,id:=x4.2}))∧aa (!g {ty:=x4.1,id:=x4.2}) (Q (AV.bool false)) (aa (ah x4.1 x0.1&&(ag x4.2 x0.2&&true)) (Q (AV.bool false)) (aa (ah x4.1 x1.1&&(ag x4.2 x1.2&&true)) (Q (AV.bool false)) (aa (ah x4.1 x2.1&&(ag x4.2 x2.2&&true)) (Q (AV.bool false)) (aa (ah x4.1 x3.1&&(ag x4.2 x3.2&&true)) (Q (AV.bool false)) (SC 190 [AV.agg [I x5.1,AV.str x5.2]] (AV.bool (g {ty:=x5.1,id:=x5.2}))∧aa (!g {ty:=x5.1,id:=x5.2}) (Q (AV.bool false)) (aa (ah x5.1 x0.1&&(ag x5.2 x0.2&&true)) (Q (AV.bool false)) (aa (ah x5.1 x1.1&&(ag x5.2 x1.2&&true)) (Q (AV.bool false)) (aa (ah x5.1 x2.1&&(ag x5.2 x2.2&&true)) (Q (AV.bool false)) (aa (ah x5.1 x3.1&&(ag x5.2 x3.2&&true)) (Q (AV.bool false)) (aa (ah x5.1 x4.1&&(ag x5.2 x4.2&&true)) (Q (AV.bool false)) (Q (AV.bool !au 8 (Int.ofNat (ac [AV.agg [I x0.1,AV.str x0.2],AV.agg [I x1.1,AV.str x1.2],AV.agg [I x2.1,AV.str x2.2],AV.agg [I x3.1,AV.str x3.2],AV.agg [I x4.1,AV.str x4.2],AV.agg [I x5.1,AV.str x5.2]]))))))))))))))))))))))))):=by kernel_rfl
theorem MT (g:Lk→Bool) (x0 x1 x2 x3 x4 x5 x6:Lk) (Q:AV→Prop):aq Tryz.prog opts0 40 (iU g) 189 [.fsl false [aO x0,aO x1,aO x2,aO x3,aO x4,aO x5,aO x6],I 8,.func (.func 190) [] []] [] 0 (fun v _ _=>Q v)=
  (SC 190 (iV x0) (AV.bool (g {ty:=x0.1,id:=x0.2}))∧aa (!g {ty:=x0.1,id:=x0.2}) (Q (AV.bool false)) (SC 190 (kQ x1) (AV.bool (g {ty:=x1.1,id:=x1.2}))∧aa (!g {ty:=x1.1,id:=x1.2}) (Q (AV.bool false)) (aa (ah x1.1 x0.1&&(ag x1.2 x0.2&&true)) (Q (AV.bool false)) (SC 190 (mJ x2) (AV.bool (g {ty:=x2.1,id:=x2.2}))∧aa (!g {ty:=x2.1,id:=x2.2}) (Q (AV.bool false)) (aa (ah x2.1 x0.1&&(ag x2.2 x0.2&&true)) (Q (AV.bool false)) (aa (ah x2.1 x1.1&&(ag x2.2 x1.2&&true)) (Q (AV.bool false)) (SC 190 (oK x3) (AV.bool (g {ty:=x3.1,id:=x3.2}))∧aa (!g {ty:=x3.1,id:=x3.2}) (Q (AV.bool false)) (aa (ah x3.1 x0.1&&(ag x3.2 x0.2&&true)) (Q (AV.bool false)) (aa (ah x3.1 x1.1&&(ag x3.2 x1.2&&true)) (Q (AV.bool false)) (aa (ah x3.1 x2.1&&(ag x3.2 x2.2&&true)) (Q (AV.bool false)) (SC 190 [AV.agg [I x4.1,AV.str x4.2]] (AV.bool (g {ty:=x4.1,id:=x4.2}))∧aa (!g {ty:=x4.1,id:=x4.2}) (Q (AV.bool false)) (aa (ah x4.1 x0.1&&(ag x4.2 x0.2&&true)) (Q (AV.bool false)) (aa (ah x4.1 x1.1&&(ag x4.2 x1.2&&true)) (Q (AV.bool false)) (aa (ah x4.1 x2.1&&(ag x4.2 x2.2&&true)) (Q (AV.bool false)) (aa (ah x4.1 x3.1&&(ag x4.2 x3.2&&true)) (Q (AV.bool false)) (SC 190 [AV.agg [I x5.1,AV.str x5.2]] (AV.bool (g {ty:=x5.1,id:=x5.2}))∧aa (!g {ty:=x5.1,id:=x5.2}) (Q (AV.bool false)) (aa (ah x5.1 x0.1&&(ag x5.2 x0.2&&true)) (Q (AV.bool false)) (aa (ah x5.1 x1.1&&(ag x5.2 x1.2&&true)) (Q (AV.bool false)) (aa (ah x5.1 x2.1&&(ag x5.2 x2.2&&true)) (Q (AV.bool false)) (aa (ah x5.1 x3.1&&(ag x5.2 x3.2&&true)) (Q (AV.bool false)) (aa (ah x5.1 x4.1&&(ag x5.2 x4.2&&true)) (Q (AV.bool false)) (SC 190 [AV.agg [I x6.1,AV.str x6.2]] (AV.bool (g {ty:=x6.1,id:=x6.2}))∧aa (!g {ty:=x6.1,id:=x6.2}) (Q (AV.bool false)) (aa (ah x6.1 x0.1&&(ag x6.2 x0.2&&true)) (Q (AV.bool false)) (aa (ah x6.1 x1.1&&(ag x6.2 x1.2&&true)) (Q (AV.bool false)) (aa (ah x6.1 x2.1&&(ag x6.2 x2.2&&true)) (Q (AV.bool false)) (aa (ah x6.1 x3.1&&(ag x6.2 x3.2&&true)) (Q (AV.bool false)) (aa (ah x6.1 x4.1&&(ag x6.2 x4.2&&true)) (Q (AV.bool false)) (aa (ah x6.1 x5.1&&(ag x6.2 x5.2&&true)) (Q (AV.bool false)) (Q (AV.bool !au 8 (Int.ofNat (ac [AV.agg [I x0.1,AV.str x0.2],AV.agg [I x1.1,AV.str x1.2],AV.agg [I x2.1,AV.str x2.2],AV.agg [I x3.1,AV.str x3.2],AV.agg [I x4.1,AV.str x4.2],AV.agg [I x5.1,AV.str x5.2],AV.agg [I x6.1,AV.str x6.2]])))))))))))))))))))))))))))))))):=by kernel_rfl
theorem MU (g:Lk→Bool) (x0 x1 x2 x3 x4 x5 x6 x7:Lk) (Q:AV→Prop):aq Tryz.prog opts0 40 (iU g) 189 [.fsl false [aO x0,aO x1,aO x2,aO x3,aO x4,aO x5,aO x6,aO x7],I 8,.func (.func 190) [] []] [] 0 (fun v _ _=>Q v)=
  (SC 190 (iV x0) (AV.bool (g {ty:=x0.1,id:=x0.2}))∧aa (!g {ty:=x0.1,id:=x0.2}) (Q (AV.bool false)) (SC 190 (kQ x1) (AV.bool (g {ty:=x1.1,id:=x1.2}))∧aa (!g {ty:=x1.1,id:=x1.2}) (Q (AV.bool false)) (aa (ah x1.1 x0.1&&(ag x1.2 x0.2&&true)) (Q (AV.bool false)) (SC 190 (mJ x2) (AV.bool (g {ty:=x2.1,id:=x2.2}))∧aa (!g {ty:=x2.1,id:=x2.2}) (Q (AV.bool false)) (aa (ah x2.1 x0.1&&(ag x2.2 x0.2&&true)) (Q (AV.bool false)) (aa (ah x2.1 x1.1&&(ag x2.2 x1.2&&true)) (Q (AV.bool false)) (SC 190 (oK x3) (AV.bool (g {ty:=x3.1,id:=x3.2}))∧aa (!g {ty:=x3.1,id:=x3.2}) (Q (AV.bool false)) (aa (ah x3.1 x0.1&&(ag x3.2 x0.2&&true)) (Q (AV.bool false)) (aa (ah x3.1 x1.1&&(ag x3.2 x1.2&&true)) (Q (AV.bool false)) (aa (ah x3.1 x2.1&&(ag x3.2 x2.2&&true)) (Q (AV.bool false)) (SC 190 [AV.agg [I x4.1,AV.str x4.2]] (AV.bool (g {ty:=x4.1,id:=x4.2}))∧aa (!g {ty:=x4.1,id:=x4.2}) (Q (AV.bool false)) (aa (ah x4.1 x0.1&&(ag x4.2 x0.2&&true)) (Q (AV.bool false)) (aa (ah x4.1 x1.1&&(ag x4.2 x1.2&&true)) (Q (AV.bool false)) (aa (ah x4.1 x2.1&&(ag x4.2 x2.2&&true)) (Q (AV.bool false)) (aa (ah x4.1 x3.1&&(ag x4.2 x3.2&&true)) (Q (AV.bool false)) (SC 190 [AV.agg [I x5.1,AV.str x5.2]] (AV.bool (g {ty:=x5.1,id:=x5.2}))∧aa (!g {ty:=x5.1,id:=x5.2}) (Q (AV.bool false)) (aa (ah x5.1 x0.1&&(ag x5.2 x0.2&&true)) (Q (AV.bool false)) (aa (ah x5.1 x1.1&&(ag x5.2 x1.2&&true)) (Q (AV.bool false)) (aa (ah x5.1 x2.1&&(ag x5.2 x2.2&&true)) (Q (AV.bool false)) (aa (ah x5.1 x3.1&&(ag x5.2 x3.2&&true)) (Q (AV.bool false)) (aa (ah x5.1 x4.1&&(ag x5.2 x4.2&&true)) (Q (AV.bool false)) (SC 190 [AV.agg [I x6.1,AV.str x6.2]] (AV.bool (g {ty:=x6.1,id:=x6.2}))∧aa (!g {ty:=x6.1,id:=x6.2}) (Q (AV.bool false)) (aa (ah x6.1 x0.1&&(ag x6.2 x0.2&&true)) (Q (AV.bool false)) (aa (ah x6.1 x1.1&&(ag x6.2 x1.2&&true)) (Q (AV.bool false)) (aa (ah x6.1 x2.1&&(ag x6.2 x2.2&&true)) (Q (AV.bool false)) (aa (ah x6.1 x3.1&&(ag x6.2 x3.2&&true)) (Q (AV.bool false)) (aa (ah x6.1 x4.1&&(ag x6.2 x4.2&&true)) (Q (AV.bool false)) (aa (ah x6.1 x5.1&&(ag x6.2 x5.2&&true)) (Q (AV.bool false)) (SC 190 [AV.agg [I x7.1,AV.str x7.2]] (AV.bool (g {ty:=x7.1,id:=x7.2}))∧aa (!g {ty:=x7.1,id:=x7.2}) (Q (AV.bool false)) (aa (ah x7.1 x0.1&&(ag x7.2 x0.2&&true)) (Q (AV.bool false)) (aa (ah x7.1 x1.1&&(ag x7.2 x1.2&&true)) (Q (AV.bool false)) (aa (ah x7.1 x2.1&&(ag x7.2 x2.2&&true)) (Q (AV.bool false)) (aa (ah x7.1 x3.1&&(ag x7.2 x3.2&&true)) (Q (AV.bool false)) (aa (ah x7.1 x4.1&&(ag x7.2 x4.2&&true)) (Q (AV.bool false)) (aa (ah x7.1 x5.1&&(ag x7.2 x5.2&&true)) (Q (AV.bool false)) (aa (ah x7.1 x6.1&&(ag x7.2 x6.2&&true)) (Q (AV.bool false)) (Q (AV.bool !au 8 (Int.ofNat (ac [AV.agg [I x0.1,AV.str x0.2],AV.agg [I x1.1,AV.str x1.2],AV.agg [I x2.1,AV.str x2.2],AV.agg [I x3.1,AV.str x3.2],AV.agg [I x4.1,AV.str x4.2],AV.agg [I x5.1,AV.str x5.2],AV.agg [I x6.1,AV.str x6.2],AV.agg [I x7.1,AV.str x7.2]])))))))))))))))))))))))))))))))))))))))):=by kernel_rfl
def MV (g:Cu→Bool):List AV→Option AV
 |[.agg [.str s,.str t]]=>some (.bool (g ⟨s,t⟩))
 |_=>none
def kR (g:Cu→Bool):aV:=ak [] [] (de [(192,MV g)]) [234,259] []
theorem MW (g:Cu→Bool) (Q:AV→Prop):aq Tryz.prog opts0 40 (kR g) 191 [.fsl false [],I 6,.func (.func 192) [] []] [] 0 (fun v _ _=>Q v)=
  (Q (AV.bool true)):=by kernel_rfl
abbrev fZ (x0:Cu):=[AV.str x0.1,AV.str x0.2]
theorem MX (g:Cu→Bool) (x0:Cu) (Q:AV→Prop):aq Tryz.prog opts0 40 (kR g) 191 [.fsl false [aK x0],I 6,.func (.func 192) [] []] [] 0 (fun v _ _=>Q v)=
  (SC 192 [AV.agg (fZ x0)] (AV.bool (g {name:=x0.1,text:=x0.2}))∧aa (!g {name:=x0.1,text:=x0.2}) (Q (AV.bool false)) (Q (AV.bool !au 6 (Int.ofNat (ac [AV.agg (fZ x0)]))))):=by kernel_rfl
abbrev gZ (x1:Cu):=[AV.str x1.1,AV.str x1.2]
theorem MY (g:Cu→Bool) (x0 x1:Cu) (Q:AV→Prop):aq Tryz.prog opts0 40 (kR g) 191 [.fsl false [aK x0,aK x1],I 6,.func (.func 192) [] []] [] 0 (fun v _ _=>Q v)=
  (SC 192 [AV.agg (fZ x0)] (AV.bool (g {name:=x0.1,text:=x0.2}))∧aa (!g {name:=x0.1,text:=x0.2}) (Q (AV.bool false)) (SC 192 [AV.agg (gZ x1)] (AV.bool (g {name:=x1.1,text:=x1.2}))∧aa (!g {name:=x1.1,text:=x1.2}) (Q (AV.bool false)) (aa (ag x1.1 x0.1&&(ag x1.2 x0.2&&true)) (Q (AV.bool false)) (Q (AV.bool !au 6 (Int.ofNat (ac [AV.agg (fZ x0),AV.agg (gZ x1)]))))))):=by kernel_rfl
abbrev jR (x2:Cu):=[AV.str x2.1,AV.str x2.2]
theorem MZ (g:Cu→Bool) (x0 x1 x2:Cu) (Q:AV→Prop):aq Tryz.prog opts0 40 (kR g) 191 [.fsl false [aK x0,aK x1,aK x2],I 6,.func (.func 192) [] []] [] 0 (fun v _ _=>Q v)=
  (SC 192 [AV.agg (fZ x0)] (AV.bool (g {name:=x0.1,text:=x0.2}))∧aa (!g {name:=x0.1,text:=x0.2}) (Q (AV.bool false)) (SC 192 [AV.agg (gZ x1)] (AV.bool (g {name:=x1.1,text:=x1.2}))∧aa (!g {name:=x1.1,text:=x1.2}) (Q (AV.bool false)) (aa (ag x1.1 x0.1&&(ag x1.2 x0.2&&true)) (Q (AV.bool false)) (SC 192 [AV.agg (jR x2)] (AV.bool (g {name:=x2.1,text:=x2.2}))∧aa (!g {name:=x2.1,text:=x2.2}) (Q (AV.bool false)) (aa (ag x2.1 x0.1&&(ag x2.2 x0.2&&true)) (Q (AV.bool false)) (aa (ag x2.1 x1.1&&(ag x2.2 x1.2&&true)) (Q (AV.bool false)) (Q (AV.bool !au 6 (Int.ofNat (ac [AV.agg (fZ x0),AV.agg (gZ x1),AV.agg (jR x2)])))))))))):=by kernel_rfl
abbrev mK (x3:Cu):=[AV.str x3.1,AV.str x3.2]
theorem M0 (g:Cu→Bool) (x0 x1 x2 x3:Cu) (Q:AV→Prop):aq Tryz.prog opts0 40 (kR g) 191 [.fsl false [aK x0,aK x1,aK x2,aK x3],I 6,.func (.func 192) [] []] [] 0 (fun v _ _=>Q v)=
  (SC 192 [AV.agg (fZ x0)] (AV.bool (g {name:=x0.1,text:=x0.2}))∧aa (!g {name:=x0.1,text:=x0.2}) (Q (AV.bool false)) (SC 192 [AV.agg (gZ x1)] (AV.bool (g {name:=x1.1,text:=x1.2}))∧aa (!g {name:=x1.1,text:=x1.2}) (Q (AV.bool false)) (aa (ag x1.1 x0.1&&(ag x1.2 x0.2&&true)) (Q (AV.bool false)) (SC 192 [AV.agg (jR x2)] (AV.bool (g {name:=x2.1,text:=x2.2}))∧aa (!g {name:=x2.1,text:=x2.2}) (Q (AV.bool false)) (aa (ag x2.1 x0.1&&(ag x2.2 x0.2&&true)) (Q (AV.bool false)) (aa (ag x2.1 x1.1&&(ag x2.2 x1.2&&true)) (Q (AV.bool false)) (SC 192 [AV.agg (mK x3)] (AV.bool (g {name:=x3.1,text:=x3.2}))∧aa (!g {name:=x3.1,text:=x3.2}) (Q (AV.bool false)) (aa (ag x3.1 x0.1&&(ag x3.2 x0.2&&true)) (Q (AV.bool false)) (aa (ag x3.1 x1.1&&(ag x3.2 x1.2&&true)) (Q (AV.bool false)) (aa (ag x3.1 x2.1&&(ag x3.2 x2.2&&true)) (Q (AV.bool false)) (Q (AV.bool !au 6 (Int.ofNat (ac [AV.agg (fZ x0),AV.agg (gZ x1),AV.agg (jR x2),AV.agg (mK x3)])))))))))))))):=by kernel_rfl
theorem M1 (g:Cu→Bool) (x0 x1 x2 x3 x4:Cu) (Q:AV→Prop):aq Tryz.prog opts0 40 (kR g) 191 [.fsl false [aK x0,aK x1,aK x2,aK x3,aK x4],I 6,.func (.func 192) [] []] [] 0 (fun v _ _=>Q v)=
  (SC 192 [AV.agg (fZ x0)] (AV.bool (g {name:=x0.1,text:=x0.2}))∧aa (!g {name:=x0.1,text:=x0.2}) (Q (AV.bool false)) (SC 192 [AV.agg (gZ x1)] (AV.bool (g {name:=x1.1,text:=x1.2}))∧aa (!g {name:=x1.1,text:=x1.2}) (Q (AV.bool false)) (aa (ag x1.1 x0.1&&(ag x1.2 x0.2&&true)) (Q (AV.bool false)) (SC 192 [AV.agg (jR x2)] (AV.bool (g {name:=x2.1,text:=x2.2}))∧aa (!g {name:=x2.1,text:=x2.2}) (Q (AV.bool false)) (aa (ag x2.1 x0.1&&(ag x2.2 x0.2&&true)) (Q (AV.bool false)) (aa (ag x2.1 x1.1&&(ag x2.2 x1.2&&true)) (Q (AV.bool false)) (SC 192 [AV.agg (mK x3)] (AV.bool (g {name:=x3.1,text:=x3.2}))∧aa (!g {name:=x3.1,text:=x3.2}) (Q (AV.bool false)) (aa (ag x3.1 x0.1&&(ag x3.2 x0.2&&true)) (Q (AV.bool false)) (aa (ag x3.1 x1.1&&(ag x3.2 x1.2&&true)) (Q (AV.bool false)) (aa (ag x3.1 x2.1&&(ag x3.2 x2.2&&true)) (Q (AV.bool false)) (SC 192 [AV.agg [AV.str x4.1,AV.str x4.2]] (AV.bool (g {name:=x4.1,text:=x4.2}))∧aa (!g {name:=x4.1,text:=x4.2}) (Q (AV.bool false)) (aa (ag x4.1 x0.1&&(ag x4.2 x0.2&&true)) (Q (AV.bool false)) (aa (ag x4.1 x1.1&&(ag x4.2 x1.2&&true)) (Q (AV.bool false)) (aa (ag x4.1 x2.1&&(ag x4.2 x2.2&&true)) (Q (AV.bool false)) (aa (ag x4.1 x3.1&&(ag x4.2 x3.2&&true)) (Q (AV.bool false)) (Q (AV.bool !au 6 (Int.ofNat (ac [AV.agg (fZ x0),AV.agg (gZ x1),AV.agg (jR x2),AV.agg (mK x3),AV.agg [AV.str x4.1,AV.str x4.2]]))))))))))))))))))):=by kernel_rfl
theorem M2 (g:Cu→Bool) (x0 x1 x2 x3 x4 x5:Cu) (Q:AV→Prop):aq Tryz.prog opts0 40 (kR g) 191 [.fsl false [aK x0,aK x1,aK x2,aK x3,aK x4,aK x5],I 6,.func (.func 192) [] []] [] 0 (fun v _ _=>Q v)=
  (SC 192 [AV.agg (fZ x0)] (AV.bool (g {name:=x0.1,text:=x0.2}))∧aa (!g {name:=x0.1,text:=x0.2}) (Q (AV.bool false)) (SC 192 [AV.agg (gZ x1)] (AV.bool (g {name:=x1.1,text:=x1.2}))∧aa (!g {name:=x1.1,text:=x1.2}) (Q (AV.bool false)) (aa (ag x1.1 x0.1&&(ag x1.2 x0.2&&true)) (Q (AV.bool false)) (SC 192 [AV.agg (jR x2)] (AV.bool (g {name:=x2.1,text:=x2.2}))∧aa (!g {name:=x2.1,text:=x2.2}) (Q (AV.bool false)) (aa (ag x2.1 x0.1&&(ag x2.2 x0.2&&true)) (Q (AV.bool false)) (aa (ag x2.1 x1.1&&(ag x2.2 x1.2&&true)) (Q (AV.bool false)) (SC 192 [AV.agg (mK x3)] (AV.bool (g {name:=x3.1,text:=x3.2}))∧aa (!g {name:=x3.1,text:=x3.2}) (Q (AV.bool false)) (aa (ag x3.1 x0.1&&(ag x3.2 x0.2&&true)) (Q (AV.bool false)) (aa (ag x3.1 x1.1&&(ag x3.2 x1.2&&true)) (Q (AV.bool false)) (aa (ag x3.1 x2.1&&(ag x3.2 x2.2&&true)) (Q (AV.bool false)) (SC 192 [AV.agg [AV.str x4.1,AV.str x4.2]] (AV.bool (g {name:=x4.1,text:=x4.2}))∧aa (!g {name:=x4.1,text:=x4.2}) (Q (AV.bool false)) (aa (ag x4.1 x0.1&&(ag x4.2 x0.2&&true)) (Q (AV.bool false)) (aa (ag x4.1 x1.1&&(ag x4.2 x1.2&&true)) (Q (AV.bool false)) (aa (ag x4.1 x2.1&&(ag x4.2 x2.2&&true)) (Q (AV.bool false)) (aa (ag x4.1 x3.1&&(ag x4.2 x3.2&&true)) (Q (AV.bool false)) (SC 192 [AV.agg [AV.str x5.1,AV.str x5.2]] (AV.bool (g {name:=x5.1,text:=x5.2}))∧aa (!g {name:=x5.1,text:=x5.2}) (Q (AV.bool false)) (aa (ag x5.1 x0.1&&(ag x5.2 x0.2&&true)) (Q (AV.bool false)) (aa (ag x5.1 x1.1&&(ag x5.2 x1.2&&true)) (Q (AV.bool false)) (aa (ag x5.1 x2.1&&(ag x5.2 x2.2&&true)) (Q (AV.bool false)) (aa (ag x5.1 x3.1&&(ag x5.2 x3.2&&true)) (Q (AV.bool false)) (aa (ag x5.1 x4.1&&(ag x5.2 x4.2&&true)) (Q (AV.bool false)) (Q (AV.bool !au 6 (Int.ofNat (ac [AV.agg (fZ x0),AV.agg (gZ x1),AV.agg (jR x2),AV.agg (mK x3),AV.agg [AV.str x4.1,AV.str x4.2],AV.agg [AV.str x5.1,AV.str x5.2]]))))))))))))))))))))))))):=by kernel_rfl
end
theorem ct {α:Type} {b:Bool} {T F:α→Prop} (h1:b=true→∃v,T v) (h2:b=false→∃v,F v):∃v,aa b (T v) (F v):=by
 cases b with
 |true=>obtain ⟨v,h⟩:=h1 rfl;exact ⟨v,h⟩
 |false=>obtain ⟨v,h⟩:=h2 rfl;exact ⟨v,h⟩
theorem bY {α:Type} {p:Prop} {K:α→Prop} (h:p) (k:∃v,K v):∃v,p∧K v:=k.elim fun v hv=>⟨v,h,hv⟩
theorem cu (b:Bool):∃v:Bool,cZ (.bool v) (.bool b):=⟨b,dZ rfl⟩
theorem cv {A:aV} {f:FuncId} {args:List AV} (hA:cC Tryz.prog opts0 A) (hl:fh Tryz.prog opts0.glob 0 A f) (hcl:ae args=true) {T:(AV→Prop)→Prop} (he:∀Q,aq Tryz.prog opts0 40 A f args [] 0 (fun v _ _=>Q v)=T Q) (h:∃v:Bool,T fun u=>cZ (.bool v) u):∃b:Bool,SC f args (.bool b):=by
 obtain ⟨v,hv⟩:=h
 refine ⟨v,bt base0 hA hl hcl ?_⟩
 rw[he]
 exact hv
section
variable {g:List UInt8→Bool}
theorem M3 (_h:∀x∈([]:List (List UInt8)),SC 186 [AV.str x] (.bool (g x))):∃b:Bool,SC 188 [.fsl false ([].map AV.str),I 6,.func (.func 186) [] []] (.bool b):=by
 refine cv ap (ar (LsOk.no rfl)) rfl (ME g) ?_
 repeat' first|exact cu _|refine bY (h _ (by simp)) ?_|refine ct (fun _=> ?_) (fun _=> ?_)
theorem M4 {x0:List UInt8} (h:∀x∈([x0]:List (List UInt8)),SC 186 [AV.str x] (.bool (g x))):∃b:Bool,SC 188 [.fsl false ([x0].map AV.str),I 6,.func (.func 186) [] []] (.bool b):=by
 refine cv ap (ar (LsOk.no rfl)) rfl (MF g x0) ?_
 repeat' first|exact cu _|refine bY (h _ (by simp)) ?_|refine ct (fun _=> ?_) (fun _=> ?_)
theorem M5 {x0 x1:List UInt8} (h:∀x∈([x0,x1]:List (List UInt8)),SC 186 [AV.str x] (.bool (g x))):∃b:Bool,SC 188 [.fsl false ([x0,x1].map AV.str),I 6,.func (.func 186) [] []] (.bool b):=by
 refine cv ap (ar (LsOk.no rfl)) rfl (MG g x0 x1) ?_
 repeat' first|exact cu _|refine bY (h _ (by simp)) ?_|refine ct (fun _=> ?_) (fun _=> ?_)
theorem M6 {x0 x1 x2:List UInt8} (h:∀x∈([x0,x1,x2]:List (List UInt8)),SC 186 [AV.str x] (.bool (g x))):∃b:Bool,SC 188 [.fsl false ([x0,x1,x2].map AV.str),I 6,.func (.func 186) [] []] (.bool b):=by
 refine cv ap (ar (LsOk.no rfl)) rfl (MH g x0 x1 x2) ?_
 repeat' first|exact cu _|refine bY (h _ (by simp)) ?_|refine ct (fun _=> ?_) (fun _=> ?_)
theorem M7 {x0 x1 x2 x3:List UInt8} (h:∀x∈([x0,x1,x2,x3]:List (List UInt8)),SC 186 [AV.str x] (.bool (g x))):∃b:Bool,SC 188 [.fsl false ([x0,x1,x2,x3].map AV.str),I 6,.func (.func 186) [] []] (.bool b):=by
 refine cv ap (ar (LsOk.no rfl)) rfl (MI g x0 x1 x2 x3) ?_
 repeat' first|exact cu _|refine bY (h _ (by simp)) ?_|refine ct (fun _=> ?_) (fun _=> ?_)
theorem M8 {x0 x1 x2 x3 x4:List UInt8} (h:∀x∈([x0,x1,x2,x3,x4]:List (List UInt8)),SC 186 [AV.str x] (.bool (g x))):∃b:Bool,SC 188 [.fsl false ([x0,x1,x2,x3,x4].map AV.str),I 6,.func (.func 186) [] []] (.bool b):=by
 refine cv ap (ar (LsOk.no rfl)) rfl (MJ g x0 x1 x2 x3 x4) ?_
 repeat' first|exact cu _|refine bY (h _ (by simp)) ?_|refine ct (fun _=> ?_) (fun _=> ?_)
theorem M9 {x0 x1 x2 x3 x4 x5:List UInt8} (h:∀x∈([x0,x1,x2,x3,x4,x5]:List (List UInt8)),SC 186 [AV.str x] (.bool (g x))):∃b:Bool,SC 188 [.fsl false ([x0,x1,x2,x3,x4,x5].map AV.str),I 6,.func (.func 186) [] []] (.bool b):=by
 refine cv ap (ar (LsOk.no rfl)) rfl (MK g x0 x1 x2 x3 x4 x5) ?_
 repeat' first|exact cu _|refine bY (h _ (by simp)) ?_|refine ct (fun _=> ?_) (fun _=> ?_)
theorem Na:∀l:List (List UInt8),l.length≤6→(∀x∈l,SC 186 [AV.str x] (.bool (g x)))→∃b:Bool,SC 188 [.fsl false (l.map AV.str),I 6,.func (.func 186) [] []] (.bool b)
 |[],_,h=>M3 h
 |[_],_,h=>M4 h
 |[_,_],_,h=>M5 h
 |[_,_,_],_,h=>M6 h
 |[_,_,_,_],_,h=>M7 h
 |[_,_,_,_,_],_,h=>M8 h
 |[_,_,_,_,_,_],_,h=>M9 h
 |_::_::_::_::_::_::_::_,h,_=>absurd h (by simp)
end
section
variable {g:Lk→Bool}
theorem Nb (_h:∀x∈([]:List (Lk)),SC 190 [aO x] (.bool (g x))):∃b:Bool,SC 189 [.fsl false ([].map aO),I 8,.func (.func 190) [] []] (.bool b):=by
 refine cv ap (ar (LsOk.no rfl)) rfl (MM g) ?_
 repeat' first|exact cu _|refine bY (h _ (by simp)) ?_|refine ct (fun _=> ?_) (fun _=> ?_)
theorem Nc {x0:Lk} (h:∀x∈([x0]:List (Lk)),SC 190 [aO x] (.bool (g x))):∃b:Bool,SC 189 [.fsl false ([x0].map aO),I 8,.func (.func 190) [] []] (.bool b):=by
 refine cv ap (ar (LsOk.no rfl)) rfl (MN g x0) ?_
 repeat' first|exact cu _|refine bY (h _ (by simp)) ?_|refine ct (fun _=> ?_) (fun _=> ?_)
theorem Nd {x0 x1:Lk} (h:∀x∈([x0,x1]:List (Lk)),SC 190 [aO x] (.bool (g x))):∃b:Bool,SC 189 [.fsl false ([x0,x1].map aO),I 8,.func (.func 190) [] []] (.bool b):=by
 refine cv ap (ar (LsOk.no rfl)) rfl (MO g x0 x1) ?_
 repeat' first|exact cu _|refine bY (h _ (by simp)) ?_|refine ct (fun _=> ?_) (fun _=> ?_)
theorem Nf {x0 x1 x2:Lk} (h:∀x∈([x0,x1,x2]:List (Lk)),SC 190 [aO x] (.bool (g x))):∃b:Bool,SC 189 [.fsl false ([x0,x1,x2].map aO),I 8,.func (.func 190) [] []] (.bool b):=by
 refine cv ap (ar (LsOk.no rfl)) rfl (MP g x0 x1 x2) ?_
 repeat' first|exact cu _|refine bY (h _ (by simp)) ?_|refine ct (fun _=> ?_) (fun _=> ?_)
theorem Ng {x0 x1 x2 x3:Lk} (h:∀x∈([x0,x1,x2,x3]:List (Lk)),SC 190 [aO x] (.bool (g x))):∃b:Bool,SC 189 [.fsl false ([x0,x1,x2,x3].map aO),I 8,.func (.func 190) [] []] (.bool b):=by
 refine cv ap (ar (LsOk.no rfl)) rfl (MQ g x0 x1 x2 x3) ?_
 repeat' first|exact cu _|refine bY (h _ (by simp)) ?_|refine ct (fun _=> ?_) (fun _=> ?_)
theorem Nh {x0 x1 x2 x3 x4:Lk} (h:∀x∈([x0,x1,x2,x3,x4]:List (Lk)),SC 190 [aO x] (.bool (g x))):∃b:Bool,SC 189 [.fsl false ([x0,x1,x2,x3,x4].map aO),I 8,.func (.func 190) [] []] (.bool b):=by
 refine cv ap (ar (LsOk.no rfl)) rfl (MR g x0 x1 x2 x3 x4) ?_
 repeat' first|exact cu _|refine bY (h _ (by simp)) ?_|refine ct (fun _=> ?_) (fun _=> ?_)
theorem Ni {x0 x1 x2 x3 x4 x5:Lk} (h:∀x∈([x0,x1,x2,x3,x4,x5]:List (Lk)),SC 190 [aO x] (.bool (g x))):∃b:Bool,SC 189 [.fsl false ([x0,x1,x2,x3,x4,x5].map aO),I 8,.func (.func 190) [] []] (.bool b):=by
 refine cv ap (ar (LsOk.no rfl)) rfl (MS g x0 x1 x2 x3 x4 x5) ?_
 repeat' first|exact cu _|refine bY (h _ (by simp)) ?_|refine ct (fun _=> ?_) (fun _=> ?_)
theorem Nj {x0 x1 x2 x3 x4 x5 x6:Lk} (h:∀x∈([x0,x1,x2,x3,x4,x5,x6]:List (Lk)),SC 190 [aO x] (.bool (g x))):∃b:Bool,SC 189 [.fsl false ([x0,x1,x2,x3,x4,x5,x6].map aO),I 8,.func (.func 190) [] []] (.bool b):=by
 refine cv ap (ar (LsOk.no rfl)) rfl (MT g x0 x1 x2 x3 x4 x5 x6) ?_
 repeat' first|exact cu _|refine bY (h _ (by simp)) ?_|refine ct (fun _=> ?_) (fun _=> ?_)
theorem Nk {x0 x1 x2 x3 x4 x5 x6 x7:Lk} (h:∀x∈([x0,x1,x2,x3,x4,x5,x6,x7]:List (Lk)),SC 190 [aO x] (.bool (g x))):∃b:Bool,SC 189 [.fsl false ([x0,x1,x2,x3,x4,x5,x6,x7].map aO),I 8,.func (.func 190) [] []] (.bool b):=by
 refine cv ap (ar (LsOk.no rfl)) rfl (MU g x0 x1 x2 x3 x4 x5 x6 x7) ?_
 repeat' first|exact cu _|refine bY (h _ (by simp)) ?_|refine ct (fun _=> ?_) (fun _=> ?_)
theorem Nl:∀l:List (Lk),l.length≤8→(∀x∈l,SC 190 [aO x] (.bool (g x)))→∃b:Bool,SC 189 [.fsl false (l.map aO),I 8,.func (.func 190) [] []] (.bool b)
 |[],_,h=>Nb h
 |[_],_,h=>Nc h
 |[_,_],_,h=>Nd h
 |[_,_,_],_,h=>Nf h
 |[_,_,_,_],_,h=>Ng h
 |[_,_,_,_,_],_,h=>Nh h
 |[_,_,_,_,_,_],_,h=>Ni h
 |[_,_,_,_,_,_,_],_,h=>Nj h
 |[_,_,_,_,_,_,_,_],_,h=>Nk h
 |_::_::_::_::_::_::_::_::_::_,h,_=>absurd h (by simp)
end
section
variable {g:Cu→Bool}
theorem Nm (_h:∀x∈([]:List (Cu)),SC 192 [aK x] (.bool (g x))):∃b:Bool,SC 191 [.fsl false ([].map aK),I 6,.func (.func 192) [] []] (.bool b):=by
 refine cv ap (ar (LsOk.no rfl)) rfl (MW g) ?_
 repeat' first|exact cu _|refine bY (h _ (by simp)) ?_|refine ct (fun _=> ?_) (fun _=> ?_)
theorem Nn {x0:Cu} (h:∀x∈([x0]:List (Cu)),SC 192 [aK x] (.bool (g x))):∃b:Bool,SC 191 [.fsl false ([x0].map aK),I 6,.func (.func 192) [] []] (.bool b):=by
 refine cv ap (ar (LsOk.no rfl)) rfl (MX g x0) ?_
 repeat' first|exact cu _|refine bY (h _ (by simp)) ?_|refine ct (fun _=> ?_) (fun _=> ?_)
theorem Np {x0 x1:Cu} (h:∀x∈([x0,x1]:List (Cu)),SC 192 [aK x] (.bool (g x))):∃b:Bool,SC 191 [.fsl false ([x0,x1].map aK),I 6,.func (.func 192) [] []] (.bool b):=by
 refine cv ap (ar (LsOk.no rfl)) rfl (MY g x0 x1) ?_
 repeat' first|exact cu _|refine bY (h _ (by simp)) ?_|refine ct (fun _=> ?_) (fun _=> ?_)
theorem Nq {x0 x1 x2:Cu} (h:∀x∈([x0,x1,x2]:List (Cu)),SC 192 [aK x] (.bool (g x))):∃b:Bool,SC 191 [.fsl false ([x0,x1,x2].map aK),I 6,.func (.func 192) [] []] (.bool b):=by
 refine cv ap (ar (LsOk.no rfl)) rfl (MZ g x0 x1 x2) ?_
 repeat' first|exact cu _|refine bY (h _ (by simp)) ?_|refine ct (fun _=> ?_) (fun _=> ?_)
theorem Nr {x0 x1 x2 x3:Cu} (h:∀x∈([x0,x1,x2,x3]:List (Cu)),SC 192 [aK x] (.bool (g x))):∃b:Bool,SC 191 [.fsl false ([x0,x1,x2,x3].map aK),I 6,.func (.func 192) [] []] (.bool b):=by
 refine cv ap (ar (LsOk.no rfl)) rfl (M0 g x0 x1 x2 x3) ?_
 repeat' first|exact cu _|refine bY (h _ (by simp)) ?_|refine ct (fun _=> ?_) (fun _=> ?_)
theorem Nt {x0 x1 x2 x3 x4:Cu} (h:∀x∈([x0,x1,x2,x3,x4]:List (Cu)),SC 192 [aK x] (.bool (g x))):∃b:Bool,SC 191 [.fsl false ([x0,x1,x2,x3,x4].map aK),I 6,.func (.func 192) [] []] (.bool b):=by
 refine cv ap (ar (LsOk.no rfl)) rfl (M1 g x0 x1 x2 x3 x4) ?_
 repeat' first|exact cu _|refine bY (h _ (by simp)) ?_|refine ct (fun _=> ?_) (fun _=> ?_)
theorem Nu {x0 x1 x2 x3 x4 x5:Cu} (h:∀x∈([x0,x1,x2,x3,x4,x5]:List (Cu)),SC 192 [aK x] (.bool (g x))):∃b:Bool,SC 191 [.fsl false ([x0,x1,x2,x3,x4,x5].map aK),I 6,.func (.func 192) [] []] (.bool b):=by
 refine cv ap (ar (LsOk.no rfl)) rfl (M2 g x0 x1 x2 x3 x4 x5) ?_
 repeat' first|exact cu _|refine bY (h _ (by simp)) ?_|refine ct (fun _=> ?_) (fun _=> ?_)
theorem Nv:∀l:List (Cu),l.length≤6→(∀x∈l,SC 192 [aK x] (.bool (g x)))→∃b:Bool,SC 191 [.fsl false (l.map aK),I 6,.func (.func 192) [] []] (.bool b)
 |[],_,h=>Nm h
 |[_],_,h=>Nn h
 |[_,_],_,h=>Np h
 |[_,_,_],_,h=>Nq h
 |[_,_,_,_],_,h=>Nr h
 |[_,_,_,_,_],_,h=>Nt h
 |[_,_,_,_,_,_],_,h=>Nu h
 |_::_::_::_::_::_::_::_,h,_=>absurd h (by simp)
end
noncomputable def mL (s:List UInt8):Bool:=match bi Tryz.prog opts0 40 186 [.str s] with
 |some (.bool b)=>b
 |_=>false
noncomputable def CS (s:List UInt8):Bool:=match bi Tryz.prog opts0 40 186 [.str s] with
 |some (.bool _)=>true
 |_=>false
theorem Nw:texts.all CS=true:=by kernel_rfl
theorem rO {s:List UInt8} (h:s∈texts):SC 186 [.str s] (.bool (mL s)):=by
 have hk:=List.all_eq_true.1 Nw s h
 unfold CS at hk
 unfold mL
 generalize e:bi Tryz.prog opts0 40 186 [.str s]=a at hk⊢
 cases a with
 |none=>cases hk
 |some v=>cases v with
  |bool b=>exact z0 (O:=opts0) Tryz.mixed fP uQ nR rfl e rfl
  |_=>cases hk
theorem Ny:∃g:Bool→Int→Bool,∀h t,SC 185 [.agg [.bool h,I t]] (.bool (g h t)):=by
 have:∀p:Bool × Int,∃b:Bool,SC 185 [.agg [.bool p.1,I p.2]] (.bool b):=fun ⟨h,t⟩=>by
  refine cv ap (ar (LsOk.no rfl)) rfl (Mg h t) ?_
  repeat' first|exact cu _|refine ct (fun _=> ?_) (fun _=> ?_)
 obtain ⟨g,hg⟩:=Classical.skolem.1 this
 exact ⟨fun h t=>g (h,t),fun h t=>hg (h,t)⟩
theorem Nz (h:Bool) (a b c:Int):∃v:Bool,SC 193 [.agg [.bool h,I a,I b,I c]] (.bool v):=by
 refine cv ap (ar (LsOk.no rfl)) rfl (Mh h a b c) ?_
 repeat' first|exact cu _|refine ct (fun _=> ?_) (fun _=> ?_)
theorem NA:∃g:Lk→Bool,∀k:Lk,k.id∈texts→SC 190 [aO k] (.bool (g k)):=by
 refine (Classical.skolem (p:=fun (k:Lk) (b:Bool)=>k.id∈texts→SC 190 [aO k] (.bool b))).1 fun k=> ?_
 by_cases h:k.id∈texts
 ·have:∃b:Bool,SC 190 [aO k] (.bool b):=by
   refine cv ap (ar (LsOk.no rfl)) rfl (Mi mL k.ty k.id) ?_
   repeat' first|exact cu _|refine ct (fun _=> ?_) (fun _=> ?_)|refine bY (rO h) ?_
  exact this.imp fun _ hb _=>hb
 ·exact ⟨true,fun h'=>absurd h' h⟩
theorem NC:∃g:Cu→Bool,∀k:Cu,k.name∈fO∧k.text∈texts→SC 192 [aK k] (.bool (g k)):=by
 refine (Classical.skolem (p:=fun (k:Cu) (b:Bool)=>k.name∈fO∧k.text∈texts→SC 192 [aK k] (.bool b))).1 fun k=> ?_
 by_cases h:k.name∈fO∧k.text∈texts
 ·have:∃b:Bool,SC 192 [aK k] (.bool b):=by
   refine cv ap (ar (LsOk.no rfl)) rfl (Mj mL dv k.name k.text) ?_
   repeat' first|exact cu _|refine ct (fun _=> ?_) (fun _=> ?_)|refine bY (rO h.2) ?_|refine bY (AY _ h.1) ?_
  exact this.imp fun _ hb _=>hb
 ·exact ⟨true,fun h'=>absurd h' h⟩
set_option maxRecDepth 20000 in
theorem ND {o:Ob} (h:SetI o) {m:List UInt8}:∃b:Bool,SC 120 [.agg (mH o (.fsl false (aj m)) (b6 o) (b7 o) (bw o))] (.bool b):=by
 obtain ⟨g,hg⟩:=Ny
 obtain ⟨lf,hlf⟩:=NA
 obtain ⟨cf,hcf⟩:=NC
 obtain ⟨bm,hm⟩:=Nz o.lh o.lt o.lc o.lu
 obtain ⟨bn,hn⟩:=Na (g:=mL) o.names h.ok.fit.n fun x hx=>rO (h.ok.n x hx)
 obtain ⟨bl,hl⟩:=Nl (g:=lf) o.links h.ok.fit.l fun x hx=>hlf x (h.ok.l x hx)
 obtain ⟨bc,hc⟩:=Nv (g:=cf) o.cust h.ok.fit.c fun x hx=>hcf x ⟨(h.c x hx).1,h.ok.c x hx⟩
 have h1:=rO (s:=[49]) (by decide)
 have hcl:ae [.agg (mH o (.fsl false (aj m)) (b6 o) (b7 o) (bw o))]=true:=by
  have e1:ae (aj m)=true:=by simp
  have e2:=l7 o
  have e3:=l8 o
  have e4:=kz o
  simp only[mH,ai,List.drop_succ_cons,List.drop_zero,List.set_cons_succ,List.set_cons_zero,ae,ad,e1,e2,e3,e4,Bool.and_self]
 refine cv ap (ar (LsOk.no rfl)) hcl (Ml o (aj m) (o.names.map .str) (o.links.map aO) (o.cust.map aK) g mL bn bl bc bm) ?_
 repeat' first|exact cu _|refine ct (fun _=> ?_) (fun _=> ?_)|refine bY (hg _ _) ?_|refine bY h1 ?_|refine bY hn ?_|refine bY hl ?_|refine bY hc ?_|refine bY hm ?_
theorem NE (o:Ob) (d:Dt) (k:Nat):(dA o d k).len=o.len:=by unfold dA;split<;>rfl
theorem NF (o:Ob) (i:Nat) (v:It) (k:Kd):(c8 o i v k).len=o.len∨k= .len∧(c8 o i v k).len=cj v:=by
 cases k with
 |len=>exact .inr ⟨rfl,rfl⟩
 |dat k=>exact .inl (NE _ _ _)
 |_=>exact .inl rfl
theorem NG {o:Ob} {k:Kd} {j:Nat} {v:It} (h:(dI o k j v).2=0):(dI o k j v).1.len=o.len∨k= .len∧(dI o k j v).1.len=cj v:=by
 unfold dI at h⊢
 split
 ·exact NF o j v k
 ·rename_i e
  rw[e] at h
  cases h
theorem NH {o:Ob} {k:Kd} {a:At} (h:(dB o k a).2=0):(dB o k a).1.len=o.len∨k= .len∧(dB o k a).1.len=cj a.v:=by
 revert h
 unfold dB
 repeat' split
 all_goals first|exact NG|(intro h;cases h)
theorem NI {s:List UInt8} (h:jw s kinds=some .len):s=dn:=by
 have hb:ag (iy .len) s=true:=by
  revert h
  generalize kinds=l
  induction l with
  |nil=>intro h;cases h
  | cons k r ih=>
   intro h
   unfold jw at h
   split at h
   ·rename_i e
    cases h
    exact e
   ·exact ih h
 exact (beqBytes_iff.1 hb).symm
theorem NJ {c:Bool} {o:Ob} {a:At} (h:(cG c o a).2=0):(cG c o a).1.len=o.len∨a.name=dn∧(cG c o a).1.len=cj a.v:=by
 unfold cG at h⊢
 cases hf:gx c a.name with
 |none=>rw[hf] at h;cases h
 | some k=>
  rw[hf] at h
  dsimp only at h⊢
  cases hs:fz k with
  |false=>rw[hs] at h;cases h
  | true=>
   rw[hs] at h
   dsimp only at h⊢
   rcases NH h with e|⟨e,e2⟩
   ·exact .inl e
   ·subst e
    cases c with
    |true=>cases hf
    |false=>exact .inr ⟨NI hf,e2⟩
theorem CT {le:Int}:∀ (l:List At) {o:Ob},(∀a∈l,a.name=dn→cj a.v=le)→(o.len=0∨o.len=le)→(dk o l).2=0→(dk o l).1.len=0∨(dk o l).1.len=le
 |[],_,_,h,_=>h
 | a::r,o,ha,h,h0=>by
  unfold dk at h0⊢
  cases hb:ah (cG (dv a.name) o a).2 0 with
  |true=>
   rw[hb] at h0
   refine CT r (fun x hx=>ha x (by simp[hx])) ?_ h0
   rcases NJ (beqInt_iff.1 hb) with e|⟨e,e2⟩
   ·rw[e];exact h
   ·rw[e2];exact .inr (ha a (by simp) e)
  |false=>
   rw[hb] at h0
   exact absurd h0 (beqInt_false.1 hb)
theorem NK {s:List UInt8} {v:It} {a:At} (h:ce (bS s v)=some a):a.name=s∧a.v=v:=by
 unfold ce bS at h
 split at h
 ·simp only[bf,gD] at h
  split at h
  ·cases h;exact ⟨rfl,rfl⟩
  ·cases h
 ·cases h
theorem CU {le:Int}:∀ {ks:List It},(∀x∈ks,dV le x)→∀ {L:List At},ed ks=some L→∀a∈L,a.name=dn→cj a.v=le
 |[],_,_,h,a,ha,_=>by cases h;cases ha
 | x ::r,hl,_,h,a,ha,hn=>by
  unfold ed at h
  cases hx:ce x with
  |none=>rw[hx] at h;cases h
  | some b=>
   rw[hx] at h
   cases hr:ed r with
   |none=>rw[hr] at h;cases h
   | some l=>
    rw[hr] at h
    cases h
    rcases List.mem_cons.1 ha with rfl|ha
    ·obtain ⟨_,s,v,rfl,hv⟩:=hl x (by simp)
     obtain ⟨e1,e2⟩:=NK hx
     rw[e2,hv (e1.symm.trans hn)]
     rfl
    ·exact CU (fun y hy=>hl y (by simp[hy])) hr a ha hn
theorem NL {le:Int} {o:Ob} {x:It} (ho:o.len=0) (hk:∀y∈bf x,dV le y) (h:(iS o x).2=0):(iS o x).1.len=0∨(iS o x).1.len=le:=by
 unfold iS at h⊢
 cases hb:ah (dJ x).1 0 with
 |false=>rw[hb] at h;exact absurd h (beqInt_false.1 hb)
 | true=>
  rw[hb] at h
  refine CT _ ?_ (.inl ho) h
  unfold dJ
  split
  ·intro a ha;cases ha
  ·split
   ·intro a ha;cases ha
   ·rename_i l hl
    exact CU hk hl
def KepO (o p:Ob):Prop:=p.id=o.id∧p.ty=o.ty∧p.mat=o.mat∧p.st=o.st∧p.why=o.why∧p.msg=o.msg
theorem KepO.refl (o:Ob):KepO o o:=⟨rfl,rfl,rfl,rfl,rfl,rfl⟩
theorem KepO.trans {a b c:Ob} (h:KepO a b) (g:KepO b c):KepO a c:=⟨g.1.trans h.1,g.2.1.trans h.2.1,g.2.2.1.trans h.2.2.1,g.2.2.2.1.trans h.2.2.2.1,g.2.2.2.2.1.trans h.2.2.2.2.1,g.2.2.2.2.2.trans h.2.2.2.2.2⟩
theorem NM (o:Ob) (i:Nat) (v:It) (k:Kd):KepO o (c8 o i v k):=by
 cases k with
 |dat k=>
  show KepO o (dA o _ k)
  unfold dA
  split<;>exact ⟨rfl,rfl,rfl,rfl,rfl,rfl⟩
 |_=>exact ⟨rfl,rfl,rfl,rfl,rfl,rfl⟩
theorem NN {o:Ob} {k:Kd} {j:Nat} {v:It} (h:(dI o k j v).2=0):KepO o (dI o k j v).1:=by
 unfold dI at h⊢
 split
 ·exact NM o j v k
 ·rename_i e
  rw[e] at h
  cases h
theorem NO {o:Ob} {k:Kd} {a:At} (h:(dB o k a).2=0):KepO o (dB o k a).1:=by
 revert h
 unfold dB
 repeat' split
 all_goals first|exact NN|(intro h;cases h)
theorem NP {c:Bool} {o:Ob} {a:At} (h:(cG c o a).2=0):KepO o (cG c o a).1:=by
 unfold cG at h⊢
 cases hf:gx c a.name with
 |none=>rw[hf] at h;cases h
 | some k=>
  rw[hf] at h
  dsimp only at h⊢
  cases hs:fz k with
  |false=>rw[hs] at h;cases h
  |true=>
   rw[hs] at h
   exact NO h
theorem CV:∀ (l:List At) {o:Ob},(dk o l).2=0→KepO o (dk o l).1
 |[],o,_=> .refl o
 | a::r,o,h0=>by
  unfold dk at h0⊢
  cases hb:ah (cG (dv a.name) o a).2 0 with
  |true=>
   rw[hb] at h0
   exact (NP (beqInt_iff.1 hb)).trans (CV r h0)
  |false=>
   rw[hb] at h0
   exact absurd h0 (beqInt_false.1 hb)
structure CW (le:Int) (L:List At) (p:Ob):Prop where
 len:p.len=0∨p.len=le
 kep:KepO {zO with ty:=2,st:=1} p
 set:SetI p
theorem CX:SetI {zO with ty:=2,st:=1}:=⟨⟨⟨by simp[zO],by simp[zO],by simp[zO],by simp[zO,aR]⟩,(fun _ h=>by cases h),(fun _ h=>by cases h),(fun _ h=>by cases h),by decide,by simp[zO]⟩,(fun _ h=>by cases h)⟩
theorem NQ {le:Int} {x:It} (hk:∀y∈bf x,dV le y) (hpt:∀a∈(dJ x).2,iP a) (h:(iS {zO with ty:=2,st:=1} x).2=0):(dJ x).1=0∧CW le (dJ x).2 (iS {zO with ty:=2,st:=1} x).1:=by
 have hl:=NL (o:={zO with ty:=2,st:=1}) rfl hk h
 unfold iS at h hl⊢
 cases hb:ah (dJ x).1 0 with
 |false=>rw[hb] at h;exact absurd h (beqInt_false.1 hb)
 |true=>
  rw[hb] at h hl
  exact ⟨beqInt_iff.1 hb,hl,CV _ h,vR _ CX hpt h⟩
end Go.Proofs.YtlljinebapfdaaaGreatDoor
namespace Go.Proofs.YtlljinebapfdaaaGreatDoor
set_option maxRecDepth 20000
open Go Go.RowKit
open Go.Proofs.Abs
theorem NR (n:Int):∃ (le:Int) (k:Nat),(le=128∨le=192∨le=256)∧az .i64 (le.tdiv 8)= .ofNat k∧k≤32∧cL Tryz.prog 29 (.agg [I 128,I 192,I 256]) (I (n%3))=some (I le):=by
 have h0:=Int.emod_nonneg n (b:=3) (by decide)
 have h1:=Int.emod_lt_of_pos n (b:=3) (by decide)
 generalize n%3=p at h0 h1⊢
 have:p=0∨p=1∨p=2:=by omega
 rcases this with rfl|rfl|rfl
 ·exact ⟨128,16,by simp,rfl,by decide,by kernel_rfl⟩
 ·exact ⟨192,24,by simp,rfl,by decide,by kernel_rfl⟩
 ·exact ⟨256,32,by simp,rfl,by decide,by kernel_rfl⟩
def CY:ab:=[(1682,some (.cells [.map 1680,I 5,.int .u64 2,.bool true,.bool true,.rsl true 2562 0 1 5])),(1680,some (.mapb 0 [] []))]
theorem NS:BodySem Tryz.prog opts0.glob 10 [.ptr 1682 0] CY 2604 .nilsl CY 2627:=by
 refine GH (k:=3000) (A:=ak [] [] aA [] [26]) (Q:=fun v h m=>(v= .nilsl∧hget h 1682=some (.cells [.map 1680,I 5,.int .u64 2,.bool true,.bool true,.rsl true 2562 0 1 5])∧hget h 1680=some (.mapb 0 [] []))∧m=2627) base0 ap (ar (LsOk.no rfl)) ?_ ?_
 ·rintro u h m ⟨⟨rfl,h1,h2⟩,rfl⟩
  exact ⟨rfl,⟨_,.closed _ rfl,.refl _⟩,⟨rfl,_,.cells _,h1,FrzL.cons (.keepM rfl) (.cons (.closed _ rfl) (.cons (.closed _ rfl) (.cons (.closed _ rfl) (.cons (.closed _ rfl) (.cons (.keepR rfl) .nil))))),WkL.refl _⟩,⟨rfl,_,.mapb 0 [] [],h2,⟨rfl,rfl,1,rfl⟩,rfl⟩,trivial⟩
 ·exact Eq.mpr (Mn 5 2 (.rsl true 2562 0 1 5) (fun v b c m=>(v= .nilsl∧b=some (.cells [.map 1680,I 5,.int .u64 2,.bool true,.bool true,.rsl true 2562 0 1 5])∧c=some (.mapb 0 [] []))∧m=2627)) ⟨⟨rfl,rfl,rfl⟩,rfl⟩
theorem NT:SC 224 [.int .u64 1] (.fsl false (aj [0,0,0,0,0,0,0,1])):=by
 refine fu (A:=ak [] [] aA [] [150,173,210,154]) base0 ap (ar (LsOk.no rfl)) rfl ?_
 rw[Ms]
 exact ⟨_,(Frz.bytes (s:=[0,0,0,0,0,0,0,1]) rfl rfl rfl rfl).out,rfl,.refl _⟩
theorem CZ {t y n:Int} {d:List UInt8} (h:d.length≤8):bO aR (.mk t y n d []):=⟨Nat.le_trans h (by decide),by simp[aR],trivial⟩
theorem cp_a:SC 110 [.agg [I 4325463,I 5,I 2,.fsl false [],.fsl false []]] (.agg [I 4325463,I 5,I 2,.fsl false [],.fsl false []]):=rC (x:= .mk 4325463 5 2 [] []) (CZ (Nat.zero_le _))
theorem C0:SC 110 [.agg [I 4325463,I 5,I 2,.nilsl,.nilsl]] (.agg [I 4325463,I 5,I 2,.fsl false [],.fsl false []]):=by
 refine cp_a.wkA (.cons (.agg ?_) .nil)
 (repeat (first|exact Wk.refl _|exact WkL.refl _|exact Wk.nil|exact Wk.row|exact WkE.refl _|exact WkL.nil|exact WkE.nil|apply Wk.agg|apply Wk.tuple|apply WkL.cons|apply Wk.rows|apply WkE.consA))
theorem NU:SC 110 [.agg [I 4325524,I 7,I 0,.fsl false (aj [49]),.nilsl]] (.agg [I 4325524,I 7,I 0,.fsl false (aj [49]),.fsl false []]):=by
 have h:SC 110 [.agg [I 4325524,I 7,I 0,.fsl false (aj [49]),.fsl false []]] (.agg [I 4325524,I 7,I 0,.fsl false (aj [49]),.fsl false []]):=rC (x:= .mk 4325524 7 0 [49] []) (CZ (by decide))
 refine h.wkA (.cons (.agg ?_) .nil)
 (repeat (first|exact Wk.refl _|exact WkL.refl _|exact Wk.nil|exact Wk.row|exact WkE.refl _|exact WkL.nil|exact WkE.nil|apply Wk.agg|apply Wk.tuple|apply WkL.cons|apply Wk.rows|apply WkE.consA))
theorem NV:SC 58 [.fsl true [.agg [I 4325463,I 5,I 2,.fsl false [],.fsl false []],.agg [I 4325524,I 7,I 0,.fsl false (aj [49]),.nilsl]]] rL:=by
 refine fu (A:=ak [] [] (de [(110,ww)]) [] [123]) base0 ap (ar (LsOk.no rfl)) rfl ?_
 exact Eq.mpr (Mo (fun u H=>jr rL u H)) ⟨cp_a,NU,rL,⟨40,by kernel_rfl⟩,by kernel_rfl,.refl _⟩
theorem NW {o:Ob} (h:o.st=1∨o.st=2∨o.st=3):SC 121 [aw o] (.bool true):=by
 refine bt (A:=ak [] [] aA [] []) base0 ap (ar (LsOk.no rfl)) (gA o) ?_
 refine Eq.mpr (Mt o (cU o) (b6 o) (b7 o) (bw o) (fun u=>cZ (.bool true) u)) ?_
 have h5:ah o.st 5=false:=beqInt_false.2 (by omega)
 have h6:ah o.st 6=false:=beqInt_false.2 (by omega)
 exact ao (fun _=>qc (by rw[h6];rfl) rfl) fun e=>by rw[h5] at e;cases e
theorem NX (o:Ob) (t:Int):fE o t=1∨fE o t=2∨fE o t=3:=by
 unfold fE
 split
 ·exact .inl rfl
 ·split
  ·exact .inr (.inl rfl)
  ·exact .inr (.inr rfl)
theorem NY {o:Ob} {t:Int} (h:o.d1.has=true):decide ((!ah (fE o t) 1)= !au t o.d1.t)=true:=by
 unfold fE
 rw[h,Bool.true_and]
 cases au t o.d1.t with
 |true=>rfl
 |false=>
  cases (o.d4.has&& !au t o.d4.t)<;>rfl
theorem NZ {o:Ob} {t:Int} (h:o.d1.has=false):decide ((!ah (fE o t) 1)=false)=true:=by
 unfold fE
 rw[h]
 rfl
theorem N0 {o:Ob} (M N L C:AV) (h1:o.ty=2) (h2:o.msg=[]):df o M N L C=mH o M N L C:=by
 unfold df mH ai
 rw[h1,h2]
 rfl
def wJ:Ob:={zO with ty:=2,st:=1}
theorem N1 (ks:List It):WkL [.agg (ai wJ .nilsl .nilsl .nilsl .nilsl),aD (.mk 4325521 1 0 [] ks)] [aw wJ,aD (.mk 4325521 1 0 [] ks)]:=by
 refine .cons (.agg ?_) (.cons (.refl _) .nil)
 simp only[aB,ai,cU,b6,b7,bw]
 (repeat (first|exact Wk.refl _|exact WkL.refl _|exact Wk.nil|exact Wk.row|exact WkE.refl _|exact WkL.nil|exact WkE.nil|apply Wk.agg|apply Wk.tuple|apply WkL.cons|apply Wk.rows|apply WkE.consA))
theorem C1 {K:List It} (h:∀y∈K,TiOk y):gu aR K:=okIs_iff.2 fun y hy=>(h y hy).k
theorem C2:∀ {l:List It} {L:List At},ed l=some L→L.length=l.length
 |[],_,h=>by cases h;rfl
 | x::r,_,h=>by
  unfold ed at h
  cases hx:ce x with
  |none=>rw[hx] at h;cases h
  | some b=>
   rw[hx] at h
   cases hr:ed r with
   |none=>rw[hr] at h;cases h
   |some l=>
    rw[hr] at h
    cases h
    rw[List.length_cons,List.length_cons,C2 hr]
theorem N2 {le:Int} {ks:List It} (hk:CC le ks):∃ (p:Ob) (r:Int) (L:List At),SC 111 [.agg (ai wJ .nilsl .nilsl .nilsl .nilsl),aD (.mk 4325521 1 0 [] ks)] (.tuple [aw p,I r])∧(r=0→CW le L p∧L.length≤7∧SC 112 [aD (.mk 4325521 1 0 [] ks)] (.tuple [.fsl false (L.map aW),I 0])):=by
 obtain ⟨_,hl,ha⟩:=hk
 have hti:∀y∈ks,TiOk y:=fun y hy=>(ha y hy).1
 have hok:bO aR (.mk 4325521 1 0 [] ks):=⟨by simp[aR],by simp only[aR];omega,C1 hti⟩
 have hlen:(bf (.mk 4325521 1 0 [] ks)).length≤90000:=by simp only[bf];omega
 have hpt:(dJ (.mk 4325521 1 0 [] ks)).2.length≤7∧∀a∈(dJ (.mk 4325521 1 0 [] ks)).2,iP a:=by
  unfold dJ
  split
  ·exact ⟨by simp,fun a h=>by cases h⟩
  ·split
   ·exact ⟨by simp,fun a h=>by cases h⟩
   ·rename_i L hL
    simp only[bf] at hL
    exact ⟨by simp only[C2 hL];omega,Cf hti hL⟩
 have h1:=L7 CX hok hlen (by omega) hpt.2
 have h2:=CA hok hlen
 refine ⟨_,_,(dJ (.mk 4325521 1 0 [] ks)).2,h1.wkA (N1 ks),fun hr=> ?_⟩
 obtain ⟨e,hT⟩:=NQ (x:= .mk 4325521 1 0 [] ks) ha hpt.2 hr
 refine ⟨hT,hpt.1, ?_⟩
 unfold rF at h2
 rw[e] at h2
 exact h2
end Go.Proofs.YtlljinebapfdaaaGreatDoor
namespace Go.Proofs.YtlljinebapfdaaaGreatDoor
open Go Go.RowKit
open Go.Proofs.Abs
def C3:ab:=[(1897,some (.cells [.nilsl,I 5,.int .u64 1,.nilsl,I 0])),(1682,some (.cells [.map 1680,I 5,.int .u64 1,.bool true,.bool true,.nilsl])),(1680,some (.mapb 0 [] []))]
section
variable {l:List Rw} {length lack now:Int} {d:List UInt8}
theorem N3 (l:List Rw) (length lack now:Int) (d:List UInt8):ae [.fsl false (l.map cb),I length,I lack,.fsl false (aj d),I now]=true:=by
 have h1:=oA l
 have h2:ae (aj d)=true:=by simp
 simp only[ae,ad,h1,h2,Bool.and_self]
set_option maxRecDepth 20000 in
set_option maxHeartbeats 1000000 in
theorem N4 (hd:d.length≤9223372036854775807) (hv:BodySem Tryz.prog opts0.glob 4 [.nilsl,I 5] [] 7 (.tuple [.ptr 1682 0,.ptr 1897 0]) C3 2034) (hk:SC 5 [] (.bool true)):SC 3 [.fsl false (l.map cb),I length,I lack,.fsl false (aj d),I now] (.bool true):=by
 obtain ⟨le,n,hle,hn,hn2,hix⟩:=NR length
 obtain ⟨ks,hok,hT⟩:=Md le l lack
 obtain ⟨p,r,L,hp,hL⟩:=N2 hok
 have hcl:=N3 l length lack now d
 have hp3:=mh length (m:=3) (by decide) (by decide)
 have hp7:=mh now (m:=70) (by decide) (by decide)
 have hK:=cY ks
 have okx:bO aR (.mk 4325521 1 0 [] ks):=⟨by simp[aR],by simp only[aR];exact Nat.le_trans hok.2.1 (by decide),C1 fun y hy=>(hok.2.2 y hy).1⟩
 have cpt:=rC okx
 have fp:=rh p
 unfold CD at hT
 rw[bh] at hT hp hL cpt
 have hD:ad (.fsl false (aj d))=true:=by simp[ad]
 cases hr:ah r 0 with
 | false=>
  have hz:ae (df zO (.fsl false (aj [])) .nilsl .nilsl .nilsl)=true:=rfl
  refine cJ (A:=wB le (wA (aj d) (df zO (.fsl false (aj [])) .nilsl .nilsl .nilsl) (now%70) 0) (wy (.agg [I 4325521,I 1,I 0,.fsl false [],.fsl false (af ks)]) (.agg (ai p (cU p) (b6 p) (b7 p) (bw p))) (.agg (df zO (.fsl false (aj [])) .nilsl .nilsl .nilsl)) [] (aj []) r false false)) base0 ap
   (ar (LsOk.at1 rfl CN fun st Q hs=> .seen base0.glob hs.1 (CM (m:=[]) hz (by decide) (fun i h=>by cases h) 0 0 rfl Q hs.2))) hcl rfl ?_
  rw[CK]
  have hq:(!ah r 0)=true:=by rw[hr];rfl
  intro R1 R2
  refine ⟨hv,hk,hp3,hix,hp7,hT,C0,cpt,hp,br fp (ao (fun _=>ao (fun _=>ao (fun _=>ao (fun _=>rfl) fun e=> ?_) fun e=> ?_) fun e=> ?_) fun e=> ?_)⟩
  all_goals exact absurd (hq.symm.trans e) (by decide)
 | true=>
  have r0:=beqInt_iff.1 hr
  obtain ⟨⟨t1,⟨_,k2,_,k4,_,k6⟩,t3⟩,hl7,hpa⟩:=hL r0
  subst r0
  obtain ⟨b,hb⟩:=MC (l:=L) (by omega)
  have hml:(cm d n 0).length=n:=wG d n 0
  have hbig:(cm d n 0).length≤aR:=by rw[hml];exact Nat.le_trans hn2 (by decide)
  have fit1:dQ {p with id:=[49],mat:=cm d n 0}:=⟨t3.ok.fit.n,t3.ok.fit.l,t3.ok.fit.c,hbig⟩
  have hbo:=Mx fit1 (now%70) k4
  have sq:SetI (fF {p with id:=[49],mat:=cm d n 0} (now%70)):=⟨⟨⟨t3.ok.fit.n,t3.ok.fit.l,t3.ok.fit.c,hbig⟩,t3.ok.n,t3.ok.l,t3.ok.c,(by decide:[49]∈texts),t3.ok.m⟩,t3.c⟩
  obtain ⟨g,hg⟩:=ND sq (m:=cm d n 0)
  rw[←N0 (o:=fF {p with id:=[49],mat:=cm d n 0} (now%70)) _ _ _ _ k2 k6] at hg
  have cq:=ow sq.ok.fit
  have lq:=NW (o:=fF {p with id:=[49],mat:=cm d n 0} (now%70)) (NX _ _)
  have fq:=rh (fF {p with id:=[49],mat:=cm d n 0} (now%70))
  have cO:=bR (fF {p with id:=[49],mat:=cm d n 0} (now%70))
  have hby:=Mv (x:=I (now%70)) (y:= .str []) (f:=false) (l:=d) (n:=n) (p:=0) rfl rfl (by omega) hd
  have by':= @NY {p with id:=[49],mat:=cm d n 0} (now%70)
  have bn':= @NZ {p with id:=[49],mat:=cm d n 0} (now%70)
  refine cJ (A:=wB le (wA (aj d) (df (fF {p with id:=[49],mat:=cm d n 0} (now%70)) (.fsl false (aj (cm d n 0))) (b6 p) (b7 p) (bw p)) (now%70) (.ofNat (cm d n 0).length)) (wy (.agg [I 4325521,I 1,I 0,.fsl false [],.fsl false (af ks)]) (.agg (ai p (cU p) (b6 p) (b7 p) (bw p))) (.agg (df (fF {p with id:=[49],mat:=cm d n 0} (now%70)) (.fsl false (aj (cm d n 0))) (b6 p) (b7 p) (bw p))) (L.map aW) (aj (cm d n 0)) 0 b g)) base0 ap
   (ar (LsOk.at1 rfl CN fun st Q hs=> .seen base0.glob hs.1 (CM (m:=cm d n 0) cO (by omega) (fun i h=>Mw d (by omega)) (cm d n 0).length 0 (Nat.zero_add _) Q hs.2))) hcl rfl ?_
  rw[CK]
  intro R1 R2
  have hR1:ah p.alg 3=true→ah p.len le=true→R1:=fun _ _=>by
   refine ao (fun e=> ?_) fun _=>⟨⟨⟨⟨rfl,hD⟩,⟨rfl,rfl⟩,⟨rfl,rfl⟩,trivial⟩,⟨⟨rfl,rfl⟩,trivial⟩,⟨rfl,cO⟩,trivial⟩,ao (fun h=>ao (fun _=> ?_) fun e=> ?_) fun h=>ao (fun _=> ?_) fun e=> ?_⟩
   ·rw[dr,hml,hn,beqInt_iff.2 rfl] at e
    cases e
   ·show AV.bool (ah (now%70) (now%70))=AV.bool true
    rw[beqInt_iff.2 rfl]
   ·exact absurd ((by' h).symm.trans e) (by decide)
   ·show AV.bool (ah (now%70) (now%70))=AV.bool true
    rw[beqInt_iff.2 rfl]
   ·exact absurd ((bn' h).symm.trans e) (by decide)
  have hR2:ah p.alg 3=true→ah p.len le=true→R2:=fun h3 h4=>by
   refine ao (fun _=>rfl) fun _=>⟨NS,br fq ⟨lq,cq,br fq ⟨NV,br fq ⟨cq,br fq (br fq (ao (fun e=> ?_) fun _=>ao (fun e=> ?_) fun _=>hR1 h3 h4))⟩⟩⟩⟩
   ·rw[show ah (fF {p with id:=[49],mat:=cm d n 0} (now%70)).alg 3=true from h3] at e;cases e
   ·rw[show ah (fF {p with id:=[49],mat:=cm d n 0} (now%70)).len le=true from h4] at e;cases e
  have tail (h3:(!ah p.alg 3)=false) (h0:ah p.len 0=false):SC 54 [.agg [I (now%70),.fsl false (aj d),.str []],I (az .i64 (p.len.tdiv 8)),I 0] (.fsl false (aj (cm d n 0)))∧ah p.alg 3=true∧ah p.len le=true:=by
   have h0:=beqInt_false.1 h0
   have e:p.len=le:=by
    rcases t1 with t|t
    ·exact absurd t h0
    ·exact t
   refine ⟨?_,by simpa using h3,beqInt_iff.2 e⟩
   rw[e,hn]
   exact hby
  refine ⟨hv,hk,hp3,hix,hp7,hT,C0,cpt,hp,br fp (ao (fun e=> ?_) fun _=>br fp (br fp (ao (fun _=>rfl) fun _=>ao (fun _=>rfl) fun h0=>⟨hpa,hb,ao (fun _=>ao (fun _=>rfl) fun h3=>ao (fun _=>ao (fun _=>ao (fun _=>rfl) fun _=> ?_) fun _=> ?_) fun _=> ?_) fun _=>rfl⟩)))⟩
  ·cases e
  all_goals exact ⟨(tail h3 h0).1,NT,hbo,br fq ⟨hg,hR2 (tail h3 h0).2.1 (tail h3 h0).2.2⟩⟩
end
theorem N5 (l:List Rw) (length lack:Int) (d:List UInt8) (now:Int) (hd:d.length≤9223372036854775807) (hv:BodySem Tryz.prog opts0.glob 4 [.nilsl,I 5] [] 7 (.tuple [.ptr 1682 0,.ptr 1897 0]) C3 2034) (hk:SC 5 [] (.bool true)):SC 3 [.fsl false (l.map cb),I length,I lack,.fsl false (aj d),I now] (.bool true):=N4 hd hv hk
end Go.Proofs.YtlljinebapfdaaaGreatDoor
namespace Go.Proofs.Abs
open Go
def kS (s:Nat):Nat:=(s/2)^^^((s%2)*3988292384)
def iW:Nat→Nat→Nat
 |0,s=>s
 |j+1,s=>kS (iW j s)
def kT (s c:Nat):Nat:=iW 8 (s^^^c)
def gG:Nat→List UInt8→Nat
 |s,[]=>s
 |s,c::t=>gG (kT s c.toNat) t
def oL (s:Nat) (l:List UInt8):Nat:=gG (s^^^4294967295) l^^^4294967295
theorem C4 {s:Nat} (h:s<2^32):kS s<2^32:=by
 unfold kS
 refine Nat.xor_lt_two_pow (by omega) ?_
 have:s%2<2:=Nat.mod_lt _ (by decide)
 omega
theorem wK:∀ {j s:Nat},s<2^32→iW j s<2^32
 |0,_,h=>h
 |_j+1,_,h=>C4 (wK h)
theorem C5 {s c:Nat} (h:s<2^32) (hc:c<256):kT s c<2^32:=wK (Nat.xor_lt_two_pow h (by omega))
theorem C6:∀ (l:List UInt8) (s:Nat),s<2^32→gG s l<2^32
 |[],_,h=>h
 |c::t,_s,h=>C6 t _ (C5 h (UInt8.toNat_lt c))
theorem C7:∀ (l m:List UInt8) (s:Nat),gG s (l++m)=gG (gG s l) m
 |[],_,_=>rfl
 |_c::t,m,_s=>C7 t m _
theorem u32_in {n:Nat} (h:n<2^32):az .u32 (Int.ofNat n)=Int.ofNat n:=by
 rw[hJ,IntKind.wrap_u32]
 show ((n:Int)%4294967296)=n
 omega
theorem rP {n:Nat} (h:n<2^32):(BitVec.ofInt 32 (Int.ofNat n)).toNat=n:=by
 simp only[BitVec.toNat_ofInt]
 show ((n:Int)%((2^32:Nat):Int)).toNat=n
 omega
theorem wL {a b:Nat} (ha:a<2^32) (hb:b<2^32):(BitVec.ofInt 32 (Int.ofNat a)^^^BitVec.ofInt 32 (Int.ofNat b)).toNat=a^^^b:=by
 rw[BitVec.toNat_xor,rP ha,rP hb]
theorem C8 {a b:Nat} (ha:a<2^32) (hb:b<2^32):(BitVec.ofInt 32 (Int.ofNat a)&&&BitVec.ofInt 32 (Int.ofNat b)).toNat=a&&&b:=by
 rw[BitVec.toNat_and,rP ha,rP hb]
theorem N6 {b:Nat} (hb:b<2):az .u32 (0-Int.ofNat b)=Int.ofNat (b*4294967295):=by
 rw[hJ,IntKind.wrap_u32]
 have:b=0∨b=1:=by omega
 rcases this with rfl|rfl<;>rfl
theorem N7 {s:Nat} (h:s<2^32):az .u32 ((BitVec.ofInt 32 ((Int.ofNat s).fdiv 2)^^^BitVec.ofInt 32 (az .u32 ((BitVec.ofInt 32 3988292384&&&BitVec.ofInt 32 (az .u32 (0-az .u32 ((BitVec.ofInt 32 (Int.ofNat s)&&&BitVec.ofInt 32 1).toNat:Int)))).toNat:Int))).toNat:Int)=Int.ofNat (kS s):=by
 have h1:(BitVec.ofInt 32 (Int.ofNat s)&&&BitVec.ofInt 32 1).toNat=s%2:=by
  rw[show (1:Int)=Int.ofNat 1 from rfl,C8 h (by decide)]
  exact Nat.and_one_is_mod s
 have hm:s%2<2:=Nat.mod_lt _ (by decide)
 have h5:(Int.ofNat s).fdiv 2=Int.ofNat (s/2):=by
  show (s:Int).fdiv 2=_
  rw[Int.fdiv_eq_ediv_of_nonneg _ (by decide)];rfl
 rw[h1,h5]
 have h6:az .u32 ((s%2:Nat):Int)=Int.ofNat (s%2):=u32_in (by omega)
 rw[h6,N6 hm]
 have h2:(BitVec.ofInt 32 3988292384&&&BitVec.ofInt 32 (Int.ofNat (s%2*4294967295))).toNat=s%2*3988292384:=by
  rw[show (3988292384:Int)=Int.ofNat 3988292384 from rfl,C8 (by decide) (by omega)]
  rcases (by omega:s%2=0∨s%2=1) with e|e<;>rw[e]<;>rfl
 have h3:s%2*3988292384<2^32:=by omega
 have h7:az .u32 ((s%2*3988292384:Nat):Int)=Int.ofNat (s%2*3988292384):=u32_in h3
 rw[h2,h7,wL (by omega) h3]
 exact u32_in (C4 h)
theorem N8 {s:Nat} {c:UInt8} (h:s<2^32):az .u32 ((BitVec.ofInt 32 (Int.ofNat s)^^^BitVec.ofInt 32 (az .u32 (Int.ofNat c.toNat))).toNat:Int)=Int.ofNat (s^^^c.toNat):=by
 have hc:=UInt8.toNat_lt c
 have hc':c.toNat<2^32:=by omega
 rw[u32_in hc',wL h hc']
 exact u32_in (Nat.xor_lt_two_pow h hc')
theorem rQ {s:Nat} (h:s<2^32):az .u32 ((BitVec.ofInt 32 4294967295^^^BitVec.ofInt 32 (Int.ofNat s)).toNat:Int)=Int.ofNat (s^^^4294967295):=by
 rw[show (4294967295:Int)=Int.ofNat 4294967295 from rfl,wL (by decide) h,Nat.xor_comm]
 exact u32_in (Nat.xor_lt_two_pow h (by decide))
end Go.Proofs.Abs
namespace Go.Proofs.YtlljinebapfdaaaGreatDoor
open Go Go.RowKit
open Go.Proofs.Abs
noncomputable section
def oM (a:AV) (n i x j:Nat):View:=⟨[(0,.int .u32 (.ofNat x)),(9,a),(10,I (.ofNat n)),(11,I (.ofNat i)),(19,I (.ofNat j))],[],[],0,32⟩
def eL (a:AV) (n i x:Nat):View:=⟨[(0,.int .u32 (.ofNat x)),(9,a),(10,I (.ofNat n)),(11,I (.ofNat i))],[],[],0,32⟩
def wM:bL:=fun s Q=>match s.slots.get 0,s.slots.get 9,s.slots.get 10,s.slots.get 11 with
 |some (.int .u32 x),some a,some (.int .i64 (.ofNat n)),some (.int .i64 (.ofNat i))=>
  ax (eB x&&(Nat.blt x.toNat 4294967296&&ad a)) (dd 0 [] (oM a n i x.toNat 0) s∧Q (.exit 2) (eL a n i (iW 8 x.toNat)).st)
 |_,_,_,_=>False
def wN (v:AV):aV:=ip (FL 4 0 (.el v)) (lV 8 wM)
@[simp] abbrev oN (n:Nat):=(I (Int.ofNat n)=I (Int.ofNat n)∧ad (I (Int.ofNat n))=true)
@[simp] abbrev rR (i:Nat):=(I (Int.ofNat i)=I (Int.ofNat i)∧ad (I (Int.ofNat i))=true)
@[simp] abbrev C9 (x:Nat):=(AV.int IntKind.u32 (Int.ofNat x)=AV.int IntKind.u32 (Int.ofNat x)∧ad (AV.int IntKind.u32 (Int.ofNat x))=true)
theorem N9 (x:Nat) (a:AV) (n i j:Nat) (go:Bool) (Q:AExit→St→Prop):aN Tryz.prog opts0 40 aX (aJ Tryz.prog 208 8) (oM a n i x j).st (lU 0 [] (oM a n i (kS x) (j+1)) [] (eL a n i x) go Q)=
  (aa (au (Int.ofNat j) 8) (ax go (((AV.int IntKind.u32 (az IntKind.u32 ↑(BitVec.ofInt 32 ((Int.ofNat x).fdiv 2)^^^BitVec.ofInt 32 (az IntKind.u32 ↑(BitVec.ofInt 32 3988292384&&&BitVec.ofInt 32 (az IntKind.u32 (0-az IntKind.u32 ↑(BitVec.ofInt 32 (Int.ofNat x)&&&BitVec.ofInt 32 1).toNat))).toNat)).toNat)=AV.int IntKind.u32 (Int.ofNat (kS x))∧ad (AV.int IntKind.u32 (Int.ofNat (kS x)))=true)∧(a=a∧ad a=true)∧(oN n)∧(rR i)∧(I (az IntKind.i64 (Int.ofNat j+1))=I (Int.ofNat (j+1))∧ad (I (Int.ofNat (j+1)))=true)∧True)∧True∧True)) ((((C9 x)∧(a=a∧ad a=true)∧(oN n)∧(rR i)∧True)∧True∧True)∧Q (AExit.exit 2) (eL a n i x).st)):=by kernel_rfl
theorem Oa {a:AV} {n i x:Nat} {Q:AExit→St→Prop} (ha:ad a=true) (hx:x<2^32) (hq:Q (.exit 2) (eL a n i (iW 8 x)).st):AWp Tryz.prog opts0.glob 0 (.loop (aJ Tryz.prog 208 8)) (oM a n i x 0).st Q:=by
 refine AWp.loopV base0 (fun _=>aX) (fun j=>oM a n i (iW j x) j) (fun j=>eL a n i (iW j x)) (fun _=>[]) (fun _=>[]) 8 0 (fun _=>ci) (fun _ r L h=>by cases h) fun j _ hj=> ?_
 rw[iW,N9,N7 (wK hx)]
 refine ao (fun h=> ?_) (fun h=> ?_)
 ·have h:(j:Int)<8:=ltInt_iff.1 h
  rw[eS (by simp;omega) (by simp;omega)]
  refine oblB_iff.2 ⟨blt_iff.2 (by omega), ?_⟩
  simp[ad,ha]
 ·have h:(8:Int)≤j:=ltInt_false.1 h
  obtain rfl:j=8:=by omega
  refine ⟨by simp[ad,ha],hq⟩
theorem Oc:bX (dG Tryz.prog 208) 4=[aJ Tryz.prog 208 4]:=by kernel_rfl
theorem Od:bX (aJ Tryz.prog 208 4) 8=[aJ Tryz.prog 208 8]:=by kernel_rfl
@[simp] abbrev wO (es:List AV) (f:Bool):=(AV.fsl f es=AV.fsl f es∧ad (AV.fsl f es)=true)
theorem Oe (x:Nat) (b:UInt8) (f:Bool) (es:List AV) (n i:Nat) (go:Bool) (Q:AExit→St→Prop):aN Tryz.prog opts0 40 (wN (.int .u8 (.ofNat b.toNat))) (aJ Tryz.prog 208 4) (eL (.fsl f es) n i x).st (lU 0 [] (eL (.fsl f es) n (i+1) (kT x b.toNat)) [] (eL (.fsl f es) n i x) go Q)=
  (aa (au (Int.ofNat i) (Int.ofNat n)) (cg es (Int.ofNat i).toNat=some (AV.int IntKind.u8 (Int.ofNat b.toNat))∧ax (eB (az IntKind.u32 ↑(BitVec.ofInt 32 (Int.ofNat x)^^^BitVec.ofInt 32 (az IntKind.u32 (Int.ofNat b.toNat))).toNat)&&((az IntKind.u32 ↑(BitVec.ofInt 32 (Int.ofNat x)^^^BitVec.ofInt 32 (az IntKind.u32 (Int.ofNat b.toNat))).toNat).toNat.blt 4294967296&&ad (AV.fsl f es))) ((((AV.int IntKind.u32 (az IntKind.u32 ↑(BitVec.ofInt 32 (Int.ofNat x)^^^BitVec.ofInt 32 (az IntKind.u32 (Int.ofNat b.toNat))).toNat)=AV.int IntKind.u32 (Int.ofNat (az IntKind.u32 ↑(BitVec.ofInt 32 (Int.ofNat x)^^^BitVec.ofInt 32 (az IntKind.u32 (Int.ofNat b.toNat))).toNat).toNat)∧ad (AV.int IntKind.u32 (Int.ofNat (az IntKind.u32 ↑(BitVec.ofInt 32 (Int.ofNat x)^^^BitVec.ofInt 32 (az IntKind.u32 (Int.ofNat b.toNat))).toNat).toNat))=true)∧(wO es f)∧(oN n)∧(rR i)∧(I 0=I 0∧true=true)∧True)∧True∧True)∧ax go (((AV.int IntKind.u32 (Int.ofNat (iW 8 (az IntKind.u32 ↑(BitVec.ofInt 32 (Int.ofNat x)^^^BitVec.ofInt 32 (az IntKind.u32 (Int.ofNat b.toNat))).toNat).toNat))=AV.int IntKind.u32 (Int.ofNat (kT x b.toNat))∧ad (AV.int IntKind.u32 (Int.ofNat (kT x b.toNat)))=true)∧(wO es f)∧(oN n)∧(I (az IntKind.i64 (Int.ofNat i+1))=I (Int.ofNat (i+1))∧ad (I (Int.ofNat (i+1)))=true)∧True)∧True∧True))) ((((C9 x)∧(wO es f)∧(oN n)∧(rR i)∧True)∧True∧True)∧Q (AExit.exit 0) (eL (AV.fsl f es) n i x).st)):=by kernel_rfl
theorem Of {s:St} {Q:AExit→St→Prop} (h:wM s Q):AWp Tryz.prog opts0.glob 0 (.loop (aJ Tryz.prog 208 8)) s Q:=by
 unfold wM at h
 split at h
 ·obtain ⟨hb,hs,hq⟩:=oblB_iff.1 h
  simp only[Bool.and_eq_true] at hb
  exact .says (eE base0.glob hs) (Oa hb.2.2 (blt_iff.1 hb.2.1) hq)
 ·exact h.elim
theorem Og (v:AV):LsOk Tryz.prog opts0.glob 0 (wN v) (aJ Tryz.prog 208 4):=LsOk.one Od fun _ _ h=>Of h
def iX (x:Nat) (l:List UInt8):Nat→Nat
 |0=>x
 |i+1=>kT (iX x l i) (gm l i).toNat
theorem Db (x:Nat) (l:List UInt8):∀i,i≤l.length→iX x l i=gG x (l.take i)
 |0,_=>rfl
 | i+1,h=>by
  have e:l.take (i+1)=l.take i++[gm l i]:=by
   rw[List.take_add_one]
   simp[gm,show i<l.length by omega]
  rw[e,C7,iX,Db x l i (by omega)]
  rfl
theorem wP {x:Nat} (l:List UInt8) (hx:x<2^32):∀i,iX x l i<2^32
 |0=>hx
 |i+1=>C5 (wP l hx i) (UInt8.toNat_lt _)
theorem Oh {f:Bool} {l:List UInt8} {x:Nat} {Q:AExit→St→Prop} (hx:x<2^32) (hl:l.length≤9223372036854775807) (hq:Q (.exit 0) (eL (.fsl f (aj l)) l.length l.length (gG x l)).st):
  AWp Tryz.prog opts0.glob 0 (.loop (aJ Tryz.prog 208 4)) (eL (.fsl f (aj l)) l.length 0 x).st Q:=by
 refine AWp.loopV base0 (fun i=>wN (.int .u8 (.ofNat (gm l i).toNat))) (fun i=>eL (.fsl f (aj l)) l.length i (iX x l i)) (fun i=>eL (.fsl f (aj l)) l.length i (iX x l i)) (fun _=>[]) (fun _=>[]) l.length 0 (fun _=>pZ fP) (fun _=>Og _) fun i _ hi=> ?_
 rw[iX,Oe,N8 (wP l hx i)]
 refine ao (fun h=> ?_) (fun h=> ?_)
 ·have h:(i:Int)<l.length:=ltInt_iff.1 h
  have hi:i<l.length:=by omega
  rw[eS (by simp;omega) (by simp;omega)]
  have hlt:iX x l i^^^(gm l i).toNat<2^32:=Nat.xor_lt_two_pow (wP l hx i) (by have:=UInt8.toNat_lt (gm l i);omega)
  refine ⟨?_, ?_⟩
  ·show cg (aj l) i=_
   rw[FF]
   simp[gm,hi]
  ·refine oblB_iff.2 ⟨?_, ?_⟩
   ·show (true&&(Nat.blt (iX x l i^^^(gm l i).toNat) 4294967296&&ad (.fsl f (aj l))))=true
    simp only[Bool.true_and,Bool.and_eq_true]
    exact ⟨blt_iff.2 hlt,by simp[ad]⟩
   ·refine ⟨by simp[ad],oblB_iff.2 ⟨blt_iff.2 (by omega), ?_⟩⟩
    simp[ad,kT]
 ·have h:(l.length:Int)≤i:=ltInt_false.1 h
  obtain rfl:i=l.length:=by omega
  refine ⟨by simp[ad], ?_⟩
  rw[Db x l _ (Nat.le_refl _),List.take_length]
  exact hq
def Dc (f:Bool) (l:List UInt8):bL:=fun s Q=>match s.slots.get 0 with
 |some (.int .u32 x)=>ax (eB x&&Nat.blt x.toNat 4294967296) (dd 0 [] (eL (.fsl f (aj l)) l.length 0 x.toNat) s∧Q (.exit 0) (eL (.fsl f (aj l)) l.length l.length (gG x.toNat l)).st)
 |_=>False
def Dd (f:Bool) (l:List UInt8):aV:=ip (fun _ _=>none) (lV 4 (Dc f l))
theorem Oi (x:Nat) (f:Bool) (l:List UInt8) (Q:AV→ab→Nat→Prop):aq Tryz.prog opts0 40 (Dd f l) 208 [.int .u32 (.ofNat x),.fsl f (aj l)] [] 0 Q=
  (ax (eB (az IntKind.u32 ↑(BitVec.ofInt 32 4294967295^^^BitVec.ofInt 32 (Int.ofNat x)).toNat)&&(az IntKind.u32 ↑(BitVec.ofInt 32 4294967295^^^BitVec.ofInt 32 (Int.ofNat x)).toNat).toNat.blt 4294967296) ((((AV.int IntKind.u32 (az IntKind.u32 ↑(BitVec.ofInt 32 4294967295^^^BitVec.ofInt 32 (Int.ofNat x)).toNat)=AV.int IntKind.u32 (Int.ofNat (az IntKind.u32 ↑(BitVec.ofInt 32 4294967295^^^BitVec.ofInt 32 (Int.ofNat x)).toNat).toNat)∧ad (AV.int IntKind.u32 (Int.ofNat (az IntKind.u32 ↑(BitVec.ofInt 32 4294967295^^^BitVec.ofInt 32 (Int.ofNat x)).toNat).toNat))=true)∧(AV.fsl f (aj l)=AV.fsl f (aj l)∧ad (AV.fsl f (aj l))=true)∧(I (Int.ofNat (ac (aj l)))=I (Int.ofNat l.length)∧ad (I (Int.ofNat l.length))=true)∧(I 0=I 0∧true=true)∧True)∧True∧True)∧Q (AV.int IntKind.u32 (az IntKind.u32 ↑(BitVec.ofInt 32 4294967295^^^BitVec.ofInt 32 (Int.ofNat (gG (az IntKind.u32 ↑(BitVec.ofInt 32 4294967295^^^BitVec.ofInt 32 (Int.ofNat x)).toNat).toNat l))).toNat)) [] 3)):=by kernel_rfl
theorem Oj (x:Nat) (Q:AV→ab→Nat→Prop):aq Tryz.prog opts0 40 aX 208 [.int .u32 (.ofNat x),.nilsl] [] 0 Q=
  (Q (AV.int IntKind.u32 (az IntKind.u32 ↑(BitVec.ofInt 32 4294967295^^^BitVec.ofInt 32 (az IntKind.u32 ↑(BitVec.ofInt 32 4294967295^^^BitVec.ofInt 32 (Int.ofNat x)).toNat)).toNat)) [] 11):=by kernel_rfl
theorem Ok {x:Nat} {f:Bool} {l:List UInt8} (hx:x<2^32) (hl:l.length≤9223372036854775807):SC 208 [.int .u32 (.ofNat x),.fsl f (aj l)] (.int .u32 (.ofNat (oL x l))):=by
 refine im (A:=Dd f l) base0 (pZ fP) (ar (LsOk.one Oc fun s Q hs=> ?_)) (by simp[ad,ae]) ?_
 ·unfold Dc at hs
  split at hs
  ·obtain ⟨hb,hs,hq⟩:=oblB_iff.1 hs
   simp only[Bool.and_eq_true] at hb
   exact .says (eE base0.glob hs) (Oh (blt_iff.1 hb.2) hl hq)
  ·exact hs.elim
 ·have h1:x^^^4294967295<2^32:=Nat.xor_lt_two_pow hx (by decide)
  rw[Oi,rQ hx]
  refine oblB_iff.2 ⟨?_, ?_, ?_⟩
  ·exact blt_iff.2 h1
  ·simp[ad]
  ·show (∃d,aH 0 [] d (.int .u32 (az .u32 ((BitVec.ofInt 32 4294967295^^^BitVec.ofInt 32 (Int.ofNat (gG (x^^^4294967295) l))).toNat:Int)))=_)∧_
   rw[rQ (C6 l _ h1)]
   exact ⟨⟨1,rfl⟩,rfl⟩
theorem Ol {x:Nat} (hx:x<2^32):SC 208 [.int .u32 (.ofNat x),.nilsl] (.int .u32 (.ofNat (oL x []))):=by
 refine im (A:=aX) base0 ci (zc fun _=>rfl) (by simp[ad,ae]) ?_
 have h1:x^^^4294967295<2^32:=Nat.xor_lt_two_pow hx (by decide)
 rw[Oj]
 have e:x^^^4294967295^^^4294967295=oL x []:=rfl
 rw[rQ hx,rQ h1,e]
 exact ⟨⟨1,rfl⟩,rfl⟩
end
noncomputable section
def rS:AV:= .fsl false (bV (.int .u8 0) 64)
def cn:Nat→List AV
 |0=>[]
 |n+1=>rS:: .bool false::cn n
theorem De:∀n,cn n++[rS,.bool false]=cn (n+1)
 |0=>rfl
 |n+1=>by simp only[cn,List.cons_append];rw[De n];rfl
theorem oO:∀n,ae (cn n)=true
 |0=>rfl
 |n+1=>by
  have h:ad rS=true:=by kernel_rfl
  simp only[cn,ae,h,oO n,ad,Bool.and_self]
theorem Df:∀n,ac (cn n)=n*2
 |0=>rfl
 |n+1=>by simp only[cn,ac,Df n];omega
def oP (s:AV):List AV:=[s,.nilsl,I (-1),.bool false,I 0]
def eZ (n:Nat):Nat→View
 |0=>⟨[(13,I (.ofNat n)),(14,I 0)],[(4,.ptr 0 0)],[(0,.cells (oP .nilsl),.whole)],3,29⟩
 |i+1=>⟨[(13,I (.ofNat n)),(14,I (.ofNat (i+1)))],[(4,.ptr 0 0)],[(0,.cells (oP (.rsl true 1 0 (i+1) 2)),.each),(1,.cells (cn (i+1)),.whole)],3,29⟩
def gH (n i d:Nat):View:=⟨[(13,I (.ofNat n)),(14,I (.ofNat (i+1)))],[(4,.ptr 0 0)],[(0,.cells (oP (.rsl true 1 0 (i+1) 2)),.each),(1,.cells (cn i++[.rsl true 2 0 64 1,.bool false]),.split (cn i) [.rsl true 2 0 64 1,.bool false] [.rsl true d 0 64 1,.bool false]),(2,.cells (flat (bV (.int .u8 0) 64)),.whole)],3,29⟩
abbrev rT:=[AV.int IntKind.u8 0,AV.int IntKind.u8 0,AV.int IntKind.u8 0,AV.int IntKind.u8 0,AV.int IntKind.u8 0,AV.int IntKind.u8 0,AV.int IntKind.u8 0,AV.int IntKind.u8 0,AV.int IntKind.u8 0,AV.int IntKind.u8 0,AV.int IntKind.u8 0,AV.int IntKind.u8 0,AV.int IntKind.u8 0,AV.int IntKind.u8 0,AV.int IntKind.u8 0,AV.int IntKind.u8 0,AV.int IntKind.u8 0,AV.int IntKind.u8 0,AV.int IntKind.u8 0,AV.int IntKind.u8 0,AV.int IntKind.u8 0,AV.int IntKind.u8 0,AV.int IntKind.u8 0,AV.int IntKind.u8 0,AV.int IntKind.u8 0,AV.int IntKind.u8 0,AV.int IntKind.u8 0,AV.int IntKind.u8 0,AV.int IntKind.u8 0,AV.int IntKind.u8 0,AV.int IntKind.u8 0,AV.int IntKind.u8 0,AV.int IntKind.u8 0,AV.int IntKind.u8 0,AV.int IntKind.u8 0,AV.int IntKind.u8 0,AV.int IntKind.u8 0,AV.int IntKind.u8 0,AV.int IntKind.u8 0,AV.int IntKind.u8 0,AV.int IntKind.u8 0,AV.int IntKind.u8 0,AV.int IntKind.u8 0,AV.int IntKind.u8 0,AV.int IntKind.u8 0,AV.int IntKind.u8 0,AV.int IntKind.u8 0,AV.int IntKind.u8 0,AV.int IntKind.u8 0,AV.int IntKind.u8 0,AV.int IntKind.u8 0,AV.int IntKind.u8 0,AV.int IntKind.u8 0,AV.int IntKind.u8 0,AV.int IntKind.u8 0,AV.int IntKind.u8 0,AV.int IntKind.u8 0,AV.int IntKind.u8 0,AV.int IntKind.u8 0,AV.int IntKind.u8 0,AV.int IntKind.u8 0,AV.int IntKind.u8 0,AV.int IntKind.u8 0,AV.int IntKind.u8 0]
@[simp] abbrev rU (n:Nat):=(I (Int.ofNat n)=I (Int.ofNat n)∧ad (I (Int.ofNat n))=true)
@[simp] abbrev oQ:=(AV.bool false=AV.bool false∧true=true)
abbrev rV:=[AV.nilsl,AV.nilsl,I (Int.negSucc 0),AV.bool false,I 0]
abbrev oR:=[AV.rsl true 2 0 64 1,AV.bool false]
@[simp] abbrev rW:=((some 0=some 0∧0=0)∧True)
abbrev rX:=[AV.rsl true 9 0 64 1,AV.bool false]
@[simp] abbrev oS:=(I 0=I 0∧true=true)
@[simp] abbrev wQ:=(AV.nilsl=AV.nilsl∧true=true)
@[simp] abbrev Dg:=(true=true∧some 9=some 9∧0=0∧64=64∧1=1)
theorem Om (n:Nat) (go:Bool) (Q:AExit→St→Prop):aN Tryz.prog opts0 40 aX (aJ Tryz.prog 12 6) (eZ n 0).st (lU 0 [(0,0),(1,12),(2,9)] (gH n 0 9) [(0,0)] (eZ n 0) go Q)=
  (aa (au 0 (Int.ofNat n)) (ax go (((rU n)∧(I 1=I 1∧true=true)∧True)∧rW∧((true=true∧some 12=some 12∧0=0∧1=1∧2=2)∧wQ∧(I (Int.negSucc 0)=I (Int.negSucc 0)∧true=true)∧oQ∧oS∧True)∧((cn 0++oR=cn 0++oR∧rX=cn 0++rX)∧true=true∧Dg∧oQ∧True)∧(rT=rT∧true=true)∧True)) ((((rU n)∧oS∧True)∧rW∧(rV=rV∧true=true)∧True)∧Q (AExit.exit 0) (eZ n 0).st)):=by kernel_rfl
theorem On (n i:Nat) (go:Bool) (Q:AExit→St→Prop):aN Tryz.prog opts0 40 aX (aJ Tryz.prog 12 6) (eZ n (i+1)).st (lU 0 [(0,0),(1,12),(2,9)] (gH n (i+1) 9) [(0,0),(1,1)] (eZ n (i+1)) go Q)=
  (aa (au (Int.ofNat (i+1)) (Int.ofNat n)) (ax (((i+1+1)*32).ble 140737488355328&&true) (ax ((ac (cn (i+1))).beq ((i+1)*2)) (ax go (((rU n)∧(I (az IntKind.i64 (Int.ofNat (i+1)+1))=I (Int.ofNat (i+1+1))∧ad (I (Int.ofNat (i+1+1)))=true)∧True)∧rW∧((true=true∧some 12=some 12∧0=0∧i+1+1=i+1+1∧2=2)∧wQ∧(I (Int.negSucc 0)=I (Int.negSucc 0)∧true=true)∧oQ∧oS∧True)∧((cn (i+1)++oR=cn (i+1)++oR∧cn (i+1)++rX=cn (i+1)++rX)∧ae (cn (i+1))=true∧Dg∧oQ∧True)∧(rT=rT∧true=true)∧True)))) ((((rU n)∧(I (Int.ofNat (i+1))=I (Int.ofNat (i+1))∧ad (I (Int.ofNat (i+1)))=true)∧True)∧rW∧((true=true∧some 1=some 1∧0=0∧i+1=i+1∧2=2)∧wQ∧(I (Int.negSucc 0)=I (Int.negSucc 0)∧true=true)∧oQ∧oS∧True)∧(cn (i+1)=cn (i+1)∧ae (cn (i+1))=true)∧True)∧Q (AExit.exit 0) (eZ n (i+1)).st)):=by kernel_rfl
abbrev Dh (i:Nat):=[AV.rsl true 1 0 (i+1) 2,AV.nilsl,I (Int.negSucc 0),AV.bool false,I 0]
theorem Oo (n i:Nat):zs 2 (eZ n (i+1)) (gH n i 9).st=
  ((Frz 2 (gH n i 9).st.heap (I (Int.ofNat n)) (I (Int.ofNat n))∧Frz 2 (gH n i 9).st.heap (I (Int.ofNat (i+1))) (I (Int.ofNat (i+1)))∧Frz 2 (gH n i 9).st.heap (AV.ptr 0 0) (AV.ptr 0 0)∧True)∧FrzL 2 (gH n i 9).st.heap (Dh i) (Dh i)∧FrzL 2 (gH n i 9).st.heap (cn i++oR) (cn (i+1))∧True):=by kernel_rfl
theorem Oq (n i:Nat):Says2 opts0.glob 0 (gH n i 9).st (eZ n (i+1)).st:=by
 refine FK (m:=2) ?_
 rw[Oo]
 have hz:Frz 2 (gH n i 9).st.heap (.rsl true 2 0 64 1) rS:=⟨2,by kernel_rfl⟩
 refine ⟨⟨⟨1,rfl⟩,⟨1,rfl⟩,⟨1,rfl⟩,trivial⟩,FrzL.cons ⟨1,rfl⟩ (FrzL.cons ⟨1,rfl⟩ (FrzL.cons ⟨1,rfl⟩ (FrzL.cons ⟨1,rfl⟩ (FrzL.cons ⟨1,rfl⟩ FrzL.nil)))), ?_,trivial⟩
 rw[←De i]
 exact FrzL.append (FrzL.closed _ (oO i)) (FrzL.cons hz (FrzL.cons ⟨1,rfl⟩ FrzL.nil))
theorem Ot (n:Nat) (hn:n≤4096) {Q:AExit→St→Prop} (hq:Q (.exit 0) (eZ n n).st):AWp Tryz.prog opts0.glob 0 (.loop (aJ Tryz.prog 12 6)) (eZ n 0).st Q:=by
 refine AWp.loopM base0 (fun _=>aX) (eZ n) (fun i=>gH n i 9) (eZ n) (fun _=>[(0,0),(1,12),(2,9)]) (fun i=>match i with
  |0=>[(0,0)]
  |_+1=>[(0,0),(1,1)]) n 0 (fun _=>ci) (fun _=>LsOk.none) (fun i _ _=>Oq n i) fun i _ hi=> ?_
 cases i with
 | zero=>
  rw[Om]
  refine ao (fun h=> ?_) (fun h=> ?_)
  ·have h:(0:Int)<n:=ltInt_iff.1 h
   exact oblB_iff.2 ⟨blt_iff.2 (by omega),by simp[ad,cn]⟩
  ·have h:(n:Int)≤0:=ltInt_false.1 h
   obtain rfl:n=0:=by omega
   exact ⟨by simp[ad],hq⟩
 | succ i=>
  rw[On]
  refine ao (fun h=> ?_) (fun h=> ?_)
  ·have h:((i+1:Nat):Int)<n:=ltInt_iff.1 h
   rw[eS (by simp;omega) (by simp;omega)]
   refine oblB_iff.2 ⟨by simp;omega,oblB_iff.2 ⟨by rw[Df];simp,oblB_iff.2 ⟨blt_iff.2 (by omega), ?_⟩⟩⟩
   simp[ad,oO]
  ·have h:(n:Int)≤(i+1:Nat):=ltInt_false.1 h
   obtain rfl:n=i+1:=by omega
   exact ⟨by simp[ad,oO],hq⟩
def Di (n:Nat):bL:=fun s Q=>dd 0 [(0,9)] (eZ n 0) s∧Q (.exit 0) (eZ n n).st
theorem Ou:bX (dG Tryz.prog 12) 6=[aJ Tryz.prog 12 6]:=by kernel_rfl
theorem Ov (n:Nat) (Q:AV→ab→Nat→Prop):aq Tryz.prog opts0 40 (ip (fun _ _=>none) (lV 6 (Di (n+1)))) 12 [I (.ofNat (n+1))] [] 0 Q=
  (aa (au (Int.ofNat (n+1)) 8) (Q (AV.tuple [AV.nilp,I 1]) [] 10) (aa (au 4096 (Int.ofNat (n+1))) (Q (AV.tuple [AV.nilp,I 1]) [] 10) ((((I (Int.ofNat (n+1))=I (Int.ofNat (n+1))∧ad (I (Int.ofNat (n+1)))=true)∧oS∧True)∧((some 9=some 9∧0=0)∧True)∧(rV=rV∧true=true)∧True)∧Q (AV.tuple [AV.ptr 0 0,I 0]) [(0,some (Blk.cells [AV.rsl true 1 0 (n+1) 2,AV.nilsl,I (Int.negSucc 0),AV.bool false,I 0])),(1,some (Blk.cells (cn (n+1))))] 6))):=by kernel_rfl
def Ow (n:Nat):ab:=[(0,some (.cells (oP (.rsl true 1 0 n 2)))),(1,some (.cells (cn n)))]
theorem Ox (n:Nat) (h1:8≤n+1) (h2:n+1≤4096):BodySem Tryz.prog opts0.glob 12 [I (.ofNat (n+1))] [] 0 (.tuple [.ptr 0 0,I 0]) (Ow (n+1)) 6:=by
 refine pT (A:=ip (fun _ _=>none) (lV 6 (Di (n+1)))) base0 (pZ fP) (ar (LsOk.one Ou fun s Q hs=> .says (eE base0.glob hs.1) (Ot (n+1) h2 hs.2))) ?_
 rw[Ov]
 refine ao (fun h=> ?_) (fun _=>ao (fun h=> ?_) (fun _=>⟨by simp[ad],rfl,rfl,rfl⟩))
 ·have h:((n+1:Nat):Int)<8:=ltInt_iff.1 h
  omega
 ·have h:(4096:Int)<(n+1:Nat):=ltInt_iff.1 h
  omega
def wR (nx n:Nat):ab:=[(nx,some (.cells (oP (.rsl true (nx+1) 0 n 2)))),(nx+1,some (.cells (cn n)))]
theorem Oy (nx n:Nat) (h1:8≤n) (h2:n≤4096):BodySem Tryz.prog opts0.glob 12 [I (.ofNat n)] [] nx (.tuple [.ptr nx 0,I 0]) (wR nx n) (nx+6):=by
 obtain ⟨n,rfl⟩:∃k,n=k+1:=⟨n-1,by omega⟩
 refine ui base0.glob rfl (Ox n h1 h2) (RenV.tuple2 (.ptr _ _ _ (by rw[iq,if_pos (by omega)];simp)) (.same _ rfl)) fun i b2 hi=> ?_
 simp only[wR,hget] at hi
 split at hi
 ·rename_i he
  have he:=beq_iff.1 he
  simp only[Option.some.injEq] at hi
  subst he;subst hi
  refine ⟨0,_,by rw[iq,if_pos (by omega)];simp,rfl, ?_⟩
  exact ⟨.rsl _ _ _ _ _ _ (by rw[iq,if_pos (by omega)];simp),.same _ rfl,.same _ rfl,.same _ rfl,.same _ rfl,trivial⟩
 ·split at hi
  ·rename_i he
   have he:=beq_iff.1 he
   simp only[Option.some.injEq] at hi
   subst he;subst hi
   exact ⟨1,_,by rw[iq,if_pos (by omega)];simp,rfl,RenL.same _ (oO _)⟩
  ·cases hi
end
end Go.Proofs.YtlljinebapfdaaaGreatDoor
