import Derived.Test.YtjmnheinkchlfaaGreatDoorQ3
import Derived.KernelRfl
namespace Go.Proofs.YtjmnheinkchlfaaGreatDoor
open Go Go.RowKit
open Go.Proofs.Abs
noncomputable section
def pU (a:Int):AV:= .agg [I 4325482,I 2,I a,.fsl false [],.fsl false []]
def pV (b:Int):AV:= .agg [I 4325483,I 2,I b,.fsl false [],.fsl false []]
def cf (a b:Int):List AV:=[I 4325481,I 1,I 0,.fsl false [],.fsl false [pU a,pV b]]
def nA:AV:= .fsl true [.agg [I 4325482,I 2,.bool true,.bool false],.agg [I 4325483,I 2,.bool true,.bool false]]
def fQ (a b:Int):AV:= .tuple [.fsl false [.fsl false [pU a],.fsl false [pV b]],I 0]
theorem Fq (a b:Int) (Q:AV→Prop):aA Tryz.prog opts0 40 aZ 80 [I a,I b] [] 0 (fun v _ _=>Q v)=
  (Q (AV.agg [I 4325481,I 1,I 0,AV.nilsl,AV.fsl false [AV.agg [I 4325482,I 2,I a,AV.nilsl,AV.nilsl],AV.agg [I 4325483,I 2,I b,AV.nilsl,AV.nilsl]]])):=by kernel_rfl
abbrev kU:=[I 4325482,I 2,I 1,AV.nilsl,AV.nilsl]
theorem Fr (b:Int) (Q:AV→Prop):aA Tryz.prog opts0 40 aZ 217 [I b] [] 0 (fun v _ _=>Q v)=
  (Q (AV.agg [I 4325481,I 1,I 0,AV.nilsl,AV.fsl true [AV.agg kU,AV.agg [I 4325483,I 2,I b,AV.nilsl,AV.nilsl]]])):=by kernel_rfl
abbrev nB (b:Int):=[I 4325483,I 2,I b,AV.fsl false [],AV.fsl false []]
abbrev pW (a:Int):=[I 4325482,I 2,I a,AV.fsl false [],AV.fsl false []]
abbrev fR (a b:Int):=(AV.tuple [AV.fsl false [AV.fsl false [AV.agg (pW a)],AV.fsl false [AV.agg (nB b)]],I 0])
theorem Fs (a b:Int) (Q:Option AV→Prop):aA Tryz.prog opts0 40 (ar [] [] (bT [(160,fun l=>l.head?)]) [] []) 69 [.agg (cf a b),nA] [] 0 (fun v H _=>Q (ay 0 H 40 v))=
  (SC 160 [AV.agg (pW a)] (AV.agg (pW a))∧SC 160 [AV.agg (nB b)] (AV.agg (nB b))∧Q (some (fR a b))):=by kernel_rfl
theorem Ft (a b:Int) (Q:Option AV→Prop):aA Tryz.prog opts0 40 aZ 177 [.agg (cf a b),nA] [] 0 (fun v H _=>Q (ay 0 H 40 v))=
  (Q (some (fR a b))):=by kernel_rfl
def yT (L:List AV) (i:Nat):List (Nat × AV):=[(9,.fsl false [.fsl false L]),(41,.fsl false L),(42,I (.ofNat (ac L))),(43,I (.ofNat i))]
def bH (L:List AV) (i:Nat):View:=⟨(11,.nilsl)::yT L i,[(6,.ptr 1 0)],[(1,.cells cH,.whole)],3,109⟩
def cQ (L:List AV) (i k:Nat) (es:List AV):View:=⟨yT L i,[(6,.ptr 1 0),(11,.rsl true 2 0 k 5)],[(1,.cells cH,.whole),(2,.cells es,.whole)],3,109⟩
def il (a b:Int):aN:=ar [(8,0,.res (.bool true)),(9,0,.res (.fptr (cf a b) 0))] [] (bT [(69,fun _=>some (fQ a b)),(80,fun _=>some (.agg (cf a b)))]) [42] []
abbrev cn (a b:Int):=[I 4325481,I 1,I 0,AV.fsl false [],AV.fsl false [AV.agg (pW a),AV.agg (nB b)]]
@[simp] abbrev bp (L:List AV):=(AV.fsl false [AV.fsl false L]=AV.fsl false [AV.fsl false L]∧ad (AV.fsl false [AV.fsl false L])=true)
abbrev gD:=[I 0,I 0,I 0,AV.nilsl,AV.nilsl]
@[simp] abbrev bd:=(gD=gD∧true=true)
@[simp] abbrev cR (L:List AV):=(I (Int.ofNat (ac L))=I (Int.ofNat (ac L))∧ad (I (Int.ofNat (ac L)))=true)
@[simp] abbrev cS (L:List AV):=(AV.fsl false L=AV.fsl false L∧ad (AV.fsl false L)=true)
abbrev im (a b:Int):=[AV.agg (cn a b),AV.fsl true [AV.agg [I 4325482,I 2,AV.bool true,AV.bool false],AV.agg [I 4325483,I 2,AV.bool true,AV.bool false]]]
@[simp] abbrev dC:=(some 1=some 1∧0=0)
@[simp] abbrev kV:=(AV.nilsl=AV.nilsl∧true=true)
theorem Fu (L:List AV) (i j:Nat) (a b:Int) (Nx:Prop) (Q:AExit→St→Prop):al Tryz.prog opts0 40 (il a b) (aq Tryz.prog 35 9) (bH L i).st (aO 1 [(0,0),(1,1)] (bH L j) Nx [(0,0),(1,1)] (bH L i) Q)=
  (an Tryz.prog BinOp.lss 3 (Operand.tmp 43) (Operand.tmp 42) (I (Int.ofNat i)) (I (Int.ofNat (ac L)))=some (AV.bool true)∧aJ Tryz.prog 29 (AV.fsl false L) (I (Int.ofNat i))=some (AV.fptr (cn a b) 0)∧SC 69 (im a b) (fR a b)∧ah (ag a 1) (ah (!am b 0) (ah (!am 4 b) (SC 80 [I a,I b] (AV.agg (cn a b))∧(((AV.rsl true 59 0 (ac [AV.agg (cn a b)]) 5=AV.nilsl∧true=true)∧(bp L)∧(cS L)∧(cR L)∧(I (af IntKind.i64 (Int.ofNat i+1))=I (Int.ofNat j)∧ad (I (Int.ofNat j))=true)∧True)∧(dC∧True)∧bd∧True)∧Nx) (((kV∧(bp L)∧(cS L)∧(cR L)∧(I (af IntKind.i64 (Int.ofNat i+1))=I (Int.ofNat j)∧ad (I (Int.ofNat j))=true)∧True)∧(dC∧True)∧bd∧True)∧Nx)) (((kV∧(bp L)∧(cS L)∧(cR L)∧(I (af IntKind.i64 (Int.ofNat i+1))=I (Int.ofNat j)∧ad (I (Int.ofNat j))=true)∧True)∧(dC∧True)∧bd∧True)∧Nx)) (((kV∧(bp L)∧(cS L)∧(cR L)∧(I (af IntKind.i64 (Int.ofNat i+1))=I (Int.ofNat j)∧ad (I (Int.ofNat j))=true)∧True)∧(dC∧True)∧bd∧True)∧Nx)):=by kernel_rfl
theorem Fv (L:List AV) (i j:Nat) (es:List AV) (a b:Int) (Nx:Prop) (Q:AExit→St→Prop):al Tryz.prog opts0 40 (il a b) (aq Tryz.prog 35 9) (bH L i).st (aO 1 [(0,0),(1,1),(2,59)] (cQ L j 1 es) Nx [(0,0),(1,1)] (bH L i) Q)=
  (an Tryz.prog BinOp.lss 3 (Operand.tmp 43) (Operand.tmp 42) (I (Int.ofNat i)) (I (Int.ofNat (ac L)))=some (AV.bool true)∧aJ Tryz.prog 29 (AV.fsl false L) (I (Int.ofNat i))=some (AV.fptr (cn a b) 0)∧SC 69 (im a b) (fR a b)∧ah (ag a 1) (ah (!am b 0) (ah (!am 4 b) (SC 80 [I a,I b] (AV.agg (cn a b))∧(((bp L)∧(cS L)∧(cR L)∧(I (af IntKind.i64 (Int.ofNat i+1))=I (Int.ofNat j)∧ad (I (Int.ofNat j))=true)∧True)∧(dC∧(true=true∧some 59=some 59∧0=0∧1=ac [AV.agg (cn a b)]∧5=5)∧True)∧bd∧(flat [AV.agg (cn a b)]=es∧ae es=true)∧True)∧Nx) ((((bp L)∧(cS L)∧(cR L)∧(I (af IntKind.i64 (Int.ofNat i+1))=I (Int.ofNat j)∧ad (I (Int.ofNat j))=true)∧True)∧(dC∧False∧True)∧bd∧False∧True)∧Nx)) ((((bp L)∧(cS L)∧(cR L)∧(I (af IntKind.i64 (Int.ofNat i+1))=I (Int.ofNat j)∧ad (I (Int.ofNat j))=true)∧True)∧(dC∧False∧True)∧bd∧False∧True)∧Nx)) ((((bp L)∧(cS L)∧(cR L)∧(I (af IntKind.i64 (Int.ofNat i+1))=I (Int.ofNat j)∧ad (I (Int.ofNat j))=true)∧True)∧(dC∧False∧True)∧bd∧False∧True)∧Nx)):=by kernel_rfl
@[simp] abbrev t3 (k:Nat):=(dC∧(true=true∧some 2=some 2∧0=0∧k+1=k+1∧5=5)∧True)
@[simp] abbrev io (es:List AV):=(es=es∧ae es=true)
abbrev yU (a b:Int) (k:Nat):=(bi 5 [AV.agg (cn a b)]&&(((k+1+ac [AV.agg (cn a b)])*72).ble 140737488355328&&(be (flat [AV.agg (cn a b)])&&true)))
theorem Fw (L:List AV) (i j k:Nat) (es:List AV) (a b:Int) (Nx:Prop) (Q:AExit→St→Prop):al Tryz.prog opts0 40 (il a b) (aq Tryz.prog 35 9) (cQ L i (k+1) es).st (aO 1 [(0,0),(1,1),(2,2)] (cQ L j (k+1) es) Nx [(0,0),(1,1)] (bH L i) Q)=
  (an Tryz.prog BinOp.lss 3 (Operand.tmp 43) (Operand.tmp 42) (I (Int.ofNat i)) (I (Int.ofNat (ac L)))=some (AV.bool true)∧aJ Tryz.prog 29 (AV.fsl false L) (I (Int.ofNat i))=some (AV.fptr (cn a b) 0)∧SC 69 (im a b) (fR a b)∧ah (ag a 1) (ah (!am b 0) (ah (!am 4 b) (SC 80 [I a,I b] (AV.agg (cn a b))∧aE (yU a b k) (aE ((ac es).beq ((k+1)*5)) ((((bp L)∧(cS L)∧(cR L)∧(I (af IntKind.i64 (Int.ofNat i+1))=I (Int.ofNat j)∧ad (I (Int.ofNat j))=true)∧True)∧(dC∧(true=true∧some 2=some 59∧0=0∧k+1=k+1+ac [AV.agg (cn a b)]∧5=5)∧True)∧bd∧False∧True)∧Nx))) ((((bp L)∧(cS L)∧(cR L)∧(I (af IntKind.i64 (Int.ofNat i+1))=I (Int.ofNat j)∧ad (I (Int.ofNat j))=true)∧True)∧(t3 k)∧bd∧(io es)∧True)∧Nx)) ((((bp L)∧(cS L)∧(cR L)∧(I (af IntKind.i64 (Int.ofNat i+1))=I (Int.ofNat j)∧ad (I (Int.ofNat j))=true)∧True)∧(t3 k)∧bd∧(io es)∧True)∧Nx)) ((((bp L)∧(cS L)∧(cR L)∧(I (af IntKind.i64 (Int.ofNat i+1))=I (Int.ofNat j)∧ad (I (Int.ofNat j))=true)∧True)∧(t3 k)∧bd∧(io es)∧True)∧Nx)):=by kernel_rfl
@[simp] abbrev t4 (k k':Nat):=(dC∧(true=true∧some 59=some 2∧0=0∧k'=k+1∧5=5)∧True)
theorem Fx (L:List AV) (i j k k':Nat) (es es':List AV) (a b:Int) (Nx:Prop) (Q:AExit→St→Prop):al Tryz.prog opts0 40 (il a b) (aq Tryz.prog 35 9) (cQ L i (k+1) es).st (aO 1 [(0,0),(1,1),(2,59)] (cQ L j k' es') Nx [(0,0),(1,1)] (bH L i) Q)=
  (an Tryz.prog BinOp.lss 3 (Operand.tmp 43) (Operand.tmp 42) (I (Int.ofNat i)) (I (Int.ofNat (ac L)))=some (AV.bool true)∧aJ Tryz.prog 29 (AV.fsl false L) (I (Int.ofNat i))=some (AV.fptr (cn a b) 0)∧SC 69 (im a b) (fR a b)∧ah (ag a 1) (ah (!am b 0) (ah (!am 4 b) (SC 80 [I a,I b] (AV.agg (cn a b))∧aE (yU a b k) (aE ((ac es).beq ((k+1)*5)) ((((bp L)∧(cS L)∧(cR L)∧(I (af IntKind.i64 (Int.ofNat i+1))=I (Int.ofNat j)∧ad (I (Int.ofNat j))=true)∧True)∧(dC∧(true=true∧some 59=some 59∧0=0∧k'=k+1+ac [AV.agg (cn a b)]∧5=5)∧True)∧bd∧(es++flat [AV.agg (cn a b)]=es'∧ae es'=true)∧True)∧Nx))) ((((bp L)∧(cS L)∧(cR L)∧(I (af IntKind.i64 (Int.ofNat i+1))=I (Int.ofNat j)∧ad (I (Int.ofNat j))=true)∧True)∧(t4 k k')∧bd∧False∧True)∧Nx)) ((((bp L)∧(cS L)∧(cR L)∧(I (af IntKind.i64 (Int.ofNat i+1))=I (Int.ofNat j)∧ad (I (Int.ofNat j))=true)∧True)∧(t4 k k')∧bd∧False∧True)∧Nx)) ((((bp L)∧(cS L)∧(cR L)∧(I (af IntKind.i64 (Int.ofNat i+1))=I (Int.ofNat j)∧ad (I (Int.ofNat j))=true)∧True)∧(t4 k k')∧bd∧False∧True)∧Nx)):=by kernel_rfl
@[simp] abbrev pX (i:Nat):=(I (Int.ofNat i)=I (Int.ofNat i)∧ad (I (Int.ofNat i))=true)
theorem Fy (L:List AV) (i:Nat) (Nx:Prop) (Q:AExit→St→Prop):al Tryz.prog opts0 40 (ar [(8,0,.res (.bool false))] [] aI [] []) (aq Tryz.prog 35 9) (bH L i).st (aO 1 [(0,0)] (bH L i) Nx [(0,0),(1,1)] (bH L i) Q)=
  (an Tryz.prog BinOp.lss 3 (Operand.tmp 43) (Operand.tmp 42) (I (Int.ofNat i)) (I (Int.ofNat (ac L)))=some (AV.bool false)∧((kV∧(bp L)∧(cS L)∧(cR L)∧(pX i)∧True)∧(dC∧True)∧bd∧True)∧Q (AExit.exit 0) (bH L i).st):=by kernel_rfl
theorem Fz (L:List AV) (i k:Nat) (es:List AV) (Nx:Prop) (Q:AExit→St→Prop):al Tryz.prog opts0 40 (ar [(8,0,.res (.bool false))] [] aI [] []) (aq Tryz.prog 35 9) (cQ L i k es).st (aO 1 [(0,0)] (bH L i) Nx [(0,0),(1,1),(2,2)] (cQ L i k es) Q)=
  (an Tryz.prog BinOp.lss 3 (Operand.tmp 43) (Operand.tmp 42) (I (Int.ofNat i)) (I (Int.ofNat (ac L)))=some (AV.bool false)∧(((bp L)∧(cS L)∧(cR L)∧(pX i)∧True)∧(dC∧(true=true∧some 2=some 2∧0=0∧k=k∧5=5)∧True)∧bd∧(io es)∧True)∧Q (AExit.exit 0) (cQ L i k es).st):=by kernel_rfl
def kW (L:List AV) (F:View):a7:=fun st Q=>ck 1 [(0,0),(1,3)] (bH L 0) st∧Q (.exit 0) F.st
def yV (N:List AV):View:=⟨[(11,.fsl false N)],[(6,.ptr 1 0)],[(1,.cells cH,.whole)],30,109⟩
def pY (l:List (Nat × a7)) (v w:AV):aN:=ar [] l (bT [(69,fun _=>some v),(76,fun _=>some w)]) [70,68] []
abbrev ip (D K:List AV) (n t y:Int):=[AV.agg [I t,I y,I n,AV.fsl false D,AV.fsl false K],AV.fsl true [AV.agg [I 4325481,I 1,AV.bool false,AV.bool true]]]
theorem FA (t y n r:Int) (D K:List AV) (Q:AV→Nat→Prop):aA Tryz.prog opts0 40 (ar [(4,1,.res (.bool true))] [(9,fun _ _=>False)] (bT [(69,fun _=>some (.tuple [.nilsl,I r]))]) [70,68] []) 35 [.ptr 0 0,.agg (ai t y n D K),eA] [] 1 (fun u _ m=>Q u m)=
  (SC 69 (ip D K n t y) (AV.tuple [AV.nilsl,I r])∧an Tryz.prog BinOp.neq 3 (Operand.tmp 32) (Operand.const (Value.int IntKind.i64 0)) (I r) (I 0)=some (AV.bool true)∧Q (AV.tuple [AV.agg gD,I r,AV.str []]) 40):=by kernel_rfl
@[simp] abbrev nC:=(I 0=I 0∧true=true)
@[simp] abbrev yW:=(AV.fsl false [AV.fsl false []]=AV.fsl false [AV.fsl false []]∧true=true)
abbrev yX:=[AV.agg kU,AV.agg [I 4325483,I 2,I 4,AV.nilsl,AV.nilsl]]
abbrev yY:=[AV.agg kU,AV.agg [I 4325483,I 2,I 3,AV.nilsl,AV.nilsl]]
abbrev yZ:=[AV.agg kU,AV.agg [I 4325483,I 2,I 2,AV.nilsl,AV.nilsl]]
abbrev y3:=[AV.agg kU,AV.agg [I 4325483,I 2,I 1,AV.nilsl,AV.nilsl]]
abbrev y4:=[AV.agg kU,AV.agg [I 4325483,I 2,I 0,AV.nilsl,AV.nilsl]]
theorem FB (t y n:Int) (D K:List AV) (Q:AV→Nat→Prop):aA Tryz.prog opts0 40 (ar [] [(9,kW [] (bH [] 0))] (bT [(69,fun _=>some (bM []))]) [70,68] []) 35 [.ptr 0 0,.agg (ai t y n D K),eA] [] 1 (fun u _ m=>Q u m)=
  (SC 69 (ip D K n t y) (AV.tuple [AV.fsl false [AV.fsl false []],I 0])∧((kV∧yW∧(AV.fsl false []=AV.fsl false []∧true=true)∧nC∧nC∧True)∧((some 3=some 3∧0=0)∧True)∧bd∧True)∧Q (AV.tuple [AV.agg [I 4325500,I 1,I 0,AV.nilsl,AV.fsl false [AV.agg [I 4325481,I 1,I 0,AV.nilsl,AV.fsl false yX],AV.agg [I 4325481,I 1,I 0,AV.nilsl,AV.fsl false yY],AV.agg [I 4325481,I 1,I 0,AV.nilsl,AV.fsl false yZ],AV.agg [I 4325481,I 1,I 0,AV.nilsl,AV.fsl false y3],AV.agg [I 4325481,I 1,I 0,AV.nilsl,AV.fsl false y4]]],I 0,AV.str []]) 198):=by kernel_rfl
@[simp] abbrev y5 (L:List AV) (x:AV):=(AV.fsl false [AV.fsl false (x::L)]=AV.fsl false [AV.fsl false (x::L)]∧ad (AV.fsl false [AV.fsl false (x::L)])=true)
@[simp] abbrev y6 (L:List AV) (x:AV):=((kV∧(y5 L x)∧(AV.fsl false (x::L)=AV.fsl false (x::L)∧ad (AV.fsl false (x::L))=true)∧(I (Int.ofNat (ac (x::L)))=I (Int.ofNat (ac (x::L)))∧ad (I (Int.ofNat (ac (x::L))))=true)∧nC∧True)∧((some 3=some 3∧0=0)∧True)∧bd∧True)
abbrev pZ (L:List AV) (x:AV):=(AV.tuple [AV.fsl false [AV.fsl false (x::L)],I 0])
theorem FC (t y n:Int) (D K L:List AV) (x:AV) (i:Nat) (Q:AV→Nat→Prop):aA Tryz.prog opts0 40 (pY [(9,kW (x::L) (bH (x::L) i))] (bM (x::L)) (.agg (ai 4325500 1 0 [] []))) 35 [.ptr 0 0,.agg (ai t y n D K),eA] [] 1 (fun u _ m=>Q u m)=
  (SC 69 (ip D K n t y) (pZ L x)∧(y6 L x)∧SC 76 [AV.nilsl] (AV.agg [I 4325500,I 1,I 0,AV.fsl false [],AV.fsl false []])∧Q (AV.tuple [AV.agg [I 4325500,I 1,I 0,AV.fsl false [],AV.fsl false []],I 0,AV.str []]) 18):=by kernel_rfl
theorem FD (t y n:Int) (D K L N:List AV) (x:AV) (i k:Nat) (es:List AV) (Q:AV→Nat→Prop):aA Tryz.prog opts0 40 (gq (pY [(9,kW (x::L) (cQ (x::L) i k es))] (bM (x::L)) (.agg (ai 4325500 1 0 [] N))) 21 2 (yV N)) 35 [.ptr 0 0,.agg (ai t y n D K),eA] [] 1 (fun u _ m=>Q u m)=
  (SC 69 (ip D K n t y) (pZ L x)∧(y6 L x)∧((Frz 2 [(1,some (Blk.cells gD)),(2,some (Blk.cells es))] (AV.rsl true 2 0 k 5) (AV.fsl false N)∧Frz 2 [(1,some (Blk.cells gD)),(2,some (Blk.cells es))] (AV.ptr 1 0) (AV.ptr 1 0)∧True)∧FrzL 2 [(1,some (Blk.cells gD)),(2,some (Blk.cells es))] gD gD∧True)∧SC 76 [AV.fsl false N] (AV.agg [I 4325500,I 1,I 0,AV.fsl false [],AV.fsl false N])∧Q (AV.tuple [AV.agg [I 4325500,I 1,I 0,AV.fsl false [],AV.fsl false N],I 0,AV.str []]) 35):=by kernel_rfl
def kX (r:AV):List AV:=[I 4325500,I 1,I 0,.nilsl,r]
def y7 (L:List AV) (i:Nat):List (Nat × AV):=[(9,.fsl false [.fsl false L]),(12,I (.ofNat i))]
def bI (L:List AV) (i:Nat):View:=⟨y7 L i,[(6,.ptr 1 0),(11,.ptr 2 0)],[(1,.cells cH,.whole),(2,.cells (kX .nilsl),.whole)],4,113⟩
def cT (L:List AV) (i k:Nat) (es:List AV):View:=⟨y7 L i,[(6,.ptr 1 0),(11,.ptr 2 0)],[(1,.cells cH,.whole),(2,.cells (kX (.rsl true 3 0 k 5)),.rel),(3,.cells es,.whole)],4,113⟩
def iq (a b:Int):aN:=ar [(6,5,.res (.bool true)),(8,4,.res (.fptr (cf a b) 0))] [] (bT [(177,fun _=>some (fQ a b)),(217,fun _=>some (.agg (cf 1 b)))]) [178] []
abbrev er (b:Int):=[I 4325481,I 1,I 0,AV.fsl false [],AV.fsl false [AV.agg [I 4325482,I 2,I 1,AV.fsl false [],AV.fsl false []],AV.agg (nB b)]]
@[simp] abbrev cU:=(dC∧(some 2=some 2∧0=0)∧True)
abbrev c7:=[I 4325500,I 1,I 0,AV.nilsl,AV.nilsl]
theorem FE (L:List AV) (i j:Nat) (a b:Int) (Nx:Prop) (Q:AExit→St→Prop):al Tryz.prog opts0 40 (iq a b) (aq Tryz.prog 95 7) (bI L i).st (aO 1 [(0,0),(1,1),(2,2)] (bI L j) Nx [(0,0),(1,1)] (bI L i) Q)=
  (an Tryz.prog BinOp.lss 3 (Operand.tmp 31) (Operand.tmp 35) (I (Int.ofNat i)) (I (Int.ofNat (ac L)))=some (AV.bool true)∧aJ Tryz.prog 29 (AV.fsl false L) (I (Int.ofNat i))=some (AV.fptr (cn a b) 0)∧SC 177 (im a b) (fR a b)∧ah (ag a 1) (ah (!am b 0) (ah (!am 4 b) (SC 217 [I b] (AV.agg (er b))∧(((bp L)∧(I (af IntKind.i64 (Int.ofNat i+1))=I (Int.ofNat j)∧ad (I (Int.ofNat j))=true)∧True)∧cU∧bd∧([I 4325500,I 1,I 0,AV.nilsl,AV.rsl true 72 0 (ac [AV.agg (er b)]) 5]=c7∧true=true)∧True)∧Nx) ((((bp L)∧(I (af IntKind.i64 (Int.ofNat i+1))=I (Int.ofNat j)∧ad (I (Int.ofNat j))=true)∧True)∧cU∧bd∧(c7=c7∧true=true)∧True)∧Nx)) ((((bp L)∧(I (af IntKind.i64 (Int.ofNat i+1))=I (Int.ofNat j)∧ad (I (Int.ofNat j))=true)∧True)∧cU∧bd∧(c7=c7∧true=true)∧True)∧Nx)) ((((bp L)∧(I (af IntKind.i64 (Int.ofNat i+1))=I (Int.ofNat j)∧ad (I (Int.ofNat j))=true)∧True)∧cU∧bd∧(c7=c7∧true=true)∧True)∧Nx)):=by kernel_rfl
abbrev p3:=[I 4325500,I 1,I 0,AV.nilsl,AV.rsl true 3 0 1 5]
theorem FF (L:List AV) (i j:Nat) (es:List AV) (a b:Int) (Nx:Prop) (Q:AExit→St→Prop):al Tryz.prog opts0 40 (iq a b) (aq Tryz.prog 95 7) (bI L i).st (aO 1 [(0,0),(1,1),(2,2),(3,72)] (cT L j 1 es) Nx [(0,0),(1,1)] (bI L i) Q)=
  (an Tryz.prog BinOp.lss 3 (Operand.tmp 31) (Operand.tmp 35) (I (Int.ofNat i)) (I (Int.ofNat (ac L)))=some (AV.bool true)∧aJ Tryz.prog 29 (AV.fsl false L) (I (Int.ofNat i))=some (AV.fptr (cn a b) 0)∧SC 177 (im a b) (fR a b)∧ah (ag a 1) (ah (!am b 0) (ah (!am 4 b) (SC 217 [I b] (AV.agg (er b))∧(((bp L)∧(I (af IntKind.i64 (Int.ofNat i+1))=I (Int.ofNat j)∧ad (I (Int.ofNat j))=true)∧True)∧cU∧bd∧bx [(0,0),(1,1),(2,2),(3,72)] p3 [I 4325500,I 1,I 0,AV.nilsl,AV.rsl true 72 0 (ac [AV.agg (er b)]) 5]∧(flat [AV.agg (er b)]=es∧ae es=true)∧True)∧Nx) ((((bp L)∧(I (af IntKind.i64 (Int.ofNat i+1))=I (Int.ofNat j)∧ad (I (Int.ofNat j))=true)∧True)∧cU∧bd∧bx [(0,0),(1,1),(2,2),(3,72)] p3 c7∧False∧True)∧Nx)) ((((bp L)∧(I (af IntKind.i64 (Int.ofNat i+1))=I (Int.ofNat j)∧ad (I (Int.ofNat j))=true)∧True)∧cU∧bd∧bx [(0,0),(1,1),(2,2),(3,72)] p3 c7∧False∧True)∧Nx)) ((((bp L)∧(I (af IntKind.i64 (Int.ofNat i+1))=I (Int.ofNat j)∧ad (I (Int.ofNat j))=true)∧True)∧cU∧bd∧bx [(0,0),(1,1),(2,2),(3,72)] p3 c7∧False∧True)∧Nx)):=by kernel_rfl
abbrev fS (k:Nat):=[I 4325500,I 1,I 0,AV.nilsl,AV.rsl true 3 0 (k+1) 5]
abbrev y8 (b:Int) (k:Nat):=(bi 5 [AV.agg (er b)]&&(((k+1+ac [AV.agg (er b)])*72).ble 140737488355328&&(be (flat [AV.agg (er b)])&&true)))
theorem FG (L:List AV) (i j k:Nat) (es:List AV) (a b:Int) (Nx:Prop) (Q:AExit→St→Prop):al Tryz.prog opts0 40 (iq a b) (aq Tryz.prog 95 7) (cT L i (k+1) es).st (aO 1 [(0,0),(1,1),(2,2),(3,3)] (cT L j (k+1) es) Nx [(0,0),(1,1)] (bI L i) Q)=
  (an Tryz.prog BinOp.lss 3 (Operand.tmp 31) (Operand.tmp 35) (I (Int.ofNat i)) (I (Int.ofNat (ac L)))=some (AV.bool true)∧aJ Tryz.prog 29 (AV.fsl false L) (I (Int.ofNat i))=some (AV.fptr (cn a b) 0)∧SC 177 (im a b) (fR a b)∧ah (ag a 1) (ah (!am b 0) (ah (!am 4 b) (SC 217 [I b] (AV.agg (er b))∧aE (y8 b k) (aE ((ac es).beq ((k+1)*5)) ((((bp L)∧(I (af IntKind.i64 (Int.ofNat i+1))=I (Int.ofNat j)∧ad (I (Int.ofNat j))=true)∧True)∧cU∧bd∧bx [(0,0),(1,1),(2,2),(3,3)] (fS k) [I 4325500,I 1,I 0,AV.nilsl,AV.rsl true 72 0 (k+1+ac [AV.agg (er b)]) 5]∧False∧True)∧Nx))) ((((bp L)∧(I (af IntKind.i64 (Int.ofNat i+1))=I (Int.ofNat j)∧ad (I (Int.ofNat j))=true)∧True)∧cU∧bd∧bx [(0,0),(1,1),(2,2),(3,3)] (fS k) (fS k)∧(io es)∧True)∧Nx)) ((((bp L)∧(I (af IntKind.i64 (Int.ofNat i+1))=I (Int.ofNat j)∧ad (I (Int.ofNat j))=true)∧True)∧cU∧bd∧bx [(0,0),(1,1),(2,2),(3,3)] (fS k) (fS k)∧(io es)∧True)∧Nx)) ((((bp L)∧(I (af IntKind.i64 (Int.ofNat i+1))=I (Int.ofNat j)∧ad (I (Int.ofNat j))=true)∧True)∧cU∧bd∧bx [(0,0),(1,1),(2,2),(3,3)] (fS k) (fS k)∧(io es)∧True)∧Nx)):=by kernel_rfl
abbrev p5 (k':Nat):=[I 4325500,I 1,I 0,AV.nilsl,AV.rsl true 3 0 k' 5]
theorem FH (L:List AV) (i j k k':Nat) (es es':List AV) (a b:Int) (Nx:Prop) (Q:AExit→St→Prop):al Tryz.prog opts0 40 (iq a b) (aq Tryz.prog 95 7) (cT L i (k+1) es).st (aO 1 [(0,0),(1,1),(2,2),(3,72)] (cT L j k' es') Nx [(0,0),(1,1)] (bI L i) Q)=
  (an Tryz.prog BinOp.lss 3 (Operand.tmp 31) (Operand.tmp 35) (I (Int.ofNat i)) (I (Int.ofNat (ac L)))=some (AV.bool true)∧aJ Tryz.prog 29 (AV.fsl false L) (I (Int.ofNat i))=some (AV.fptr (cn a b) 0)∧SC 177 (im a b) (fR a b)∧ah (ag a 1) (ah (!am b 0) (ah (!am 4 b) (SC 217 [I b] (AV.agg (er b))∧aE (y8 b k) (aE ((ac es).beq ((k+1)*5)) ((((bp L)∧(I (af IntKind.i64 (Int.ofNat i+1))=I (Int.ofNat j)∧ad (I (Int.ofNat j))=true)∧True)∧cU∧bd∧bx [(0,0),(1,1),(2,2),(3,72)] (p5 k') [I 4325500,I 1,I 0,AV.nilsl,AV.rsl true 72 0 (k+1+ac [AV.agg (er b)]) 5]∧(es++flat [AV.agg (er b)]=es'∧ae es'=true)∧True)∧Nx))) ((((bp L)∧(I (af IntKind.i64 (Int.ofNat i+1))=I (Int.ofNat j)∧ad (I (Int.ofNat j))=true)∧True)∧cU∧bd∧bx [(0,0),(1,1),(2,2),(3,72)] (p5 k') (fS k)∧False∧True)∧Nx)) ((((bp L)∧(I (af IntKind.i64 (Int.ofNat i+1))=I (Int.ofNat j)∧ad (I (Int.ofNat j))=true)∧True)∧cU∧bd∧bx [(0,0),(1,1),(2,2),(3,72)] (p5 k') (fS k)∧False∧True)∧Nx)) ((((bp L)∧(I (af IntKind.i64 (Int.ofNat i+1))=I (Int.ofNat j)∧ad (I (Int.ofNat j))=true)∧True)∧cU∧bd∧bx [(0,0),(1,1),(2,2),(3,72)] (p5 k') (fS k)∧False∧True)∧Nx)):=by kernel_rfl
theorem FI (L:List AV) (i:Nat) (Nx:Prop) (Q:AExit→St→Prop):al Tryz.prog opts0 40 (ar [(6,5,.res (.bool false))] [] aI [] []) (aq Tryz.prog 95 7) (bI L i).st (aO 1 [(0,0)] (bI L i) Nx [(0,0),(1,1),(2,2)] (bI L i) Q)=
  (an Tryz.prog BinOp.lss 3 (Operand.tmp 31) (Operand.tmp 35) (I (Int.ofNat i)) (I (Int.ofNat (ac L)))=some (AV.bool false)∧(((bp L)∧(pX i)∧True)∧cU∧bd∧(c7=c7∧true=true)∧True)∧Q (AExit.exit 0) (bI L i).st):=by kernel_rfl
abbrev nD (k:Nat):=[I 4325500,I 1,I 0,AV.nilsl,AV.rsl true 3 0 k 5]
theorem FJ (L:List AV) (i k:Nat) (es:List AV) (Nx:Prop) (Q:AExit→St→Prop):al Tryz.prog opts0 40 (ar [(6,5,.res (.bool false))] [] aI [] []) (aq Tryz.prog 95 7) (cT L i k es).st (aO 1 [(0,0)] (bI L i) Nx [(0,0),(1,1),(2,2),(3,3)] (cT L i k es) Q)=
  (an Tryz.prog BinOp.lss 3 (Operand.tmp 31) (Operand.tmp 35) (I (Int.ofNat i)) (I (Int.ofNat (ac L)))=some (AV.bool false)∧(((bp L)∧(pX i)∧True)∧cU∧bd∧bx [(0,0),(1,1),(2,2),(3,3)] (nD k) (nD k)∧(io es)∧True)∧Q (AExit.exit 0) (cT L i k es).st):=by kernel_rfl
def kY (L:List AV) (F:View):a7:=fun st Q=>ck 1 [(0,0),(1,3),(2,23)] (bI L 0) st∧Q (.exit 0) F.st
def kZ (l:List (Nat × a7)) (v:AV):aN:=ar [] l (bT [(177,fun _=>some v)]) [195,38] []
theorem FK (t y n r:Int) (D K:List AV) (Q:AV→Nat→Prop):aA Tryz.prog opts0 40 (ar [(2,1,.res (.bool true))] [(7,fun _ _=>False)] (bT [(177,fun _=>some (.tuple [.nilsl,I r]))]) [195,38] []) 95 [.ptr 0 0,.agg (ai t y n D K),eA] [] 1 (fun u _ m=>Q u m)=
  (SC 177 (ip D K n t y) (AV.tuple [AV.nilsl,I r])∧an Tryz.prog BinOp.neq 3 (Operand.tmp 23) (Operand.const (Value.int IntKind.i64 0)) (I r) (I 0)=some (AV.bool true)∧Q (AV.tuple [AV.agg gD,I r,AV.str []]) 38):=by kernel_rfl
@[simp] abbrev y9:=((some 3=some 3∧0=0)∧(some 23=some 23∧0=0)∧True)
theorem FL (t y n:Int) (D K:List AV) (Q:Option AV→Nat→Prop):aA Tryz.prog opts0 40 (kZ [(7,kY [] (bI [] 0))] (bM [])) 95 [.ptr 0 0,.agg (ai t y n D K),eA] [] 1 (fun u H m=>Q (ay 0 H 40 u) m)=
  (SC 177 (ip D K n t y) (AV.tuple [AV.fsl false [AV.fsl false []],I 0])∧((yW∧nC∧True)∧y9∧bd∧(c7=c7∧true=true)∧True)∧Q (some (AV.tuple [AV.agg [I 4325500,I 1,I 0,AV.nilsl,AV.fsl false [AV.agg [I 4325481,I 1,I 0,AV.nilsl,AV.fsl true yX],AV.agg [I 4325481,I 1,I 0,AV.nilsl,AV.fsl true yY],AV.agg [I 4325481,I 1,I 0,AV.nilsl,AV.fsl true yZ],AV.agg [I 4325481,I 1,I 0,AV.nilsl,AV.fsl true y3],AV.agg [I 4325481,I 1,I 0,AV.nilsl,AV.fsl true y4]]],I 0,AV.str []])) 81):=by kernel_rfl
@[simp] abbrev za (L:List AV) (x:AV):=(((y5 L x)∧nC∧True)∧y9∧bd∧(c7=c7∧true=true)∧True)
theorem FM (t y n:Int) (D K L:List AV) (x:AV) (i:Nat) (Q:AV→Nat→Prop):aA Tryz.prog opts0 40 (kZ [(7,kY (x::L) (bI (x::L) i))] (bM (x::L))) 95 [.ptr 0 0,.agg (ai t y n D K),eA] [] 1 (fun u _ m=>Q u m)=
  (SC 177 (ip D K n t y) (pZ L x)∧(za L x)∧Q (AV.tuple [AV.agg c7,I 0,AV.str []]) 13):=by kernel_rfl
theorem FN (t y n:Int) (D K L:List AV) (x:AV) (i k:Nat) (es:List AV) (Q:AV→aa→Nat→Prop):aA Tryz.prog opts0 40 (kZ [(7,kY (x::L) (cT (x::L) i k es))] (bM (x::L))) 95 [.ptr 0 0,.agg (ai t y n D K),eA] [] 1 Q=
  (SC 177 (ip D K n t y) (pZ L x)∧(za L x)∧Q (AV.tuple [AV.agg (nD k),I 0,AV.str []]) [(1,some (Blk.cells (nD k))),(2,some (Blk.cells (nD k))),(3,some (Blk.cells es))] 13):=by kernel_rfl
end
end Go.Proofs.YtjmnheinkchlfaaGreatDoor
namespace Go.Proofs.YtjmnheinkchlfaaGreatDoor
set_option maxRecDepth 20000
open Go Go.RowKit
open Go.Proofs.Abs
theorem p6 {a b c:Bool} {T F:Prop} (h:(a&&(b&&c))=false) (f:F):ah a (ah b (ah c T F) F) F:=aw (fun h1=>aw (fun h2=>aw (fun h3=>by rw[h1,h2,h3] at h;cases h) fun _=>f) fun _=>f) fun _=>f
theorem p7 {a b c:Bool} {T F1 F2 F3:Prop} (h:(a&&(b&&c))=true) (t:T):ah a (ah b (ah c T F1) F2) F3:=aw (fun h1=>aw (fun h2=>aw (fun _=>t) fun h3=>by rw[h1,h2,h3] at h;cases h) fun h2=>by rw[h1,h2] at h;cases h) fun h1=>by rw[h1] at h;cases h
def vI (a b:Int):It:= .mk 4325481 1 0 [] [.mk 4325482 2 a [] [],.mk 4325483 2 b [] []]
def vP (p:Int × Int):It:=vI p.1 p.2
def k7 (p:Int × Int):Bool:=ag p.1 1&&(!am p.2 0&& !am 4 p.2)
def cV (V:List (Int × Int)):List It:=(V.filter k7).map vP
def jy:List (Int × Int)→List It
 |[]=>[4,3,2,1,0].map (vI 1)
 |V=>cV V
def fT (V:List (Int × Int)):AV:= .tuple [ao (.mk 4325500 1 0 [] (jy V)),I 0,.str []]
theorem p9 (a b:Int):aX aD (vI a b):=⟨by simp[aD],by simp[aD],⟨⟨by simp[aD],by simp[aD],trivial⟩,⟨by simp[aD],by simp[aD],trivial⟩,trivial⟩⟩
theorem zb {V:List (Int × Int)}:∀x∈cV V,aX aD x:=fun x hx=>by
 obtain ⟨p,_,rfl⟩:=List.mem_map.1 hx
 exact p9 _ _
theorem qa (V:List (Int × Int)):(cV V).length≤V.length:=by
 unfold cV
 rw[List.length_map]
 exact List.length_filter_le ..
theorem FO (a b:Int):SC 80 [I a,I b] (.agg (cf a b)):=by
 refine dx (A:=aZ) base0 ct (aF (LsOk.no rfl)) rfl ?_
 rw[Fq]
 refine ⟨rfl,.agg ?_⟩
 simp only[cf,pU,pV]
 (repeat (first|exact Wk.refl _|exact WkL.refl _|exact Wk.nil|exact Wk.row|exact WkE.refl _|exact WkL.nil|exact WkE.nil|apply Wk.agg|apply Wk.tuple|apply WkL.cons|apply Wk.rows|apply WkE.consA))
theorem FP (b:Int):SC 217 [I b] (.agg (cf 1 b)):=by
 refine dx (A:=aZ) base0 ct (aF (LsOk.no rfl)) rfl ?_
 rw[Fr]
 refine ⟨rfl,.agg ?_⟩
 simp only[cf,pU,pV]
 (repeat (first|exact Wk.refl _|exact WkL.refl _|exact Wk.nil|exact Wk.row|exact WkE.refl _|exact WkL.nil|exact WkE.nil|apply Wk.agg|apply Wk.tuple|apply WkL.cons|apply Wk.rows|apply WkE.consA))
theorem zc (a b:Int):ae [.agg (cf a b),nA]=true:=rfl
theorem FQ (a b:Int):SC 69 [.agg (cf a b),nA] (fQ a b):=by
 have h1:=pv (x:= .mk 4325482 2 a [] []) ⟨by simp[aD],by simp[aD],trivial⟩
 have h2:=pv (x:= .mk 4325483 2 b [] []) ⟨by simp[aD],by simp[aD],trivial⟩
 refine xf (A:=ar [] [] (bT [(160,fun l=>l.head?)]) [] []) (Q:=fun u h _=>ay 0 h 40 u=some (fQ a b)) base0 au (aF (LsOk.no rfl)) (zc a b) (fun u h _ hq=>⟨fQ a b,⟨40,hq⟩,rfl,.refl _⟩) ?_
 rw[Fs a b (fun o=>o=some (fQ a b))]
 exact ⟨h1,h2,rfl⟩
theorem FR (a b:Int):SC 177 [.agg (cf a b),nA] (fQ a b):=by
 refine xf (A:=aZ) (Q:=fun u h _=>ay 0 h 40 u=some (fQ a b)) base0 ct (aF (LsOk.no rfl)) (zc a b) (fun u h _ hq=>⟨fQ a b,⟨40,hq⟩,rfl,.refl _⟩) ?_
 rw[Ft a b (fun o=>o=some (fQ a b))]
 rfl
section
variable {V:List (Int × Int)} {Q:AExit→St→Prop}
noncomputable def zd (L:List AV) (i:Nat):List It→View
 |[]=>bH L i
 |x::r=>cQ L i (r.length+1) (flat (ab (x::r)))
noncomputable def ze (L:List AV) (i:Nat):List It→View
 |[]=>bI L i
 |x::r=>cT L i (r.length+1) (flat (ab (x::r)))
theorem zf {i:Nat} {p:Int × Int} (g:V[i]? =some p):cV (V.take (i+1))=cV (V.take i)++(match k7 p with|true=>[vP p]|false=>[]):=by
 unfold cV
 rw[List.take_add_one,g,List.filter_append,List.map_append]
 congr 1
 cases h:k7 p with
 |true=>simp[h]
 |false=>simp[h]
theorem FS (hb:V.length≤90000) (hq:Q (.exit 0) (zd (ab (V.map vP)) V.length (cV V)).st):∀m i l,i+m=V.length→l=cV (V.take i)→ALp Tryz.prog opts0.glob 1 (aq Tryz.prog 35 9) (zd (ab (V.map vP)) i l).st Q:=by
 have hK:ae (ab (V.map vP))=true:=bA _
 have hKK:ad (.fsl false [.fsl false (ab (V.map vP))])=true:=by simp only[ad,ae,hK,Bool.and_self]
 have hlen:ac (ab (V.map vP))=V.length:=by rw[ia,List.length_map]
 intro m
 induction m with
 | zero=>
  intro i l hi hl
  rw[Nat.add_zero] at hi
  subst hi
  rw[List.take_length] at hl
  rw[←hl] at hq
  have hf:an Tryz.prog .lss 3 (.tmp 43) (.tmp 42) (I (.ofNat V.length)) (I (.ofNat (ac (ab (V.map vP)))))=some (.bool false):=eI (by rw[hlen];exact Int.le_refl _)
  cases l with
  |nil=>
   refine ALp.round (A:=ar [(8,0,.res (.bool false))] [] aI [] []) (V2:=bH (ab (V.map vP)) V.length) (F:=bH (ab (V.map vP)) V.length) (lk:=[(0,0)]) (lk':=[(0,0),(1,1)]) base0 au (LsOk.no rfl) .refl ?_
   show al Tryz.prog opts0 40 _ _ (bH (ab (V.map vP)) V.length).st _
   rw[Fy]
   exact ⟨hf,⟨⟨⟨rfl,rfl⟩,⟨rfl,hKK⟩,⟨rfl,hK⟩,⟨rfl,rfl⟩,⟨rfl,rfl⟩,trivial⟩,⟨⟨rfl,rfl⟩,trivial⟩,⟨rfl,rfl⟩,trivial⟩,hq⟩
  |cons x r=>
   have hE:=eL (x::r)
   refine ALp.round (A:=ar [(8,0,.res (.bool false))] [] aI [] []) (V2:=bH (ab (V.map vP)) V.length) (F:=cQ (ab (V.map vP)) V.length (r.length+1) (flat (ab (x::r)))) (lk:=[(0,0)]) (lk':=[(0,0),(1,1),(2,2)]) base0 au (LsOk.no rfl) .refl ?_
   show al Tryz.prog opts0 40 _ _ (cQ (ab (V.map vP)) V.length (r.length+1) (flat (ab (x::r)))).st _
   rw[Fz]
   exact ⟨hf,⟨⟨⟨rfl,hKK⟩,⟨rfl,hK⟩,⟨rfl,rfl⟩,⟨rfl,rfl⟩,trivial⟩,⟨⟨rfl,rfl⟩,⟨rfl,rfl,rfl,rfl,rfl⟩,trivial⟩,⟨rfl,rfl⟩,⟨rfl,hE⟩,trivial⟩,hq⟩
 | succ m ih=>
  intro i l hi hl
  have hlt:i<V.length:=by omega
  have g:=List.getElem?_eq_getElem hlt
  have hll:l.length≤V.length:=by rw[hl];exact Nat.le_trans (qa _) (by rw[List.length_take];omega)
  revert g
  generalize V[i]=p
  intro g
  obtain ⟨a,b⟩:=p
  have hn:=ih (i+1) (cV (V.take (i+1))) (by omega) rfl
  rw[zf g,←hl] at hn
  have gk:(V.map vP)[i]? =some (.mk 4325481 1 0 [] [.mk 4325482 2 a [] [],.mk 4325483 2 b [] []]):=by rw[List.getElem?_map,g];rfl
  have hi0:aJ Tryz.prog 29 (.fsl false (ab (V.map vP))) (I (.ofNat i))=some (.fptr (cf a b) 0):=fg (f:=false) gk
  have hw:af .i64 (Int.ofNat i+1)=Int.ofNat (i+1):=eK (by omega)
  have ht:an Tryz.prog .lss 3 (.tmp 43) (.tmp 42) (I (.ofNat i)) (I (.ofNat (ac (ab (V.map vP)))))=some (.bool true):=fh (by rw[hlen];simp only[Int.ofNat_eq_natCast];omega)
  have hv:=FQ a b
  cases hg:k7 (a,b) with
  | false=>
   rw[hg,List.append_nil] at hn
   have hg:(ag a 1&&(!am b 0&& !am 4 b))=false:=hg
   cases l with
   |nil=>
    refine ALp.round (A:=il a b) (V2:=bH (ab (V.map vP)) (i+1)) (F:=bH (ab (V.map vP)) i) (lk:=[(0,0),(1,1)]) (lk':=[(0,0),(1,1)]) base0 au (LsOk.no rfl) .refl ?_
    show al Tryz.prog opts0 40 _ _ (bH (ab (V.map vP)) i).st _
    rw[Fu,hw]
    exact ⟨ht,hi0,hv,p6 hg ⟨⟨⟨⟨rfl,rfl⟩,⟨rfl,hKK⟩,⟨rfl,hK⟩,⟨rfl,rfl⟩,⟨rfl,rfl⟩,trivial⟩,⟨⟨rfl,rfl⟩,trivial⟩,⟨rfl,rfl⟩,trivial⟩,hn⟩⟩
   |cons x r=>
    have hE:=eL (x::r)
    refine ALp.round (A:=il a b) (V2:=cQ (ab (V.map vP)) (i+1) (r.length+1) (flat (ab (x::r)))) (F:=bH (ab (V.map vP)) i) (lk:=[(0,0),(1,1),(2,2)]) (lk':=[(0,0),(1,1)]) base0 au (LsOk.no rfl) .refl ?_
    show al Tryz.prog opts0 40 _ _ (cQ (ab (V.map vP)) i (r.length+1) (flat (ab (x::r)))).st _
    rw[Fw,hw]
    exact ⟨ht,hi0,hv,p6 hg ⟨⟨⟨⟨rfl,hKK⟩,⟨rfl,hK⟩,⟨rfl,rfl⟩,⟨rfl,rfl⟩,trivial⟩,⟨⟨rfl,rfl⟩,⟨rfl,rfl,rfl,rfl,rfl⟩,trivial⟩,⟨rfl,rfl⟩,⟨rfl,hE⟩,trivial⟩,hn⟩⟩
  | true=>
   rw[hg] at hn
   have hg:(ag a 1&&(!am b 0&& !am 4 b))=true:=hg
   have hs:=FO a b
   cases l with
   |nil=>
    have hE:=eL [vP (a,b)]
    refine ALp.round (A:=il a b) (V2:=cQ (ab (V.map vP)) (i+1) 1 (flat (ab [vP (a,b)]))) (F:=bH (ab (V.map vP)) i) (lk:=[(0,0),(1,1),(2,59)]) (lk':=[(0,0),(1,1)]) base0 au (LsOk.no rfl) .refl ?_
    show al Tryz.prog opts0 40 _ _ (bH (ab (V.map vP)) i).st _
    rw[Fv,hw]
    exact ⟨ht,hi0,hv,p7 hg ⟨hs,⟨⟨⟨rfl,hKK⟩,⟨rfl,hK⟩,⟨rfl,rfl⟩,⟨rfl,rfl⟩,trivial⟩,⟨⟨rfl,rfl⟩,⟨rfl,rfl,rfl,rfl,rfl⟩,trivial⟩,⟨rfl,rfl⟩,⟨rfl,hE⟩,trivial⟩,hn⟩⟩
   |cons x r=>
    have hE:=eL (x::r++[vP (a,b)])
    have hfl:flat (ab (x::r))++flat [.agg (cf a b)]=flat (ab (x::r++[vP (a,b)])):=by rw[kw,gi];rfl
    have hl5:=kx (x::r)
    have h3:Nat.ble ((r.length+1+ac [AV.agg (cf a b)])*72) 140737488355328=true:=Nat.ble_eq_true_of_le (by rw[show ac [AV.agg (cf a b)]=1 from rfl];simp only[List.length_cons] at hll;omega)
    have hk:(r++[vP (a,b)]).length+1=r.length+1+ac [AV.agg (cf a b)]:=by rw[List.length_append];rfl
    refine ALp.round (A:=il a b) (V2:=cQ (ab (V.map vP)) (i+1) ((r++[vP (a,b)]).length+1) (flat (ab (x::r++[vP (a,b)])))) (F:=bH (ab (V.map vP)) i) (lk:=[(0,0),(1,1),(2,59)]) (lk':=[(0,0),(1,1)]) base0 au (LsOk.no rfl) .refl ?_
    show al Tryz.prog opts0 40 _ _ (cQ (ab (V.map vP)) i (r.length+1) (flat (ab (x::r)))).st _
    rw[Fx,hw]
    exact ⟨ht,hi0,hv,p7 hg ⟨hs,bD (ig rfl h3 rfl) (bD (by rw[beq_iff,ap,hl5];rfl) ⟨⟨⟨⟨rfl,hKK⟩,⟨rfl,hK⟩,⟨rfl,rfl⟩,⟨rfl,rfl⟩,trivial⟩,⟨⟨rfl,rfl⟩,⟨rfl,rfl,rfl,hk,rfl⟩,trivial⟩,⟨rfl,rfl⟩,⟨hfl,hE⟩,trivial⟩,hn⟩)⟩⟩
theorem qb:bw (cN Tryz.prog 35) 9=[aq Tryz.prog 35 9]:=by kernel_rfl
def jz (f:Bool):AV:= .tuple [.agg [I 4325500,I 1,I 0,.nilsl,.fsl false ([4,3,2,1,0].map fun b=> .agg [I 4325481,I 1,I 0,.nilsl,.fsl f [ep 4325482 2 1,ep 4325483 2 b]])],I 0,.str []]
theorem zg (f:Bool):Wk (jz f) (fT []):=by
 simp only[jz,fT,jy,List.map_cons,List.map_nil,vI,ao,ab,aj,ep]
 (repeat (first|exact Wk.refl _|exact WkL.refl _|exact Wk.nil|exact Wk.row|exact WkE.refl _|exact WkL.nil|exact WkE.nil|apply Wk.agg|apply Wk.tuple|apply WkL.cons|apply Wk.rows|apply WkE.consA))
theorem zh {K:List AV} {k:AV} (h:Wk k (.fsl false K)):Wk (.tuple [.agg [I 4325500,I 1,I 0,.nilsl,k],I 0,.str []]) (.tuple [.agg [I 4325500,I 1,I 0,.fsl false [],.fsl false K],I 0,.str []]):= .tuple (.cons (.agg (.cons (.refl _) (.cons (.refl _) (.cons (.refl _) (.cons .nil (.cons h .nil)))))) (.refl _))
theorem FT {x:It} (h:aX aD x) (hx:dd x=V.map vP) (hp:dR 4325481 1 x=0) (hb:V.length≤90000):BodySem Tryz.prog opts0.glob 35 [.ptr 0 0,ao x,eA] [] 1 (fT V) [] 1000:=by
 have hpar:=px (tag:=4325481) (ty:=1) h (by rw[hx,List.length_map];exact hb)
 have hK:=bA (V.map vP)
 have hKK:ad (.fsl false [.fsl false (ab (V.map vP))])=true:=by simp only[ad,ae,hK,Bool.and_self]
 have hlp:= @FS V
 unfold eM at hpar
 rw[hp,hx] at hpar
 replace hpar:SC 69 [ao x,.fsl true [bQ 4325481 1]] (bM (ab (V.map vP))):=hpar
 obtain ⟨t,y,n,d,ks⟩:=x
 rw[br] at hpar⊢
 have hc:ad (fT V)=true:=by
  have:=cC (.mk 4325500 1 0 [] (jy V))
  simp only[fT,ad,ae,this,Bool.and_self]
 cases V with
 | nil=>
  refine dM (k:=0) (Q:=fun u _ m=>EndC (jz false) 1000 u [] m) (A:=ar [] [(9,kW [] (bH [] 0))] (bT [(69,fun _=>some (bM []))]) [70,68] []) base0 au
   (aF (LsOk.at1 rfl qb fun st Q hs=> .seen base0.glob hs.1 (hlp hb hs.2 0 0 [] rfl rfl))) (fun u h m hq=>EndC.b (r:=jz false) (by kernel_rfl) (zg false) u h m hq) ?_
  rw[FB]
  exact ⟨hpar,⟨⟨⟨rfl,rfl⟩,⟨rfl,rfl⟩,⟨rfl,rfl⟩,⟨rfl,rfl⟩,⟨rfl,rfl⟩,trivial⟩,⟨⟨rfl,rfl⟩,trivial⟩,⟨rfl,rfl⟩,trivial⟩,rfl,rfl⟩
 | cons p V=>
  have hspk:fT (p::V)= .tuple [.agg (ai 4325500 1 0 [] (ab (cV (p::V)))),I 0,.str []]:=rfl
  have hvl:=qa (p::V)
  have hans:=EH (ks:=cV (p::V)) (Nat.le_trans hvl hb) zb
  rw[br] at hans
  rw[hspk] at hc⊢
  simp only[List.map_cons,ab] at hK hKK hpar hlp
  revert hlp hans hc hvl
  generalize cV (p::V)=l
  intro hc hvl hans hlp
  cases l with
  | nil=>
   refine dM (k:=0) (Q:=fun u _ m=>EndC (.tuple [.agg (ai 4325500 1 0 [] []),I 0,.str []]) 1000 u [] m) (A:=pY [(9,kW (ao (vP p)::ab (V.map vP)) (bH (ao (vP p)::ab (V.map vP)) (p::V).length))] (bM (ao (vP p)::ab (V.map vP))) (.agg (ai 4325500 1 0 [] []))) base0 au
    (aF (LsOk.at1 rfl qb fun st Q hs=> .seen base0.glob hs.1 (hlp hb hs.2 (p::V).length 0 [] (Nat.zero_add _) rfl))) (fun u h m hq=>EndC.b hc (.refl _) u h m hq) ?_
   rw[FC]
   exact ⟨hpar,⟨⟨⟨rfl,rfl⟩,⟨rfl,hKK⟩,⟨rfl,hK⟩,⟨rfl,rfl⟩,⟨rfl,rfl⟩,trivial⟩,⟨⟨rfl,rfl⟩,trivial⟩,⟨rfl,rfl⟩,trivial⟩,hans.wkA (.cons Wk.nil .nil),rfl,rfl⟩
  | cons x r=>
   refine dM (k:=0) (Q:=fun u _ m=>EndC (.tuple [.agg (ai 4325500 1 0 [] (ab (x::r))),I 0,.str []]) 1000 u [] m) (A:=gq (pY [(9,kW (ao (vP p)::ab (V.map vP)) (cQ (ao (vP p)::ab (V.map vP)) (p::V).length (r.length+1) (flat (ab (x::r)))))] (bM (ao (vP p)::ab (V.map vP))) (.agg (ai 4325500 1 0 [] (ab (x::r))))) 21 2 (yV (ab (x::r)))) base0 (fc au)
    (aF (LsOk.at1 rfl qb fun st Q hs=> .seen base0.glob hs.1 (hlp hb hs.2 (p::V).length 0 [] (Nat.zero_add _) rfl))) (fun u h m hq=>EndC.b hc (.refl _) u h m hq) ?_
   rw[FD]
   exact ⟨hpar,⟨⟨⟨rfl,rfl⟩,⟨rfl,hKK⟩,⟨rfl,hK⟩,⟨rfl,rfl⟩,⟨rfl,rfl⟩,trivial⟩,⟨⟨rfl,rfl⟩,trivial⟩,⟨rfl,rfl⟩,trivial⟩,⟨⟨.row (es:=ab (x::r)) rfl rfl rfl (dc (x::r)).symm g8 (bA _),⟨1,rfl⟩,trivial⟩,.closed _ rfl,trivial⟩,hans,rfl,rfl⟩
theorem FU {x:It} {r:Int} (h:aX aD x) (hl:(dd x).length≤90000) (hp:dR 4325481 1 x=r) (hr:r≠0):BodySem Tryz.prog opts0.glob 35 [.ptr 0 0,ao x,eA] [] 1 (df zI r) [] 1000:=by
 have hpar:=px (tag:=4325481) (ty:=1) h hl
 unfold eM at hpar
 rw[hp,beqInt_false.2 hr] at hpar
 replace hpar:SC 69 [ao x,.fsl true [bQ 4325481 1]] (.tuple [.nilsl,I r]):=hpar
 obtain ⟨t,y,n,d,ks⟩:=x
 rw[br] at hpar⊢
 refine dM (k:=0) (Q:=fun u _ m=>EndC (fP r) 1000 u [] m) (A:=ar [(4,1,.res (.bool true))] [(9,fun _ _=>False)] (bT [(69,fun _=>some (.tuple [.nilsl,I r]))]) [70,68] []) base0 au
  (aF (LsOk.at1 rfl qb fun st Q hs=>hs.elim)) (fun u h m hq=>EndC.b (r:=fP r) rfl (kS r) u h m hq) ?_
 rw[FA]
 refine ⟨hpar, ?_,rfl,rfl⟩
 rw[np,beqInt_false.2 hr]
 rfl
end
theorem qc {lk:List (Nat × Nat)} {a b:AV} (h:RenV lk a b):bx lk (kX a) (kX b):=⟨by simp only[kX,RenL];exact ⟨.same _ rfl,.same _ rfl,.same _ rfl,.same _ rfl,h,trivial⟩⟩
section
variable {V:List (Int × Int)} {Q:AExit→St→Prop}
theorem FV (hb:V.length≤90000) (hq:Q (.exit 0) (ze (ab (V.map vP)) V.length (cV V)).st):∀m i l,i+m=V.length→l=cV (V.take i)→ALp Tryz.prog opts0.glob 1 (aq Tryz.prog 95 7) (ze (ab (V.map vP)) i l).st Q:=by
 have hK:ae (ab (V.map vP))=true:=bA _
 have hKK:ad (.fsl false [.fsl false (ab (V.map vP))])=true:=by simp only[ad,ae,hK,Bool.and_self]
 have hlen:ac (ab (V.map vP))=V.length:=by rw[ia,List.length_map]
 intro m
 induction m with
 | zero=>
  intro i l hi hl
  rw[Nat.add_zero] at hi
  subst hi
  rw[List.take_length] at hl
  rw[←hl] at hq
  have hf:an Tryz.prog .lss 3 (.tmp 31) (.tmp 35) (I (.ofNat V.length)) (I (.ofNat (ac (ab (V.map vP)))))=some (.bool false):=eI (by rw[hlen];exact Int.le_refl _)
  cases l with
  |nil=>
   refine ALp.round (A:=ar [(6,5,.res (.bool false))] [] aI [] []) (V2:=bI (ab (V.map vP)) V.length) (F:=bI (ab (V.map vP)) V.length) (lk:=[(0,0)]) (lk':=[(0,0),(1,1),(2,2)]) base0 au (LsOk.no rfl) .refl ?_
   show al Tryz.prog opts0 40 _ _ (bI (ab (V.map vP)) V.length).st _
   rw[FI]
   exact ⟨hf,⟨⟨⟨rfl,hKK⟩,⟨rfl,rfl⟩,trivial⟩,⟨⟨rfl,rfl⟩,⟨rfl,rfl⟩,trivial⟩,⟨rfl,rfl⟩,⟨rfl,rfl⟩,trivial⟩,hq⟩
  |cons x r=>
   have hE:=eL (x::r)
   refine ALp.round (A:=ar [(6,5,.res (.bool false))] [] aI [] []) (V2:=bI (ab (V.map vP)) V.length) (F:=cT (ab (V.map vP)) V.length (r.length+1) (flat (ab (x::r)))) (lk:=[(0,0)]) (lk':=[(0,0),(1,1),(2,2),(3,3)]) base0 au (LsOk.no rfl) .refl ?_
   show al Tryz.prog opts0 40 _ _ (cT (ab (V.map vP)) V.length (r.length+1) (flat (ab (x::r)))).st _
   rw[FJ]
   exact ⟨hf,⟨⟨⟨rfl,hKK⟩,⟨rfl,rfl⟩,trivial⟩,⟨⟨rfl,rfl⟩,⟨rfl,rfl⟩,trivial⟩,⟨rfl,rfl⟩,qc (.rsl _ _ _ _ _ _ rfl),⟨rfl,hE⟩,trivial⟩,hq⟩
 | succ m ih=>
  intro i l hi hl
  have hlt:i<V.length:=by omega
  have g:=List.getElem?_eq_getElem hlt
  have hll:l.length≤V.length:=by rw[hl];exact Nat.le_trans (qa _) (by rw[List.length_take];omega)
  revert g
  generalize V[i]=p
  intro g
  obtain ⟨a,b⟩:=p
  have hn:=ih (i+1) (cV (V.take (i+1))) (by omega) rfl
  rw[zf g,←hl] at hn
  have gk:(V.map vP)[i]? =some (.mk 4325481 1 0 [] [.mk 4325482 2 a [] [],.mk 4325483 2 b [] []]):=by rw[List.getElem?_map,g];rfl
  have hi0:aJ Tryz.prog 29 (.fsl false (ab (V.map vP))) (I (.ofNat i))=some (.fptr (cf a b) 0):=fg (f:=false) gk
  have hw:af .i64 (Int.ofNat i+1)=Int.ofNat (i+1):=eK (by omega)
  have ht:an Tryz.prog .lss 3 (.tmp 31) (.tmp 35) (I (.ofNat i)) (I (.ofNat (ac (ab (V.map vP)))))=some (.bool true):=fh (by rw[hlen];simp only[Int.ofNat_eq_natCast];omega)
  have hv:=FR a b
  cases hg:k7 (a,b) with
  | false=>
   rw[hg,List.append_nil] at hn
   have hg:(ag a 1&&(!am b 0&& !am 4 b))=false:=hg
   cases l with
   |nil=>
    refine ALp.round (A:=iq a b) (V2:=bI (ab (V.map vP)) (i+1)) (F:=bI (ab (V.map vP)) i) (lk:=[(0,0),(1,1),(2,2)]) (lk':=[(0,0),(1,1)]) base0 au (LsOk.no rfl) .refl ?_
    show al Tryz.prog opts0 40 _ _ (bI (ab (V.map vP)) i).st _
    rw[FE,hw]
    exact ⟨ht,hi0,hv,p6 hg ⟨⟨⟨⟨rfl,hKK⟩,⟨rfl,rfl⟩,trivial⟩,⟨⟨rfl,rfl⟩,⟨rfl,rfl⟩,trivial⟩,⟨rfl,rfl⟩,⟨rfl,rfl⟩,trivial⟩,hn⟩⟩
   |cons x r=>
    have hE:=eL (x::r)
    refine ALp.round (A:=iq a b) (V2:=cT (ab (V.map vP)) (i+1) (r.length+1) (flat (ab (x::r)))) (F:=bI (ab (V.map vP)) i) (lk:=[(0,0),(1,1),(2,2),(3,3)]) (lk':=[(0,0),(1,1)]) base0 au (LsOk.no rfl) .refl ?_
    show al Tryz.prog opts0 40 _ _ (cT (ab (V.map vP)) i (r.length+1) (flat (ab (x::r)))).st _
    rw[FG,hw]
    exact ⟨ht,hi0,hv,p6 hg ⟨⟨⟨⟨rfl,hKK⟩,⟨rfl,rfl⟩,trivial⟩,⟨⟨rfl,rfl⟩,⟨rfl,rfl⟩,trivial⟩,⟨rfl,rfl⟩,qc (.rsl _ _ _ _ _ _ rfl),⟨rfl,hE⟩,trivial⟩,hn⟩⟩
  | true=>
   rw[hg] at hn
   have hg:(ag a 1&&(!am b 0&& !am 4 b))=true:=hg
   have hs:=FP b
   have ha:a=1:=by
    cases h:ag a 1 with
    |true=>exact beqInt_iff.1 h
    |false=>rw[h] at hg;cases hg
   subst ha
   cases l with
   |nil=>
    have hE:=eL [vP (1,b)]
    refine ALp.round (A:=iq 1 b) (V2:=cT (ab (V.map vP)) (i+1) 1 (flat (ab [vP (1,b)]))) (F:=bI (ab (V.map vP)) i) (lk:=[(0,0),(1,1),(2,2),(3,72)]) (lk':=[(0,0),(1,1)]) base0 au (LsOk.no rfl) .refl ?_
    show al Tryz.prog opts0 40 _ _ (bI (ab (V.map vP)) i).st _
    rw[FF,hw]
    exact ⟨ht,hi0,hv,p7 hg ⟨hs,⟨⟨⟨rfl,hKK⟩,⟨rfl,rfl⟩,trivial⟩,⟨⟨rfl,rfl⟩,⟨rfl,rfl⟩,trivial⟩,⟨rfl,rfl⟩,qc (.rsl _ _ _ _ _ _ rfl),⟨rfl,hE⟩,trivial⟩,hn⟩⟩
   |cons x r=>
    have hE:=eL (x::r++[vP (1,b)])
    have hfl:flat (ab (x::r))++flat [.agg (cf 1 b)]=flat (ab (x::r++[vP (1,b)])):=by rw[kw,gi];rfl
    have hl5:=kx (x::r)
    have h3:Nat.ble ((r.length+1+ac [AV.agg (cf 1 b)])*72) 140737488355328=true:=Nat.ble_eq_true_of_le (by rw[show ac [AV.agg (cf 1 b)]=1 from rfl];simp only[List.length_cons] at hll;omega)
    have hk:(r++[vP (1,b)]).length+1=r.length+1+ac [AV.agg (cf 1 b)]:=by rw[List.length_append];rfl
    refine ALp.round (A:=iq 1 b) (V2:=cT (ab (V.map vP)) (i+1) ((r++[vP (1,b)]).length+1) (flat (ab (x::r++[vP (1,b)])))) (F:=bI (ab (V.map vP)) i) (lk:=[(0,0),(1,1),(2,2),(3,72)]) (lk':=[(0,0),(1,1)]) base0 au (LsOk.no rfl) .refl ?_
    show al Tryz.prog opts0 40 _ _ (cT (ab (V.map vP)) i (r.length+1) (flat (ab (x::r)))).st _
    rw[FH,hw]
    exact ⟨ht,hi0,hv,p7 hg ⟨hs,bD (ig rfl h3 rfl) (bD (by rw[beq_iff,ap,hl5];rfl) ⟨⟨⟨⟨rfl,hKK⟩,⟨rfl,rfl⟩,trivial⟩,⟨⟨rfl,rfl⟩,⟨rfl,rfl⟩,trivial⟩,⟨rfl,rfl⟩,qc (by rw[hk];exact .rsl _ _ _ _ _ _ rfl),⟨hfl,hE⟩,trivial⟩,hn⟩)⟩⟩
theorem qd:bw (cN Tryz.prog 95) 7=[aq Tryz.prog 95 7]:=by kernel_rfl
theorem FW {x:It} (hx:dd x=V.map vP) (hp:dR 4325481 1 x=0) (hb:V.length≤90000):BodySem Tryz.prog opts0.glob 95 [.ptr 0 0,ao x,eA] [] 1 (fT V) [] 1000:=by
 have hpar:=pI (tag:=4325481) (ty:=1) (x:=x) (by rw[hx,List.length_map];exact hb)
 have hK:=bA (V.map vP)
 have hKK:ad (.fsl false [.fsl false (ab (V.map vP))])=true:=by simp only[ad,ae,hK,Bool.and_self]
 have hlp:= @FV V
 unfold eM at hpar
 rw[hp,hx] at hpar
 replace hpar:SC 177 [ao x,.fsl true [bQ 4325481 1]] (bM (ab (V.map vP))):=hpar
 obtain ⟨t,y,n,d,ks⟩:=x
 rw[br] at hpar⊢
 have hc:ad (fT V)=true:=by
  have:=cC (.mk 4325500 1 0 [] (jy V))
  simp only[fT,ad,ae,this,Bool.and_self]
 cases V with
 | nil=>
  refine dM (k:=0) (Q:=fun u H m=>ay 0 H 40 u=some (jz true)∧Nat.ble m 1000=true) (A:=kZ [(7,kY [] (bI [] 0))] (bM [])) base0 au
   (aF (LsOk.at1 rfl qd fun st Q hs=> .seen base0.glob hs.1 (hlp hb hs.2 0 0 [] rfl rfl))) (fun u h m hq=>EndF.b (r:=jz true) (zg true) u h m ⟨hq.2,hq.1⟩) ?_
  rw[FL t y n (aj d) (ab ks) (fun o m=>o=some (jz true)∧Nat.ble m 1000=true)]
  exact ⟨hpar,⟨⟨⟨rfl,rfl⟩,⟨rfl,rfl⟩,trivial⟩,⟨⟨rfl,rfl⟩,⟨rfl,rfl⟩,trivial⟩,⟨rfl,rfl⟩,⟨rfl,rfl⟩,trivial⟩,rfl,rfl⟩
 | cons p V=>
  have hspk:fT (p::V)= .tuple [.agg (ai 4325500 1 0 [] (ab (cV (p::V)))),I 0,.str []]:=rfl
  rw[hspk] at hc⊢
  simp only[List.map_cons,ab] at hK hKK hpar hlp
  revert hlp hc
  generalize cV (p::V)=l
  intro hc hlp
  cases l with
  | nil=>
   refine dM (k:=0) (Q:=fun u _ m=>EndC (.tuple [.agg (kX .nilsl),I 0,.str []]) 1000 u [] m) (A:=kZ [(7,kY (ao (vP p)::ab (V.map vP)) (bI (ao (vP p)::ab (V.map vP)) (p::V).length))] (bM (ao (vP p)::ab (V.map vP)))) base0 au
    (aF (LsOk.at1 rfl qd fun st Q hs=> .seen base0.glob hs.1 (hlp hb hs.2 (p::V).length 0 [] (Nat.zero_add _) rfl))) (fun u h m hq=>EndC.b rfl (zh Wk.nil) u h m hq) ?_
   rw[FM]
   exact ⟨hpar,⟨⟨⟨rfl,hKK⟩,⟨rfl,rfl⟩,trivial⟩,⟨⟨rfl,rfl⟩,⟨rfl,rfl⟩,trivial⟩,⟨rfl,rfl⟩,⟨rfl,rfl⟩,trivial⟩,rfl,rfl⟩
  | cons x r=>
   refine CN (k:=0) (A:=kZ [(7,kY (ao (vP p)::ab (V.map vP)) (cT (ao (vP p)::ab (V.map vP)) (p::V).length (r.length+1) (flat (ab (x::r)))))] (bM (ao (vP p)::ab (V.map vP)))) base0 au
    (aF (LsOk.at1 rfl qd fun st Q hs=> .seen base0.glob hs.1 (hlp hb hs.2 (p::V).length 0 [] (Nat.zero_add _) rfl))) ?_
   rw[FN]
   exact ⟨hpar,⟨⟨⟨rfl,hKK⟩,⟨rfl,rfl⟩,trivial⟩,⟨⟨rfl,rfl⟩,⟨rfl,rfl⟩,trivial⟩,⟨rfl,rfl⟩,⟨rfl,rfl⟩,trivial⟩,rfl,⟨_,.tuple (.cons (.agg (.cons (.closed _ rfl) (.cons (.closed _ rfl) (.cons (.closed _ rfl) (.cons (.closed _ rfl) (.cons (Frz.row (es:=ab (x::r)) rfl rfl rfl (dc (x::r)).symm g8 (bA _)) .nil)))))) (.cons (.closed _ rfl) (.cons (.closed _ rfl) .nil))),zh (.refl _)⟩,trivial⟩
theorem FX {x:It} {r:Int} (hl:(dd x).length≤90000) (hp:dR 4325481 1 x=r) (hr:r≠0):BodySem Tryz.prog opts0.glob 95 [.ptr 0 0,ao x,eA] [] 1 (df zI r) [] 1000:=by
 have hpar:=pI (tag:=4325481) (ty:=1) (x:=x) hl
 unfold eM at hpar
 rw[hp,beqInt_false.2 hr] at hpar
 replace hpar:SC 177 [ao x,.fsl true [bQ 4325481 1]] (.tuple [.nilsl,I r]):=hpar
 obtain ⟨t,y,n,d,ks⟩:=x
 rw[br] at hpar⊢
 refine dM (k:=0) (Q:=fun u _ m=>EndC (fP r) 1000 u [] m) (A:=ar [(2,1,.res (.bool true))] [(7,fun _ _=>False)] (bT [(177,fun _=>some (.tuple [.nilsl,I r]))]) [195,38] []) base0 au
  (aF (LsOk.at1 rfl qd fun st Q hs=>hs.elim)) (fun u h m hq=>EndC.b (r:=fP r) rfl (kS r) u h m hq) ?_
 rw[FK]
 refine ⟨hpar, ?_,rfl,rfl⟩
 rw[np,beqInt_false.2 hr]
 rfl
end
end Go.Proofs.YtjmnheinkchlfaaGreatDoor
namespace Go.Proofs.YtjmnheinkchlfaaGreatDoor
open Go Go.RowKit
open Go.Proofs.Abs
noncomputable section
def qe:List AV:=[.nilsl,I 5,.int .u64 1,.nilsl,I 0]
def li (b:Nat):aa:=[(b,some (.cells qe))]
def ir (r:AV):List AV:=[I 4325497,I 1,I 0,.nilsl,r]
def zi (Rs Os:List AV) (w:Bool) (op:Int) (i:Nat):List (Nat × AV):=[(0,.fsl false Rs),(1,.fsl false Os),(2,.bool w),(10,I op),(11,I (.ofNat i))]
def bt (Rs Os:List AV) (w:Bool) (op:Int) (i:Nat):View:=⟨zi Rs Os w op i,[(7,.ptr 1 0),(8,.ptr 0 0),(9,.ptr 2 0)],[(0,.cells qe,.whole),(2,.cells (ir .nilsl),.whole)],5,122⟩
def bB (Rs Os:List AV) (w:Bool) (op:Int) (i k:Nat) (es:List AV):View:=⟨zi Rs Os w op i,[(7,.ptr 1 0),(8,.ptr 0 0),(9,.ptr 2 0)],[(0,.cells qe,.whole),(2,.cells (ir (.rsl true 3 0 k 5)),.rel),(3,.cells es,.whole)],5,122⟩
def FY (p q:Int):List AV→Option AV
 |[_,.int .i64 (.ofNat n)]=>match Nat.beq n 8 with
  |true=>some (I q)
  |false=>some (I p)
 |_=>none
def qf (y:Rw) (p:Int):aN:=ar [(9,3,.res (.bool true)),(9,6,.res (.bool true)),(13,4,.res (.fptr (jo y) 0))] [] (bT [(9,fun _=>some (I p))]) [8] []
abbrev aQ:=[AV.nilsl,I 5,AV.int IntKind.u64 1,AV.nilsl,I 0]
@[simp] abbrev lj:=((some 1=some 1∧0=0)∧(some 0=some 0∧0=0)∧(some 2=some 2∧0=0)∧True)
@[simp] abbrev jA (Rs:List AV):=(AV.fsl false Rs=AV.fsl false Rs∧ad (AV.fsl false Rs)=true)
@[simp] abbrev jB (Os:List AV):=(AV.fsl false Os=AV.fsl false Os∧ad (AV.fsl false Os)=true)
abbrev ll (y:Rw):=(AV.fptr [I y.1,I y.2,I y.3,I y.4] 0)
@[simp] abbrev nE (op:Int):=(I op=I op∧ad (I op)=true)
@[simp] abbrev t5:=(AV.bool false=AV.bool false∧true=true)
theorem FZ (Rs Os:List AV) (op:Int) (i j:Nat) (es:List AV) (y:Rw) (p:Int) (Nx:Prop) (Q:AExit→St→Prop):al Tryz.prog opts0 40 (qf y p) (aq Tryz.prog 3 10) (bt Rs Os false op i).st (aO 0 [(0,0),(1,1),(2,2),(3,26)] (bB Rs Os false op j 1 es) Nx [] (bt Rs Os false op i) Q)=
  (an Tryz.prog BinOp.lss 3 (Operand.tmp 34) (Operand.tmp 36) (I (Int.ofNat i)) (I (Int.ofNat (ac Rs)))=some (AV.bool true)∧an Tryz.prog BinOp.lss 3 (Operand.tmp 39) (Operand.const (Value.int IntKind.i64 6)) (I (Int.ofNat i)) (I 6)=some (AV.bool true)∧aJ Tryz.prog 22 (AV.fsl false Rs) (I (Int.ofNat i))=some (ll y)∧SC 9 [I y.2,I 13] (I p)∧(((jA Rs)∧(jB Os)∧t5∧(nE op)∧(I (af IntKind.i64 (Int.ofNat i+1))=I (Int.ofNat j)∧ad (I (Int.ofNat j))=true)∧True)∧lj∧(aQ=aQ∧true=true)∧bx [(0,0),(1,1),(2,2),(3,26)] [I 4325497,I 1,I 0,AV.nilsl,AV.rsl true 3 0 1 5] [I 4325497,I 1,I 0,AV.nilsl,AV.rsl true 26 0 (ac [AV.agg [I 4325492,I 5,I (af IntKind.i64 (1+af IntKind.i64 (p.tdiv 4))),AV.nilsl,AV.nilsl]]) 5]∧(flat [AV.agg [I 4325492,I 5,I (af IntKind.i64 (1+af IntKind.i64 (p.tdiv 4))),AV.nilsl,AV.nilsl]]=es∧ae es=true)∧True)∧Nx):=by kernel_rfl
theorem F4 (Rs Os:List AV) (op:Int) (i j k k':Nat) (es es':List AV) (y:Rw) (p:Int) (Nx:Prop) (Q:AExit→St→Prop):al Tryz.prog opts0 40 (qf y p) (aq Tryz.prog 3 10) (bB Rs Os false op i (k+1) es).st (aO 0 [(0,0),(1,1),(2,2),(3,26)] (bB Rs Os false op j k' es') Nx [] (bt Rs Os false op i) Q)=
  (an Tryz.prog BinOp.lss 3 (Operand.tmp 34) (Operand.tmp 36) (I (Int.ofNat i)) (I (Int.ofNat (ac Rs)))=some (AV.bool true)∧an Tryz.prog BinOp.lss 3 (Operand.tmp 39) (Operand.const (Value.int IntKind.i64 6)) (I (Int.ofNat i)) (I 6)=some (AV.bool true)∧aJ Tryz.prog 22 (AV.fsl false Rs) (I (Int.ofNat i))=some (ll y)∧SC 9 [I y.2,I 13] (I p)∧aE (bi 5 [AV.agg [I 4325492,I 5,I (af IntKind.i64 (1+af IntKind.i64 (p.tdiv 4))),AV.nilsl,AV.nilsl]]&&(((k+1+ac [AV.agg [I 4325492,I 5,I (af IntKind.i64 (1+af IntKind.i64 (p.tdiv 4))),AV.nilsl,AV.nilsl]])*72).ble 140737488355328&&(be (flat [AV.agg [I 4325492,I 5,I (af IntKind.i64 (1+af IntKind.i64 (p.tdiv 4))),AV.nilsl,AV.nilsl]])&&true))) (aE ((ac es).beq ((k+1)*5)) ((((jA Rs)∧(jB Os)∧t5∧(nE op)∧(I (af IntKind.i64 (Int.ofNat i+1))=I (Int.ofNat j)∧ad (I (Int.ofNat j))=true)∧True)∧lj∧(aQ=aQ∧true=true)∧bx [(0,0),(1,1),(2,2),(3,26)] [I 4325497,I 1,I 0,AV.nilsl,AV.rsl true 3 0 k' 5] [I 4325497,I 1,I 0,AV.nilsl,AV.rsl true 26 0 (k+1+ac [AV.agg [I 4325492,I 5,I (af IntKind.i64 (1+af IntKind.i64 (p.tdiv 4))),AV.nilsl,AV.nilsl]]) 5]∧(es++flat [AV.agg [I 4325492,I 5,I (af IntKind.i64 (1+af IntKind.i64 (p.tdiv 4))),AV.nilsl,AV.nilsl]]=es'∧ae es'=true)∧True)∧Nx))):=by kernel_rfl
def qg (y:Rw) (p q:Int):aN:=ar [(9,3,.res (.bool true)),(9,6,.res (.bool true)),(12,4,.res (.fptr (jo y) 0)),(12,11,.res (.fptr (jo y) 0))] [] (bT [(9,FY p q)]) [8,7] []
abbrev jC (p:Int):=[I 4325482,I 2,I p,AV.nilsl,AV.nilsl]
@[simp] abbrev t6:=(AV.bool true=AV.bool true∧true=true)
theorem F5 (Rs Os:List AV) (op:Int) (i j:Nat) (es:List AV) (y:Rw) (p q:Int) (Nx:Prop) (Q:AExit→St→Prop):al Tryz.prog opts0 40 (qg y p q) (aq Tryz.prog 3 10) (bt Rs Os true op i).st (aO 0 [(0,0),(1,1),(2,2),(3,34)] (bB Rs Os true op j 1 es) Nx [] (bt Rs Os true op i) Q)=
  (an Tryz.prog BinOp.lss 3 (Operand.tmp 34) (Operand.tmp 36) (I (Int.ofNat i)) (I (Int.ofNat (ac Rs)))=some (AV.bool true)∧an Tryz.prog BinOp.lss 3 (Operand.tmp 39) (Operand.const (Value.int IntKind.i64 6)) (I (Int.ofNat i)) (I 6)=some (AV.bool true)∧aJ Tryz.prog 22 (AV.fsl false Rs) (I (Int.ofNat i))=some (ll y)∧SC 9 [I y.2,I 3] (I p)∧aJ Tryz.prog 22 (AV.fsl false Rs) (I (Int.ofNat i))=some (ll y)∧SC 9 [I y.3,I 8] (I q)∧(((jA Rs)∧(jB Os)∧t6∧(nE op)∧(I (af IntKind.i64 (Int.ofNat i+1))=I (Int.ofNat j)∧ad (I (Int.ofNat j))=true)∧True)∧lj∧(aQ=aQ∧true=true)∧bx [(0,0),(1,1),(2,2),(3,34)] [I 4325497,I 1,I 0,AV.nilsl,AV.rsl true 3 0 1 5] [I 4325497,I 1,I 0,AV.nilsl,AV.rsl true 34 0 (ac [AV.agg [I 4325481,I 1,I 0,AV.nilsl,AV.fsl true [AV.agg (jC p),AV.agg [I 4325483,I 2,I (af IntKind.i64 (q-1)),AV.nilsl,AV.nilsl]]]]) 5]∧(flat [AV.agg [I 4325481,I 1,I 0,AV.nilsl,AV.fsl true [AV.agg (jC p),AV.agg [I 4325483,I 2,I (af IntKind.i64 (q-1)),AV.nilsl,AV.nilsl]]]]=es∧ae es=true)∧True)∧Nx):=by kernel_rfl
theorem F6 (Rs Os:List AV) (op:Int) (i j k k':Nat) (es es':List AV) (y:Rw) (p q:Int) (Nx:Prop) (Q:AExit→St→Prop):al Tryz.prog opts0 40 (qg y p q) (aq Tryz.prog 3 10) (bB Rs Os true op i (k+1) es).st (aO 0 [(0,0),(1,1),(2,2),(3,34)] (bB Rs Os true op j k' es') Nx [] (bt Rs Os true op i) Q)=
  (an Tryz.prog BinOp.lss 3 (Operand.tmp 34) (Operand.tmp 36) (I (Int.ofNat i)) (I (Int.ofNat (ac Rs)))=some (AV.bool true)∧an Tryz.prog BinOp.lss 3 (Operand.tmp 39) (Operand.const (Value.int IntKind.i64 6)) (I (Int.ofNat i)) (I 6)=some (AV.bool true)∧aJ Tryz.prog 22 (AV.fsl false Rs) (I (Int.ofNat i))=some (ll y)∧SC 9 [I y.2,I 3] (I p)∧aJ Tryz.prog 22 (AV.fsl false Rs) (I (Int.ofNat i))=some (ll y)∧SC 9 [I y.3,I 8] (I q)∧aE (bi 5 [AV.agg [I 4325481,I 1,I 0,AV.nilsl,AV.fsl true [AV.agg (jC p),AV.agg [I 4325483,I 2,I (af IntKind.i64 (q-1)),AV.nilsl,AV.nilsl]]]]&&(((k+1+ac [AV.agg [I 4325481,I 1,I 0,AV.nilsl,AV.fsl true [AV.agg (jC p),AV.agg [I 4325483,I 2,I (af IntKind.i64 (q-1)),AV.nilsl,AV.nilsl]]]])*72).ble 140737488355328&&(be (flat [AV.agg [I 4325481,I 1,I 0,AV.nilsl,AV.fsl true [AV.agg (jC p),AV.agg [I 4325483,I 2,I (af IntKind.i64 (q-1)),AV.nilsl,AV.nilsl]]]])&&true))) (aE ((ac es).beq ((k+1)*5)) ((((jA Rs)∧(jB Os)∧t6∧(nE op)∧(I (af IntKind.i64 (Int.ofNat i+1))=I (Int.ofNat j)∧ad (I (Int.ofNat j))=true)∧True)∧lj∧(aQ=aQ∧true=true)∧bx [(0,0),(1,1),(2,2),(3,34)] [I 4325497,I 1,I 0,AV.nilsl,AV.rsl true 3 0 k' 5] [I 4325497,I 1,I 0,AV.nilsl,AV.rsl true 34 0 (k+1+ac [AV.agg [I 4325481,I 1,I 0,AV.nilsl,AV.fsl true [AV.agg (jC p),AV.agg [I 4325483,I 2,I (af IntKind.i64 (q-1)),AV.nilsl,AV.nilsl]]]]) 5]∧(es++flat [AV.agg [I 4325481,I 1,I 0,AV.nilsl,AV.fsl true [AV.agg (jC p),AV.agg [I 4325483,I 2,I (af IntKind.i64 (q-1)),AV.nilsl,AV.nilsl]]]]=es'∧ae es'=true)∧True)∧Nx))):=by kernel_rfl
def qh:aN:=ar [(9,3,.res (.bool false))] [] aI [] []
def zj:aN:=ar [(9,3,.res (.bool true)),(9,6,.res (.bool false))] [] aI [] []
abbrev cg:=[I 4325497,I 1,I 0,AV.nilsl,AV.nilsl]
@[simp] abbrev zk (Os Rs:List AV) (i:Nat) (op:Int) (w:Bool):=((jA Rs)∧(jB Os)∧(AV.bool w=AV.bool w∧ad (AV.bool w)=true)∧(nE op)∧(I (Int.ofNat i)=I (Int.ofNat i)∧ad (I (Int.ofNat i))=true)∧True)
theorem F7 (Rs Os:List AV) (w:Bool) (op:Int) (i:Nat) (Nx:Prop) (Q:AExit→St→Prop):al Tryz.prog opts0 40 qh (aq Tryz.prog 3 10) (bt Rs Os w op i).st (aO 0 [] (bt Rs Os w op i) Nx [(0,0),(1,1),(2,2)] (bt Rs Os w op i) Q)=
  (an Tryz.prog BinOp.lss 3 (Operand.tmp 34) (Operand.tmp 36) (I (Int.ofNat i)) (I (Int.ofNat (ac Rs)))=some (AV.bool false)∧((zk Os Rs i op w)∧lj∧(aQ=aQ∧true=true)∧(cg=cg∧true=true)∧True)∧Q (AExit.exit 0) (bt Rs Os w op i).st):=by kernel_rfl
@[simp] abbrev zl (Os Rs es:List AV) (i k:Nat) (op:Int) (w:Bool):=((zk Os Rs i op w)∧lj∧(aQ=aQ∧true=true)∧bx [(0,0),(1,1),(2,2),(3,3)] [I 4325497,I 1,I 0,AV.nilsl,AV.rsl true 3 0 k 5] [I 4325497,I 1,I 0,AV.nilsl,AV.rsl true 3 0 k 5]∧(es=es∧ae es=true)∧True)
theorem F8 (Rs Os:List AV) (w:Bool) (op:Int) (i k:Nat) (es:List AV) (Nx:Prop) (Q:AExit→St→Prop):al Tryz.prog opts0 40 qh (aq Tryz.prog 3 10) (bB Rs Os w op i k es).st (aO 0 [] (bt Rs Os w op i) Nx [(0,0),(1,1),(2,2),(3,3)] (bB Rs Os w op i k es) Q)=
  (an Tryz.prog BinOp.lss 3 (Operand.tmp 34) (Operand.tmp 36) (I (Int.ofNat i)) (I (Int.ofNat (ac Rs)))=some (AV.bool false)∧(zl Os Rs es i k op w)∧Q (AExit.exit 0) (bB Rs Os w op i k es).st):=by kernel_rfl
theorem F9 (Rs Os:List AV) (w:Bool) (op:Int) (i k:Nat) (es:List AV) (Nx:Prop) (Q:AExit→St→Prop):al Tryz.prog opts0 40 zj (aq Tryz.prog 3 10) (bB Rs Os w op i k es).st (aO 0 [] (bt Rs Os w op i) Nx [(0,0),(1,1),(2,2),(3,3)] (bB Rs Os w op i k es) Q)=
  (an Tryz.prog BinOp.lss 3 (Operand.tmp 34) (Operand.tmp 36) (I (Int.ofNat i)) (I (Int.ofNat (ac Rs)))=some (AV.bool true)∧an Tryz.prog BinOp.lss 3 (Operand.tmp 39) (Operand.const (Value.int IntKind.i64 6)) (I (Int.ofNat i)) (I 6)=some (AV.bool false)∧(zl Os Rs es i k op w)∧Q (AExit.exit 0) (bB Rs Os w op i k es).st):=by kernel_rfl
def dg (Rs Os:List AV) (w:Bool) (op:Int) (F:View):a7:=fun st Q=>ck 0 [(0,1897),(1,1682),(2,2045)] (bt Rs Os w op 0) st∧Q (.exit 0) F.st
def Ga (A:AV) (X:List AV) (n:Int):eb:=fun f _ _ _=>match Nat.beq f 5 with
 |true=>some (.part [] (.tuple [.ptr 1682 0,.ptr 1897 0]) (li 1897) 2027)
 | false=>match cz [34,35,94,95] f with
  |true=>some (.part [] A [] 0)
  | false=>match Nat.beq f 10 with
   |true=>some (.val (.agg X))
   | false=>match Nat.beq f 37 with
    |true=>some (.val (I n))
    |false=>match cz [6,13] f with
     |true=>some (.val (.bool true))
     |false=>none
def Gb (op:Int) (k:AV):View:=⟨[(10,I op),(9,.fptr (ir k) 0)],[(7,.ptr 1 0),(8,.ptr 0 0)],[(0,.cells qe,.whole)],60,122⟩
def dh (l:List (Nat × a7)) (b14:Bool) (op:Int) (k A:AV) (X:List AV) (n:Int):aN:=gq (ar [(14,2,.res (.bool b14))] l (Ga A X n) [7] [11,12,36,38,39]) 16 2 (Gb op k)
abbrev eN (D K:List AV) (m t y:Int):=[I t,I y,I m,AV.fsl false D,AV.fsl false K]
@[simp] abbrev bz (D K:List AV) (Q:AV→Prop) (m t y:Int):=(SC 13 [AV.agg (eN D K m t y),AV.agg (eN D K m t y)] (AV.bool true)∧Q (AV.bool true))
@[simp] abbrev zm:=((some 1682=some 1682∧0=0)∧(some 1897=some 1897∧0=0)∧(some 2045=some 2045∧0=0)∧True)
@[simp] abbrev qi (Os Rs:List AV):=(((jA Rs)∧(jB Os)∧t5∧(I 24=I 24∧true=true)∧(I 0=I 0∧true=true)∧True)∧zm∧(aQ=aQ∧true=true)∧(cg=cg∧true=true)∧True)
@[simp] abbrev iu (D K:List AV) (Q:AV→Prop) (m t y:Int):=(SC 13 [AV.agg (eN D K m t y),AV.agg [I 0,I 0,I 0,AV.nilsl,AV.nilsl]] (AV.bool true)∧Q (AV.bool true))
abbrev di (D K:List AV) (m r t y:Int):=(AV.tuple [AV.agg (eN D K m t y),I r,AV.str []])
abbrev lm:=[I 0,AV.nilsl,AV.str []]
abbrev iv:=(AV.tuple [AV.ptr 1682 0,AV.ptr 1897 0])
abbrev iw (D K:List AV) (m r t y:Int):=(AV.tuple [AV.agg (ai t y m D K),I r,AV.str []])
theorem Gc (Rs Os:List AV) (i:Nat) (t y m r n:Int) (D K:List AV) (Q:AV→Prop):aA Tryz.prog opts0 40 (dh [(10,dg Rs Os false 24 (bt Rs Os false 24 i))] false 24 .nilsl (iw D K m r t y) [] n) 3 [.fsl false Rs,.fsl false Os,.bool false] [] 0 (fun v _ _=>Q v)=
  (BodySem Tryz.prog opts0.glob 5 [AV.nilsl,I 5] [] 7 iv [(1897,some (Blk.cells aQ))] 2034∧SC 6 [] (AV.bool true)∧(qi Os Rs)∧an Tryz.prog BinOp.gtr 3 (Operand.tmp 82) (Operand.const (Value.int IntKind.i64 3)) (I (Int.ofNat (ac Os))) (I 3)=some (AV.bool false)∧((Frz 2 [(0,some (Blk.cells aQ)),(2,some (Blk.cells cg))] (I 24) (I 24)∧Frz 2 [(0,some (Blk.cells aQ)),(2,some (Blk.cells cg))] (AV.ptr 2 0) (AV.fptr cg 0)∧Frz 2 [(0,some (Blk.cells aQ)),(2,some (Blk.cells cg))] (AV.ptr 1 0) (AV.ptr 1 0)∧Frz 2 [(0,some (Blk.cells aQ)),(2,some (Blk.cells cg))] (AV.ptr 0 0) (AV.ptr 0 0)∧True)∧FrzL 2 [(0,some (Blk.cells aQ)),(2,some (Blk.cells cg))] aQ aQ∧True)∧BodySem Tryz.prog opts0.glob 34 [AV.ptr 1 0,AV.agg cg,AV.agg lm] [] 95 (di D K m r t y) [] 95∧BodySem Tryz.prog opts0.glob 94 [AV.ptr 0 0,AV.agg cg,AV.agg lm] [] 185 (di D K m r t y) [] 185∧ah (ag r 0) (SC 37 [AV.agg (eN D K m t y)] (I n)∧ah (am 8192 n) (ah (ag r 256) (iu D K Q m t y) (Q (AV.bool false))) (ah (!ag r 0) (ah (ag r r) (bz D K Q m t y) (Q (AV.bool false))) (ah (ag r r) (bz D K Q m t y) (Q (AV.bool false))))) (ah (!ag r 0) (ah (ag r r) (bz D K Q m t y) (Q (AV.bool false))) (ah (ag r r) (bz D K Q m t y) (Q (AV.bool false))))):=by kernel_rfl
abbrev fm (xD xK:List AV) (xn xt xy:Int):=[I xt,I xy,I xn,AV.fsl false xD,AV.fsl false xK]
abbrev fU (xD xK:List AV) (xn xt xy:Int):=[(13,some (Blk.cells (flat [AV.agg (fm xD xK xn xt xy)]))),(2,some (Blk.cells [I 4325497,I 1,I 0,AV.nilsl,AV.rsl true 13 0 (ac [AV.agg (fm xD xK xn xt xy)]) 5])),(0,some (Blk.cells aQ)),(2,some (Blk.cells cg))]
abbrev ix (N:List AV):=[I 4325497,I 1,I 0,AV.nilsl,AV.fsl false N]
abbrev ln (N:List AV):=[AV.ptr 1 0,AV.agg (ix N),AV.agg lm]
abbrev lp (N:List AV):=[AV.ptr 0 0,AV.agg (ix N),AV.agg lm]
theorem Gd (Rs Os:List AV) (i:Nat) (N:List AV) (xt xy xn:Int) (xD xK:List AV) (t y m r n:Int) (D K:List AV) (Q:AV→Prop):aA Tryz.prog opts0 40 (dh [(10,dg Rs Os false 24 (bt Rs Os false 24 i))] true 24 (.fsl false N) (iw D K m r t y) (ai xt xy xn xD xK) n) 3 [.fsl false Rs,.fsl false Os,.bool false] [] 0 (fun v _ _=>Q v)=
  (BodySem Tryz.prog opts0.glob 5 [AV.nilsl,I 5] [] 7 iv [(1897,some (Blk.cells aQ))] 2034∧SC 6 [] (AV.bool true)∧(qi Os Rs)∧an Tryz.prog BinOp.gtr 3 (Operand.tmp 82) (Operand.const (Value.int IntKind.i64 3)) (I (Int.ofNat (ac Os))) (I 3)=some (AV.bool true)∧SC 10 [AV.fsl false Os] (AV.agg (fm xD xK xn xt xy))∧((Frz 2 (fU xD xK xn xt xy) (I 24) (I 24)∧Frz 2 (fU xD xK xn xt xy) (AV.ptr 2 0) (AV.fptr (ix N) 0)∧Frz 2 (fU xD xK xn xt xy) (AV.ptr 1 0) (AV.ptr 1 0)∧Frz 2 (fU xD xK xn xt xy) (AV.ptr 0 0) (AV.ptr 0 0)∧True)∧FrzL 2 (fU xD xK xn xt xy) aQ aQ∧True)∧BodySem Tryz.prog opts0.glob 34 (ln N) [] 95 (di D K m r t y) [] 95∧BodySem Tryz.prog opts0.glob 94 (lp N) [] 185 (di D K m r t y) [] 185∧ah (ag r 0) (SC 37 [AV.agg (eN D K m t y)] (I n)∧ah (am 8192 n) (ah (ag r 256) (iu D K Q m t y) (Q (AV.bool false))) (ah (!ag r 0) (ah (ag r r) (bz D K Q m t y) (Q (AV.bool false))) (ah (ag r r) (bz D K Q m t y) (Q (AV.bool false))))) (ah (!ag r 0) (ah (ag r r) (bz D K Q m t y) (Q (AV.bool false))) (ah (ag r r) (bz D K Q m t y) (Q (AV.bool false))))):=by kernel_rfl
abbrev zn (k:Nat):=(2,some (Blk.cells [I 4325497,I 1,I 0,AV.nilsl,AV.rsl true 3 0 (k+1) 5]))
abbrev fV (es:List AV) (k:Nat):=[(0,some (Blk.cells aQ)),(zn k),(3,some (Blk.cells es))]
theorem Ge (Rs Os:List AV) (i k:Nat) (es:List AV) (N:List AV) (t y m r n:Int) (D K:List AV) (Q:AV→Prop):aA Tryz.prog opts0 40 (dh [(10,dg Rs Os false 24 (bB Rs Os false 24 i (k+1) es))] false 24 (.fsl false N) (iw D K m r t y) [] n) 3 [.fsl false Rs,.fsl false Os,.bool false] [] 0 (fun v _ _=>Q v)=
  (BodySem Tryz.prog opts0.glob 5 [AV.nilsl,I 5] [] 7 iv [(1897,some (Blk.cells aQ))] 2034∧SC 6 [] (AV.bool true)∧(qi Os Rs)∧an Tryz.prog BinOp.gtr 3 (Operand.tmp 82) (Operand.const (Value.int IntKind.i64 3)) (I (Int.ofNat (ac Os))) (I 3)=some (AV.bool false)∧((Frz 2 (fV es k) (I 24) (I 24)∧Frz 2 (fV es k) (AV.ptr 2 0) (AV.fptr (ix N) 0)∧Frz 2 (fV es k) (AV.ptr 1 0) (AV.ptr 1 0)∧Frz 2 (fV es k) (AV.ptr 0 0) (AV.ptr 0 0)∧True)∧FrzL 2 (fV es k) aQ aQ∧True)∧BodySem Tryz.prog opts0.glob 34 (ln N) [] 95 (di D K m r t y) [] 95∧BodySem Tryz.prog opts0.glob 94 (lp N) [] 185 (di D K m r t y) [] 185∧ah (ag r 0) (SC 37 [AV.agg (eN D K m t y)] (I n)∧ah (am 8192 n) (ah (ag r 256) (iu D K Q m t y) (Q (AV.bool false))) (ah (!ag r 0) (ah (ag r r) (bz D K Q m t y) (Q (AV.bool false))) (ah (ag r r) (bz D K Q m t y) (Q (AV.bool false))))) (ah (!ag r 0) (ah (ag r r) (bz D K Q m t y) (Q (AV.bool false))) (ah (ag r r) (bz D K Q m t y) (Q (AV.bool false))))):=by kernel_rfl
abbrev fW (es xD xK:List AV) (k:Nat) (xn xt xy:Int):=[(13,some (Blk.cells (es++flat [AV.agg (fm xD xK xn xt xy)]))),(3,none),(2,some (Blk.cells [I 4325497,I 1,I 0,AV.nilsl,AV.rsl true 13 0 (k+1+ac [AV.agg (fm xD xK xn xt xy)]) 5])),(0,some (Blk.cells aQ)),(zn k),(3,some (Blk.cells es))]
abbrev zo (k:Nat) (xD xK:List AV) (xn xt xy:Int):=(bi 5 [AV.agg (fm xD xK xn xt xy)]&&(((k+1+ac [AV.agg (fm xD xK xn xt xy)])*72).ble 140737488355328&&(be (flat [AV.agg (fm xD xK xn xt xy)])&&true)))
theorem Gf (Rs Os:List AV) (i k:Nat) (es:List AV) (N:List AV) (xt xy xn:Int) (xD xK:List AV) (t y m r n:Int) (D K:List AV) (Q:AV→Prop):aA Tryz.prog opts0 40 (dh [(10,dg Rs Os false 24 (bB Rs Os false 24 i (k+1) es))] true 24 (.fsl false N) (iw D K m r t y) (ai xt xy xn xD xK) n) 3 [.fsl false Rs,.fsl false Os,.bool false] [] 0 (fun v _ _=>Q v)=
  (BodySem Tryz.prog opts0.glob 5 [AV.nilsl,I 5] [] 7 iv [(1897,some (Blk.cells aQ))] 2034∧SC 6 [] (AV.bool true)∧(qi Os Rs)∧an Tryz.prog BinOp.gtr 3 (Operand.tmp 82) (Operand.const (Value.int IntKind.i64 3)) (I (Int.ofNat (ac Os))) (I 3)=some (AV.bool true)∧SC 10 [AV.fsl false Os] (AV.agg (fm xD xK xn xt xy))∧aE (zo k xD xK xn xt xy) (aE ((ac es).beq ((k+1)*5)) (((Frz 2 (fW es xD xK k xn xt xy) (I 24) (I 24)∧Frz 2 (fW es xD xK k xn xt xy) (AV.ptr 2 0) (AV.fptr (ix N) 0)∧Frz 2 (fW es xD xK k xn xt xy) (AV.ptr 1 0) (AV.ptr 1 0)∧Frz 2 (fW es xD xK k xn xt xy) (AV.ptr 0 0) (AV.ptr 0 0)∧True)∧FrzL 2 (fW es xD xK k xn xt xy) aQ aQ∧True)∧BodySem Tryz.prog opts0.glob 34 (ln N) [] 95 (di D K m r t y) [] 95∧BodySem Tryz.prog opts0.glob 94 (lp N) [] 185 (di D K m r t y) [] 185∧ah (ag r 0) (SC 37 [AV.agg (eN D K m t y)] (I n)∧ah (am 8192 n) (ah (ag r 256) (iu D K Q m t y) (Q (AV.bool false))) (ah (!ag r 0) (ah (ag r r) (bz D K Q m t y) (Q (AV.bool false))) (ah (ag r r) (bz D K Q m t y) (Q (AV.bool false))))) (ah (!ag r 0) (ah (ag r r) (bz D K Q m t y) (Q (AV.bool false))) (ah (ag r r) (bz D K Q m t y) (Q (AV.bool false))))))):=by kernel_rfl
@[simp] abbrev qj (Os Rs:List AV):=(((jA Rs)∧(jB Os)∧t6∧(I 30=I 30∧true=true)∧(I 0=I 0∧true=true)∧True)∧zm∧(aQ=aQ∧true=true)∧(cg=cg∧true=true)∧True)
theorem Gg (Rs Os:List AV) (i:Nat) (t y m r n:Int) (D K:List AV) (Q:AV→Prop):aA Tryz.prog opts0 40 (dh [(10,dg Rs Os true 30 (bt Rs Os true 30 i))] false 30 .nilsl (iw D K m r t y) [] n) 3 [.fsl false Rs,.fsl false Os,.bool true] [] 0 (fun v _ _=>Q v)=
  (BodySem Tryz.prog opts0.glob 5 [AV.nilsl,I 5] [] 7 iv [(1897,some (Blk.cells aQ))] 2034∧SC 6 [] (AV.bool true)∧(qj Os Rs)∧an Tryz.prog BinOp.gtr 3 (Operand.tmp 82) (Operand.const (Value.int IntKind.i64 3)) (I (Int.ofNat (ac Os))) (I 3)=some (AV.bool false)∧((Frz 2 [(0,some (Blk.cells aQ)),(2,some (Blk.cells cg))] (I 30) (I 30)∧Frz 2 [(0,some (Blk.cells aQ)),(2,some (Blk.cells cg))] (AV.ptr 2 0) (AV.fptr cg 0)∧Frz 2 [(0,some (Blk.cells aQ)),(2,some (Blk.cells cg))] (AV.ptr 1 0) (AV.ptr 1 0)∧Frz 2 [(0,some (Blk.cells aQ)),(2,some (Blk.cells cg))] (AV.ptr 0 0) (AV.ptr 0 0)∧True)∧FrzL 2 [(0,some (Blk.cells aQ)),(2,some (Blk.cells cg))] aQ aQ∧True)∧BodySem Tryz.prog opts0.glob 35 [AV.ptr 1 0,AV.agg cg,AV.agg lm] [] 97 (di D K m r t y) [] 97∧BodySem Tryz.prog opts0.glob 95 [AV.ptr 0 0,AV.agg cg,AV.agg lm] [] 189 (di D K m r t y) [] 189∧ah (ag r 0) (SC 37 [AV.agg (eN D K m t y)] (I n)∧ah (am 8192 n) (ah (ag r 256) (iu D K Q m t y) (Q (AV.bool false))) (ah (!ag r 0) (ah (ag r r) (bz D K Q m t y) (Q (AV.bool false))) (ah (ag r r) (bz D K Q m t y) (Q (AV.bool false))))) (ah (!ag r 0) (ah (ag r r) (bz D K Q m t y) (Q (AV.bool false))) (ah (ag r r) (bz D K Q m t y) (Q (AV.bool false))))):=by kernel_rfl
theorem Gh (Rs Os:List AV) (i:Nat) (N:List AV) (xt xy xn:Int) (xD xK:List AV) (t y m r n:Int) (D K:List AV) (Q:AV→Prop):aA Tryz.prog opts0 40 (dh [(10,dg Rs Os true 30 (bt Rs Os true 30 i))] true 30 (.fsl false N) (iw D K m r t y) (ai xt xy xn xD xK) n) 3 [.fsl false Rs,.fsl false Os,.bool true] [] 0 (fun v _ _=>Q v)=
  (BodySem Tryz.prog opts0.glob 5 [AV.nilsl,I 5] [] 7 iv [(1897,some (Blk.cells aQ))] 2034∧SC 6 [] (AV.bool true)∧(qj Os Rs)∧an Tryz.prog BinOp.gtr 3 (Operand.tmp 82) (Operand.const (Value.int IntKind.i64 3)) (I (Int.ofNat (ac Os))) (I 3)=some (AV.bool true)∧SC 10 [AV.fsl false Os] (AV.agg (fm xD xK xn xt xy))∧((Frz 2 (fU xD xK xn xt xy) (I 30) (I 30)∧Frz 2 (fU xD xK xn xt xy) (AV.ptr 2 0) (AV.fptr (ix N) 0)∧Frz 2 (fU xD xK xn xt xy) (AV.ptr 1 0) (AV.ptr 1 0)∧Frz 2 (fU xD xK xn xt xy) (AV.ptr 0 0) (AV.ptr 0 0)∧True)∧FrzL 2 (fU xD xK xn xt xy) aQ aQ∧True)∧BodySem Tryz.prog opts0.glob 35 (ln N) [] 97 (di D K m r t y) [] 97∧BodySem Tryz.prog opts0.glob 95 (lp N) [] 189 (di D K m r t y) [] 189∧ah (ag r 0) (SC 37 [AV.agg (eN D K m t y)] (I n)∧ah (am 8192 n) (ah (ag r 256) (iu D K Q m t y) (Q (AV.bool false))) (ah (!ag r 0) (ah (ag r r) (bz D K Q m t y) (Q (AV.bool false))) (ah (ag r r) (bz D K Q m t y) (Q (AV.bool false))))) (ah (!ag r 0) (ah (ag r r) (bz D K Q m t y) (Q (AV.bool false))) (ah (ag r r) (bz D K Q m t y) (Q (AV.bool false))))):=by kernel_rfl
theorem Gi (Rs Os:List AV) (i k:Nat) (es:List AV) (N:List AV) (t y m r n:Int) (D K:List AV) (Q:AV→Prop):aA Tryz.prog opts0 40 (dh [(10,dg Rs Os true 30 (bB Rs Os true 30 i (k+1) es))] false 30 (.fsl false N) (iw D K m r t y) [] n) 3 [.fsl false Rs,.fsl false Os,.bool true] [] 0 (fun v _ _=>Q v)=
  (BodySem Tryz.prog opts0.glob 5 [AV.nilsl,I 5] [] 7 iv [(1897,some (Blk.cells aQ))] 2034∧SC 6 [] (AV.bool true)∧(qj Os Rs)∧an Tryz.prog BinOp.gtr 3 (Operand.tmp 82) (Operand.const (Value.int IntKind.i64 3)) (I (Int.ofNat (ac Os))) (I 3)=some (AV.bool false)∧((Frz 2 (fV es k) (I 30) (I 30)∧Frz 2 (fV es k) (AV.ptr 2 0) (AV.fptr (ix N) 0)∧Frz 2 (fV es k) (AV.ptr 1 0) (AV.ptr 1 0)∧Frz 2 (fV es k) (AV.ptr 0 0) (AV.ptr 0 0)∧True)∧FrzL 2 (fV es k) aQ aQ∧True)∧BodySem Tryz.prog opts0.glob 35 (ln N) [] 97 (di D K m r t y) [] 97∧BodySem Tryz.prog opts0.glob 95 (lp N) [] 189 (di D K m r t y) [] 189∧ah (ag r 0) (SC 37 [AV.agg (eN D K m t y)] (I n)∧ah (am 8192 n) (ah (ag r 256) (iu D K Q m t y) (Q (AV.bool false))) (ah (!ag r 0) (ah (ag r r) (bz D K Q m t y) (Q (AV.bool false))) (ah (ag r r) (bz D K Q m t y) (Q (AV.bool false))))) (ah (!ag r 0) (ah (ag r r) (bz D K Q m t y) (Q (AV.bool false))) (ah (ag r r) (bz D K Q m t y) (Q (AV.bool false))))):=by kernel_rfl
theorem Gj (Rs Os:List AV) (i k:Nat) (es:List AV) (N:List AV) (xt xy xn:Int) (xD xK:List AV) (t y m r n:Int) (D K:List AV) (Q:AV→Prop):aA Tryz.prog opts0 40 (dh [(10,dg Rs Os true 30 (bB Rs Os true 30 i (k+1) es))] true 30 (.fsl false N) (iw D K m r t y) (ai xt xy xn xD xK) n) 3 [.fsl false Rs,.fsl false Os,.bool true] [] 0 (fun v _ _=>Q v)=
  (BodySem Tryz.prog opts0.glob 5 [AV.nilsl,I 5] [] 7 iv [(1897,some (Blk.cells aQ))] 2034∧SC 6 [] (AV.bool true)∧(qj Os Rs)∧an Tryz.prog BinOp.gtr 3 (Operand.tmp 82) (Operand.const (Value.int IntKind.i64 3)) (I (Int.ofNat (ac Os))) (I 3)=some (AV.bool true)∧SC 10 [AV.fsl false Os] (AV.agg (fm xD xK xn xt xy))∧aE (zo k xD xK xn xt xy) (aE ((ac es).beq ((k+1)*5)) (((Frz 2 (fW es xD xK k xn xt xy) (I 30) (I 30)∧Frz 2 (fW es xD xK k xn xt xy) (AV.ptr 2 0) (AV.fptr (ix N) 0)∧Frz 2 (fW es xD xK k xn xt xy) (AV.ptr 1 0) (AV.ptr 1 0)∧Frz 2 (fW es xD xK k xn xt xy) (AV.ptr 0 0) (AV.ptr 0 0)∧True)∧FrzL 2 (fW es xD xK k xn xt xy) aQ aQ∧True)∧BodySem Tryz.prog opts0.glob 35 (ln N) [] 97 (di D K m r t y) [] 97∧BodySem Tryz.prog opts0.glob 95 (lp N) [] 189 (di D K m r t y) [] 189∧ah (ag r 0) (SC 37 [AV.agg (eN D K m t y)] (I n)∧ah (am 8192 n) (ah (ag r 256) (iu D K Q m t y) (Q (AV.bool false))) (ah (!ag r 0) (ah (ag r r) (bz D K Q m t y) (Q (AV.bool false))) (ah (ag r r) (bz D K Q m t y) (Q (AV.bool false))))) (ah (!ag r 0) (ah (ag r r) (bz D K Q m t y) (Q (AV.bool false))) (ah (ag r r) (bz D K Q m t y) (Q (AV.bool false))))))):=by kernel_rfl
end
end Go.Proofs.YtjmnheinkchlfaaGreatDoor
