import Derived.Test.YtmnlofhodbnenaaGreatDoorQ6
import Derived.KernelRfl
namespace Go.Proofs.YtmnlofhodbnenaaGreatDoor
open Go Go.RowKit
open Go.Proofs.Abs
noncomputable section
-- the program's parts
def H6 (K:List AV) (i:Nat):List (Nat × AV):=[(23,.fsl false K),(24,I (.ofNat (aa K))),(25,I (.ofNat i))]
def c8 (K:List AV) (i:Nat):View:=⟨(6,.nilsl)::H6 K i,[],[],1,42⟩
def fb (K:List AV) (i k:Nat) (es:List AV):View:=⟨H6 K i,[(6,.rsl true 0 0 k 7)],[(0,.cells es,.whole)],1,42⟩
def ptR:View:=⟨[(2,.nilsl),(3,I 7)],[],[],1,42⟩
def lW (t y n:Int) (D L:List AV) (s:List UInt8) (ix at' ay an:Int) (AD AL:List AV) (ok:Bool):aX:=ap [(7,0,.res (.fptr (ag t y n D L) 0))] [] (dW [(31,fun _=>some (.tuple [.agg (.str s::I ix::ag at' ay an AD AL),.bool ok]))]) [] []
abbrev iu (D L:List AV) (n t y:Int):=[I t,I y,I n,AV.fsl false D,AV.fsl false L]
@[simp] abbrev AC:=(AV.nilsl=AV.nilsl∧true=true)
@[simp] abbrev H7:=((AC∧(I 7=I 7∧true=true)∧True)∧True∧True)
theorem Uv (K:List AV) (i:Nat) (t y n:Int) (D L:List AV) (s:List UInt8) (ix at' ay an:Int) (AD AL:List AV) (Nx:Prop) (Q:AExit→St→Prop):aI Tryz.prog opts0 40 (lW t y n D L s ix at' ay an AD AL false) (aD Tryz.prog 16 7) (c8 K i).st (bf 0 [] (c8 K i) Nx [] ptR Q)=
  (ab (aq (Int.ofNat i) (Int.ofNat (aa K))) (aC Tryz.prog 24 (AV.fsl false K) (I (Int.ofNat i))=some (AV.fptr (iu D L n t y) 0)∧SC 31 [AV.agg (iu D L n t y)] (AV.tuple [AV.agg [AV.str s,I ix,I at',I ay,I an,AV.fsl false AD,AV.fsl false AL],AV.bool false])∧H7∧Q AExit.ret ptR.st) (((False∧False∧True)∧True∧True)∧Q (AExit.exit 0) ptR.st)):=by kernel_rfl
theorem Uw (K:List AV) (i k:Nat) (es:List AV) (t y n:Int) (D L:List AV) (s:List UInt8) (ix at' ay an:Int) (AD AL:List AV) (Nx:Prop) (Q:AExit→St→Prop):aI Tryz.prog opts0 40 (lW t y n D L s ix at' ay an AD AL false) (aD Tryz.prog 16 7) (fb K i k es).st (bf 0 [] (c8 K i) Nx [] ptR Q)=
  (ab (aq (Int.ofNat i) (Int.ofNat (aa K))) (aC Tryz.prog 24 (AV.fsl false K) (I (Int.ofNat i))=some (AV.fptr (iu D L n t y) 0)∧SC 31 [AV.agg (iu D L n t y)] (AV.tuple [AV.agg [AV.str s,I ix,I at',I ay,I an,AV.fsl false AD,AV.fsl false AL],AV.bool false])∧H7∧Q AExit.ret ptR.st) (((False∧False∧True)∧True∧True)∧Q (AExit.exit 0) ptR.st)):=by kernel_rfl
@[simp] abbrev vU (K:List AV):=(I (Int.ofNat (aa K))=I (Int.ofNat (aa K))∧ah (I (Int.ofNat (aa K)))=true)
@[simp] abbrev vV (K:List AV):=(AV.fsl false K=AV.fsl false K∧ah (AV.fsl false K)=true)
theorem Ux (K:List AV) (i j:Nat) (es:List AV) (t y n:Int) (D L:List AV) (s:List UInt8) (ix at' ay an:Int) (AD AL:List AV) (Nx:Prop) (Q:AExit→St→Prop):aI Tryz.prog opts0 40 (lW t y n D L s ix at' ay an AD AL true) (aD Tryz.prog 16 7) (c8 K i).st (bf 0 [(0,19)] (fb K j 1 es) Nx [] ptR Q)=
  (ab (aq (Int.ofNat i) (Int.ofNat (aa K))) (aC Tryz.prog 24 (AV.fsl false K) (I (Int.ofNat i))=some (AV.fptr (iu D L n t y) 0)∧SC 31 [AV.agg (iu D L n t y)] (AV.tuple [AV.agg [AV.str s,I ix,I at',I ay,I an,AV.fsl false AD,AV.fsl false AL],AV.bool true])∧(((vV K)∧(vU K)∧(I (ar IntKind.i64 (Int.ofNat i+1))=I (Int.ofNat j)∧ah (I (Int.ofNat j))=true)∧True)∧((true=true∧some 19=some 19∧0=0∧1=aa [AV.agg [AV.str s,I ix,I at',I ay,I an,AV.fsl false AD,AV.fsl false AL]]∧7=7)∧True)∧(flat [AV.agg [AV.str s,I ix,I at',I ay,I an,AV.fsl false AD,AV.fsl false AL]]=es∧ac es=true)∧True)∧Nx) (((False∧False∧True)∧True∧True)∧Q (AExit.exit 0) ptR.st)):=by kernel_rfl
theorem Uy (K:List AV) (i j k k':Nat) (es es':List AV) (t y n:Int) (D L:List AV) (s:List UInt8) (ix at' ay an:Int) (AD AL:List AV) (Nx:Prop) (Q:AExit→St→Prop):aI Tryz.prog opts0 40 (lW t y n D L s ix at' ay an AD AL true) (aD Tryz.prog 16 7) (fb K i (k+1) es).st (bf 0 [(0,19)] (fb K j k' es') Nx [] ptR Q)=
  (ab (aq (Int.ofNat i) (Int.ofNat (aa K))) (aC Tryz.prog 24 (AV.fsl false K) (I (Int.ofNat i))=some (AV.fptr (iu D L n t y) 0)∧SC 31 [AV.agg (iu D L n t y)] (AV.tuple [AV.agg [AV.str s,I ix,I at',I ay,I an,AV.fsl false AD,AV.fsl false AL],AV.bool true])∧au (a8 7 [AV.agg [AV.str s,I ix,I at',I ay,I an,AV.fsl false AD,AV.fsl false AL]]&&(((k+1+aa [AV.agg [AV.str s,I ix,I at',I ay,I an,AV.fsl false AD,AV.fsl false AL]])*96).ble 140737488355328&&(bc (flat [AV.agg [AV.str s,I ix,I at',I ay,I an,AV.fsl false AD,AV.fsl false AL]])&&true))) (au ((aa es).beq ((k+1)*7)) ((((vV K)∧(vU K)∧(I (ar IntKind.i64 (Int.ofNat i+1))=I (Int.ofNat j)∧ah (I (Int.ofNat j))=true)∧True)∧((true=true∧some 19=some 19∧0=0∧k'=k+1+aa [AV.agg [AV.str s,I ix,I at',I ay,I an,AV.fsl false AD,AV.fsl false AL]]∧7=7)∧True)∧(es++flat [AV.agg [AV.str s,I ix,I at',I ay,I an,AV.fsl false AD,AV.fsl false AL]]=es'∧ac es'=true)∧True)∧Nx))) (((False∧False∧True)∧True∧True)∧Q (AExit.exit 0) ptR.st)):=by kernel_rfl
@[simp] abbrev sD (i:Nat):=(I (Int.ofNat i)=I (Int.ofNat i)∧ah (I (Int.ofNat i))=true)
theorem Uz (K:List AV) (i:Nat) (Nx:Prop) (Q:AExit→St→Prop):aI Tryz.prog opts0 40 (ap [(6,0,.res (.bool false))] [] aH [] []) (aD Tryz.prog 16 7) (c8 K i).st (bf 0 [] (c8 K i) Nx [] (c8 K i) Q)=
  (aM Tryz.prog BinOp.lss 3 (Operand.tmp 25) (Operand.tmp 24) (I (Int.ofNat i)) (I (Int.ofNat (aa K)))=some (AV.bool false)∧((AC∧(vV K)∧(vU K)∧(sD i)∧True)∧True∧True)∧Q (AExit.exit 0) (c8 K i).st):=by kernel_rfl
theorem UA (K:List AV) (i k:Nat) (es:List AV) (Nx:Prop) (Q:AExit→St→Prop):aI Tryz.prog opts0 40 (ap [(6,0,.res (.bool false))] [] aH [] []) (aD Tryz.prog 16 7) (fb K i k es).st (bf 0 [] (c8 K i) Nx [(0,0)] (fb K i k es) Q)=
  (aM Tryz.prog BinOp.lss 3 (Operand.tmp 25) (Operand.tmp 24) (I (Int.ofNat i)) (I (Int.ofNat (aa K)))=some (AV.bool false)∧(((vV K)∧(vU K)∧(sD i)∧True)∧((true=true∧some 0=some 0∧0=0∧k=k∧7=7)∧True)∧(es=es∧ac es=true)∧True)∧Q (AExit.exit 0) (fb K i k es).st):=by kernel_rfl
def pN (K:List AV) (e:AExit) (F:View):bq:=fun st Q=>ck 0 [] (c8 K 0) st∧Q e F.st
abbrev lX (D K:List AV) (n t y:Int):=[AV.agg [I t,I y,I n,AV.fsl false D,AV.fsl false K],AV.fsl true [AV.agg [I 4325384,I 1,AV.bool false,AV.bool true]]]
theorem UB (t y n r:Int) (D K:List AV) (Q:AV→Prop):ax Tryz.prog opts0 40 (ap [(2,1,.res (.bool true))] [] (bg [(30,.tuple [.nilsl,I r])]) [] []) 16 [.agg (ag t y n D K)] [] 0 (fun v _ _=>Q v)=
  (SC 30 (lX D K n t y) (AV.tuple [AV.nilsl,I r])∧aM Tryz.prog BinOp.neq 3 (Operand.tmp 18) (Operand.const (Value.int IntKind.i64 0)) (I r) (I 0)=some (AV.bool true)∧Q (AV.tuple [AV.nilsl,I r])):=by kernel_rfl
@[simp] abbrev kA:=(I 0=I 0∧true=true)
@[simp] abbrev AE (L:List AV):=((AC∧(AV.fsl false L=AV.fsl false L∧ah (AV.fsl false L)=true)∧(I (Int.ofNat (aa L))=I (Int.ofNat (aa L))∧ah (I (Int.ofNat (aa L)))=true)∧kA∧True)∧True∧True)
abbrev AF (L:List AV):=(bg [(30,AV.tuple [AV.fsl false [AV.fsl false L],I 0])])
abbrev AG (L:List AV):=(AV.tuple [AV.fsl false [AV.fsl false L],I 0])
theorem UC (t y n:Int) (D K L:List AV) (Q:AV→Prop):ax Tryz.prog opts0 40 (ap [] [(7,pN L .ret ptR)] (AF L) [] []) 16 [.agg (ag t y n D K)] [] 0 (fun v _ _=>Q v)=
  (SC 30 (lX D K n t y) (AG L)∧(AE L)∧Q (AV.tuple [AV.nilsl,I 7])):=by kernel_rfl
theorem UD (t y n:Int) (D K L:List AV) (i:Nat) (Q:AV→Prop):ax Tryz.prog opts0 40 (ap [] [(7,pN L (.exit 0) (c8 L i))] (AF L) [] []) 16 [.agg (ag t y n D K)] [] 0 (fun v _ _=>Q v)=
  (SC 30 (lX D K n t y) (AG L)∧(AE L)∧Q (AV.tuple [AV.nilsl,I 0])):=by kernel_rfl
theorem UE (t y n:Int) (D K L:List AV) (i k:Nat) (es:List AV) (Q:AV→af→Prop):ax Tryz.prog opts0 40 (ap [] [(7,pN L (.exit 0) (fb L i k es))] (AF L) [] []) 16 [.agg (ag t y n D K)] [] 0 (fun v H _=>Q v H)=
  (SC 30 (lX D K n t y) (AG L)∧(AE L)∧Q (AV.tuple [AV.rsl true 0 0 k 7,I 0]) [(0,some (Blk.cells es))]):=by kernel_rfl
-- the program's template
def fc (As:List AV) (r:Int) (i:Nat) (O:List AV):View:=⟨[(7,I r),(15,.fsl false As),(16,I (.ofNat (aa As))),(17,I (.ofNat i))],[(2,.ptr 0 0),(4,.ptr 1 0)],[(0,.cells O,.whole),(1,.cells nC,.whole)],2,36⟩
def gV (r:Int) (O:List AV):View:=⟨[(7,I r)],[(2,.ptr 0 0),(4,.ptr 1 0)],[(0,.cells O,.whole),(1,.cells nC,.whole)],2,36⟩
def vW (s:List UInt8) (ix t y n:Int) (D L:List AV) (P:List AV) (e:Int) (b:Bool):aX:=ap [(4,0,.res (.fptr (.str s::I ix::ag t y n D L) 0)),(5,1,.res (.bool b))] [] (dW [(17,fun _=>some (.tuple [.agg P,I e]))]) [] []
@[simp] abbrev lY:=((some 0=some 0∧0=0)∧(some 1=some 1∧0=0)∧True)
@[simp] abbrev AH (As:List AV):=(I (Int.ofNat (aa As))=I (Int.ofNat (aa As))∧ah (I (Int.ofNat (aa As)))=true)
@[simp] abbrev AJ (As:List AV):=(AV.fsl false As=AV.fsl false As∧ah (AV.fsl false As)=true)
abbrev sE (C' L' M' N':AV) (p:Ob):=(bM Tryz.prog 38 (AV.agg (ae p M' N' L' C')) 37)
theorem UF (As:List AV) (r e e':Int) (i j:Nat) (O':List AV) (o p:Ob) (M N L C M' N' L' C':AV) (s:List UInt8) (ix t y n:Int) (D K:List AV) (Nx:Prop) (Q:AExit→St→Prop):aI Tryz.prog opts0 40 (vW s ix t y n D K (ae p M' N' L' C') e false) (aD Tryz.prog 6 4) (fc As r i (ae o M N L C)).st (bf 0 [(0,0),(1,1)] (fc As e' j O') Nx [] (fc As r i []) Q)=
  (ab (aq (Int.ofNat i) (Int.ofNat (aa As))) (aC Tryz.prog 54 (AV.fsl false As) (I (Int.ofNat i))=some (AV.fptr [AV.str s,I ix,I t,I y,I n,AV.fsl false D,AV.fsl false K] 0)∧aM Tryz.prog BinOp.neq 3 (Operand.tmp 21) (Operand.const (Value.int IntKind.i64 0)) (I r) (I 0)=some (AV.bool false)∧SC 17 [AV.agg (ae o M N L C),AV.agg [AV.str s,I ix,I t,I y,I n,AV.fsl false D,AV.fsl false K]] (AV.tuple [AV.agg (ae p M' N' L' C'),I e])∧au (sE C' L' M' N' p) ((((I e=I e'∧ah (I e')=true)∧(AJ As)∧(AH As)∧(I (ar IntKind.i64 (Int.ofNat i+1))=I (Int.ofNat j)∧ah (I (Int.ofNat j))=true)∧True)∧lY∧((ae p M' N' L' C')=O'∧ac O'=true)∧(zL=zL∧true=true)∧True)∧Nx)) ((((I r=I r∧ah (I r)=true)∧(AJ As)∧(AH As)∧(sD i)∧True)∧((none=some 0∧0=0)∧(none=some 1∧0=0)∧True)∧False∧False∧True)∧Q (AExit.exit 0) (fc As r i []).st)):=by kernel_rfl
@[simp] abbrev pO (C L M N:AV) (o:Ob):=((ae o M N L C)=(ae o M N L C)∧ac (ae o M N L C)=true)
@[simp] abbrev AK (C L M N:AV) (o:Ob) (r:Int):=(((I r=I r∧ah (I r)=true)∧True)∧lY∧(pO C L M N o)∧(zL=zL∧true=true)∧True)
theorem UG (As:List AV) (r:Int) (i:Nat) (o:Ob) (M N L C:AV) (s:List UInt8) (ix t y n:Int) (D K:List AV) (Nx:Prop) (Q:AExit→St→Prop):aI Tryz.prog opts0 40 (vW s ix t y n D K [] 0 true) (aD Tryz.prog 6 4) (fc As r i (ae o M N L C)).st (bf 0 [] (fc As r i []) Nx [(0,0),(1,1)] (gV r (ae o M N L C)) Q)=
  (ab (aq (Int.ofNat i) (Int.ofNat (aa As))) (aC Tryz.prog 54 (AV.fsl false As) (I (Int.ofNat i))=some (AV.fptr [AV.str s,I ix,I t,I y,I n,AV.fsl false D,AV.fsl false K] 0)∧aM Tryz.prog BinOp.neq 3 (Operand.tmp 21) (Operand.const (Value.int IntKind.i64 0)) (I r) (I 0)=some (AV.bool true)∧(AK C L M N o r)∧Q (AExit.exit 0) (gV r (ae o M N L C)).st) ((AK C L M N o r)∧Q (AExit.exit 0) (gV r (ae o M N L C)).st)):=by kernel_rfl
theorem H8 (As:List AV) (r:Int) (i:Nat) (o:Ob) (M N L C:AV) (Nx:Prop) (Q:AExit→St→Prop):aI Tryz.prog opts0 40 (ap [(3,0,.res (.bool false))] [] aH [] []) (aD Tryz.prog 6 4) (fc As r i (ae o M N L C)).st (bf 0 [] (fc As r i []) Nx [(0,0),(1,1)] (gV r (ae o M N L C)) Q)=
  (aM Tryz.prog BinOp.lss 3 (Operand.tmp 17) (Operand.tmp 16) (I (Int.ofNat i)) (I (Int.ofNat (aa As)))=some (AV.bool false)∧(AK C L M N o r)∧Q (AExit.exit 0) (gV r (ae o M N L C)).st):=by kernel_rfl
def H9 (As O:List AV) (F:View):bq:=fun st Q=>ck 0 [(0,0),(1,2)] (fc As 0 0 O) st∧Q (.exit 0) F.st
theorem UH (o:Ob) (M N L C:AV) (t y n r:Int) (D K:List AV) (Q:AV→Prop):ax Tryz.prog opts0 40 (ap [(8,1,.res (.bool true))] [] (bg [(16,.tuple [.nilsl,I r])]) [] []) 6 [.agg (ae o M N L C),.agg (ag t y n D K)] [] 0 (fun v _ _=>Q v)=
  (SC 16 [AV.agg [I t,I y,I n,AV.fsl false D,AV.fsl false K]] (AV.tuple [AV.nilsl,I r])∧aM Tryz.prog BinOp.neq 3 (Operand.tmp 30) (Operand.const (Value.int IntKind.i64 0)) (I r) (I 0)=some (AV.bool true)∧Q (AV.tuple [AV.agg zL,I r])):=by kernel_rfl
@[simp] abbrev Ia:=((some 0=some 0∧0=0)∧(some 2=some 2∧0=0)∧True)
theorem UI (o p:Ob) (M N L C M' N' L' C':AV) (t y n r:Int) (D K As:List AV) (Q:AV→Prop):ax Tryz.prog opts0 40 (ap [] [(4,H9 As (ae o M N L C) (gV r (ae p M' N' L' C')))] (dW [(16,fun _=>some (.tuple [.fsl false As,I 0])),(18,fun _=>some (.agg (ae p M' N' L' C')))]) [] []) 6 [.agg (ae o M N L C),.agg (ag t y n D K)] [] 0 (fun v _ _=>Q v)=
  (SC 16 [AV.agg [I t,I y,I n,AV.fsl false D,AV.fsl false K]] (AV.tuple [AV.fsl false As,I 0])∧((kA∧(AJ As)∧(AH As)∧kA∧True)∧Ia∧(pO C L M N o)∧(zL=zL∧true=true)∧True)∧ab (!ak r 0) (Q (AV.tuple [AV.agg zL,I r])) (SC 18 [AV.agg (ae p M' N' L' C')] (AV.agg (ae p M' N' L' C'))∧au (sE C' L' M' N' p) (Q (AV.tuple [AV.agg (ae p M' N' L' C'),I 0])))):=by kernel_rfl
-- the reference's template
def eg (K:List AV) (i:Nat) (O:List AV):View:=⟨[(6,.fsl false [.fsl false K]),(7,I 0),(8,I (.ofNat i))],[(2,.ptr 0 0),(4,.ptr 1 0)],[(0,.cells O,.whole),(1,.cells nC,.whole)],2,75⟩
def eM (K:List AV) (i:Nat) (O:List AV):View:=⟨[(6,.fsl false [.fsl false K]),(7,I 0),(11,I (.ofNat i))],[(2,.ptr 0 0),(4,.ptr 1 0)],[(0,.cells O,.whole),(1,.cells nC,.whole)],2,75⟩
def eN (r:Int):View:=⟨[(5,I r)],[(4,.ptr 0 0)],[(0,.cells nC,.whole)],2,75⟩
def vX (t y n:Int) (D L:List AV) (s:List UInt8) (ix at' ay an:Int) (AD AL:List AV) (ok:Bool):aX:=ap [(5,5,.res (.bool true)),(7,4,.res (.fptr (ag t y n D L) 0))] [] (dW [(21,fun _=>some (.tuple [.agg (.str s::I ix::ag at' ay an AD AL),.bool ok]))]) [] []
@[simp] abbrev vY (K:List AV):=(AV.fsl false [AV.fsl false K]=AV.fsl false [AV.fsl false K]∧ah (AV.fsl false [AV.fsl false K])=true)
theorem UJ (K:List AV) (i j:Nat) (O:List AV) (t y n:Int) (D L:List AV) (s:List UInt8) (ix at' ay an:Int) (AD AL:List AV) (Nx:Prop) (Q:AExit→St→Prop):aI Tryz.prog opts0 40 (vX t y n D L s ix at' ay an AD AL true) (aD Tryz.prog 7 6) (eg K i O).st (bf 0 [(0,0),(1,1)] (eg K j O) Nx [] (eN 7) Q)=
  (aM Tryz.prog BinOp.lss 3 (Operand.tmp 25) (Operand.tmp 29) (I (Int.ofNat i)) (I (Int.ofNat (aa K)))=some (AV.bool true)∧aC Tryz.prog 24 (AV.fsl false K) (I (Int.ofNat i))=some (AV.fptr (iu D L n t y) 0)∧SC 21 [AV.agg (iu D L n t y)] (AV.tuple [AV.agg [AV.str s,I ix,I at',I ay,I an,AV.fsl false AD,AV.fsl false AL],AV.bool true])∧(((vY K)∧kA∧(I (ar IntKind.i64 (Int.ofNat i+1))=I (Int.ofNat j)∧ah (I (Int.ofNat j))=true)∧True)∧lY∧(O=O∧ac O=true)∧(zL=zL∧true=true)∧True)∧Nx):=by kernel_rfl
theorem UK (K:List AV) (i:Nat) (O:List AV) (t y n:Int) (D L:List AV) (s:List UInt8) (ix at' ay an:Int) (AD AL:List AV) (Nx:Prop) (Q:AExit→St→Prop):aI Tryz.prog opts0 40 (vX t y n D L s ix at' ay an AD AL false) (aD Tryz.prog 7 6) (eg K i O).st (bf 0 [] (eg K i O) Nx [(0,1)] (eN 7) Q)=
  (aM Tryz.prog BinOp.lss 3 (Operand.tmp 25) (Operand.tmp 29) (I (Int.ofNat i)) (I (Int.ofNat (aa K)))=some (AV.bool true)∧aC Tryz.prog 24 (AV.fsl false K) (I (Int.ofNat i))=some (AV.fptr (iu D L n t y) 0)∧SC 21 [AV.agg (iu D L n t y)] (AV.tuple [AV.agg [AV.str s,I ix,I at',I ay,I an,AV.fsl false AD,AV.fsl false AL],AV.bool false])∧(((I 7=I 7∧true=true)∧True)∧((some 1=some 1∧0=0)∧True)∧(zL=zL∧true=true)∧True)∧Q AExit.ret (eN 7).st):=by kernel_rfl
theorem UL (K:List AV) (i:Nat) (O:List AV) (Nx:Prop) (Q:AExit→St→Prop):aI Tryz.prog opts0 40 (ap [(5,5,.res (.bool false))] [] aH [] []) (aD Tryz.prog 7 6) (eg K i O).st (bf 0 [] (eg K i O) Nx [(0,0),(1,1)] (eg K i O) Q)=
  (aM Tryz.prog BinOp.lss 3 (Operand.tmp 25) (Operand.tmp 29) (I (Int.ofNat i)) (I (Int.ofNat (aa K)))=some (AV.bool false)∧(((vY K)∧kA∧(sD i)∧True)∧lY∧(O=O∧ac O=true)∧(zL=zL∧true=true)∧True)∧Q (AExit.exit 0) (eg K i O).st):=by kernel_rfl
def vZ (t y n:Int) (D L:List AV) (s:List UInt8) (ix at' ay an:Int) (AD AL P:List AV) (e:Int) (b:Bool):aX:=ap [(11,5,.res (.bool true)),(13,4,.res (.fptr (ag t y n D L) 0)),(15,1,.res (.bool b))] [] (dW [(21,fun _=>some (.tuple [.agg (.str s::I ix::ag at' ay an AD AL),.bool true])),(22,fun _=>some (.tuple [.agg P,I e]))]) [] []
theorem UM (K:List AV) (i j:Nat) (O':List AV) (o p:Ob) (M N L C M' N' L' C':AV) (t y n:Int) (D G:List AV) (s:List UInt8) (ix at' ay an:Int) (AD AL:List AV) (Nx:Prop) (Q:AExit→St→Prop):aI Tryz.prog opts0 40 (vZ t y n D G s ix at' ay an AD AL (ae p M' N' L' C') 0 false) (aD Tryz.prog 7 12) (eM K i (ae o M N L C)).st (bf 0 [(0,0),(1,1)] (eM K j O') Nx [] (eN 7) Q)=
  (aM Tryz.prog BinOp.lss 3 (Operand.tmp 46) (Operand.tmp 50) (I (Int.ofNat i)) (I (Int.ofNat (aa K)))=some (AV.bool true)∧aC Tryz.prog 24 (AV.fsl false K) (I (Int.ofNat i))=some (AV.fptr [I t,I y,I n,AV.fsl false D,AV.fsl false G] 0)∧SC 21 [AV.agg [I t,I y,I n,AV.fsl false D,AV.fsl false G]] (AV.tuple [AV.agg [AV.str s,I ix,I at',I ay,I an,AV.fsl false AD,AV.fsl false AL],AV.bool true])∧SC 22 [AV.agg (ae o M N L C),AV.agg [AV.str s,I ix,I at',I ay,I an,AV.fsl false AD,AV.fsl false AL]] (AV.tuple [AV.agg (ae p M' N' L' C'),I 0])∧au (sE C' L' M' N' p) (aM Tryz.prog BinOp.neq 3 (Operand.tmp 70) (Operand.const (Value.int IntKind.i64 0)) (I 0) (I 0)=some (AV.bool false)∧(((vY K)∧kA∧(I (ar IntKind.i64 (Int.ofNat i+1))=I (Int.ofNat j)∧ah (I (Int.ofNat j))=true)∧True)∧lY∧((ae p M' N' L' C')=O'∧ac O'=true)∧(zL=zL∧true=true)∧True)∧Nx)):=by kernel_rfl
theorem UN (K:List AV) (i:Nat) (e:Int) (o p:Ob) (M N L C M' N' L' C':AV) (t y n:Int) (D G:List AV) (s:List UInt8) (ix at' ay an:Int) (AD AL:List AV) (Nx:Prop) (Q:AExit→St→Prop):aI Tryz.prog opts0 40 (vZ t y n D G s ix at' ay an AD AL (ae p M' N' L' C') e true) (aD Tryz.prog 7 12) (eM K i (ae o M N L C)).st (bf 0 [] (eM K i []) Nx [(0,1)] (eN e) Q)=
  (aM Tryz.prog BinOp.lss 3 (Operand.tmp 46) (Operand.tmp 50) (I (Int.ofNat i)) (I (Int.ofNat (aa K)))=some (AV.bool true)∧aC Tryz.prog 24 (AV.fsl false K) (I (Int.ofNat i))=some (AV.fptr [I t,I y,I n,AV.fsl false D,AV.fsl false G] 0)∧SC 21 [AV.agg [I t,I y,I n,AV.fsl false D,AV.fsl false G]] (AV.tuple [AV.agg [AV.str s,I ix,I at',I ay,I an,AV.fsl false AD,AV.fsl false AL],AV.bool true])∧SC 22 [AV.agg (ae o M N L C),AV.agg [AV.str s,I ix,I at',I ay,I an,AV.fsl false AD,AV.fsl false AL]] (AV.tuple [AV.agg (ae p M' N' L' C'),I e])∧au (sE C' L' M' N' p) (aM Tryz.prog BinOp.neq 3 (Operand.tmp 70) (Operand.const (Value.int IntKind.i64 0)) (I e) (I 0)=some (AV.bool true)∧(((I e=I e∧ah (I e)=true)∧True)∧((some 1=some 1∧0=0)∧True)∧(zL=zL∧true=true)∧True)∧Q AExit.ret (eN e).st)):=by kernel_rfl
theorem UO (K:List AV) (i:Nat) (o:Ob) (M N L C:AV) (Nx:Prop) (Q:AExit→St→Prop):aI Tryz.prog opts0 40 (ap [(11,5,.res (.bool false))] [] aH [] []) (aD Tryz.prog 7 12) (eM K i (ae o M N L C)).st (bf 0 [] (eM K i []) Nx [(0,0),(1,1)] (eM K i (ae o M N L C)) Q)=
  (aM Tryz.prog BinOp.lss 3 (Operand.tmp 46) (Operand.tmp 50) (I (Int.ofNat i)) (I (Int.ofNat (aa K)))=some (AV.bool false)∧(((vY K)∧kA∧(sD i)∧True)∧lY∧(pO C L M N o)∧(zL=zL∧true=true)∧True)∧Q (AExit.exit 2) (eM K i (ae o M N L C)).st):=by kernel_rfl
def pP (K O:List AV) (e:AExit) (F:View):bq:=fun st Q=>ck 0 [(0,0),(1,2)] (eg K 0 O) st∧Q e F.st
def v4 (K O:List AV) (e:AExit) (F:View):bq:=fun st Q=>ck 0 [(0,0),(1,1)] (eM K 0 O) st∧Q e F.st
def pQ (K:List AV) (l:List (Nat × bq)) (b:Bool):aX:=ap [(2,1,.res (.bool b))] l (dW [(19,fun _=>some (.tuple [.fsl false [.fsl false K],I 0]))]) [20] []
theorem UP (o:Ob) (M N L C:AV) (t y n r:Int) (D K:List AV) (Q:AV→Prop):ax Tryz.prog opts0 40 (ap [(2,1,.res (.bool true))] [] (bg [(19,.tuple [.nilsl,I r])]) [20] []) 7 [.agg (ae o M N L C),.agg (ag t y n D K)] [] 0 (fun v _ _=>Q v)=
  (SC 19 (lX D K n t y) (AV.tuple [AV.nilsl,I r])∧aM Tryz.prog BinOp.neq 3 (Operand.tmp 21) (Operand.const (Value.int IntKind.i64 0)) (I r) (I 0)=some (AV.bool true)∧Q (AV.tuple [AV.agg zL,I r])):=by kernel_rfl
@[simp] abbrev AM (G:List AV):=((AV.fsl false [AV.fsl false G]=AV.fsl false [AV.fsl false G]∧ah (AV.fsl false [AV.fsl false G])=true)∧kA∧kA∧True)
@[simp] abbrev AN (C L M N:AV) (G:List AV) (o:Ob):=((AM G)∧Ia∧(pO C L M N o)∧(zL=zL∧true=true)∧True)
abbrev AO (G:List AV):=(AV.tuple [AV.fsl false [AV.fsl false G],I 0])
theorem UQ (o:Ob) (M N L C:AV) (t y n:Int) (D K G:List AV) (Q:AV→Prop):ax Tryz.prog opts0 40 (pQ G [(6,pP G (ae o M N L C) .ret (eN 7))] false) 7 [.agg (ae o M N L C),.agg (ag t y n D K)] [] 0 (fun v _ _=>Q v)=
  (SC 19 (lX D K n t y) (AO G)∧aM Tryz.prog BinOp.neq 3 (Operand.tmp 21) (Operand.const (Value.int IntKind.i64 0)) (I 0) (I 0)=some (AV.bool false)∧(AN C L M N G o)∧Q (AV.tuple [AV.agg zL,I 7])):=by kernel_rfl
theorem UR (o:Ob) (M N L C:AV) (t y n e:Int) (i:Nat) (D K G:List AV) (Q:AV→Prop):ax Tryz.prog opts0 40 (pQ G [(6,pP G (ae o M N L C) (.exit 0) (eg G i (ae o M N L C))),(12,v4 G (ae o M N L C) .ret (eN e))] false) 7 [.agg (ae o M N L C),.agg (ag t y n D K)] [] 0 (fun v _ _=>Q v)=
  (SC 19 (lX D K n t y) (AO G)∧aM Tryz.prog BinOp.neq 3 (Operand.tmp 21) (Operand.const (Value.int IntKind.i64 0)) (I 0) (I 0)=some (AV.bool false)∧(AN C L M N G o)∧((AM G)∧lY∧(pO C L M N o)∧(zL=zL∧true=true)∧True)∧Q (AV.tuple [AV.agg zL,I e])):=by kernel_rfl
theorem US (o p:Ob) (M N L C M' N' L' C':AV) (t y n:Int) (i j:Nat) (D K G:List AV) (Q:AV→Prop):ax Tryz.prog opts0 40 (pQ G [(6,pP G (ae o M N L C) (.exit 0) (eg G i (ae o M N L C))),(12,v4 G (ae o M N L C) (.exit 2) (eM G j (ae p M' N' L' C')))] false) 7 [.agg (ae o M N L C),.agg (ag t y n D K)] [] 0 (fun v _ _=>Q v)=
  (SC 19 (lX D K n t y) (AO G)∧aM Tryz.prog BinOp.neq 3 (Operand.tmp 21) (Operand.const (Value.int IntKind.i64 0)) (I 0) (I 0)=some (AV.bool false)∧(AN C L M N G o)∧((AM G)∧lY∧(pO C L M N o)∧(zL=zL∧true=true)∧True)∧au (sE C' L' M' N' p) (Q (AV.tuple [AV.agg (ae p M' N' L' C'),I 0]))):=by kernel_rfl
end
noncomputable section
abbrev v5 (s:List UInt8):=[I 4325386,I 7,I 0,AV.fsl false (ai s),AV.nilsl]
abbrev v6 (D K:List AV) (n t y:Int) (s:List UInt8):=[I 4325384,I 1,I 0,AV.nilsl,AV.rsl true 35 0 (aa [AV.agg (v5 s)]+aa [AV.agg [I t,I y,I n,AV.fsl false D,AV.fsl false K]]) 5]
theorem UT (s:List UInt8) (t y n:Int) (D K:List AV) (Q:AV→af→Prop):ax Tryz.prog opts0 40 (ap [] [] aH [27,28,10] []) 11 [.str s,.agg (ag t y n D K)] [] 0 (fun v H _=>Q v H)=
  (Q (AV.agg (v6 D K n t y s)) [(35,some (Blk.cells (flat [AV.agg (v5 s)]++flat [AV.agg [I t,I y,I n,AV.fsl false D,AV.fsl false K]]))),(22,some (Blk.cells [I 4325384,I 1,I 0,AV.nilsl,AV.fsl true [AV.agg (v5 s)]])),(16,some (Blk.cells (v5 s))),(14,some (Blk.cells (v6 D K n t y s))),(8,some (Blk.cells (v6 D K n t y s))),(7,some (Blk.cells [AV.str s,I 0,I t,I y,I n,AV.fsl false D,AV.fsl false K])),(1,some (Blk.cells (v6 D K n t y s))),(0,some (Blk.cells [I t,I y,I n,AV.fsl false D,AV.fsl false K]))]):=by kernel_rfl
def lZ (r:AV):List AV:=[I 4325521,I 1,I 0,.nilsl,r]
def cI (Rs:List AV) (i k:Nat) (es:List AV):View:=⟨[(2,.fsl false Rs),(10,I (.ofNat i))],[(8,.ptr 7 0),(9,.ptr 6 0)],[(6,.cells (lZ (.rsl true 8 0 k 5)),.rel),(7,.cells [I 0,I 0,I 0,.nilsl,.nilsl],.whole),(8,.cells es,.whole)],9,80⟩
def Ib (y:Rw) (p:Int) (s:List UInt8) (vt vy vn ut uy un:Int) (vD vL uD uL:List AV):aX:=ap [(9,3,.res (.bool true)),(9,6,.res (.bool true)),(11,2,.res (.fptr (rE y) 0)),(12,4,.res (.str s))] [] (dW [(13,fun _=>some (I p)),(14,fun _=>some (.agg (ag vt vy vn vD vL))),(11,fun _=>some (.agg (ag ut uy un uD uL)))]) [] []
abbrev AP:=[I 0,I 0,I 0,AV.nilsl,AV.nilsl]
@[simp] abbrev pR:=(AP=AP∧true=true)
abbrev sF (uD uL:List AV) (un ut uy:Int):=[AV.agg [I ut,I uy,I un,AV.fsl false uD,AV.fsl false uL]]
@[simp] abbrev AQ (Rs:List AV):=(AV.fsl false Rs=AV.fsl false Rs∧ah (AV.fsl false Rs)=true)
@[simp] abbrev Ic:=((some 7=some 7∧0=0)∧(some 6=some 6∧0=0)∧True)
theorem UU (Rs:List AV) (i j k k':Nat) (es es':List AV) (y:Rw) (p:Int) (s:List UInt8) (vt vy vn ut uy un:Int) (vD vL uD uL:List AV) (Nx:Prop) (Q:AExit→St→Prop):aI Tryz.prog opts0 40 (Ib y p s vt vy vn ut uy un vD vL uD uL) (aD Tryz.prog 4 10) (cI Rs i (k+1) es).st (bf 6 [(0,0),(1,1),(2,2),(3,3),(4,4),(5,5),(6,6),(7,7),(8,37)] (cI Rs j k' es') Nx [] (cI Rs i k []) Q)=
  (aM Tryz.prog BinOp.lss 3 (Operand.tmp 50) (Operand.tmp 52) (I (Int.ofNat i)) (I (Int.ofNat (aa Rs)))=some (AV.bool true)∧aM Tryz.prog BinOp.lss 3 (Operand.tmp 55) (Operand.const (Value.int IntKind.i64 4)) (I (Int.ofNat i)) (I 4)=some (AV.bool true)∧aC Tryz.prog 22 (AV.fsl false Rs) (I (Int.ofNat i))=some (AV.fptr [I y.1,I y.2,I y.3,I y.4] 0)∧SC 13 [I y.1,I 10] (I p)∧cm Tryz.prog 51 (AV.agg [AV.str [78,97,109,101],AV.str [65,99,116,105,118,97,116,105,111,110,32,68,97,116,101],AV.str [65,99,116,105,118,97,116,105,111,110,32,68,97,116,101],AV.str [68,101,97,99,116,105,118,97,116,105,111,110,32,68,97,116,101],AV.str [85,115,97,103,101,32,76,105,109,105,116,115],AV.str [120,45,97],AV.str [80,114,111,99,101,115,115,32,83,116,97,114,116,32,68,97,116,101],AV.str [80,114,111,116,101,99,116,32,83,116,111,112,32,68,97,116,101],AV.str [76,105,110,107],AV.str [83,116,97,116,101]]) (I p)=some (AV.str s)∧SC 14 [AV.str s,AV.agg [I y.1,I y.2,I y.3,I y.4]] (AV.agg [I vt,I vy,I vn,AV.fsl false vD,AV.fsl false vL])∧SC 11 [AV.str s,AV.agg [I vt,I vy,I vn,AV.fsl false vD,AV.fsl false vL]] (AV.agg [I ut,I uy,I un,AV.fsl false uD,AV.fsl false uL])∧au (a8 5 (sF uD uL un ut uy)&&(((k+1+aa (sF uD uL un ut uy))*72).ble 140737488355328&&(bc (flat (sF uD uL un ut uy))&&true))) (au ((aa es).beq ((k+1)*5)) ((((AQ Rs)∧(I (ar IntKind.i64 (Int.ofNat i+1))=I (Int.ofNat j)∧ah (I (Int.ofNat j))=true)∧True)∧Ic∧df [(0,0),(1,1),(2,2),(3,3),(4,4),(5,5),(6,6),(7,7),(8,37)] [I 4325521,I 1,I 0,AV.nilsl,AV.rsl true 8 0 k' 5] [I 4325521,I 1,I 0,AV.nilsl,AV.rsl true 37 0 (k+1+aa (sF uD uL un ut uy)) 5]∧pR∧(es++flat (sF uD uL un ut uy)=es'∧ac es'=true)∧True)∧Nx))):=by kernel_rfl
@[simp] abbrev Id (Rs es:List AV) (i k:Nat):=(((AQ Rs)∧(I (Int.ofNat i)=I (Int.ofNat i)∧ah (I (Int.ofNat i))=true)∧True)∧Ic∧df [(0,0),(1,1),(2,2),(3,3),(4,4),(5,5),(6,6),(7,7),(8,8)] [I 4325521,I 1,I 0,AV.nilsl,AV.rsl true 8 0 k 5] [I 4325521,I 1,I 0,AV.nilsl,AV.rsl true 8 0 k 5]∧pR∧(es=es∧ac es=true)∧True)
theorem UV (Rs:List AV) (i k:Nat) (es:List AV) (Nx:Prop) (Q:AExit→St→Prop):aI Tryz.prog opts0 40 (ap [(9,3,.res (.bool false))] [] aH [] []) (aD Tryz.prog 4 10) (cI Rs i k es).st (bf 6 [] (cI Rs i k []) Nx [(0,0),(1,1),(2,2),(3,3),(4,4),(5,5),(6,6),(7,7),(8,8)] (cI Rs i k es) Q)=
  (aM Tryz.prog BinOp.lss 3 (Operand.tmp 50) (Operand.tmp 52) (I (Int.ofNat i)) (I (Int.ofNat (aa Rs)))=some (AV.bool false)∧(Id Rs es i k)∧Q (AExit.exit 0) (cI Rs i k es).st):=by kernel_rfl
theorem UW (Rs:List AV) (i k:Nat) (es:List AV) (Nx:Prop) (Q:AExit→St→Prop):aI Tryz.prog opts0 40 (ap [(9,3,.res (.bool true)),(9,6,.res (.bool false))] [] aH [] []) (aD Tryz.prog 4 10) (cI Rs i k es).st (bf 6 [] (cI Rs i k []) Nx [(0,0),(1,1),(2,2),(3,3),(4,4),(5,5),(6,6),(7,7),(8,8)] (cI Rs i k es) Q)=
  (aM Tryz.prog BinOp.lss 3 (Operand.tmp 50) (Operand.tmp 52) (I (Int.ofNat i)) (I (Int.ofNat (aa Rs)))=some (AV.bool true)∧aM Tryz.prog BinOp.lss 3 (Operand.tmp 55) (Operand.const (Value.int IntKind.i64 4)) (I (Int.ofNat i)) (I 4)=some (AV.bool false)∧(Id Rs es i k)∧Q (AExit.exit 0) (cI Rs i k es).st):=by kernel_rfl
def l7 (Rs:List AV) (b k:Nat) (es:List AV) (F:View):bq:=fun st Q=>ck 6 [(0,0),(1,1),(2,2),(3,3),(4,4),(5,5),(6,8),(7,6),(8,b)] (cI Rs 0 k es) st∧Q (.exit 0) F.st
def UX (a0 a1 a2:AV):List AV→Option AV
 | [.str s,_]=>match Nat.beq s.length 23 with
  |true=>some a0
  |false=>match Nat.beq s.length 20 with
   |true=>some a1
   |false=>some a2
 |_=>none
def l8 (l:List (Nat × bq)) (b1 b2 b3:Bool) (p m:Int) (a0 a1 a2:AV):aX:=ap [(2,2,.res (.bool b1)),(4,2,.res (.bool b2)),(6,2,.res (.bool b3)),(7,5,.res (I m))] l (dW [(13,fun _=>some (I p)),(11,UX a0 a1 a2)]) [10,12] []
abbrev pS (kk:Nat):=[I 4325521,I 1,I 0,AV.nilsl,AV.rsl true 8 0 kk 5]
abbrev v7 (es':List AV) (kk:Nat):=[(7,some (Blk.cells (pS kk))),(6,some (Blk.cells (pS kk))),(7,some (Blk.cells AP)),(8,some (Blk.cells es'))]
abbrev AU (m:Int):=[AV.str [67,114,121,112,116,111,103,114,97,112,104,105,99,32,85,115,97,103,101,32,77,97,115,107],AV.agg [I 4325387,I 2,I m,AV.nilsl,AV.nilsl]]
abbrev AW (al:Int):=[AV.str [67,114,121,112,116,111,103,114,97,112,104,105,99,32,65,108,103,111,114,105,116,104,109],AV.agg [I 4325387,I 5,I al,AV.nilsl,AV.nilsl]]
@[simp] abbrev v8 (Rs:List AV):=((AQ Rs)∧(I 0=I 0∧true=true)∧True)
abbrev AX (le:Int):=[AV.str [67,114,121,112,116,111,103,114,97,112,104,105,99,32,76,101,110,103,116,104],AV.agg [I 4325387,I 2,I le,AV.nilsl,AV.nilsl]]
@[simp] abbrev v9:=((some 6=some 6∧0=0)∧(some 8=some 8∧0=0)∧True)
abbrev pT (D0 L0:List AV) (n0 t0 y0:Int):=[I t0,I y0,I n0,AV.fsl false D0,AV.fsl false L0]
abbrev pU (D1 L1:List AV) (n1 t1 y1:Int):=[I t1,I y1,I n1,AV.fsl false D1,AV.fsl false L1]
abbrev pV (D2 L2:List AV) (n2 t2 y2:Int):=[I t2,I y2,I n2,AV.fsl false D2,AV.fsl false L2]
abbrev AY (D0 D1 D2 L0 L1 L2:List AV) (n0 n1 n2 t0 t1 t2 y0 y1 y2:Int):=[I t0,I y0,I n0,AV.fsl false D0,AV.fsl false L0,I t1,I y1,I n1,AV.fsl false D1,AV.fsl false L1,I t2,I y2,I n2,AV.fsl false D2,AV.fsl false L2]
abbrev AZ:=(AV.agg [I 396,I 396,I 12,I 384,I 4,I 0])
theorem UY (Rs:List AV) (p m lack al le:Int) (D0 D1 D2 L0 L1 L2:List AV) (t0 y0 n0 t1 y1 n1 t2 y2 n2:Int) (ii kk:Nat) (es':List AV) (Q:AV→af→Nat→Prop):ax Tryz.prog opts0 40 (l8 [(10,l7 Rs 63 3 (ag t0 y0 n0 D0 L0++(ag t1 y1 n1 D1 L1++ag t2 y2 n2 D2 L2)) (cI Rs ii kk es'))] true true true p m (.agg (ag t0 y0 n0 D0 L0)) (.agg (ag t1 y1 n1 D1 L1)) (.agg (ag t2 y2 n2 D2 L2))) 4 [I al,I le,.fsl false Rs,I lack] [] 6 Q=
  (aM Tryz.prog BinOp.neq 3 (Operand.tmp 15) (Operand.const (Value.int IntKind.i64 1)) (I (lack.tmod 11)) (I 1)=some (AV.bool true)∧SC 11 (AW al) (AV.agg (pT D0 L0 n0 t0 y0))∧aM Tryz.prog BinOp.neq 3 (Operand.tmp 26) (Operand.const (Value.int IntKind.i64 2)) (I (lack.tmod 11)) (I 2)=some (AV.bool true)∧SC 11 (AX le) (AV.agg (pU D1 L1 n1 t1 y1))∧aM Tryz.prog BinOp.neq 3 (Operand.tmp 37) (Operand.const (Value.int IntKind.i64 3)) (I (lack.tmod 11)) (I 3)=some (AV.bool true)∧SC 13 [I lack,I 6] (I p)∧cm Tryz.prog 47 AZ (I p)=some (I m)∧SC 11 (AU m) (AV.agg (pV D2 L2 n2 t2 y2))∧((v8 Rs)∧v9∧df [(0,0),(1,1),(2,2),(3,3),(4,4),(5,5),(6,8),(7,6),(8,63)] [I 4325521,I 1,I 0,AV.nilsl,AV.rsl true 8 0 3 5] [I 4325521,I 1,I 0,AV.nilsl,AV.rsl true 63 0 (aa [AV.agg (pT D0 L0 n0 t0 y0)]+aa [AV.agg (pU D1 L1 n1 t1 y1)]+aa [AV.agg (pV D2 L2 n2 t2 y2)]) 5]∧pR∧((AY D0 D1 D2 L0 L1 L2 n0 n1 n2 t0 t1 t2 y0 y1 y2)=(AY D0 D1 D2 L0 L1 L2 n0 n1 n2 t0 t1 t2 y0 y1 y2)∧ac (AY D0 D1 D2 L0 L1 L2 n0 n1 n2 t0 t1 t2 y0 y1 y2)=true)∧True)∧Q (AV.agg (pS kk)) (v7 es' kk) 11):=by kernel_rfl
abbrev A0:=[I 4325521,I 1,I 0,AV.nilsl,AV.rsl true 8 0 2 5]
theorem UZ (Rs:List AV) (p m lack al le:Int) (D0 D1 D2 L0 L1 L2:List AV) (t0 y0 n0 t1 y1 n1 t2 y2 n2:Int) (ii kk:Nat) (es':List AV) (Q:AV→af→Nat→Prop):ax Tryz.prog opts0 40 (l8 [(10,l7 Rs 48 2 (ag t1 y1 n1 D1 L1++ag t2 y2 n2 D2 L2) (cI Rs ii kk es'))] false true true p m (.agg (ag t0 y0 n0 D0 L0)) (.agg (ag t1 y1 n1 D1 L1)) (.agg (ag t2 y2 n2 D2 L2))) 4 [I al,I le,.fsl false Rs,I lack] [] 6 Q=
  (aM Tryz.prog BinOp.neq 3 (Operand.tmp 15) (Operand.const (Value.int IntKind.i64 1)) (I (lack.tmod 11)) (I 1)=some (AV.bool false)∧aM Tryz.prog BinOp.neq 3 (Operand.tmp 26) (Operand.const (Value.int IntKind.i64 2)) (I (lack.tmod 11)) (I 2)=some (AV.bool true)∧SC 11 (AX le) (AV.agg (pU D1 L1 n1 t1 y1))∧aM Tryz.prog BinOp.neq 3 (Operand.tmp 37) (Operand.const (Value.int IntKind.i64 3)) (I (lack.tmod 11)) (I 3)=some (AV.bool true)∧SC 13 [I lack,I 6] (I p)∧cm Tryz.prog 47 AZ (I p)=some (I m)∧SC 11 (AU m) (AV.agg (pV D2 L2 n2 t2 y2))∧((v8 Rs)∧v9∧df [(0,0),(1,1),(2,2),(3,3),(4,4),(5,5),(6,8),(7,6),(8,48)] A0 [I 4325521,I 1,I 0,AV.nilsl,AV.rsl true 48 0 (aa [AV.agg (pU D1 L1 n1 t1 y1)]+aa [AV.agg (pV D2 L2 n2 t2 y2)]) 5]∧pR∧([I t1,I y1,I n1,AV.fsl false D1,AV.fsl false L1,I t2,I y2,I n2,AV.fsl false D2,AV.fsl false L2]=[I t1,I y1,I n1,AV.fsl false D1,AV.fsl false L1,I t2,I y2,I n2,AV.fsl false D2,AV.fsl false L2]∧ac [I t1,I y1,I n1,AV.fsl false D1,AV.fsl false L1,I t2,I y2,I n2,AV.fsl false D2,AV.fsl false L2]=true)∧True)∧Q (AV.agg (pS kk)) (v7 es' kk) 11):=by kernel_rfl
theorem U0 (Rs:List AV) (p m lack al le:Int) (D0 D1 D2 L0 L1 L2:List AV) (t0 y0 n0 t1 y1 n1 t2 y2 n2:Int) (ii kk:Nat) (es':List AV) (Q:AV→af→Nat→Prop):ax Tryz.prog opts0 40 (l8 [(10,l7 Rs 48 2 (ag t0 y0 n0 D0 L0++ag t2 y2 n2 D2 L2) (cI Rs ii kk es'))] true false true p m (.agg (ag t0 y0 n0 D0 L0)) (.agg (ag t1 y1 n1 D1 L1)) (.agg (ag t2 y2 n2 D2 L2))) 4 [I al,I le,.fsl false Rs,I lack] [] 6 Q=
  (aM Tryz.prog BinOp.neq 3 (Operand.tmp 15) (Operand.const (Value.int IntKind.i64 1)) (I (lack.tmod 11)) (I 1)=some (AV.bool true)∧SC 11 (AW al) (AV.agg (pT D0 L0 n0 t0 y0))∧aM Tryz.prog BinOp.neq 3 (Operand.tmp 26) (Operand.const (Value.int IntKind.i64 2)) (I (lack.tmod 11)) (I 2)=some (AV.bool false)∧aM Tryz.prog BinOp.neq 3 (Operand.tmp 37) (Operand.const (Value.int IntKind.i64 3)) (I (lack.tmod 11)) (I 3)=some (AV.bool true)∧SC 13 [I lack,I 6] (I p)∧cm Tryz.prog 47 AZ (I p)=some (I m)∧SC 11 (AU m) (AV.agg (pV D2 L2 n2 t2 y2))∧((v8 Rs)∧v9∧df [(0,0),(1,1),(2,2),(3,3),(4,4),(5,5),(6,8),(7,6),(8,48)] A0 [I 4325521,I 1,I 0,AV.nilsl,AV.rsl true 48 0 (aa [AV.agg (pT D0 L0 n0 t0 y0)]+aa [AV.agg (pV D2 L2 n2 t2 y2)]) 5]∧pR∧([I t0,I y0,I n0,AV.fsl false D0,AV.fsl false L0,I t2,I y2,I n2,AV.fsl false D2,AV.fsl false L2]=[I t0,I y0,I n0,AV.fsl false D0,AV.fsl false L0,I t2,I y2,I n2,AV.fsl false D2,AV.fsl false L2]∧ac [I t0,I y0,I n0,AV.fsl false D0,AV.fsl false L0,I t2,I y2,I n2,AV.fsl false D2,AV.fsl false L2]=true)∧True)∧Q (AV.agg (pS kk)) (v7 es' kk) 11):=by kernel_rfl
theorem U1 (Rs:List AV) (p m lack al le:Int) (D0 D1 D2 L0 L1 L2:List AV) (t0 y0 n0 t1 y1 n1 t2 y2 n2:Int) (ii kk:Nat) (es':List AV) (Q:AV→af→Nat→Prop):ax Tryz.prog opts0 40 (l8 [(10,l7 Rs 42 2 (ag t0 y0 n0 D0 L0++ag t1 y1 n1 D1 L1) (cI Rs ii kk es'))] true true false p m (.agg (ag t0 y0 n0 D0 L0)) (.agg (ag t1 y1 n1 D1 L1)) (.agg (ag t2 y2 n2 D2 L2))) 4 [I al,I le,.fsl false Rs,I lack] [] 6 Q=
  (aM Tryz.prog BinOp.neq 3 (Operand.tmp 15) (Operand.const (Value.int IntKind.i64 1)) (I (lack.tmod 11)) (I 1)=some (AV.bool true)∧SC 11 (AW al) (AV.agg (pT D0 L0 n0 t0 y0))∧aM Tryz.prog BinOp.neq 3 (Operand.tmp 26) (Operand.const (Value.int IntKind.i64 2)) (I (lack.tmod 11)) (I 2)=some (AV.bool true)∧SC 11 (AX le) (AV.agg (pU D1 L1 n1 t1 y1))∧aM Tryz.prog BinOp.neq 3 (Operand.tmp 37) (Operand.const (Value.int IntKind.i64 3)) (I (lack.tmod 11)) (I 3)=some (AV.bool false)∧((v8 Rs)∧v9∧df [(0,0),(1,1),(2,2),(3,3),(4,4),(5,5),(6,8),(7,6),(8,42)] A0 [I 4325521,I 1,I 0,AV.nilsl,AV.rsl true 42 0 (aa [AV.agg (pT D0 L0 n0 t0 y0)]+aa [AV.agg (pU D1 L1 n1 t1 y1)]) 5]∧pR∧([I t0,I y0,I n0,AV.fsl false D0,AV.fsl false L0,I t1,I y1,I n1,AV.fsl false D1,AV.fsl false L1]=[I t0,I y0,I n0,AV.fsl false D0,AV.fsl false L0,I t1,I y1,I n1,AV.fsl false D1,AV.fsl false L1]∧ac [I t0,I y0,I n0,AV.fsl false D0,AV.fsl false L0,I t1,I y1,I n1,AV.fsl false D1,AV.fsl false L1]=true)∧True)∧Q (AV.agg (pS kk)) (v7 es' kk) 11):=by kernel_rfl
end
noncomputable section
def U2 (k:Nat) (es P X:List AV) (r:Int):eP:=fun f _ _ nx=>match Nat.beq f 4 with
 |true=>some (.part [] (.agg (lZ (.rsl true (nx+2) 0 k 5))) [(nx+2,some (.cells es))] 5)
 | false=>match Nat.beq f 5 with
  |true=>some (.val (.agg X))
  |false=>match ff [6,7] f with
   |true=>some (.val (.tuple [.agg P,I r]))
   |false=>some (.val (.bool true))
def U3 (ty:Int) (K:List AV):View:=⟨[(9,.fptr [I 4325521,I ty,I 0,.nilsl,.fsl false K] 0)],[],[],60,56⟩
def l9 (b5 b11:Bool) (ty:Int) (K:List AV) (k:Nat) (es P X:List AV) (r:Int):aX:=mZ (ap [(2,2,.res (.bool b5)),(4,2,.res (.bool b11))] [] (U2 k es P X r) [] []) 6 0 (U3 ty K)
abbrev mc:=[AV.str [49],I 2,I 0,I 0,I 0,AV.nilsl,I 1,AV.bool false,I 0,AV.bool false,I 0,AV.bool false,I 0,AV.bool false,I 0,AV.bool false,I 0,AV.bool false,I 0,AV.bool false,I 0,AV.bool false,I 0,AV.bool false,I 0,AV.bool false,I 0,I 0,AV.str [],AV.nilsl,AV.nilsl,AV.nilsl,AV.bool false,I 0,I 0,I 0,AV.bool false]
@[simp] abbrev wd (C L M N:AV) (Q:AV→Prop) (p:Ob):=(SC 9 [AV.agg (ae p M N L C),AV.agg (ae p M N L C)] (AV.bool true)∧Q (AV.bool true))
abbrev sG (k:Nat):=[I 4325521,I 1,I 0,AV.nilsl,AV.rsl true 8 0 (k+1) 5]
abbrev me (C L M N:AV) (p:Ob):=(bM Tryz.prog 38 (AV.agg (ae p M N L C)) 37)
abbrev pW (K:List AV):=[I 4325521,I 1,I 0,AV.nilsl,AV.fsl false K]
abbrev mg (C L M N:AV) (p:Ob) (r:Int):=(AV.tuple [AV.agg (ae p M N L C),I r])
theorem U4 (Rs Os K es X:List AV) (lack how r:Int) (k:Nat) (p:Ob) (M N L C:AV) (Q:AV→Prop):ax Tryz.prog opts0 40 (l9 false false 1 K (k+1) es (ae p M N L C) X r) 3 [.fsl false Rs,.fsl false Os,I lack,I how] [] 0 (fun v _ _=>Q v)=
  (cw Tryz.prog opts0.glob 4 [I 3,I 128,AV.fsl false Rs,I lack] [] 6 (AV.agg (sG k)) [(8,some (Blk.cells es))] 11∧aM Tryz.prog BinOp.eql 3 (Operand.tmp 19) (Operand.const (Value.int IntKind.i64 0)) (I (how.tmod 5)) (I 0)=some (AV.bool false)∧aM Tryz.prog BinOp.eql 3 (Operand.tmp 29) (Operand.const (Value.int IntKind.i64 0)) (I (how.tmod 11)) (I 0)=some (AV.bool false)∧((Frz 0 [(8,some (Blk.cells es)),(4,some (Blk.cells (sG k)))] (AV.ptr 4 0) (AV.fptr (pW K) 0)∧True)∧True)∧SC 6 [AV.agg mc,AV.agg (pW K)] (mg C L M N p r)∧au (me C L M N p) (SC 7 [AV.agg mc,AV.agg (pW K)] (mg C L M N p r)∧au (me C L M N p) (SC 8 [] (AV.bool true)∧ab (ak r r) (wd C L M N Q p) (Q (AV.bool false))))):=by kernel_rfl
abbrev pX (K:List AV):=[I 4325521,I 7,I 0,AV.nilsl,AV.fsl false K]
theorem U5 (Rs Os K es X:List AV) (lack how r:Int) (k:Nat) (p:Ob) (M N L C:AV) (Q:AV→Prop):ax Tryz.prog opts0 40 (l9 false true 7 K (k+1) es (ae p M N L C) X r) 3 [.fsl false Rs,.fsl false Os,I lack,I how] [] 0 (fun v _ _=>Q v)=
  (cw Tryz.prog opts0.glob 4 [I 3,I 128,AV.fsl false Rs,I lack] [] 6 (AV.agg (sG k)) [(8,some (Blk.cells es))] 11∧aM Tryz.prog BinOp.eql 3 (Operand.tmp 19) (Operand.const (Value.int IntKind.i64 0)) (I (how.tmod 5)) (I 0)=some (AV.bool false)∧aM Tryz.prog BinOp.eql 3 (Operand.tmp 29) (Operand.const (Value.int IntKind.i64 0)) (I (how.tmod 11)) (I 0)=some (AV.bool true)∧((Frz 0 [(8,some (Blk.cells es)),(4,some (Blk.cells [I 4325521,I 7,I 0,AV.nilsl,AV.rsl true 8 0 (k+1) 5]))] (AV.ptr 4 0) (AV.fptr (pX K) 0)∧True)∧True)∧SC 6 [AV.agg mc,AV.agg (pX K)] (mg C L M N p r)∧au (me C L M N p) (SC 7 [AV.agg mc,AV.agg (pX K)] (mg C L M N p r)∧au (me C L M N p) (SC 8 [] (AV.bool true)∧ab (ak r r) (wd C L M N Q p) (Q (AV.bool false))))):=by kernel_rfl
abbrev jE (D G:List AV) (n t y:Int):=[AV.agg [I t,I y,I n,AV.fsl false D,AV.fsl false G]]
theorem U6 (Rs Os K es:List AV) (lack how r t y n:Int) (D G:List AV) (k:Nat) (p:Ob) (M N L C:AV) (Q:AV→Prop):ax Tryz.prog opts0 40 (l9 true false 1 K (k+1) es (ae p M N L C) (ag t y n D G) r) 3 [.fsl false Rs,.fsl false Os,I lack,I how] [] 0 (fun v _ _=>Q v)=
  (cw Tryz.prog opts0.glob 4 [I 3,I 128,AV.fsl false Rs,I lack] [] 6 (AV.agg (sG k)) [(8,some (Blk.cells es))] 11∧aM Tryz.prog BinOp.eql 3 (Operand.tmp 19) (Operand.const (Value.int IntKind.i64 0)) (I (how.tmod 5)) (I 0)=some (AV.bool true)∧SC 5 [AV.fsl false Os] (AV.agg [I t,I y,I n,AV.fsl false D,AV.fsl false G])∧au (a8 5 (jE D G n t y)&&(((k+1+aa (jE D G n t y))*72).ble 140737488355328&&(bc (flat (jE D G n t y))&&true))) (au ((aa es).beq ((k+1)*5)) (aM Tryz.prog BinOp.eql 3 (Operand.tmp 29) (Operand.const (Value.int IntKind.i64 0)) (I (how.tmod 11)) (I 0)=some (AV.bool false)∧((Frz 0 [(19,some (Blk.cells (es++flat (jE D G n t y)))),(8,none),(4,some (Blk.cells [I 4325521,I 1,I 0,AV.nilsl,AV.rsl true 19 0 (k+1+aa (jE D G n t y)) 5]))] (AV.ptr 4 0) (AV.fptr (pW K) 0)∧True)∧True)∧SC 6 [AV.agg mc,AV.agg (pW K)] (mg C L M N p r)∧au (me C L M N p) (SC 7 [AV.agg mc,AV.agg (pW K)] (mg C L M N p r)∧au (me C L M N p) (SC 8 [] (AV.bool true)∧ab (ak r r) (wd C L M N Q p) (Q (AV.bool false))))))):=by kernel_rfl
theorem U7 (Rs Os K es:List AV) (lack how r t y n:Int) (D G:List AV) (k:Nat) (p:Ob) (M N L C:AV) (Q:AV→Prop):ax Tryz.prog opts0 40 (l9 true true 7 K (k+1) es (ae p M N L C) (ag t y n D G) r) 3 [.fsl false Rs,.fsl false Os,I lack,I how] [] 0 (fun v _ _=>Q v)=
  (cw Tryz.prog opts0.glob 4 [I 3,I 128,AV.fsl false Rs,I lack] [] 6 (AV.agg (sG k)) [(8,some (Blk.cells es))] 11∧aM Tryz.prog BinOp.eql 3 (Operand.tmp 19) (Operand.const (Value.int IntKind.i64 0)) (I (how.tmod 5)) (I 0)=some (AV.bool true)∧SC 5 [AV.fsl false Os] (AV.agg [I t,I y,I n,AV.fsl false D,AV.fsl false G])∧au (a8 5 (jE D G n t y)&&(((k+1+aa (jE D G n t y))*72).ble 140737488355328&&(bc (flat (jE D G n t y))&&true))) (au ((aa es).beq ((k+1)*5)) (aM Tryz.prog BinOp.eql 3 (Operand.tmp 29) (Operand.const (Value.int IntKind.i64 0)) (I (how.tmod 11)) (I 0)=some (AV.bool true)∧((Frz 0 [(19,some (Blk.cells (es++flat (jE D G n t y)))),(8,none),(4,some (Blk.cells [I 4325521,I 7,I 0,AV.nilsl,AV.rsl true 19 0 (k+1+aa (jE D G n t y)) 5]))] (AV.ptr 4 0) (AV.fptr (pX K) 0)∧True)∧True)∧SC 6 [AV.agg mc,AV.agg (pX K)] (mg C L M N p r)∧au (me C L M N p) (SC 7 [AV.agg mc,AV.agg (pX K)] (mg C L M N p r)∧au (me C L M N p) (SC 8 [] (AV.bool true)∧ab (ak r r) (wd C L M N Q p) (Q (AV.bool false))))))):=by kernel_rfl
end
def kB:It→Int
 | .mk _ y _ _ _=>y
def dS (tag ty:Int):List It→Int
 |[]=>0
 | x::r=>match ak tag (fy x) with
  |false=>4
  |true=>match ak (kB x) ty with
   |false=>7
   |true=>dS tag ty r
def iv (tag ty:Int) (x:It):Int:=match ak (kB x) 1 with
 |false=>4
 |true=>dS tag ty (aV x)
def pY (tag ty:Int) (x:It):AV:=match ak (iv tag ty x) 0 with
 |true=> .tuple [.fsl false [.fsl false (ad (aV x))],I 0]
 |false=> .tuple [.nilsl,I (iv tag ty x)]
theorem U8 {es z x:List AV} {n:Nat} (h:es.length=n) (hz:z.length=x.length):List.take n (es++z)++(x++List.drop (n+aa x) (es++z))=es++x:=by
 subst h
 rw[aE,←hz,←List.length_append,List.drop_length,List.append_nil,List.take_left]
theorem pZ {lk:List (Nat × Nat)} {a b:AV} (h:RenV lk a b):df lk [a] [b]:=⟨by simp only[RenL];exact ⟨h,trivial⟩⟩
theorem U9 {tag ty t:Int} (h:ak tag t=true):SC 51 [.fsl true [e9 tag ty],I 0,I t] (I 0):=by
 refine bh (A:=bm) base0 cD (aw (LsOk.no rfl)) rfl ?_
 rw[HV]
 exact aj (fun _=>dM rfl) fun e=>by rw[h] at e;cases e
theorem Va {tag ty t:Int} (h:ak tag t=false):SC 51 [.fsl true [e9 tag ty],I 0,I t] (I (-1)):=by
 refine bh (A:=bm) base0 cD (aw (LsOk.no rfl)) rfl ?_
 rw[HV]
 exact aj (fun e=>by rw[h] at e;cases e) fun _=>dM rfl
theorem Vb {x:It} (h:bO bd x):SC 52 [aG x] (aG x):=by
 have hc:=za x h
 have hcl:=bG x
 obtain ⟨t,y,n,d,ks⟩:=x
 rw[aU] at hc hcl⊢
 refine bh (A:=ap [] [] (bg [(98,.tuple [.agg (ag t y n (ai d) (ad ks)),.bool true])]) [] []) base0 ao (aw (LsOk.no rfl)) (by simp only[ac,hcl,Bool.and_self]) ?_
 rw[T9]
 exact ⟨Hp hc hcl,dM hcl⟩
section
variable {tag ty:Int} {ks:List It}
noncomputable def Ie (tag ty:Int) (ks:List It):Nat→View
 |0=>dR tag ty (ad ks) 0
 |i+1=>fa tag ty (ad ks) (i+1) (i+1) (bT ks (i+1))
def nF (tag ty:Int) (ks:List It) (Q:AExit→St→Prop):Prop:=match ak (dS tag ty ks) 0 with
 |true=>Q (.exit 0) (Ie tag ty ks ks.length).st
 |false=>Q .ret (eD (dS tag ty ks)).st
theorem Ig {Q:AExit→St→Prop} (hb:ks.length≤90000) (hok:∀x∈ks,bO bd x) (hq:nF tag ty ks Q):∀m i:Nat,i+m=ks.length→dS tag ty (ks.drop i)=dS tag ty ks→ALp Tryz.prog opts0.glob 0 (aD Tryz.prog 30 7) (Ie tag ty ks i).st Q:=by
 have hK:ac (ad ks)=true:=cH ks
 have hlen:=lQ ks
 have hL:ah (.fsl true [e9 tag ty])=true:=rfl
 intro m
 induction m with
 | zero=>
  intro i hi hp
  rw[Nat.add_zero] at hi
  subst hi
  rw[List.drop_length] at hp
  have h0:ak (dS tag ty ks) 0=true:=by rw[←hp];rfl
  unfold nF at hq
  rw[h0] at hq
  have hf:aM Tryz.prog .lss 3 (.tmp 21) (.tmp 20) (I (.ofNat ks.length)) (I (.ofNat (aa (ad ks))))=some (.bool false):=jr (by rw[hlen];omega)
  revert hq hf
  cases ks.length with
  |zero=>
   intro hq hf
   refine ALp.round (A:=ap [(6,0,.res (.bool false))] [] aH [] []) (V2:=dR tag ty (ad ks) 0) (F:=dR tag ty (ad ks) 0) (lk:=[(0,0)]) (lk':=[(0,0)]) base0 ao (LsOk.no rfl) .refl ?_
   show aI Tryz.prog opts0 40 _ _ (dR tag ty (ad ks) 0).st _
   rw[Ue]
   exact ⟨hf,⟨⟨⟨rfl,rfl⟩,⟨rfl,rfl⟩,⟨rfl,hK⟩,⟨rfl,rfl⟩,⟨rfl,rfl⟩,trivial⟩,⟨⟨rfl,rfl,rfl,rfl,rfl⟩,trivial⟩,⟨rfl,rfl⟩,trivial⟩,hq⟩
  |succ i=>
   intro hq hf
   have hE:ac (bT ks (i+1))=true:=m9
   refine ALp.round (A:=ap [(6,0,.res (.bool false))] [] aH [] []) (V2:=dR tag ty (ad ks) (i+1)) (F:=fa tag ty (ad ks) (i+1) (i+1) (bT ks (i+1))) (lk:=[(0,0)]) (lk':=[(0,0),(1,1)]) base0 ao (LsOk.no rfl) .refl ?_
   show aI Tryz.prog opts0 40 _ _ (fa tag ty (ad ks) (i+1) (i+1) (bT ks (i+1))).st _
   rw[Uf]
   exact ⟨hf,⟨⟨⟨rfl,rfl⟩,⟨rfl,rfl⟩,⟨rfl,hK⟩,⟨rfl,rfl⟩,⟨rfl,rfl⟩,trivial⟩,⟨⟨rfl,rfl,rfl,rfl,rfl⟩,trivial⟩,pZ (.rsl _ _ _ _ _ _ rfl),⟨rfl,hE⟩,trivial⟩,hq⟩
 | succ m ih=>
  intro i hi hp
  have hlt:i<ks.length:=by omega
  have g:=List.getElem?_eq_getElem hlt
  have hx:=hok _ (List.getElem_mem hlt)
  have hs:=uk g
  have ih:=ih (i+1) (by omega)
  rw[List.drop_eq_getElem_cons hlt] at hp
  revert g hx hs hp
  generalize ks[i]=x
  intro hp g hx hs
  have hc:=Vb hx
  obtain ⟨t,y,n,d,l⟩:=x
  have hi0:=bB (f:=false) g
  rw[aU] at hc
  have no {p:Prop} (h:aq (.ofNat i) (.ofNat (aa (ad ks)))=false):p:=by
   have h:=ltInt_false.1 h
   rw[hlen] at h
   simp only[Int.ofNat_eq_natCast] at h
   omega
  have hw:ar .i64 (Int.ofNat i+1)=Int.ofNat (i+1):=dG (by omega)
  simp only[dS,fy,kB] at hp
  cases htag:ak tag t with
  | false=>
   rw[htag] at hp
   have hpl:=Va (ty:=ty) htag
   unfold nF at hq
   rw[←hp] at hq
   cases i with
   |zero=>
    refine ALp.round (A:=lU t y n (ai d) (ad l) (-1)) (V2:=dR tag ty (ad ks) 0) (F:=eD 4) (lk:=[(0,0)]) (lk':=[]) base0 ao (LsOk.no rfl) .refl ?_
    show aI Tryz.prog opts0 40 _ _ (dR tag ty (ad ks) 0).st _
    rw[Ua]
    exact aj (fun _=>⟨hi0,hpl,⟨⟨⟨rfl,rfl⟩,⟨rfl,rfl⟩,trivial⟩,trivial,trivial⟩,hq⟩) no
   |succ i=>
    refine ALp.round (A:=lU t y n (ai d) (ad l) (-1)) (V2:=dR tag ty (ad ks) (i+1)) (F:=eD 4) (lk:=[(0,0)]) (lk':=[]) base0 ao (LsOk.no rfl) .refl ?_
    show aI Tryz.prog opts0 40 _ _ (fa tag ty (ad ks) (i+1) (i+1) (bT ks (i+1))).st _
    rw[Ub]
    exact aj (fun _=>⟨hi0,hpl,⟨⟨⟨rfl,rfl⟩,⟨rfl,rfl⟩,trivial⟩,trivial,trivial⟩,hq⟩) no
  | true=>
   rw[htag] at hp
   have hpl:=U9 (ty:=ty) htag
   have hE:ac (bT ks (i+1))=true:=m9
   have hn:ak y ty=true→ALp Tryz.prog opts0.glob 0 (aD Tryz.prog 30 7) (fa tag ty (ad ks) (i+1) (i+1) (bT ks (i+1))).st Q:=fun e=>by
    rw[e] at hp
    exact ih hp
   have hr:(!ak y ty)=true→Q .ret (eD 7).st:=fun e=>by
    rw[Bool.not_eq_true'] at e
    rw[e] at hp
    unfold nF at hq
    rw[←hp] at hq
    exact hq
   cases i with
   |zero=>
    refine ALp.round (A:=lU t y n (ai d) (ad l) 0) (V2:=fa tag ty (ad ks) 1 1 (bT ks 1)) (F:=eD 7) (lk:=[(0,0),(1,50)]) (lk':=[]) base0 ao (LsOk.no rfl) .refl ?_
    show aI Tryz.prog opts0 40 _ _ (dR tag ty (ad ks) 0).st _
    rw[Uc,hw]
    exact aj (fun _=>⟨hi0,hpl,aj (fun e=>⟨⟨⟨⟨rfl,rfl⟩,⟨rfl,rfl⟩,trivial⟩,trivial,trivial⟩,hr e⟩) fun e=>⟨hc,⟨⟨⟨rfl,rfl⟩,⟨rfl,rfl⟩,⟨rfl,hK⟩,⟨rfl,rfl⟩,⟨rfl,rfl⟩,trivial⟩,⟨⟨rfl,rfl,rfl,rfl,rfl⟩,trivial⟩,pZ (.rsl _ _ _ _ _ _ rfl),⟨hs,hE⟩,trivial⟩,hn (by simpa using e)⟩⟩) no
   | succ i=>
    have hel:(bT ks (i+1)).length=(i+1)*5:=Ek (by omega)
    have he:=U8 (es:=bT ks (i+1)) (z:=[I 0,I 0,I 0,.nilsl,.nilsl]) (x:=ag t y n (ai d) (ad l)) (n:=0+(Int.ofNat (i+1)).toNat*5) (by rw[hel];simp) rfl
    refine ALp.round (A:=lU t y n (ai d) (ad l) 0) (V2:=fa tag ty (ad ks) (i+1+1) (i+1+1) (bT ks (i+1+1))) (F:=eD 7) (lk:=[(0,0),(1,50)]) (lk':=[]) base0 ao (LsOk.no rfl) .refl ?_
    show aI Tryz.prog opts0 40 _ _ (fa tag ty (ad ks) (i+1) (i+1) (bT ks (i+1))).st _
    rw[Ud,hw]
    refine aj (fun _=>⟨hi0,hpl,aj (fun e=>⟨⟨⟨⟨rfl,rfl⟩,⟨rfl,rfl⟩,trivial⟩,trivial,trivial⟩,hr e⟩) fun e=>⟨hc,aF ?_ (aF ?_ (aF ?_ (aF ?_ ⟨⟨⟨⟨rfl,rfl⟩,⟨rfl,rfl⟩,⟨rfl,hK⟩,⟨rfl,rfl⟩,⟨rfl,rfl⟩,trivial⟩,⟨⟨rfl,rfl,rfl,rfl,rfl⟩,trivial⟩,pZ (.rsl _ _ _ _ _ _ rfl),⟨he.trans ?_,hE⟩,trivial⟩,hn (by simpa using e)⟩)))⟩⟩) no
    ·rw[Nat.ble_eq_true_of_le (by omega)];rfl
    ·rw[beq_iff,aE,hel]
    ·exact Aq (by omega)
    ·refine Nat.ble_eq_true_of_le ?_
     rw[aE,List.length_append,hel]
     simp
    ·exact hs
theorem we:bu (cy Tryz.prog 30) 7=[aD Tryz.prog 30 7]:=by kernel_rfl
end
theorem Ih {x:It} {tag ty:Int}:ac [aG x,.fsl true [e9 tag ty]]=true:=by
 simp only[ac,bG x,Bool.true_and]
 rfl
theorem Ii {H:af} {id:Nat} (hg:hget H id=some (.cells [.nilsl])):jV (.tuple [.fsl false [.fsl false []],I 0]) (.tuple [.rsl true id 0 1 1,I 0]) H:=by
 refine ⟨_,(Frz.tuple (.cons (Frz.row (es:=[.nilsl]) rfl hg rfl rfl (fun e he=>by rw[List.mem_singleton] at he;subst he;exact ⟨rfl,rfl⟩) rfl) (.closed [I 0] rfl))).out,rfl,.tuple (.cons (.rows (.cons ?_ .nil)) (.refl _))⟩
 simp only[AV.cells]
 (repeat (first|exact Wk.refl _|exact WkL.refl _|exact Wk.nil|exact Wk.row|exact WkE.refl _|exact WkL.nil|exact WkE.nil|apply Wk.agg|apply Wk.tuple|apply WkL.cons|apply Wk.rows|apply WkE.consA))
theorem Ij {H:af} {ks:List It} {id jd:Nat} {cs:List AV} (hg:hget H id=some (.cells [.rsl true jd 0 ks.length 5])) (hh:hget H jd=some (.cells cs)) (hc:cs=flat (ad ks)):jV (.tuple [.fsl false [.fsl false (ad ks)],I 0]) (.tuple [.rsl true id 0 1 1,I 0]) H:=by
 have hK:=cH ks
 refine ⟨_,(Frz.tuple (.cons (Frz.rsl (es:=[.rsl true jd 0 ks.length 5]) rfl hg rfl (.cons (Frz.row (es:=ad ks) rfl hh hc (dq ks).symm oT hK) .nil)) (.closed [I 0] rfl))).out, ?_,.refl _⟩
 simp only[ah,ac,hK,Bool.and_self]
theorem Ik (ks:List It):bT ks ks.length=flat (ad ks):=by rw[bT,List.take_length]
set_option maxRecDepth 20000 in
theorem Vc {tag ty:Int} {x:It} (h:bO bd x) (hl:(aV x).length≤90000):SC 30 [aG x,.fsl true [e9 tag ty]] (pY tag ty x):=by
 have hcl:=Ih (x:=x) (tag:=tag) (ty:=ty)
 obtain ⟨t,y,n,d,ks⟩:=x
 have hok:=sq h
 have hK:=cH ks
 simp only[aV] at hl
 simp only[pY,iv,kB,aV]
 have hs:(I 0=I 0∧ah (I 0)=true)∧True:=⟨⟨rfl,rfl⟩,trivial⟩
 cases hy:ak y 1 with
 |false=>
  refine bh (A:=ap [] [(7,fun _ _=>False)] aH [] []) base0 ao (aw (LsOk.at1 rfl we fun st Q hs=>hs.elim)) hcl ?_
  rw[aU,Ug]
  exact aj (fun _=>dM rfl) fun e=>by rw[hy] at e;cases e
 | true=>
  have ny {p:Prop} (e:(!ak y 1)=true):p:=by rw[hy] at e;cases e
  cases h0:ak (dS tag ty ks) 0 with
  | false=>
   refine bh (A:=ap [] [(7,pK tag ty (ad ks) .ret (eD (dS tag ty ks)))] aH [] []) base0 ao
    (aw (LsOk.at1 rfl we fun st Q hs=> .seen base0.glob hs.1 (Ig (tag:=tag) (ty:=ty) (ks:=ks) hl hok (by unfold nF;rw[h0];exact hs.2) ks.length 0 (Nat.zero_add _) rfl))) hcl ?_
   rw[aU,Uh]
   exact aj ny fun _=>⟨⟨⟨⟨rfl,rfl⟩,⟨rfl,rfl⟩,⟨rfl,hK⟩,⟨rfl,rfl⟩,⟨rfl,rfl⟩,trivial⟩,⟨⟨rfl,rfl,rfl,rfl,rfl⟩,trivial⟩,⟨rfl,rfl⟩,trivial⟩,dM rfl⟩
  | true=>
   have hlp:= @Ig tag ty ks
   cases ks with
   | nil=>
    refine dp (A:=ap [] [(7,pK tag ty (ad []) (.exit 0) (dR tag ty (ad []) 0))] aH [] []) base0 ao
     (aw (LsOk.at1 rfl we fun st Q hs=> .seen base0.glob hs.1 (hlp hl hok (by unfold nF;rw[h0];exact hs.2) 0 0 rfl rfl))) hcl ?_
    rw[aU,Ui]
    exact aj ny fun _=>⟨⟨⟨⟨rfl,rfl⟩,⟨rfl,rfl⟩,⟨rfl,hK⟩,⟨rfl,rfl⟩,⟨rfl,rfl⟩,trivial⟩,⟨⟨rfl,rfl,rfl,rfl,rfl⟩,trivial⟩,⟨rfl,rfl⟩,trivial⟩,Ii rfl⟩
   | cons a r=>
    refine dp (A:=ap [] [(7,pK tag ty (ad (a::r)) (.exit 0) (fa tag ty (ad (a::r)) (r.length+1) (r.length+1) (bT (a::r) (r.length+1))))] aH [] []) base0 ao
     (aw (LsOk.at1 rfl we fun st Q hs=> .seen base0.glob hs.1 (hlp hl hok (by unfold nF;rw[h0];exact hs.2) (r.length+1) 0 (Nat.zero_add _) rfl))) hcl ?_
    rw[aU,Uj]
    exact aj ny fun _=>⟨⟨⟨⟨rfl,rfl⟩,⟨rfl,rfl⟩,⟨rfl,hK⟩,⟨rfl,rfl⟩,⟨rfl,rfl⟩,trivial⟩,⟨⟨rfl,rfl,rfl,rfl,rfl⟩,trivial⟩,⟨rfl,rfl⟩,trivial⟩,Ij rfl rfl (Ik (a::r))⟩
theorem sH {a b c:Bool} (ha:a=true) (hb:b=true) (hc:c=true):(a&&(b&&(c&&true)))=true:=by rw[ha,hb,hc];rfl
theorem iY (p q:Operand) (x y:Int):aM Tryz.prog .neq 3 p q (I x) (I y)=some (.bool (!ak x y)):=by kernel_rfl
section
variable {tag ty t0 y0 n0:Int} {d0:List UInt8} {k0:It} {kr:List It}
noncomputable def Il (tag ty:Int) (X:List AV) (ks:List It):Nat→View
 |0=>ef tag ty X 0
 |i+1=>dl tag ty X (i+1) (i+1) (bT ks (i+1))
def p5 (tag ty:Int) (X:List AV) (ks:List It) (Q:AExit→St→Prop):Prop:=match ak (dS tag ty ks) 0 with
 |true=>Q (.exit 0) (Il tag ty X ks ks.length).st
 |false=>Q .ret (eE (dS tag ty ks)).st
theorem Im {Q:AExit→St→Prop} (hb:(k0::kr).length≤90000) (hq:p5 tag ty (ag t0 y0 n0 (ai d0) (ad (k0::kr))) (k0::kr) Q):∀m i:Nat,i+m=(k0::kr).length→dS tag ty ((k0::kr).drop i)=dS tag ty (k0::kr)→ALp Tryz.prog opts0.glob 0 (aD Tryz.prog 19 7) (Il tag ty (ag t0 y0 n0 (ai d0) (ad (k0::kr))) (k0::kr) i).st Q:=by
 have hX:ac (ag t0 y0 n0 (ai d0) (ad (k0::kr)))=true:=bG (.mk t0 y0 n0 d0 (k0::kr))
 have hlen:=lQ (k0::kr)
 intro m
 induction m with
 |zero=>
  intro i hi hp
  rw[Nat.add_zero] at hi
  subst hi
  rw[List.drop_length] at hp
  have h0:ak (dS tag ty (k0::kr)) 0=true:=by rw[←hp];rfl
  unfold p5 at hq
  rw[h0] at hq
  have hf:aM Tryz.prog .lss 3 (.tmp 17) (.tmp 20) (I (.ofNat (k0::kr).length)) (I (.ofNat (aa (ad (k0::kr)))))=some (.bool false):=jr (by rw[hlen];omega)
  have hE:ac (bT (k0::kr) (kr.length+1))=true:=m9
  refine ALp.round (A:=ap [(6,4,.res (.bool false))] [] aH [] []) (V2:=ef tag ty [] (kr.length+1)) (F:=dl tag ty (ag t0 y0 n0 (ai d0) (ad (k0::kr))) (kr.length+1) (kr.length+1) (bT (k0::kr) (kr.length+1))) (lk:=[(0,0)]) (lk':=[(0,0),(1,1),(2,2)]) base0 ao (LsOk.no rfl) .refl ?_
  show aI Tryz.prog opts0 40 _ _ (dl tag ty (ag t0 y0 n0 (ai d0) (ad (k0::kr))) (kr.length+1) (kr.length+1) (bT (k0::kr) (kr.length+1))).st _
  rw[Up]
  exact ⟨hf,⟨⟨⟨rfl,rfl⟩,⟨rfl,rfl⟩,⟨rfl,rfl⟩,trivial⟩,⟨⟨rfl,rfl⟩,⟨rfl,rfl,rfl,rfl,rfl⟩,trivial⟩,⟨rfl,hX⟩,pZ (.rsl _ _ _ _ _ _ rfl),⟨rfl,hE⟩,trivial⟩,hq⟩
 | succ m ih=>
  intro i hi hp
  have hlt:i<(k0::kr).length:=by omega
  have g:=List.getElem?_eq_getElem hlt
  have hs:=uk g
  have ih:=ih (i+1) (by omega)
  rw[List.drop_eq_getElem_cons hlt] at hp
  revert g hs hp
  generalize (k0::kr)[i]=x
  intro hp g hs
  obtain ⟨t,y,n,d,l⟩:=x
  have hi0:=bB (f:=false) g
  have no {p:Prop} (h:aq (.ofNat i) (.ofNat (aa (ad (k0::kr))))=false):p:=by
   have h:=ltInt_false.1 h
   rw[hlen] at h
   simp only[Int.ofNat_eq_natCast] at h
   omega
  have hw:ar .i64 (Int.ofNat i+1)=Int.ofNat (i+1):=dG (by omega)
  simp only[dS,fy,kB] at hp
  have hne:=iY (.tmp 38) (.tmp 40) tag t
  cases htag:ak tag t with
  | false=>
   rw[htag] at hp hne
   unfold p5 at hq
   simp only[dS,fy,kB] at hq
   rw[←hp] at hq
   cases i with
   |zero=>
    refine ALp.round (A:=lV t y n (ai d) (ad l) true) (V2:=ef tag ty [] 0) (F:=eE 4) (lk:=[(0,0)]) (lk':=[]) base0 ao (LsOk.no rfl) .refl ?_
    show aI Tryz.prog opts0 40 _ _ (ef tag ty (ag t0 y0 n0 (ai d0) (ad (k0::kr))) 0).st _
    rw[Uk]
    exact aj (fun _=>⟨hi0,hne,⟨⟨⟨rfl,rfl⟩,⟨rfl,rfl⟩,trivial⟩,trivial,trivial⟩,hq⟩) no
   |succ i=>
    refine ALp.round (A:=lV t y n (ai d) (ad l) true) (V2:=ef tag ty [] (i+1)) (F:=eE 4) (lk:=[(0,0)]) (lk':=[]) base0 ao (LsOk.no rfl) .refl ?_
    show aI Tryz.prog opts0 40 _ _ (dl tag ty (ag t0 y0 n0 (ai d0) (ad (k0::kr))) (i+1) (i+1) (bT (k0::kr) (i+1))).st _
    rw[Ul]
    exact aj (fun _=>⟨hi0,hne,⟨⟨⟨rfl,rfl⟩,⟨rfl,rfl⟩,trivial⟩,trivial,trivial⟩,hq⟩) no
  | true=>
   rw[htag] at hp hne
   have hE:ac (bT (k0::kr) (i+1))=true:=m9
   have hn:ak y ty=true→ALp Tryz.prog opts0.glob 0 (aD Tryz.prog 19 7) (dl tag ty (ag t0 y0 n0 (ai d0) (ad (k0::kr))) (i+1) (i+1) (bT (k0::kr) (i+1))).st Q:=fun e=>by
    rw[e] at hp
    refine ih ?_
    simp only[dS,fy,kB]
    exact hp
   have hr:(!ak y ty)=true→Q .ret (eE 7).st:=fun e=>by
    rw[Bool.not_eq_true'] at e
    rw[e] at hp
    unfold p5 at hq
    simp only[dS,fy,kB] at hq
    rw[←hp] at hq
    exact hq
   cases i with
   |zero=>
    refine ALp.round (A:=lV t y n (ai d) (ad l) false) (V2:=dl tag ty (ag t0 y0 n0 (ai d0) (ad (k0::kr))) 1 1 (bT (k0::kr) 1)) (F:=eE 7) (lk:=[(0,0),(1,1),(2,67)]) (lk':=[]) base0 ao (LsOk.no rfl) .refl ?_
    show aI Tryz.prog opts0 40 _ _ (ef tag ty (ag t0 y0 n0 (ai d0) (ad (k0::kr))) 0).st _
    rw[Um,hw]
    exact aj (fun _=>⟨hi0,hne,aj (fun e=>⟨⟨⟨⟨rfl,rfl⟩,⟨rfl,rfl⟩,trivial⟩,trivial,trivial⟩,hr e⟩) fun e=>⟨⟨⟨⟨rfl,rfl⟩,⟨rfl,rfl⟩,⟨rfl,rfl⟩,trivial⟩,⟨⟨rfl,rfl⟩,⟨rfl,rfl,rfl,rfl,rfl⟩,trivial⟩,⟨rfl,hX⟩,pZ (.rsl _ _ _ _ _ _ rfl),⟨hs,hE⟩,trivial⟩,hn (by simpa using e)⟩⟩) no
   | succ i=>
    have hEE:ac (ad (k0::kr.take i))=true:=cH _
    have hll:aa (aG k0::ad (kr.take i))=i+1:=by
     have:=lQ (k0::kr.take i)
     rw[List.length_cons,List.length_take,Nat.min_eq_left (by simp only[List.length_cons] at hlt;omega)] at this
     exact this
    have hfl:aa (flat (aG k0::ad (kr.take i)))=(i+1)*5:=by
     have:=rC (k0::kr.take i)
     rw[List.length_cons,List.length_take,Nat.min_eq_left (by simp only[List.length_cons] at hlt;omega)] at this
     rw[aE]
     exact this
    have has:a8 5 (aG k0::ad (kr.take i))=true:=ob fun e he=>(oT (ks:=k0::kr.take i) e he).1
    have hb':i+1+1≤90000:=by omega
    refine ALp.round (A:=mZ (lV t y n (ai d) (ad l) false) 6 2 (H4 tag ty (ag t0 y0 n0 (ai d0) (ad (k0::kr))) (i+1) (aG k0::ad (kr.take i)))) (V2:=dl tag ty (ag t0 y0 n0 (ai d0) (ad (k0::kr))) (i+1+1) (i+1+1) (bT (k0::kr) (i+1+1))) (F:=eE 7) (lk:=[(0,0),(1,1),(2,67)]) (lk':=[]) base0 (oM ao) (LsOk.no rfl) .refl ?_
    show aI Tryz.prog opts0 40 _ _ (dl tag ty (ag t0 y0 n0 (ai d0) (ad (k0::kr))) (i+1) (i+1) (bT (k0::kr) (i+1))).st _
    rw[Un,hw]
    refine ⟨⟨⟨.closed _ rfl,.closed _ rfl,.closed _ rfl,.keepP rfl,.keepR rfl,trivial⟩,.closed _ hX,.cons (Frz.row (es:=aG k0::ad (kr.take i)) rfl rfl rfl (by rw[←aE,hll]) (oT (ks:=k0::kr.take i)) hEE) .nil,trivial⟩,aj (fun _=>⟨hi0,hne,aj (fun e=>⟨⟨⟨⟨rfl,rfl⟩,⟨rfl,rfl⟩,trivial⟩,trivial,trivial⟩,hr e⟩) fun e=>aF ?_ (aF ?_ (aF ?_ ⟨⟨⟨⟨rfl,rfl⟩,⟨rfl,rfl⟩,⟨rfl,rfl⟩,trivial⟩,⟨⟨rfl,rfl⟩,⟨rfl,rfl,rfl,rfl,rfl⟩,trivial⟩,⟨rfl,hX⟩, ?_,⟨hs,hE⟩,trivial⟩,hn (by simpa using e)⟩))⟩) no⟩
    ·rw[has,hll,Nat.ble_eq_true_of_le (by omega)];rfl
    ·have h1:Nat.ble ((0+(i+1)+aa [AV.agg (ag t y n (ai d) (ad l))])*72) 140737488355328=true:=Nat.ble_eq_true_of_le (by rw[show aa [AV.agg (ag t y n (ai d) (ad l))]=1 from rfl];omega)
     rw[hll];exact sH rfl h1 rfl
    ·rw[beq_iff,hfl,hll,Nat.zero_add]
    ·rw[hll,Nat.zero_add]
     exact pZ (.rsl _ _ _ _ _ _ rfl)
theorem wg:bu (cy Tryz.prog 19) 7=[aD Tryz.prog 19 7]:=by kernel_rfl
end
set_option maxRecDepth 20000 in
theorem Vd {tag ty:Int} {x:It} (hl:(aV x).length≤90000):SC 19 [aG x,.fsl true [e9 tag ty]] (pY tag ty x):=by
 have hcl:=Ih (x:=x) (tag:=tag) (ty:=ty)
 have hX:=bG x
 obtain ⟨t,y,n,d,ks⟩:=x
 simp only[aV] at hl
 simp only[pY,iv,kB,aV]
 cases hy:ak y 1 with
 |false=>
  refine bh (A:=ap [] [(7,fun _ _=>False)] aH [] []) base0 ao (aw (LsOk.at1 rfl wg fun st Q hs=>hs.elim)) hcl ?_
  rw[aU,Uq]
  exact aj (fun _=>dM rfl) fun e=>by rw[hy] at e;cases e
 | true=>
  have ny {p:Prop} (e:(!ak y 1)=true):p:=by rw[hy] at e;cases e
  cases ks with
  | nil=>
   refine dp (A:=ap [] [(7,pM tag ty (ag t y n (ai d) (ad [])) (.exit 0) (ef tag ty (ag t y n (ai d) (ad [])) 0))] aH [] []) base0 ao
    (aw (LsOk.at1 rfl wg fun st Q hs=> .seen base0.glob hs.1 ?_)) hcl ?_
   ·refine ALp.round (A:=ap [(6,4,.res (.bool false))] [] aH [] []) (V2:=ef tag ty [] 0) (F:=ef tag ty (ag t y n (ai d) (ad [])) 0) (lk:=[(0,0)]) (lk':=[(0,0),(1,1)]) base0 ao (LsOk.no rfl) .refl ?_
    rw[Uo]
    exact ⟨jr (by simp[ad,aa]),⟨⟨⟨rfl,rfl⟩,⟨rfl,rfl⟩,⟨rfl,rfl⟩,trivial⟩,⟨⟨rfl,rfl⟩,⟨rfl,rfl,rfl,rfl,rfl⟩,trivial⟩,⟨rfl,hX⟩,⟨rfl,rfl⟩,trivial⟩,hs.2⟩
   ·rw[aU,Ut]
    exact aj ny fun _=>⟨⟨⟨⟨rfl,rfl⟩,⟨rfl,rfl⟩,⟨rfl,rfl⟩,trivial⟩,⟨⟨rfl,rfl⟩,⟨rfl,rfl,rfl,rfl,rfl⟩,trivial⟩,⟨rfl,hX⟩,⟨rfl,rfl⟩,trivial⟩,Ii rfl⟩
  | cons a r=>
   cases h0:ak (dS tag ty (a::r)) 0 with
   | false=>
    refine bh (A:=ap [] [(7,pM tag ty (ag t y n (ai d) (ad (a::r))) .ret (eE (dS tag ty (a::r))))] aH [] []) base0 ao
     (aw (LsOk.at1 rfl wg fun st Q hs=> .seen base0.glob hs.1 (Im (tag:=tag) (ty:=ty) (t0:=t) (y0:=y) (n0:=n) (d0:=d) (k0:=a) (kr:=r) hl (by unfold p5;rw[h0];exact hs.2) (r.length+1) 0 (Nat.zero_add _) rfl))) hcl ?_
    rw[aU,Ur]
    exact aj ny fun _=>⟨⟨⟨⟨rfl,rfl⟩,⟨rfl,rfl⟩,⟨rfl,rfl⟩,trivial⟩,⟨⟨rfl,rfl⟩,⟨rfl,rfl,rfl,rfl,rfl⟩,trivial⟩,⟨rfl,hX⟩,⟨rfl,rfl⟩,trivial⟩,dM rfl⟩
   | true=>
    refine dp (A:=ap [] [(7,pM tag ty (ag t y n (ai d) (ad (a::r))) (.exit 0) (dl tag ty (ag t y n (ai d) (ad (a::r))) (r.length+1) (r.length+1) (bT (a::r) (r.length+1))))] aH [] []) base0 ao
     (aw (LsOk.at1 rfl wg fun st Q hs=> .seen base0.glob hs.1 (Im (tag:=tag) (ty:=ty) (t0:=t) (y0:=y) (n0:=n) (d0:=d) (k0:=a) (kr:=r) hl (by unfold p5;rw[h0];exact hs.2) (r.length+1) 0 (Nat.zero_add _) rfl))) hcl ?_
    rw[aU,Uu]
    exact aj ny fun _=>⟨⟨⟨⟨rfl,rfl⟩,⟨rfl,rfl⟩,⟨rfl,rfl⟩,trivial⟩,⟨⟨rfl,rfl⟩,⟨rfl,rfl,rfl,rfl,rfl⟩,trivial⟩,⟨rfl,hX⟩,⟨rfl,rfl⟩,trivial⟩,Ij rfl rfl (Ik (a::r))⟩
theorem Io:∀l:List At,(flat (l.map aB)).length=l.length*7
 |[]=>rfl
 |a::r=>by
  obtain ⟨s,i,t,y,n,d,ks⟩:=a
  have:=Io r
  show (flat (r.map aB)).length+1+1+1+1+1+1+1=(r.length+1)*7
  omega
theorem Ip (l:List At):ac (flat (l.map aB))=true:=rD (ip l) fun e he=>by
 obtain ⟨a,_,rfl⟩:=List.mem_map.1 he
 exact eR a
theorem Ve:∀l:List At,∀e∈l.map aB,ei 7 e:=fun l e he=>by
 obtain ⟨⟨s,i,t,y,n,d,ks⟩,_,rfl⟩:=List.mem_map.1 he
 exact ⟨rfl,rfl⟩
theorem Vf (l:List At) (a:At):flat (l.map aB)++flat [aB a]=flat ((l++[a]).map aB):=by rw[List.map_append,ej];rfl
section
variable {ks:List It}
noncomputable def wi (K:List AV) (i:Nat):List At→View
 |[]=>c8 K i
 |a::r=>fb K i (r.length+1) (flat ((a::r).map aB))
def A4 (ks:List It) (L:List At) (o:Option (List At)) (Q:AExit→St→Prop):Prop:=match o with
 |none=>Q .ret ptR.st
 |some l=>Q (.exit 0) (wi (ad ks) ks.length (L++l)).st
theorem Vg {Q:AExit→St→Prop} (hb:ks.length≤90000) (hok:∀x∈ks,bO bd x):∀ (m i:Nat) (L:List At),i+m=ks.length→L.length=i→A4 ks L (ed (ks.drop i)) Q→ALp Tryz.prog opts0.glob 0 (aD Tryz.prog 16 7) (wi (ad ks) i L).st Q:=by
 have hK:ac (ad ks)=true:=cH ks
 have hlen:=lQ ks
 intro m
 induction m with
 | zero=>
  intro i L hi hL hq
  rw[Nat.add_zero] at hi
  subst hi
  rw[List.drop_length] at hq
  have hq:Q (.exit 0) (wi (ad ks) ks.length (L++[])).st:=hq
  rw[List.append_nil] at hq
  have hf:aM Tryz.prog .lss 3 (.tmp 25) (.tmp 24) (I (.ofNat ks.length)) (I (.ofNat (aa (ad ks))))=some (.bool false):=jr (by rw[hlen];omega)
  cases L with
  |nil=>
   refine ALp.round (A:=ap [(6,0,.res (.bool false))] [] aH [] []) (V2:=c8 (ad ks) 0) (F:=c8 (ad ks) ks.length) (lk:=[]) (lk':=[]) base0 ao (LsOk.no rfl) .refl ?_
   show aI Tryz.prog opts0 40 _ _ (c8 (ad ks) ks.length).st (bf 0 [] (c8 (ad ks) 0) _ [] (c8 (ad ks) ks.length) Q)
   rw[show c8 (ad ks) 0=c8 (ad ks) ks.length by rw[show ks.length=0 from hL.symm]]
   rw[Uz]
   exact ⟨hf,⟨⟨⟨rfl,rfl⟩,⟨rfl,hK⟩,⟨rfl,rfl⟩,⟨rfl,rfl⟩,trivial⟩,trivial,trivial⟩,hq⟩
  |cons a r=>
   refine ALp.round (A:=ap [(6,0,.res (.bool false))] [] aH [] []) (V2:=c8 (ad ks) ks.length) (F:=fb (ad ks) ks.length (r.length+1) (flat ((a::r).map aB))) (lk:=[]) (lk':=[(0,0)]) base0 ao (LsOk.no rfl) .refl ?_
   show aI Tryz.prog opts0 40 _ _ (fb (ad ks) ks.length (r.length+1) (flat ((a::r).map aB))).st _
   rw[UA]
   exact ⟨hf,⟨⟨⟨rfl,hK⟩,⟨rfl,rfl⟩,⟨rfl,rfl⟩,trivial⟩,⟨⟨rfl,rfl,rfl,rfl,rfl⟩,trivial⟩,⟨rfl,Ip (a::r)⟩,trivial⟩,hq⟩
 | succ m ih=>
  intro i L hi hL hq
  have hlt:i<ks.length:=by omega
  have g:=List.getElem?_eq_getElem hlt
  have hx:=hok _ (List.getElem_mem hlt)
  have ih:=ih (i+1)
  rw[List.drop_eq_getElem_cons hlt] at hq
  revert g hx hq
  generalize ks[i]=x
  intro hq g hx
  have hr:=S1 hx
  obtain ⟨t,y,n,d,l⟩:=x
  have hi0:=bB (f:=false) g
  rw[aU] at hr
  have no {p:Prop} (h:aq (.ofNat i) (.ofNat (aa (ad ks)))=false):p:=by
   have h:=ltInt_false.1 h
   rw[hlen] at h
   simp only[Int.ofNat_eq_natCast] at h
   omega
  have hw:ar .i64 (Int.ofNat i+1)=Int.ofNat (i+1):=dG (by omega)
  simp only[ed] at hq
  cases hrd:bI (.mk t y n d l) with
  | none=>
   rw[hrd] at hq hr
   have hq:Q .ret ptR.st:=hq
   cases L with
   |nil=>
    refine ALp.round (A:=lW t y n (ai d) (ad l) [] 0 0 0 0 [] [] false) (V2:=c8 (ad ks) i) (F:=ptR) (lk:=[]) (lk':=[]) base0 ao (LsOk.no rfl) .refl ?_
    show aI Tryz.prog opts0 40 _ _ (c8 (ad ks) i).st _
    rw[Uv]
    exact aj (fun _=>⟨hi0,hr,⟨⟨⟨rfl,rfl⟩,⟨rfl,rfl⟩,trivial⟩,trivial,trivial⟩,hq⟩) no
   |cons a r=>
    refine ALp.round (A:=lW t y n (ai d) (ad l) [] 0 0 0 0 [] [] false) (V2:=c8 (ad ks) i) (F:=ptR) (lk:=[]) (lk':=[]) base0 ao (LsOk.no rfl) .refl ?_
    show aI Tryz.prog opts0 40 _ _ (fb (ad ks) i (r.length+1) (flat ((a::r).map aB))).st _
    rw[Uw]
    exact aj (fun _=>⟨hi0,hr,⟨⟨⟨rfl,rfl⟩,⟨rfl,rfl⟩,trivial⟩,trivial,trivial⟩,hq⟩) no
  | some a=>
   rw[hrd] at hq hr
   have hq:A4 ks (L++[a]) (ed (ks.drop (i+1))) Q:=by
    revert hq
    unfold A4
    cases ed (ks.drop (i+1)) with
    |none=>exact id
    |some l'=>
     intro hq
     show Q (.exit 0) (wi (ad ks) ks.length (L++[a]++l')).st
     rw[List.append_assoc];exact hq
   have hn:=ih (L++[a]) (by omega) (by rw[List.length_append,hL];rfl) hq
   have hsn:=Vf L a
   have hcl:=Ip (L++[a])
   obtain ⟨s,ix,t',y',n',d',k'⟩:=a
   cases L with
   |nil=>
    refine ALp.round (A:=lW t y n (ai d) (ad l) s ix t' y' n' (ai d') (ad k') true) (V2:=fb (ad ks) (i+1) 1 (flat [aB ⟨s,ix,.mk t' y' n' d' k'⟩])) (F:=ptR) (lk:=[(0,19)]) (lk':=[]) base0 ao (LsOk.no rfl) .refl ?_
    show aI Tryz.prog opts0 40 _ _ (c8 (ad ks) i).st _
    rw[Ux,hw]
    exact aj (fun _=>⟨hi0,hr,⟨⟨⟨rfl,hK⟩,⟨rfl,rfl⟩,⟨rfl,rfl⟩,trivial⟩,⟨⟨rfl,rfl,rfl,rfl,rfl⟩,trivial⟩,⟨rfl,hcl⟩,trivial⟩,hn⟩) no
   | cons b r=>
    have hfl:=Io (b::r)
    have hrl:r.length+1=i:=hL
    refine ALp.round (A:=lW t y n (ai d) (ad l) s ix t' y' n' (ai d') (ad k') true) (V2:=fb (ad ks) (i+1) (r.length+1+1) (flat (((b::r)++[(⟨s,ix,.mk t' y' n' d' k'⟩:At)]).map aB))) (F:=ptR) (lk:=[(0,19)]) (lk':=[]) base0 ao (LsOk.no rfl) .refl ?_
    show aI Tryz.prog opts0 40 _ _ (fb (ad ks) i (r.length+1) (flat ((b::r).map aB))).st _
    rw[Uy,hw]
    have hn:ALp Tryz.prog opts0.glob 0 (aD Tryz.prog 16 7) (fb (ad ks) (i+1) (r.length+1+1) (flat (((b::r)++[(⟨s,ix,.mk t' y' n' d' k'⟩:At)]).map aB))).st Q:=by
     have e:(r++[(⟨s,ix,.mk t' y' n' d' k'⟩:At)]).length=r.length+1:=by rw[List.length_append];rfl
     rw[←e]
     exact hn
    have h1:Nat.ble ((r.length+1+aa [AV.agg (.str s::I ix::ag t' y' n' (ai d') (ad k'))])*96) 140737488355328=true:=Nat.ble_eq_true_of_le (by rw[show aa [AV.agg (.str s::I ix::ag t' y' n' (ai d') (ad k'))]=1 from rfl];omega)
    refine aj (fun _=>⟨hi0,hr,aF (sH rfl h1 rfl) (aF (by rw[beq_iff,aE,hfl];rfl) ⟨⟨⟨⟨rfl,hK⟩,⟨rfl,rfl⟩,⟨rfl,rfl⟩,trivial⟩,⟨⟨rfl,rfl,rfl,rfl,rfl⟩,trivial⟩,⟨hsn,hcl⟩,trivial⟩,hn⟩)⟩) no
theorem A5:bu (cy Tryz.prog 16) 7=[aD Tryz.prog 16 7]:=by kernel_rfl
end
def iw (x:It):Int × List At:=match ak (iv 4325384 1 x) 0 with
 |false=>(iv 4325384 1 x,[])
 |true=>match ed (aV x) with
  |none=>(7,[])
  |some l=>(0,l)
def A6 (p:Int × List At):AV:=match ak p.1 0 with
 |true=> .tuple [.fsl false (p.2.map aB),I 0]
 |false=> .tuple [.nilsl,I p.1]
set_option maxRecDepth 20000 in
theorem Vh {x:It} (h:bO bd x) (hl:(aV x).length≤90000):SC 16 [aG x] (A6 (iw x)):=by
 have hcl:ac [aG x]=true:=by simp only[ac,bG x,Bool.and_self]
 have hp:=Vc (tag:=4325384) (ty:=1) h hl
 obtain ⟨t,y,n,d,ks⟩:=x
 have hok:=sq h
 have hK:=cH ks
 simp only[aV] at hl
 simp only[pY,aV] at hp
 simp only[iw,aV]
 rw[aU] at hp hcl⊢
 cases h0:ak (iv 4325384 1 (.mk t y n d ks)) 0 with
 |false=>
  rw[h0] at hp
  have hne:=iY (.tmp 18) (.const (Value.int IntKind.i64 0)) (iv 4325384 1 (.mk t y n d ks)) 0
  rw[h0] at hne
  refine bh (A:=ap [(2,1,.res (.bool true))] [] (bg [(30,.tuple [.nilsl,I (iv 4325384 1 (.mk t y n d ks))])]) [] []) base0 ao (aw (LsOk.no rfl)) hcl ?_
  rw[UB]
  simp only[A6,h0]
  exact ⟨hp,hne,dM rfl⟩
 | true=>
  rw[h0] at hp
  have hlp:= @Vg ks
  cases hr:ed ks with
  | none=>
   refine bh (A:=ap [] [(7,pN (ad ks) .ret ptR)] (bg [(30,.tuple [.fsl false [.fsl false (ad ks)],I 0])]) [] []) base0 ao
    (aw (LsOk.at1 rfl A5 fun st Q hs=> .seen base0.glob hs.1 (hlp hl hok ks.length 0 [] (Nat.zero_add _) rfl (by rw[List.drop_zero,hr];exact hs.2)))) hcl ?_
   rw[UC]
   exact ⟨hp,⟨⟨⟨rfl,rfl⟩,⟨rfl,hK⟩,⟨rfl,rfl⟩,⟨rfl,rfl⟩,trivial⟩,trivial,trivial⟩,dM rfl⟩
  | some L=>
   cases L with
   | nil=>
    refine bh (A:=ap [] [(7,pN (ad ks) (.exit 0) (c8 (ad ks) ks.length))] (bg [(30,.tuple [.fsl false [.fsl false (ad ks)],I 0])]) [] []) base0 ao
     (aw (LsOk.at1 rfl A5 fun st Q hs=> .seen base0.glob hs.1 (hlp hl hok ks.length 0 [] (Nat.zero_add _) rfl (by rw[List.drop_zero,hr];exact hs.2)))) hcl ?_
    rw[UD]
    exact ⟨hp,⟨⟨⟨rfl,rfl⟩,⟨rfl,hK⟩,⟨rfl,rfl⟩,⟨rfl,rfl⟩,trivial⟩,trivial,trivial⟩,rfl,.tuple (.cons .nil (.refl _))⟩
   | cons a r=>
    refine dp (A:=ap [] [(7,pN (ad ks) (.exit 0) (fb (ad ks) ks.length (r.length+1) (flat ((a::r).map aB))))] (bg [(30,.tuple [.fsl false [.fsl false (ad ks)],I 0])]) [] []) base0 ao
     (aw (LsOk.at1 rfl A5 fun st Q hs=> .seen base0.glob hs.1 (hlp hl hok ks.length 0 [] (Nat.zero_add _) rfl (by rw[List.drop_zero,hr];exact hs.2)))) hcl ?_
    rw[UE]
    have hA:=ip (a::r)
    refine ⟨hp,⟨⟨⟨rfl,rfl⟩,⟨rfl,hK⟩,⟨rfl,rfl⟩,⟨rfl,rfl⟩,trivial⟩,trivial,trivial⟩,_,(Frz.tuple (.cons (Frz.row (es:=(a::r).map aB) rfl rfl rfl (by simp) (Ve _) hA) (.closed [I 0] rfl))).out, ?_,.refl _⟩
    simp only[ah,ac,hA,Bool.and_self]
end Go.Proofs.YtmnlofhodbnenaaGreatDoor
namespace Go.Proofs.YtmnlofhodbnenaaGreatDoor
set_option maxRecDepth 20000
open Go Go.RowKit
open Go.Proofs.Abs
def p6 (o:Ob) (x:It):Ob × Int:=match ak (iw x).1 0 with
 |false=>(zO,(iw x).1)
 |true=>eZ o (iw x).2
theorem Iq {l:List At} {i:Nat} {s:List UInt8} {ix t y n:Int} {d:List UInt8} {ks:List It} (hx:l[i]? =some ⟨s,ix,.mk t y n d ks⟩):aC Tryz.prog 54 (.fsl false (l.map aB)) (I (.ofNat i))=some (.fptr (.str s::I ix::ag t y n (ai d) (ad ks)) 0):=
 fN (v:=aB ⟨s,ix,.mk t y n d ks⟩) (e:=58) (sz:=7) (by kernel_rfl) (by kernel_rfl) (by rw[List.getElem?_map,hx];rfl) rfl
section
variable {l:List At}
theorem Vi {Q:AExit→St→Prop} {i:Nat} {o:Ob} {r:Int} (hr:ak r 0=false) (hq:Q (.exit 0) (gV r (am o)).st):ALp Tryz.prog opts0.glob 0 (aD Tryz.prog 6 4) (fc (l.map aB) r i (am o)).st Q:=by
 have hA:=ip l
 have hO:=bH o
 have hlen:aa (l.map aB)=l.length:=by rw[aE,List.length_map]
 have hne:=iY (.tmp 21) (.const (Value.int IntKind.i64 0)) r 0
 rw[hr] at hne
 by_cases hi:i<l.length
 ·have g:=List.getElem?_eq_getElem hi
  revert g
  generalize l[i]=a
  intro g
  obtain ⟨s,ix,t,y,n,d,ks⟩:=a
  refine ALp.round (A:=vW s ix t y n (ai d) (ad ks) [] 0 true) (V2:=fc (l.map aB) r i []) (F:=gV r (am o)) (lk:=[]) (lk':=[(0,0),(1,1)]) base0 ao (LsOk.no rfl) .refl ?_
  unfold am at hO hq⊢
  rw[UG]
  exact aj (fun _=>⟨Iq g,hne,⟨⟨⟨rfl,rfl⟩,trivial⟩,⟨⟨rfl,rfl⟩,⟨rfl,rfl⟩,trivial⟩,⟨rfl,hO⟩,⟨rfl,rfl⟩,trivial⟩,hq⟩) fun e=>by
   have e:=ltInt_false.1 e
   rw[hlen] at e
   simp only[Int.ofNat_eq_natCast] at e
   omega
 ·refine ALp.round (A:=ap [(3,0,.res (.bool false))] [] aH [] []) (V2:=fc (l.map aB) r i []) (F:=gV r (am o)) (lk:=[]) (lk':=[(0,0),(1,1)]) base0 ao (LsOk.no rfl) .refl ?_
  unfold am at hO hq⊢
  rw[H8]
  exact ⟨jr (by rw[hlen];simp only[Int.ofNat_eq_natCast];omega),⟨⟨⟨rfl,rfl⟩,trivial⟩,⟨⟨rfl,rfl⟩,⟨rfl,rfl⟩,trivial⟩,⟨rfl,hO⟩,⟨rfl,rfl⟩,trivial⟩,hq⟩
theorem Vj {Q:AExit→St→Prop} (hb:l.length≤90000) (ha:∀a∈l,kx a):∀ (m i:Nat) (o:Ob),i+m=l.length→SetI o→Q (.exit 0) (gV (eZ o (l.drop i)).2 (am (eZ o (l.drop i)).1)).st→ALp Tryz.prog opts0.glob 0 (aD Tryz.prog 6 4) (fc (l.map aB) 0 i (am o)).st Q:=by
 have hA:=ip l
 have hlen:aa (l.map aB)=l.length:=by rw[aE,List.length_map]
 intro m
 induction m with
 |zero=>
  intro i o hi h hq
  rw[Nat.add_zero] at hi
  subst hi
  rw[List.drop_length] at hq
  have hO:=bH o
  have hq:Q (.exit 0) (gV 0 (am o)).st:=hq
  refine ALp.round (A:=ap [(3,0,.res (.bool false))] [] aH [] []) (V2:=fc (l.map aB) 0 l.length []) (F:=gV 0 (am o)) (lk:=[]) (lk':=[(0,0),(1,1)]) base0 ao (LsOk.no rfl) .refl ?_
  unfold am at hO hq⊢
  rw[H8]
  exact ⟨jr (by rw[hlen];exact Int.le_refl _),⟨⟨⟨rfl,rfl⟩,trivial⟩,⟨⟨rfl,rfl⟩,⟨rfl,rfl⟩,trivial⟩,⟨rfl,hO⟩,⟨rfl,rfl⟩,trivial⟩,hq⟩
 | succ m ih=>
  intro i o hi h hq
  have hlt:i<l.length:=by omega
  have g:=List.getElem?_eq_getElem hlt
  have hat:=ha _ (List.getElem_mem hlt)
  rw[List.drop_eq_getElem_cons hlt] at hq
  revert g hat hq
  generalize l[i]=a
  intro hq g hat
  have h1:=RE (a:=a) h.ok.fit (T6 hat.n) h.ok.g hat.v
  have hI:=Aw h hat
  have hz:=T3 (c:=dN a.name) (o:=o) (a:=a)
  have hO:=bH o
  have hw:ar .i64 (Int.ofNat i+1)=Int.ofNat (i+1):=dG (by omega)
  have hne:=iY (.tmp 21) (.const (Value.int IntKind.i64 0)) 0 0
  have ih:=ih (i+1)
  simp only[eZ] at hq
  revert h1 hI hz hq
  generalize dP (dN a.name) o a=p
  obtain ⟨p,e⟩:=p
  intro hq h1 hI hz
  simp only at hI hz hq
  have fp:=lT p
  have hP:=bH p
  have hn:ALp Tryz.prog opts0.glob 0 (aD Tryz.prog 6 4) (fc (l.map aB) e (i+1) (am p)).st Q:=by
   cases he:ak e 0 with
   |true=>
    rw[he] at hq
    have e0:=beqInt_iff.1 he
    subst e0
    exact ih p (by omega) (hI rfl) hq
   |false=>
    rw[he] at hq
    rw[hz (beqInt_false.1 he)]
    exact Vi he hq
  obtain ⟨s,ix,t,y,n,d,ks⟩:=a
  rw[cM] at h1
  unfold du az at h1
  refine ALp.round (A:=vW s ix t y n (ai d) (ad ks) (am p) e false) (V2:=fc (l.map aB) e (i+1) (am p)) (F:=fc (l.map aB) 0 i []) (lk:=[(0,0),(1,1)]) (lk':=[]) base0 ao (LsOk.no rfl) .refl ?_
  unfold am at hO hP fp hn h1⊢
  rw[UF,hw]
  exact aj (fun _=>⟨Iq g,hne,h1,aF fp ⟨⟨⟨⟨rfl,rfl⟩,⟨rfl,hA⟩,⟨rfl,rfl⟩,⟨rfl,rfl⟩,trivial⟩,⟨⟨rfl,rfl⟩,⟨rfl,rfl⟩,trivial⟩,⟨rfl,hP⟩,⟨rfl,rfl⟩,trivial⟩,hn⟩⟩) fun e=>by
   have e:=ltInt_false.1 e
   rw[hlen] at e
   simp only[Int.ofNat_eq_natCast] at e
   omega
theorem Vk:bu (cy Tryz.prog 6) 4=[aD Tryz.prog 6 4]:=by kernel_rfl
end
theorem Ir (o:Ob) (x:It):ac [az o,aG x]=true:=dj o (c:=[aG x]) (by simp only[ac,bG x,Bool.and_self])
theorem Vl {o:Ob} (ho:SetI o) {x:It} (h:bO bd x) (hl:(aV x).length≤90000) (hlp:(iw x).2.length≤90000) (ha:∀a∈(iw x).2,kx a):SC 6 [az o,aG x] (du (p6 o x)):=by
 have hp:=Vh h hl
 have hcl:=Ir o x
 have hO:=bH o
 unfold p6
 revert hp hlp ha
 generalize iw x=q
 obtain ⟨r,l⟩:=q
 intro hlp ha hp
 simp only[A6] at hp
 simp only at hlp ha⊢
 obtain ⟨t,y,n,d,ks⟩:=x
 rw[aU] at hp hcl⊢
 have hne:=iY (.tmp 30) (.const (Value.int IntKind.i64 0)) r 0
 cases h0:ak r 0 with
 |false=>
  rw[h0] at hp hne
  refine bh (A:=ap [(8,1,.res (.bool true))] [] (bg [(16,.tuple [.nilsl,I r])]) [] []) base0 ao (aw (LsOk.no rfl)) hcl ?_
  unfold az am
  rw[UH]
  exact ⟨hp,hne,co r⟩
 | true=>
  rw[h0] at hp
  have hA:=ip l
  have hlp':= @Vj l
  have hfit:=HR ho ha
  have hz:=vJ l (o:=o)
  revert hfit hz hlp'
  generalize hq:eZ o l=q
  obtain ⟨p,e⟩:=q
  intro hlp' hfit hz
  simp only at hfit hz
  have hcp:=FP hfit
  have fp:=lT p
  refine bh (A:=ap [] [(4,H9 (l.map aB) (am o) (gV e (am p)))] (dW [(16,fun _=>some (.tuple [.fsl false (l.map aB),I 0])),(18,fun _=>some (.agg (am p)))]) [] []) base0 ao
   (aw (LsOk.at1 rfl Vk fun st Q hs=> .seen base0.glob hs.1 (hlp' hlp ha l.length 0 o (Nat.zero_add _) ho (by rw[List.drop_zero,hq];exact hs.2)))) hcl ?_
  have eo:=jp p 0
  unfold az at hcp⊢
  unfold am at hO hcp fp eo⊢
  rw[UI]
  refine ⟨hp,⟨⟨⟨rfl,rfl⟩,⟨rfl,hA⟩,⟨rfl,rfl⟩,⟨rfl,rfl⟩,trivial⟩,⟨⟨rfl,rfl⟩,⟨rfl,rfl⟩,trivial⟩,⟨rfl,hO⟩,⟨rfl,rfl⟩,trivial⟩,aj (fun e1=> ?_) fun e1=>⟨hcp,aF fp ?_⟩⟩
  ·rw[Bool.not_eq_true'] at e1
   have hz:=hz (beqInt_false.1 e1)
   subst hz
   exact co e
  ·rw[Bool.not_eq_false'] at e1
   have e0:=beqInt_iff.1 e1
   subst e0
   exact eo
section
variable {ks:List It}
def Is (ks:List It) (O:List AV) (o:Option (List At)) (Q:AExit→St→Prop):Prop:=match o with
 |none=>Q .ret (eN 7).st
 |some _=>Q (.exit 0) (eg (ad ks) ks.length O).st
theorem Vm {Q:AExit→St→Prop} {O:List AV} (hO:ac O=true) (hb:ks.length≤90000) (hok:∀x∈ks,bO bd x):∀m i:Nat,i+m=ks.length→Is ks O (ed (ks.drop i)) Q→ALp Tryz.prog opts0.glob 0 (aD Tryz.prog 7 6) (eg (ad ks) i O).st Q:=by
 have hK:ah (.fsl false [.fsl false (ad ks)])=true:=by
  have:=cH ks
  simp only[ah,ac,this,Bool.and_self]
 have hlen:=lQ ks
 intro m
 induction m with
 |zero=>
  intro i hi hq
  rw[Nat.add_zero] at hi
  subst hi
  rw[List.drop_length] at hq
  have hq:Q (.exit 0) (eg (ad ks) ks.length O).st:=hq
  refine ALp.round (A:=ap [(5,5,.res (.bool false))] [] aH [] []) (V2:=eg (ad ks) ks.length O) (F:=eg (ad ks) ks.length O) (lk:=[]) (lk':=[(0,0),(1,1)]) base0 ao (LsOk.no rfl) .refl ?_
  rw[UL]
  exact ⟨jr (by rw[hlen];exact Int.le_refl _),⟨⟨⟨rfl,hK⟩,⟨rfl,rfl⟩,⟨rfl,rfl⟩,trivial⟩,⟨⟨rfl,rfl⟩,⟨rfl,rfl⟩,trivial⟩,⟨rfl,hO⟩,⟨rfl,rfl⟩,trivial⟩,hq⟩
 | succ m ih=>
  intro i hi hq
  have hlt:i<ks.length:=by omega
  have g:=List.getElem?_eq_getElem hlt
  have hx:=hok _ (List.getElem_mem hlt)
  have ih:=ih (i+1) (by omega)
  rw[List.drop_eq_getElem_cons hlt] at hq
  have ht:aM Tryz.prog .lss 3 (.tmp 25) (.tmp 29) (I (.ofNat i)) (I (.ofNat (aa (ad ks))))=some (.bool true):=rO (by rw[hlen];simp only[Int.ofNat_eq_natCast];omega)
  revert hq g hx
  generalize ks[i]=x
  intro hq g hx
  have hr:=Hs hx
  obtain ⟨t,y,n,d,l⟩:=x
  have hi0:=bB (f:=false) g
  rw[aU] at hr
  have hw:ar .i64 (Int.ofNat i+1)=Int.ofNat (i+1):=dG (by omega)
  simp only[ed] at hq
  cases hrd:bI (.mk t y n d l) with
  |none=>
   rw[hrd] at hq hr
   have hq:Q .ret (eN 7).st:=hq
   refine ALp.round (A:=vX t y n (ai d) (ad l) [] 0 0 0 0 [] [] false) (V2:=eg (ad ks) i O) (F:=eN 7) (lk:=[]) (lk':=[(0,1)]) base0 ao (LsOk.no rfl) .refl ?_
   rw[UK]
   exact ⟨ht,hi0,hr,⟨⟨⟨rfl,rfl⟩,trivial⟩,⟨⟨rfl,rfl⟩,trivial⟩,⟨rfl,rfl⟩,trivial⟩,hq⟩
  | some a=>
   rw[hrd] at hq hr
   have hn:=ih (by
    revert hq
    unfold Is
    cases ed (ks.drop (i+1)) with
    |none=>exact id
    |some l'=>exact id)
   obtain ⟨s,ix,t',y',n',d',k'⟩:=a
   refine ALp.round (A:=vX t y n (ai d) (ad l) s ix t' y' n' (ai d') (ad k') true) (V2:=eg (ad ks) (i+1) O) (F:=eN 7) (lk:=[(0,0),(1,1)]) (lk':=[]) base0 ao (LsOk.no rfl) .refl ?_
   rw[UJ,hw]
   exact ⟨ht,hi0,hr,⟨⟨⟨rfl,hK⟩,⟨rfl,rfl⟩,⟨rfl,rfl⟩,trivial⟩,⟨⟨rfl,rfl⟩,⟨rfl,rfl⟩,trivial⟩,⟨rfl,hO⟩,⟨rfl,rfl⟩,trivial⟩,hn⟩
def A7 (ks:List It) (p:Ob × Int) (Q:AExit→St→Prop):Prop:=match ak p.2 0 with
 |true=>Q (.exit 2) (eM (ad ks) ks.length (am p.1)).st
 |false=>Q .ret (eN p.2).st
theorem Vn {Q:AExit→St→Prop} (hb:ks.length≤90000) (hok:∀x∈ks,bO bd x):∀ (m i:Nat) (o:Ob) (L:List At),i+m=ks.length→SetI o→ed (ks.drop i)=some L→(∀a∈L,kx a)→A7 ks (eZ o L) Q→ALp Tryz.prog opts0.glob 0 (aD Tryz.prog 7 12) (eM (ad ks) i (am o)).st Q:=by
 have hK:ah (.fsl false [.fsl false (ad ks)])=true:=by
  have:=cH ks
  simp only[ah,ac,this,Bool.and_self]
 have hlen:=lQ ks
 intro m
 induction m with
 |zero=>
  intro i o L hi h hrd ha hq
  rw[Nat.add_zero] at hi
  subst hi
  rw[List.drop_length] at hrd
  cases hrd
  have hq:Q (.exit 2) (eM (ad ks) ks.length (am o)).st:=hq
  have hO:=bH o
  refine ALp.round (A:=ap [(11,5,.res (.bool false))] [] aH [] []) (V2:=eM (ad ks) ks.length []) (F:=eM (ad ks) ks.length (am o)) (lk:=[]) (lk':=[(0,0),(1,1)]) base0 ao (LsOk.no rfl) .refl ?_
  unfold am at hO hq⊢
  rw[UO]
  exact ⟨jr (by rw[hlen];exact Int.le_refl _),⟨⟨⟨rfl,hK⟩,⟨rfl,rfl⟩,⟨rfl,rfl⟩,trivial⟩,⟨⟨rfl,rfl⟩,⟨rfl,rfl⟩,trivial⟩,⟨rfl,hO⟩,⟨rfl,rfl⟩,trivial⟩,hq⟩
 | succ m ih=>
  intro i o L hi h hrd ha hq
  have hlt:i<ks.length:=by omega
  have g:=List.getElem?_eq_getElem hlt
  have hx:=hok _ (List.getElem_mem hlt)
  have ih:=ih (i+1)
  rw[List.drop_eq_getElem_cons hlt] at hrd
  have ht:aM Tryz.prog .lss 3 (.tmp 46) (.tmp 50) (I (.ofNat i)) (I (.ofNat (aa (ad ks))))=some (.bool true):=rO (by rw[hlen];simp only[Int.ofNat_eq_natCast];omega)
  revert hrd g hx
  generalize ks[i]=x
  intro hrd g hx
  have hr:=Hs hx
  obtain ⟨t,y,n,d,l⟩:=x
  have hi0:=bB (f:=false) g
  rw[aU] at hr
  have hw:ar .i64 (Int.ofNat i+1)=Int.ofNat (i+1):=dG (by omega)
  simp only[ed] at hrd
  cases hri:bI (.mk t y n d l) with
  |none=>rw[hri] at hrd;cases hrd
  | some a=>
   rw[hri] at hrd hr
   cases hrr:ed (ks.drop (i+1)) with
   |none=>rw[hrr] at hrd;cases hrd
   | some L'=>
    rw[hrr] at hrd
    cases hrd
    have hat:=ha a (by simp)
    have h1:=TV (a:=a) h.ok.fit h.len (T7 hat.n) (h.nm hat.n) h.ok.g hat.v
    have hI:=Aw h hat
    have hO:=bH o
    simp only[eZ] at hq
    revert h1 hI hq
    generalize dP (dN a.name) o a=p
    obtain ⟨p,e⟩:=p
    intro hq h1 hI
    simp only at hI hq
    have fp:=lT p
    have hP:=bH p
    have hne:=iY (.tmp 70) (.const (Value.int IntKind.i64 0)) e 0
    cases he:ak e 0 with
    |true=>
     rw[he] at hq hne
     have e0:=beqInt_iff.1 he
     subst e0
     have hn:=ih p L' (by omega) (hI rfl) hrr (fun b hb=>ha b (by simp[hb])) hq
     obtain ⟨s,ix,t',y',n',d',k'⟩:=a
     rw[cM] at h1
     unfold du az at h1
     refine ALp.round (A:=vZ t y n (ai d) (ad l) s ix t' y' n' (ai d') (ad k') (am p) 0 false) (V2:=eM (ad ks) (i+1) (am p)) (F:=eN 7) (lk:=[(0,0),(1,1)]) (lk':=[]) base0 ao (LsOk.no rfl) .refl ?_
     unfold am at hO hP fp hn h1⊢
     rw[UM,hw]
     exact ⟨ht,hi0,hr,h1,aF fp ⟨hne,⟨⟨⟨rfl,hK⟩,⟨rfl,rfl⟩,⟨rfl,rfl⟩,trivial⟩,⟨⟨rfl,rfl⟩,⟨rfl,rfl⟩,trivial⟩,⟨rfl,hP⟩,⟨rfl,rfl⟩,trivial⟩,hn⟩⟩
    | false=>
     rw[he] at hq hne
     have hq:Q .ret (eN e).st:=by
      unfold A7 at hq
      rw[he] at hq
      exact hq
     obtain ⟨s,ix,t',y',n',d',k'⟩:=a
     rw[cM] at h1
     unfold du az at h1
     refine ALp.round (A:=vZ t y n (ai d) (ad l) s ix t' y' n' (ai d') (ad k') (am p) e true) (V2:=eM (ad ks) i []) (F:=eN e) (lk:=[]) (lk':=[(0,1)]) base0 ao (LsOk.no rfl) .refl ?_
     unfold am at hO hP fp h1⊢
     rw[UN]
     exact ⟨ht,hi0,hr,h1,aF fp ⟨hne,⟨⟨⟨rfl,rfl⟩,trivial⟩,⟨⟨rfl,rfl⟩,trivial⟩,⟨rfl,rfl⟩,trivial⟩,hq⟩⟩
theorem A8:bu (cy Tryz.prog 7) 6=[aD Tryz.prog 7 6]:=by kernel_rfl
theorem Iu:bu (cy Tryz.prog 7) 12=[aD Tryz.prog 7 12]:=by kernel_rfl
end
theorem Vo {o:Ob} (ho:SetI o) {x:It} (h:bO bd x) (hl:(aV x).length≤90000) (ha:∀y∈aV x,TiOk y):SC 7 [az o,aG x] (du (p6 o x)):=by
 have hp:=Vd (tag:=4325384) (ty:=1) hl
 have hcl:=Ir o x
 have hO:=bH o
 obtain ⟨t,y,n,d,ks⟩:=x
 have hok:=sq h
 have hK:ah (.fsl false [.fsl false (ad ks)])=true:=by
  have:=cH ks
  simp only[ah,ac,this,Bool.and_self]
 simp only[aV] at hl ha
 simp only[pY,aV] at hp
 simp only[p6,iw,aV]
 rw[aU] at hp hcl⊢
 cases h0:ak (iv 4325384 1 (.mk t y n d ks)) 0 with
 |false=>
  rw[h0] at hp
  have hne:=iY (.tmp 21) (.const (Value.int IntKind.i64 0)) (iv 4325384 1 (.mk t y n d ks)) 0
  rw[h0] at hne
  refine bh (A:=ap [(2,1,.res (.bool true))] [] (bg [(19,.tuple [.nilsl,I (iv 4325384 1 (.mk t y n d ks))])]) [20] []) base0 ao (aw (LsOk.no rfl)) hcl ?_
  unfold az am
  rw[UP]
  simp only[h0]
  exact ⟨hp,hne,co _⟩
 | true=>
  rw[h0] at hp
  have hne:aM Tryz.prog .neq 3 (.tmp 21) (.const (Value.int IntKind.i64 0)) (I 0) (I 0)=some (.bool false):=iY (.tmp 21) (.const (Value.int IntKind.i64 0)) 0 0
  have h1:= @Vm ks
  have h2:= @Vn ks
  cases hr:ed ks with
  | none=>
   refine bh (A:=pQ (ad ks) [(6,pP (ad ks) (am o) .ret (eN 7))] false) base0 ao
    (aw (LsOk.at1 rfl A8 fun st Q hs=> .seen base0.glob hs.1 (h1 hO hl hok ks.length 0 (Nat.zero_add _) (by rw[List.drop_zero,hr];exact hs.2)))) hcl ?_
   have ez:=co 7
   unfold az
   unfold am at hO⊢
   rw[UQ]
   exact ⟨hp,hne,⟨⟨⟨rfl,hK⟩,⟨rfl,rfl⟩,⟨rfl,rfl⟩,trivial⟩,⟨⟨rfl,rfl⟩,⟨rfl,rfl⟩,trivial⟩,⟨rfl,hO⟩,⟨rfl,rfl⟩,trivial⟩,ez⟩
  | some L=>
   have haL:=Ax ha hr
   have hz:=vJ L (o:=o)
   dsimp only
   revert hz
   generalize hq:eZ o L=q
   obtain ⟨p,e⟩:=q
   intro hz
   simp only at hz
   have fp:=lT p
   have hP:=bH p
   cases he:ak e 0 with
   | true=>
    have e0:=beqInt_iff.1 he
    subst e0
    refine bh (A:=pQ (ad ks) [(6,pP (ad ks) (am o) (.exit 0) (eg (ad ks) ks.length (am o))),(12,v4 (ad ks) (am o) (.exit 2) (eM (ad ks) ks.length (am p)))] false) base0 ao
     (aw (LsOk.at2 rfl A8 Iu (fun st Q hs=> .seen base0.glob hs.1 (h1 hO hl hok ks.length 0 (Nat.zero_add _) (by rw[List.drop_zero,hr];exact hs.2)))
      (fun st Q hs=> .seen base0.glob hs.1 (h2 hl hok ks.length 0 o L (Nat.zero_add _) ho (by rw[List.drop_zero,hr]) haL (by rw[hq];exact hs.2))))) hcl ?_
    have eo:=jp p 0
    unfold az
    unfold am at hO hP fp eo⊢
    rw[US]
    exact ⟨hp,hne,⟨⟨⟨rfl,hK⟩,⟨rfl,rfl⟩,⟨rfl,rfl⟩,trivial⟩,⟨⟨rfl,rfl⟩,⟨rfl,rfl⟩,trivial⟩,⟨rfl,hO⟩,⟨rfl,rfl⟩,trivial⟩,⟨⟨⟨rfl,hK⟩,⟨rfl,rfl⟩,⟨rfl,rfl⟩,trivial⟩,⟨⟨rfl,rfl⟩,⟨rfl,rfl⟩,trivial⟩,⟨rfl,hO⟩,⟨rfl,rfl⟩,trivial⟩,aF fp eo⟩
   | false=>
    have hz:=hz (beqInt_false.1 he)
    subst hz
    refine bh (A:=pQ (ad ks) [(6,pP (ad ks) (am o) (.exit 0) (eg (ad ks) ks.length (am o))),(12,v4 (ad ks) (am o) .ret (eN e))] false) base0 ao
     (aw (LsOk.at2 rfl A8 Iu (fun st Q hs=> .seen base0.glob hs.1 (h1 hO hl hok ks.length 0 (Nat.zero_add _) (by rw[List.drop_zero,hr];exact hs.2)))
      (fun st Q hs=> .seen base0.glob hs.1 (h2 hl hok ks.length 0 o L (Nat.zero_add _) ho (by rw[List.drop_zero,hr]) haL (by rw[hq];unfold A7;simp only[he];exact hs.2))))) hcl ?_
    have ez:=co e
    unfold az
    unfold am at hO⊢
    rw[UR]
    exact ⟨hp,hne,⟨⟨⟨rfl,hK⟩,⟨rfl,rfl⟩,⟨rfl,rfl⟩,trivial⟩,⟨⟨rfl,rfl⟩,⟨rfl,rfl⟩,trivial⟩,⟨rfl,hO⟩,⟨rfl,rfl⟩,trivial⟩,⟨⟨⟨rfl,hK⟩,⟨rfl,rfl⟩,⟨rfl,rfl⟩,trivial⟩,⟨⟨rfl,rfl⟩,⟨rfl,rfl⟩,trivial⟩,⟨rfl,hO⟩,⟨rfl,rfl⟩,trivial⟩,ez⟩
abbrev tF (s:List UInt8) (v:It):List AV:=ag 4325384 1 0 (ai []) (ad [.mk 4325386 7 0 s [],v])
theorem Iv (s:List UInt8) (v:It):SC 11 [.str s,aG v] (.agg (tF s v)):=by
 have hv:=bG v
 obtain ⟨t,y,n,d,ks⟩:=v
 have hcl:ac [.str s,aG (.mk t y n d ks)]=true:=by simp only[ac,ah,hv,Bool.and_self]
 refine dp (A:=ap [] [] aH [27,28,10] []) base0 ao (aw (LsOk.no rfl)) hcl ?_
 rw[aU] at hv⊢
 rw[UT]
 have hes:ac [.agg [I 4325386,I 7,I 0,.fsl false (ai s),.nilsl],.agg (ag t y n (ai d) (ad ks))]=true:=by
  simp only[ac,hv,Bool.and_self,Bool.and_true]
  simp[ah,ac]
 refine ⟨_,(Frz.agg (.cons (.closed _ rfl) (.cons (.closed _ rfl) (.cons (.closed _ rfl) (.cons (.closed _ rfl) (.cons (Frz.row (es:=[.agg [I 4325386,I 7,I 0,.fsl false (ai s),.nilsl],.agg (ag t y n (ai d) (ad ks))]) rfl rfl rfl rfl ?_ hes) .nil)))))).out, ?_, ?_⟩
 ·intro e he
  simp only[List.mem_cons,List.not_mem_nil,or_false] at he
  rcases he with rfl|rfl<;>exact ⟨rfl,rfl⟩
 ·show ah (.agg [I 4325384,I 1,I 0,.nilsl,.fsl false [.agg [I 4325386,I 7,I 0,.fsl false (ai s),.nilsl],.agg (ag t y n (ai d) (ad ks))]])=true
  have:ah (.fsl false [.agg [I 4325386,I 7,I 0,.fsl false (ai s),.nilsl],.agg (ag t y n (ai d) (ad ks))])=true:=hes
  simp only[ah,ac,Bool.true_and] at this⊢
  simpa using this
 ·refine .agg ?_
  simp only[tF,ag,ad,aG,ai]
  (repeat (first|exact Wk.refl _|exact WkL.refl _|exact Wk.nil|exact Wk.row|exact WkE.refl _|exact WkL.nil|exact WkE.nil|apply Wk.agg|apply Wk.tuple|apply WkL.cons|apply Wk.rows|apply WkE.consA))
theorem A9 (s:List UInt8) (y n:Int):SC 11 [.str s,.agg [I 4325387,I y,I n,.nilsl,.nilsl]] (.agg (tF s (a9 y n))):=by
 refine (Iv s (a9 y n)).wkA (.cons (.refl _) (.cons (.agg ?_) .nil))
 simp only[ad,ai]
 (repeat (first|exact Wk.refl _|exact WkL.refl _|exact Wk.nil|exact Wk.row|exact WkE.refl _|exact WkL.nil|exact WkE.nil|apply Wk.agg|apply Wk.tuple|apply WkL.cons|apply Wk.rows|apply WkE.consA))
theorem Iw (ks:List It):aa (flat (ad ks))=ks.length*5:=by rw[aE,rC]
theorem Vp {l:List Rw} {i:Nat} {r:Rw} (hx:l[i]? =some r):aC Tryz.prog 22 (.fsl false (l.map a7)) (I (.ofNat i))=some (.fptr (rE r) 0):=fN (v:=a7 r) (e:=50) (sz:=4) (by kernel_rfl) (by kernel_rfl) (by rw[List.getElem?_map,hx];rfl) rfl
theorem nG {lk:List (Nat × Nat)} {a b:AV} (h:RenV lk a b):df lk (lZ a) (lZ b):=⟨by simp only[lZ,RenL];exact ⟨.same _ rfl,.same _ rfl,.same _ rfl,.same _ rfl,h,trivial⟩⟩
theorem Vq {p:Int} (h0:0≤p) (h1:p<10):∃s:List UInt8,(s∈iP∧s.length≤1000)∧cm Tryz.prog 51 (.agg [.str [78,97,109,101],.str [65,99,116,105,118,97,116,105,111,110,32,68,97,116,101],.str [65,99,116,105,118,97,116,105,111,110,32,68,97,116,101],.str [68,101,97,99,116,105,118,97,116,105,111,110,32,68,97,116,101],.str [85,115,97,103,101,32,76,105,109,105,116,115],.str [120,45,97],.str [80,114,111,99,101,115,115,32,83,116,97,114,116,32,68,97,116,101],.str [80,114,111,116,101,99,116,32,83,116,111,112,32,68,97,116,101],.str [76,105,110,107],.str [83,116,97,116,101]]) (I p)=some (.str s):=by
 have:p=0∨p=1∨p=2∨p=3∨p=4∨p=5∨p=6∨p=7∨p=8∨p=9:=by omega
 rcases this with rfl|rfl|rfl|rfl|rfl|rfl|rfl|rfl|rfl|rfl
 ·exact ⟨[78,97,109,101],by decide,by kernel_rfl⟩
 ·exact ⟨[65,99,116,105,118,97,116,105,111,110,32,68,97,116,101],by decide,by kernel_rfl⟩
 ·exact ⟨[65,99,116,105,118,97,116,105,111,110,32,68,97,116,101],by decide,by kernel_rfl⟩
 ·exact ⟨[68,101,97,99,116,105,118,97,116,105,111,110,32,68,97,116,101],by decide,by kernel_rfl⟩
 ·exact ⟨[85,115,97,103,101,32,76,105,109,105,116,115],by decide,by kernel_rfl⟩
 ·exact ⟨[120,45,97],by decide,by kernel_rfl⟩
 ·exact ⟨[80,114,111,99,101,115,115,32,83,116,97,114,116,32,68,97,116,101],by decide,by kernel_rfl⟩
 ·exact ⟨[80,114,111,116,101,99,116,32,83,116,111,112,32,68,97,116,101],by decide,by kernel_rfl⟩
 ·exact ⟨[76,105,110,107],by decide,by kernel_rfl⟩
 ·exact ⟨[83,116,97,116,101],by decide,by kernel_rfl⟩
theorem Vr {p:Int} (h0:0≤p) (h1:p<6):∃m:Int,cm Tryz.prog 47 (.agg [I 396,I 396,I 12,I 384,I 4,I 0]) (I p)=some (I m):=by
 have:p=0∨p=1∨p=2∨p=3∨p=4∨p=5:=by omega
 rcases this with rfl|rfl|rfl|rfl|rfl|rfl
 ·exact ⟨396,by kernel_rfl⟩
 ·exact ⟨396,by kernel_rfl⟩
 ·exact ⟨12,by kernel_rfl⟩
 ·exact ⟨384,by kernel_rfl⟩
 ·exact ⟨4,by kernel_rfl⟩
 ·exact ⟨0,by kernel_rfl⟩
theorem wj {l:List Rw}:∀ (m i:Nat) (ks:List It),i+m=min l.length 4→ks≠[]→ks.length≤3+i→(∀x∈ks,TiOk x)→∃ks':List It,ks'≠[]∧ks'.length≤7∧(∀x∈ks',TiOk x)∧∀Q:AExit→St→Prop,Q (.exit 0) (cI (l.map a7) (min l.length 4) ks'.length (flat (ad ks'))).st→ALp Tryz.prog opts0.glob 6 (aD Tryz.prog 4 10) (cI (l.map a7) i ks.length (flat (ad ks))).st Q:=by
 have hR:=ki l
 have hlen:aa (l.map a7)=l.length:=by rw[aE,List.length_map]
 intro m
 induction m with
 | zero=>
  intro i ks hi hne hk ha
  rw[Nat.add_zero] at hi
  subst hi
  refine ⟨ks,hne,by omega,ha,fun Q hq=> ?_⟩
  have hE:=fW ks
  by_cases h4:l.length<4+1
  ·by_cases h5:l.length=min l.length 4
   ·refine ALp.round (A:=ap [(9,3,.res (.bool false))] [] aH [] []) (V2:=cI (l.map a7) (min l.length 4) ks.length []) (F:=cI (l.map a7) (min l.length 4) ks.length (flat (ad ks))) (lk:=[]) (lk':=[(0,0),(1,1),(2,2),(3,3),(4,4),(5,5),(6,6),(7,7),(8,8)]) base0 ao (LsOk.no rfl) .refl ?_
    rw[UV]
    exact ⟨jr (by rw[hlen];simp only[Int.ofNat_eq_natCast];omega),⟨⟨⟨rfl,hR⟩,⟨rfl,rfl⟩,trivial⟩,⟨⟨rfl,rfl⟩,⟨rfl,rfl⟩,trivial⟩,nG (.rsl _ _ _ _ _ _ rfl),⟨rfl,rfl⟩,⟨rfl,hE⟩,trivial⟩,hq⟩
   ·omega
  ·refine ALp.round (A:=ap [(9,3,.res (.bool true)),(9,6,.res (.bool false))] [] aH [] []) (V2:=cI (l.map a7) (min l.length 4) ks.length []) (F:=cI (l.map a7) (min l.length 4) ks.length (flat (ad ks))) (lk:=[]) (lk':=[(0,0),(1,1),(2,2),(3,3),(4,4),(5,5),(6,6),(7,7),(8,8)]) base0 ao (LsOk.no rfl) .refl ?_
   rw[UW]
   exact ⟨rO (by rw[hlen];simp only[Int.ofNat_eq_natCast];omega),jr (by simp only[Int.ofNat_eq_natCast];omega),⟨⟨⟨rfl,hR⟩,⟨rfl,rfl⟩,trivial⟩,⟨⟨rfl,rfl⟩,⟨rfl,rfl⟩,trivial⟩,nG (.rsl _ _ _ _ _ _ rfl),⟨rfl,rfl⟩,⟨rfl,hE⟩,trivial⟩,hq⟩
 | succ m ih=>
  intro i ks hi hne hk ha
  have hlt:i<l.length:=by omega
  have h4:i<4:=by omega
  have g:=List.getElem?_eq_getElem hlt
  revert g
  generalize l[i]=y
  intro g
  have hpk:=iQ y.k (m:=10) (by decide) (by decide)
  obtain ⟨s,⟨hs,hsl⟩,hix⟩:=Vq (p:=y.k%10) (Int.emod_nonneg _ (by decide)) (Int.emod_lt_of_pos _ (by decide))
  have hv:=Nr s y
  have hvt:=RQ s y
  have hvo:=Nv s y
  revert hv hvt hvo
  generalize jZ s y=v
  intro hv hvt hvo
  have hst:=Iv s v
  have hnew:TiOk (cB s v):= .of_set hs hvt hvo hsl
  obtain ⟨ks',k1,k2,k3,k4⟩:=ih (i+1) (ks++[cB s v]) (by omega) (by simp) (by rw[List.length_append,List.length_singleton];omega) (fun x hx=>by
   rcases List.mem_append.1 hx with hx|hx
   ·exact ha x hx
   ·rw[List.mem_singleton] at hx;subst hx;exact hnew)
  refine ⟨ks',k1,k2,k3,fun Q hq=> ?_⟩
  have hn:=k4 Q hq
  have hE:=fW (ks++[cB s v])
  have hfl:flat (ad ks)++flat [.agg (tF s v)]=flat (ad (ks++[cB s v])):=by rw[uj,ej];rfl
  have hl5:=Iw ks
  have hw:ar .i64 (Int.ofNat i+1)=Int.ofNat (i+1):=dG (by omega)
  have hll:(ks++[cB s v]).length=ks.length+1:=by rw[List.length_append];rfl
  rw[hll] at hn
  obtain ⟨vt,vy,vn,vd,vk⟩:=v
  rw[aU] at hv hst
  cases ks with
  |nil=>exact absurd rfl hne
  |cons a r=>
   have h1:Nat.ble ((r.length+1+aa [AV.agg (tF s (.mk vt vy vn vd vk))])*72) 140737488355328=true:=Nat.ble_eq_true_of_le (by rw[show aa [AV.agg (tF s (.mk vt vy vn vd vk))]=1 from rfl];simp only[List.length_cons] at hk;omega)
   refine ALp.round (A:=Ib y (y.k%10) s vt vy vn 4325384 1 0 (ai vd) (ad vk) (ai []) (ad [.mk 4325386 7 0 s [],.mk vt vy vn vd vk])) (V2:=cI (l.map a7) (i+1) (r.length+1+1) (flat (ad (a::r++[cB s (.mk vt vy vn vd vk)])))) (F:=cI (l.map a7) i r.length []) (lk:=[(0,0),(1,1),(2,2),(3,3),(4,4),(5,5),(6,6),(7,7),(8,37)]) (lk':=[]) base0 ao (LsOk.no rfl) .refl ?_
   show aI Tryz.prog opts0 40 _ _ (cI (l.map a7) i (r.length+1) (flat (ad (a::r)))).st _
   rw[UU,hw]
   exact ⟨rO (by rw[hlen];simp only[Int.ofNat_eq_natCast];omega),rO (by simp only[Int.ofNat_eq_natCast];omega),Vp g,hpk,hix,hv,hst,aF (sH rfl h1 rfl) (aF (by rw[beq_iff,hl5];rfl) ⟨⟨⟨⟨rfl,hR⟩,⟨rfl,rfl⟩,trivial⟩,⟨⟨rfl,rfl⟩,⟨rfl,rfl⟩,trivial⟩,nG (.rsl _ _ _ _ _ _ rfl),⟨rfl,rfl⟩,⟨hfl,hE⟩,trivial⟩,hn⟩)⟩
theorem wl:bu (cy Tryz.prog 4) 10=[aD Tryz.prog 4 10]:=by kernel_rfl
end Go.Proofs.YtmnlofhodbnenaaGreatDoor
namespace Go.Proofs.YtmnlofhodbnenaaGreatDoor
open Go Go.RowKit
open Go.Proofs.Abs
theorem wm {k:Nat} {h:af} {es:List AV} (hg:hget h 8=some (.cells es)) (hc:ac es=true):t9 9 (.agg (lZ (.rsl true 8 0 k 5))) [(8,some (.cells es))] 11 (.agg (lZ (.rsl true 8 0 k 5))) h 11:=
 ⟨rfl,⟨_,.agg (.cons (.closed _ rfl) (.cons (.closed _ rfl) (.cons (.closed _ rfl) (.cons (.closed _ rfl) (.cons (.keepR rfl) .nil))))),.refl _⟩,⟨rfl,.cells es,.cells es,hg,FrzL.closed _ hc,.refl _⟩,trivial⟩
def fz:List UInt8:=[67,114,121,112,116,111,103,114,97,112,104,105,99,32,65,108,103,111,114,105,116,104,109]
def fY:List UInt8:=[67,114,121,112,116,111,103,114,97,112,104,105,99,32,76,101,110,103,116,104]
def fZ:List UInt8:=[67,114,121,112,116,111,103,114,97,112,104,105,99,32,85,115,97,103,101,32,77,97,115,107]
theorem Ba {s:List UInt8} (hs:s∈iP) (hl:s.length≤1000) (y n:Int):TiOk (cB s (a9 y n)):= .of_set hs ⟨(by decide:([]:List UInt8)∈cF),trivial⟩ (np y n) hl
def Vs (ks:List It):Prop:=ks≠[]∧ks.length≤7∧∀x∈ks,TiOk x
theorem Bb {a b:It} (ha:TiOk a) (hb:TiOk b):∀x∈[a,b],TiOk x:=fun x hx=>by
 simp only[List.mem_cons,List.not_mem_nil,or_false] at hx
 rcases hx with rfl|rfl
 ·exact ha
 ·exact hb
theorem Vt {a b c:It} (ha:TiOk a) (hb:TiOk b) (hc:TiOk c):∀x∈[a,b,c],TiOk x:=fun x hx=>by
 simp only[List.mem_cons,List.not_mem_nil,or_false] at hx
 rcases hx with rfl|rfl|rfl
 ·exact ha
 ·exact hb
 ·exact hc
abbrev Vu (l:List Rw) (lack:Int) (ks:List It):Prop:=cw Tryz.prog opts0.glob 4 [I 3,I 128,.fsl false (l.map a7),I lack] [] 6 (.agg (lZ (.rsl true 8 0 ks.length 5))) [(8,some (.cells (flat (ad ks))))] 11
set_option maxRecDepth 20000 in
theorem Vv (l:List Rw) (lack:Int):∃ks:List It,Vs ks∧Vu l lack ks:=by
 have hR:=ki l
 have e1:=iY (.tmp 15) (.const (Value.int IntKind.i64 1)) (lack.tmod 11) 1
 have e2:=iY (.tmp 26) (.const (Value.int IntKind.i64 2)) (lack.tmod 11) 2
 have e3:=iY (.tmp 37) (.const (Value.int IntKind.i64 3)) (lack.tmod 11) 3
 have hpk:=iQ lack (m:=6) (by decide) (by decide)
 obtain ⟨m,hm⟩:=Vr (p:=lack%6) (Int.emod_nonneg _ (by decide)) (Int.emod_lt_of_pos _ (by decide))
 have s0:=A9 fz 5 3
 have s1:=A9 fY 2 128
 have s2:=A9 fZ 2 m
 have t0:TiOk (cB fz (a9 5 3)):=Ba (by decide) (by decide) 5 3
 have t1:TiOk (cB fY (a9 2 128)):=Ba (by decide) (by decide) 2 128
 have t2:TiOk (cB fZ (a9 2 m)):=Ba (by decide) (by decide) 2 m
 have c0:=fW [cB fz (a9 5 3)]
 have neq (a b:Int) (h:a≠b):(!ak a b)=true:=by rw[beqInt_false.2 h];rfl
 by_cases h1:lack.tmod 11=1
 ·rw[h1] at e1 e2 e3
  obtain ⟨ks,k1,k2,k3,k4⟩:=wj (l:=l) (min l.length 4) 0 [cB fY (a9 2 128),cB fZ (a9 2 m)] (Nat.zero_add _) (by simp) (by simp) (Bb t1 t2)
  refine ⟨ks,⟨k1,k2,k3⟩, ?_⟩
  have hE:=fW ks
  have c:=fW [cB fY (a9 2 128),cB fZ (a9 2 m)]
  refine fh (k:=9) (A:=l8 [(10,l7 (l.map a7) 48 2 (tF fY (a9 2 128)++tF fZ (a9 2 m)) (cI (l.map a7) (min l.length 4) ks.length (flat (ad ks))))] false true true (lack%6) m (.agg (tF fz (a9 5 3))) (.agg (tF fY (a9 2 128))) (.agg (tF fZ (a9 2 m)))) base0 ao
   (aw (LsOk.at1 rfl wl fun st Q hs=> .seen base0.glob hs.1 (k4 Q hs.2))) ?_
  rw[UZ,h1]
  exact ⟨e1,e2,s1,e3,hpk,hm,s2,⟨⟨⟨rfl,hR⟩,⟨rfl,rfl⟩,trivial⟩,⟨⟨rfl,rfl⟩,⟨rfl,rfl⟩,trivial⟩,nG (.rsl _ _ _ _ _ _ rfl),⟨rfl,rfl⟩,⟨rfl,c⟩,trivial⟩,wm rfl hE⟩
 ·rw [neq _ _ h1] at e1
  by_cases h2:lack.tmod 11=2
  ·rw[h2] at e1 e2 e3
   obtain ⟨ks,k1,k2,k3,k4⟩:=wj (l:=l) (min l.length 4) 0 [cB fz (a9 5 3),cB fZ (a9 2 m)] (Nat.zero_add _) (by simp) (by simp) (Bb t0 t2)
   refine ⟨ks,⟨k1,k2,k3⟩, ?_⟩
   have hE:=fW ks
   have c:=fW [cB fz (a9 5 3),cB fZ (a9 2 m)]
   refine fh (k:=9) (A:=l8 [(10,l7 (l.map a7) 48 2 (tF fz (a9 5 3)++tF fZ (a9 2 m)) (cI (l.map a7) (min l.length 4) ks.length (flat (ad ks))))] true false true (lack%6) m (.agg (tF fz (a9 5 3))) (.agg (tF fY (a9 2 128))) (.agg (tF fZ (a9 2 m)))) base0 ao
    (aw (LsOk.at1 rfl wl fun st Q hs=> .seen base0.glob hs.1 (k4 Q hs.2))) ?_
   rw[U0,h2]
   exact ⟨e1,s0,e2,e3,hpk,hm,s2,⟨⟨⟨rfl,hR⟩,⟨rfl,rfl⟩,trivial⟩,⟨⟨rfl,rfl⟩,⟨rfl,rfl⟩,trivial⟩,nG (.rsl _ _ _ _ _ _ rfl),⟨rfl,rfl⟩,⟨rfl,c⟩,trivial⟩,wm rfl hE⟩
  ·rw[neq _ _ h2] at e2
   by_cases h3:lack.tmod 11=3
   ·rw[h3] at e1 e2 e3
    obtain ⟨ks,k1,k2,k3,k4⟩:=wj (l:=l) (min l.length 4) 0 [cB fz (a9 5 3),cB fY (a9 2 128)] (Nat.zero_add _) (by simp) (by simp) (Bb t0 t1)
    refine ⟨ks,⟨k1,k2,k3⟩, ?_⟩
    have hE:=fW ks
    have c:=fW [cB fz (a9 5 3),cB fY (a9 2 128)]
    refine fh (k:=9) (A:=l8 [(10,l7 (l.map a7) 42 2 (tF fz (a9 5 3)++tF fY (a9 2 128)) (cI (l.map a7) (min l.length 4) ks.length (flat (ad ks))))] true true false (lack%6) m (.agg (tF fz (a9 5 3))) (.agg (tF fY (a9 2 128))) (.agg (tF fZ (a9 2 m)))) base0 ao
     (aw (LsOk.at1 rfl wl fun st Q hs=> .seen base0.glob hs.1 (k4 Q hs.2))) ?_
    rw[U1,h3]
    exact ⟨e1,s0,e2,s1,e3,⟨⟨⟨rfl,hR⟩,⟨rfl,rfl⟩,trivial⟩,⟨⟨rfl,rfl⟩,⟨rfl,rfl⟩,trivial⟩,nG (.rsl _ _ _ _ _ _ rfl),⟨rfl,rfl⟩,⟨rfl,c⟩,trivial⟩,wm rfl hE⟩
   ·rw[neq _ _ h3] at e3
    obtain ⟨ks,k1,k2,k3,k4⟩:=wj (l:=l) (min l.length 4) 0 [cB fz (a9 5 3),cB fY (a9 2 128),cB fZ (a9 2 m)] (Nat.zero_add _) (by simp) (by simp) (Vt t0 t1 t2)
    refine ⟨ks,⟨k1,k2,k3⟩, ?_⟩
    have hE:=fW ks
    have c:=fW [cB fz (a9 5 3),cB fY (a9 2 128),cB fZ (a9 2 m)]
    refine fh (k:=9) (A:=l8 [(10,l7 (l.map a7) 63 3 (tF fz (a9 5 3)++(tF fY (a9 2 128)++tF fZ (a9 2 m))) (cI (l.map a7) (min l.length 4) ks.length (flat (ad ks))))] true true true (lack%6) m (.agg (tF fz (a9 5 3))) (.agg (tF fY (a9 2 128))) (.agg (tF fZ (a9 2 m)))) base0 ao
     (aw (LsOk.at1 rfl wl fun st Q hs=> .seen base0.glob hs.1 (k4 Q hs.2))) ?_
    rw[UY]
    exact ⟨e1,s0,e2,s1,e3,hpk,hm,s2,⟨⟨⟨rfl,hR⟩,⟨rfl,rfl⟩,trivial⟩,⟨⟨rfl,rfl⟩,⟨rfl,rfl⟩,trivial⟩,nG (.rsl _ _ _ _ _ _ rfl),⟨rfl,rfl⟩,⟨rfl,c⟩,trivial⟩,wm rfl hE⟩
end Go.Proofs.YtmnlofhodbnenaaGreatDoor
namespace Go.Proofs.YtmnlofhodbnenaaGreatDoor
set_option maxRecDepth 20000
open Go Go.RowKit
open Go.Proofs.Abs
def kC:Ob:={zO with id:=[49],ty:=2,st:=1}
theorem Bc:SetI kC:=⟨⟨⟨by simp[kC,zO],by simp[kC,zO],by simp[kC,zO],by simp[kC,zO,bd]⟩,(fun _ h=>by cases h),(fun _ h=>by cases h),(fun _ h=>by cases h),by decide,by simp[kC,zO]⟩,(fun _ h=>by cases h)⟩
noncomputable def Bd:AV:= .agg (ae kC .nilsl .nilsl .nilsl .nilsl)
def Be (ty:Int) (K:List It):AV:= .agg [I 4325521,I ty,I 0,.nilsl,.fsl false (ad K)]
theorem Ix:∀ {l:List It} {L:List At},ed l=some L→L.length=l.length
 |[],_,h=>by cases h;rfl
 | x::r,_,h=>by
  unfold ed at h
  cases hx:bI x with
  |none=>rw[hx] at h;cases h
  | some b=>
   rw[hx] at h
   cases hr:ed r with
   |none=>rw[hr] at h;cases h
   |some l=>
    rw[hr] at h
    cases h
    rw[List.length_cons,List.length_cons,Ix hr]
theorem Vw {K:List It} (h:∀y∈K,TiOk y):iO bd K:=okIs_iff.2 fun y hy=>(h y hy).k
theorem Iy (ty:Int) (K:List It):WkL [Bd,Be ty K] [az kC,aG (.mk 4325521 ty 0 [] K)]:=by
 refine .cons (.agg ?_) (.cons (.agg ?_) .nil)
 ·simp only[am,ae,bU,bV,bW,bo]
  (repeat (first|exact Wk.refl _|exact WkL.refl _|exact Wk.nil|exact Wk.row|exact WkE.refl _|exact WkL.nil|exact WkE.nil|apply Wk.agg|apply Wk.tuple|apply WkL.cons|apply Wk.rows|apply WkE.consA))
 ·simp only[ai]
  (repeat (first|exact Wk.refl _|exact WkL.refl _|exact Wk.nil|exact Wk.row|exact WkE.refl _|exact WkL.nil|exact WkE.nil|apply Wk.agg|apply Wk.tuple|apply WkL.cons|apply Wk.rows|apply WkE.consA))
theorem wn {ty:Int} {K:List It} (hl:K.length≤8) (ha:∀y∈K,TiOk y):∃ (p:Ob) (r:Int),dO p∧SC 6 [Bd,Be ty K] (.tuple [.agg (am p),I r])∧SC 7 [Bd,Be ty K] (.tuple [.agg (am p),I r]):=by
 have hok:bO bd (.mk 4325521 ty 0 [] K):=⟨by simp[bd],by simp only[bd];omega,Vw ha⟩
 have hlen:(aV (.mk 4325521 ty 0 [] K)).length≤90000:=by simp only[aV];omega
 have h2:=Vo Bc hok hlen ha
 have hpt:(iw (.mk 4325521 ty 0 [] K)).2.length≤90000∧∀a∈(iw (.mk 4325521 ty 0 [] K)).2,kx a:=by
  unfold iw
  split
  ·exact ⟨by simp,fun a h=>by cases h⟩
  ·split
   ·exact ⟨by simp,fun a h=>by cases h⟩
   ·rename_i L hL
    simp only[aV] at hL
    exact ⟨by simp only[Ix hL];omega,Ax ha hL⟩
 have h1:=Vl Bc hok hlen hpt.1 hpt.2
 have hfit:dO (p6 kC (.mk 4325521 ty 0 [] K)).1:=by
  unfold p6
  split
  ·exact HO
  ·exact HR Bc hpt.2
 exact ⟨_,_,hfit,h1.wkA (Iy ty K),h2.wkA (Iy ty K)⟩
theorem wo {H:af} {ty:Int} {b k:Nat} {cs:List AV} {K:List It} (hg:hget H 4=some (.cells [I 4325521,I ty,I 0,.nilsl,.rsl true b 0 k 5])) (hh:hget H b=some (.cells cs)) (hc:cs=flat (ad K)) (hl:k=K.length):Frz 0 H (.ptr 4 0) (.fptr [I 4325521,I ty,I 0,.nilsl,.fsl false (ad K)] 0):=
 .ptr rfl hg (.cons (.closed _ rfl) (.cons (.closed _ rfl) (.cons (.closed _ rfl) (.cons (.closed _ rfl) (.cons (Frz.row (es:=ad K) rfl hh hc (by rw[hl,dq]) oT (cH K)) .nil)))))
theorem Vx (l od:List Rw) (lack how:Int) (hk:SC 8 [] (.bool true)):SC 3 [.fsl false (l.map a7),.fsl false (od.map a7),I lack,I how] (.bool true):=by
 obtain ⟨ks,⟨k1,k2,k3⟩,hb⟩:=Vv l lack
 obtain ⟨x,hx,hit⟩:=SY od
 have hxt:=TiOk.of_it hx
 have hcl:ac [.fsl false (l.map a7),.fsl false (od.map a7),I lack,I how]=true:=by
  have h1:=ki l
  have h2:=ki od
  simp only[ac,ah,h1,h2,Bool.and_self]
 have e5:=sw (.tmp 19) (.const (Value.int IntKind.i64 0)) (how.tmod 5) 0
 have e11:=sw (.tmp 29) (.const (Value.int IntKind.i64 0)) (how.tmod 11) 0
 have hkx:∀y∈ks++[x],TiOk y:=fun y hy=>by
  rcases List.mem_append.1 hy with hy|hy
  ·exact k3 y hy
  ·rw[List.mem_singleton] at hy;subst hy;exact hxt
 have hfl:flat (ad ks)++flat [aG x]=flat (ad (ks++[x])):=by rw[uj,ej];rfl
 have hl5:=Iw ks
 obtain ⟨t,y,n,d,g⟩:=x
 rw[aU] at hit hfl
 cases ks with
 |nil=>exact absurd rfl k1
 | cons a r=>
  have h1:Nat.ble ((r.length+1+aa [AV.agg (ag t y n (ai d) (ad g))])*72) 140737488355328=true:=Nat.ble_eq_true_of_le (by rw[show aa [AV.agg (ag t y n (ai d) (ad g))]=1 from rfl];simp only[List.length_cons] at k2;omega)
  have hq {p:Ob} {r':Int} {q:Prop} (h:ak r' r'=false):q:=by rw[beqInt_iff.2 rfl] at h;cases h
  cases h5:ak (how.tmod 5) 0 with
  | false=>
   rw[h5] at e5
   cases h11:ak (how.tmod 11) 0 with
   |false=>
    rw[h11] at e11
    obtain ⟨p,e,hfit,s1,s2⟩:=wn (ty:=1) (K:=a::r) (by simp only[List.length_cons] at k2⊢;omega) k3
    have hsame:=va hfit
    have fp:=lT p
    refine bN (A:=l9 false false 1 (ad (a::r)) (r.length+1) (flat (ad (a::r))) (am p) [] e) base0 (oM ao) (aw (LsOk.no rfl)) hcl rfl ?_
    unfold az at hsame
    unfold am at fp s1 s2 hsame⊢
    rw[U4]
    exact ⟨hb,e5,e11,⟨⟨wo rfl rfl rfl rfl,trivial⟩,trivial⟩,s1,aF fp ⟨s2,aF fp ⟨hk,aj (fun _=>⟨hsame,rfl⟩) (hq (p:=p))⟩⟩⟩
   |true=>
    rw[h11] at e11
    obtain ⟨p,e,hfit,s1,s2⟩:=wn (ty:=7) (K:=a::r) (by simp only[List.length_cons] at k2⊢;omega) k3
    have hsame:=va hfit
    have fp:=lT p
    refine bN (A:=l9 false true 7 (ad (a::r)) (r.length+1) (flat (ad (a::r))) (am p) [] e) base0 (oM ao) (aw (LsOk.no rfl)) hcl rfl ?_
    unfold az at hsame
    unfold am at fp s1 s2 hsame⊢
    rw[U5]
    exact ⟨hb,e5,e11,⟨⟨wo rfl rfl rfl rfl,trivial⟩,trivial⟩,s1,aF fp ⟨s2,aF fp ⟨hk,aj (fun _=>⟨hsame,rfl⟩) (hq (p:=p))⟩⟩⟩
  | true=>
   rw[h5] at e5
   cases h11:ak (how.tmod 11) 0 with
   |false=>
    rw[h11] at e11
    obtain ⟨p,e,hfit,s1,s2⟩:=wn (ty:=1) (K:=a::r++[.mk t y n d g]) (by rw[List.length_append,List.length_singleton];omega) hkx
    have hsame:=va hfit
    have fp:=lT p
    refine bN (A:=l9 true false 1 (ad (a::r++[.mk t y n d g])) (r.length+1) (flat (ad (a::r))) (am p) (ag t y n (ai d) (ad g)) e) base0 (oM ao) (aw (LsOk.no rfl)) hcl rfl ?_
    unfold az at hsame
    unfold am at fp s1 s2 hsame⊢
    rw[U6]
    exact ⟨hb,e5,hit,aF (sH rfl h1 rfl) (aF (by rw[beq_iff,hl5];rfl) ⟨e11,⟨⟨wo rfl rfl hfl (by rw[List.length_append];rfl),trivial⟩,trivial⟩,s1,aF fp ⟨s2,aF fp ⟨hk,aj (fun _=>⟨hsame,rfl⟩) (hq (p:=p))⟩⟩⟩)⟩
   |true=>
    rw[h11] at e11
    obtain ⟨p,e,hfit,s1,s2⟩:=wn (ty:=7) (K:=a::r++[.mk t y n d g]) (by rw[List.length_append,List.length_singleton];omega) hkx
    have hsame:=va hfit
    have fp:=lT p
    refine bN (A:=l9 true true 7 (ad (a::r++[.mk t y n d g])) (r.length+1) (flat (ad (a::r))) (am p) (ag t y n (ai d) (ad g)) e) base0 (oM ao) (aw (LsOk.no rfl)) hcl rfl ?_
    unfold az at hsame
    unfold am at fp s1 s2 hsame⊢
    rw[U7]
    exact ⟨hb,e5,hit,aF (sH rfl h1 rfl) (aF (by rw[beq_iff,hl5];rfl) ⟨e11,⟨⟨wo rfl rfl hfl (by rw[List.length_append];rfl),trivial⟩,trivial⟩,s1,aF fp ⟨s2,aF fp ⟨hk,aj (fun _=>⟨hsame,rfl⟩) (hq (p:=p))⟩⟩⟩)⟩
end Go.Proofs.YtmnlofhodbnenaaGreatDoor
