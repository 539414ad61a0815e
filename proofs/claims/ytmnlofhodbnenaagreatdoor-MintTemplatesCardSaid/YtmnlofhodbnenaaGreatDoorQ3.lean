import Derived.Test.YtmnlofhodbnenaaGreatDoorQ2
import Derived.Test.YtmnlofhodbnenaaGreatDoorG5
import Derived.KernelRfl
namespace Go.Proofs.YtmnlofhodbnenaaGreatDoor
open Go Go.RowKit
open Go.Proofs.Abs
noncomputable section
structure gk where
 nm:List UInt8
 ty:Int
 many:Bool
 set:Bool
def dZ (h:gk) (A1 A2 A3 G R P D RM:AV):List AV:=[.str h.nm,I h.ty,.bool h.many,.bool h.set,A1,A2,A3,G,R,P,D,RM]
def Fr (O O':List AV) (snd:Bool):eP:=fun f args _ _=>match args with
 | .ptr b _::_=>some (.part [b] (.tuple []) [(b,some (.cells O'))] 100)
 |_=>match Nat.beq f 18 with
  |true=>some (.val (.agg O))
  |false=>some (.val (.bool snd))
abbrev fR (Da Ks:List AV) (n t y:Int):=[I t,I y,I n,AV.fsl false Da,AV.fsl false Ks]
abbrev ka (C' L' M' N':AV) (o':Ob):=(bM Tryz.prog 38 (AV.agg (ae o' M' N' L' C')) 37)
abbrev kb:=(AV.tuple [AV.agg zL,I 7])
theorem Pz (h:gk) (A1 A2 A3 G R D RM:AV) (pf:Nat) (pc:List AV) (o o':Ob) (M N L C M' N' L' C':AV) (an:List UInt8) (i t y n:Int) (Da Ks:List AV) (snd:Bool) (Q:AV→Prop):ax Tryz.prog opts0 40 (ap [] [] (Fr (ae o M N L C) (ae o' M' N' L' C') snd) [] []) 61 [.agg (dZ h A1 A2 A3 G R (dh pf pc) D RM),.agg (ae o M N L C),.agg (.str an::I i::ag t y n Da Ks)] [] 0 (fun v _ _=>Q v)=
  (SC 18 [AV.agg (ae o M N L C)] (AV.agg (ae o M N L C))∧au (bM Tryz.prog 38 (AV.agg (ae o M N L C)) 37) (cw Tryz.prog opts0.glob pf (AV.ptr 1 0::I i::AV.agg (fR Da Ks n t y)::pc) [(1,some (Blk.cells (ae o M N L C)))] 15 (AV.tuple []) [(1,some (Blk.cells (ae o' M' N' L' C')))] 115∧SC 131 [AV.agg (ae o' M' N' L' C')] (AV.bool snd)∧ab (!snd) (Q kb) (au (ka C' L' M' N' o') (Q (AV.tuple [AV.agg (ae o' M' N' L' C'),I 0]))))):=by kernel_rfl
def uF (G:List AV) (c:List AV):aX:=ap [(2,15,.res (.fptr c 0))] [] (fun _ _ _ _=>some (.val (.fsl false G))) [] []
theorem zk (h:gk) (A1 A2 A3 R P D RM:AV) (gf:Nat) (gc:List AV) (o:Ob) (M N L C:AV) (G:List AV) (t y n:Int) (Da Ks:List AV) (Q:AV→Prop):ax Tryz.prog opts0 40 (uF G (ag t y n Da Ks)) 58 [.agg (dZ h A1 A2 A3 (dh gf gc) R P D RM),.agg (ae o M N L C)] [] 0 (fun v _ _=>Q v)=
  (SC gf (AV.agg (ae o M N L C)::gc) (AV.fsl false G)∧ab (!h.3) (ab (ak (Int.ofNat (aa G)) 1) (ab (ak h.2 2) (aC Tryz.prog 24 (AV.fsl false G) (I 0)=some (AV.fptr (fR Da Ks n t y) 0)∧ab (ak n 0) (Q (I 0)) (Q (I (Int.ofNat (aa G))))) (Q (I (Int.ofNat (aa G))))) (Q (I (Int.ofNat (aa G))))) (Q (I (Int.ofNat (aa G))))):=by kernel_rfl
def nc (W:List AV) (G:List AV) (t y n:Int) (Da Ks:List AV) (but:Int) (i:Nat):View:=⟨[(3,I but),(8,.bool false),(14,.fsl false G),(15,I (.ofNat (aa G))),(16,I (.ofNat i))],[(4,.ptr 0 0),(6,.ptr 1 0)],[(0,.cells W,.whole),(1,.cells (ag t y n Da Ks),.whole)],3,34⟩
def hY (b:Bool):View:=⟨[(8,.bool b)],[],[],3,34⟩
def uG (c:List AV) (r:Bool):aX:=ap [(3,1,.res (.fptr c 0))] [] (bg [(130,.bool r)]) [] []
@[simp] abbrev zl (A1 A2 A3 D Ge P R RM:AV) (h:gk):=([AV.str h.1,I h.2,AV.bool h.3,AV.bool h.4,A1,A2,A3,Ge,R,P,D,RM]=[AV.str h.1,I h.2,AV.bool h.3,AV.bool h.4,A1,A2,A3,Ge,R,P,D,RM]∧ac [AV.str h.1,I h.2,AV.bool h.3,AV.bool h.4,A1,A2,A3,Ge,R,P,D,RM]=true)
@[simp] abbrev uH (G:List AV):=(I (Int.ofNat (aa G))=I (Int.ofNat (aa G))∧ah (I (Int.ofNat (aa G)))=true)
@[simp] abbrev uI (G:List AV):=(AV.fsl false G=AV.fsl false G∧ah (AV.fsl false G)=true)
@[simp] abbrev uJ (Da Ks:List AV) (n t y:Int):=((fR Da Ks n t y)=(fR Da Ks n t y)∧ac (fR Da Ks n t y)=true)
@[simp] abbrev zm:=((some 0=some 0∧0=0)∧(some 1=some 1∧0=0)∧True)
@[simp] abbrev uK:=(AV.bool false=AV.bool false∧true=true)
@[simp] abbrev uM (but:Int):=(I but=I but∧ah (I but)=true)
theorem zn (h:gk) (A1 A2 A3 Ge R P D RM:AV) (G:List AV) (t y n:Int) (Da Ks:List AV) (but:Int) (i j:Nat) (a b c:Int) (E F:List AV) (r q:Bool) (N:Prop) (Q:AExit→St→Prop):aI Tryz.prog opts0 40 (uG (ag a b c E F) r) (aD Tryz.prog 60 3) (nc (dZ h A1 A2 A3 Ge R P D RM) G t y n Da Ks but i).st (bf 0 [(0,0),(1,1)] (nc (dZ h A1 A2 A3 Ge R P D RM) G t y n Da Ks but j) N [] (hY q) Q)=
  (ab (aq (Int.ofNat i) (Int.ofNat (aa G))) (aC Tryz.prog 24 (AV.fsl false G) (I (Int.ofNat i))=some (AV.fptr [I a,I b,I c,AV.fsl false E,AV.fsl false F] 0)∧ab (!ak (Int.ofNat i) but) (ab h.3 (SC 130 [AV.agg [I a,I b,I c,AV.fsl false E,AV.fsl false F],AV.agg (fR Da Ks n t y)] (AV.bool r)∧ab r ((((AV.bool true=AV.bool q∧ah (AV.bool q)=true)∧True)∧True∧True)∧Q AExit.ret (hY q).st) ((((uM but)∧uK∧(uI G)∧(uH G)∧(I (ar IntKind.i64 (Int.ofNat i+1))=I (Int.ofNat j)∧ah (I (Int.ofNat j))=true)∧True)∧zm∧(zl A1 A2 A3 D Ge P R RM h)∧(uJ Da Ks n t y)∧True)∧N)) ((((uM but)∧uK∧(uI G)∧(uH G)∧(I (ar IntKind.i64 (Int.ofNat i+1))=I (Int.ofNat j)∧ah (I (Int.ofNat j))=true)∧True)∧zm∧(zl A1 A2 A3 D Ge P R RM h)∧(uJ Da Ks n t y)∧True)∧N)) ((((uM but)∧uK∧(uI G)∧(uH G)∧(I (ar IntKind.i64 (Int.ofNat i+1))=I (Int.ofNat j)∧ah (I (Int.ofNat j))=true)∧True)∧zm∧(zl A1 A2 A3 D Ge P R RM h)∧(uJ Da Ks n t y)∧True)∧N)) ((((AV.bool false=AV.bool q∧ah (AV.bool q)=true)∧True)∧True∧True)∧Q (AExit.exit 0) (hY q).st)):=by kernel_rfl
def Fs (W:List AV) (G:List AV) (t y n:Int) (Da Ks:List AV) (but:Int) (q:Bool):bq:=fun s Q=>ck 0 [(0,0),(1,2)] (nc W G t y n Da Ks but 0) s∧ab q (Q .ret (hY true).st) (Q (.exit 0) (hY false).st)
theorem PA (h:gk) (A1 A2 A3 R P D RM:AV) (gf:Nat) (gc:List AV) (o:Ob) (M N L C:AV) (G:List AV) (t y n:Int) (Da Ks:List AV) (but:Int) (q:Bool) (Q:AV→Prop):ax Tryz.prog opts0 40 (ap [] [(3,Fs (dZ h A1 A2 A3 (dh gf gc) R P D RM) G t y n Da Ks but q)] (fun _ _ _ _=>some (.val (.fsl false G))) [] []) 60 [.agg (dZ h A1 A2 A3 (dh gf gc) R P D RM),.agg (ae o M N L C),.agg (ag t y n Da Ks),I but] [] 0 (fun v _ _=>Q v)=
  (SC gf (AV.agg (ae o M N L C)::gc) (AV.fsl false G)∧(((uM but)∧uK∧(uI G)∧(uH G)∧(I 0=I 0∧true=true)∧True)∧((some 0=some 0∧0=0)∧(some 2=some 2∧0=0)∧True)∧([AV.str h.1,I h.2,AV.bool h.3,AV.bool h.4,A1,A2,A3,AV.func (Fn.func gf) [] gc,R,P,D,RM]=[AV.str h.1,I h.2,AV.bool h.3,AV.bool h.4,A1,A2,A3,AV.func (Fn.func gf) [] gc,R,P,D,RM]∧ac [AV.str h.1,I h.2,AV.bool h.3,AV.bool h.4,A1,A2,A3,AV.func (Fn.func gf) [] gc,R,P,D,RM]=true)∧(uJ Da Ks n t y)∧True)∧ab q (Q (AV.bool true)) (Q (AV.bool false))):=by kernel_rfl
def uN (th:Int) (right room twice:Bool) (la:AV):eP:=fun f args _ _=>match args with
 | .agg a::rest=>match Nat.beq (aa a) 12 with
  | true=>match Nat.beq f 58 with
   |true=>some (.val (I th))
   |false=>match Nat.beq f 60 with
    |true=>some (.val (.bool twice))
    |false=>some (.val la)
  |false=>match rest with
   | .agg _::_=>some (.val (.bool right))
   |_=>some (.val (.bool room))
 |_=>none
abbrev kc (A1 A2 A3 D G P:AV) (h:gk) (mf rf:Nat) (rc:List AV):=[AV.str h.1,I h.2,AV.bool h.3,AV.bool h.4,A1,A2,A3,G,AV.func (Fn.func rf) [] rc,P,D,AV.func (Fn.func mf) [] []]
abbrev fq (C' L' M' N':AV) (e:Int) (o':Ob):=(AV.tuple [AV.agg (ae o' M' N' L' C'),I e])
abbrev hZ:=(AV.tuple [AV.agg zL,I 11])
abbrev ly (Da Ks:List AV) (an:List UInt8) (i n t y:Int):=[AV.str an,I i,I t,I y,I n,AV.fsl false Da,AV.fsl false Ks]
abbrev lz:=(AV.tuple [AV.agg zL,I 14])
abbrev lA (C L M N:AV) (Da Ks rc:List AV) (n t y:Int) (o:Ob):=(AV.agg (ae o M N L C)::AV.agg (fR Da Ks n t y)::rc)
abbrev uO:=(AV.tuple [AV.agg zL,I 12])
theorem PB (h:gk) (A1 A2 A3 G P D:AV) (rf:Nat) (rc:List AV) (mf:Nat) (o o':Ob) (M N L C M' N' L' C':AV) (an:List UInt8) (i t y n:Int) (Da Ks:List AV) (th e:Int) (right room twice:Bool) (Q:AV→Prop):ax Tryz.prog opts0 40 (ap [] [] (uN th right room twice (.tuple [.agg (ae o' M' N' L' C'),I e])) [59] []) 33 [.agg (dZ h A1 A2 A3 G (dh rf rc) P D (bQ mf)),.agg (ae o M N L C),.agg (.str an::I i::ag t y n Da Ks)] [] 0 (fun v _ _=>Q v)=
  (SC 58 [AV.agg (kc A1 A2 A3 D G P h mf rf rc),AV.agg (ae o M N L C)] (I th)∧ab (!h.3) (ab (!h.3) (SC rf (lA C L M N Da Ks rc n t y o) (AV.bool right)∧SC mf [AV.agg (ae o M N L C)] (AV.bool room)∧SC 60 [AV.agg (kc A1 A2 A3 D G P h mf rf rc),AV.agg (ae o M N L C),AV.agg (fR Da Ks n t y),I (Int.negSucc 0)] (AV.bool twice)∧ab (!ak i 0) (Q lz) (ab (aq 0 th) (Q hZ) (ab (!right) (Q kb) (ab (!room) (Q uO) (ab twice (Q hZ) (SC 61 [AV.agg (kc A1 A2 A3 D G P h mf rf rc),AV.agg (ae o M N L C),AV.agg (ly Da Ks an i n t y)] (fq C' L' M' N' e o')∧au (ka C' L' M' N' o') (Q (fq C' L' M' N' e o')))))))) (SC rf (lA C L M N Da Ks rc n t y o) (AV.bool right)∧SC mf [AV.agg (ae o M N L C)] (AV.bool room)∧SC 60 [AV.agg (kc A1 A2 A3 D G P h mf rf rc),AV.agg (ae o M N L C),AV.agg (fR Da Ks n t y),I (Int.negSucc 0)] (AV.bool twice)∧ab (!ak i 0) (Q lz) (ab (!right) (Q kb) (ab (!room) (Q uO) (ab twice (Q hZ) (SC 61 [AV.agg (kc A1 A2 A3 D G P h mf rf rc),AV.agg (ae o M N L C),AV.agg (ly Da Ks an i n t y)] (fq C' L' M' N' e o')∧au (ka C' L' M' N' o') (Q (fq C' L' M' N' e o')))))))) (ab (!h.3) (SC rf (lA C L M N Da Ks rc n t y o) (AV.bool right)∧SC mf [AV.agg (ae o M N L C)] (AV.bool room)∧SC 60 [AV.agg (kc A1 A2 A3 D G P h mf rf rc),AV.agg (ae o M N L C),AV.agg (fR Da Ks n t y),I (Int.negSucc 0)] (AV.bool twice)∧ab (!ak i th) (Q lz) (ab (aq 0 th) (Q hZ) (ab (!right) (Q kb) (ab (!room) (Q uO) (ab twice (Q hZ) (SC 61 [AV.agg (kc A1 A2 A3 D G P h mf rf rc),AV.agg (ae o M N L C),AV.agg (ly Da Ks an i n t y)] (fq C' L' M' N' e o')∧au (ka C' L' M' N' o') (Q (fq C' L' M' N' e o')))))))) (SC rf (lA C L M N Da Ks rc n t y o) (AV.bool right)∧SC mf [AV.agg (ae o M N L C)] (AV.bool room)∧SC 60 [AV.agg (kc A1 A2 A3 D G P h mf rf rc),AV.agg (ae o M N L C),AV.agg (fR Da Ks n t y),I (Int.negSucc 0)] (AV.bool twice)∧ab (!ak i th) (Q lz) (ab (!right) (Q kb) (ab (!room) (Q uO) (ab twice (Q hZ) (SC 61 [AV.agg (kc A1 A2 A3 D G P h mf rf rc),AV.agg (ae o M N L C),AV.agg (ly Da Ks an i n t y)] (fq C' L' M' N' e o')∧au (ka C' L' M' N' o') (Q (fq C' L' M' N' e o'))))))))):=by kernel_rfl
abbrev ke (A1 A2 A3 D G P:AV) (h:gk) (rc:List AV) (rf:Nat):=[AV.str h.1,I h.2,AV.bool h.3,AV.bool h.4,A1,A2,A3,G,AV.func (Fn.func rf) [] rc,P,D,AV.nilFunc]
theorem PC (h:gk) (A1 A2 A3 G P D:AV) (rf:Nat) (rc:List AV) (o o':Ob) (M N L C M' N' L' C':AV) (an:List UInt8) (i t y n:Int) (Da Ks:List AV) (th e:Int) (right room twice:Bool) (Q:AV→Prop):ax Tryz.prog opts0 40 (ap [] [] (uN th right room twice (.tuple [.agg (ae o' M' N' L' C'),I e])) [59] []) 33 [.agg (dZ h A1 A2 A3 G (dh rf rc) P D .nilFunc),.agg (ae o M N L C),.agg (.str an::I i::ag t y n Da Ks)] [] 0 (fun v _ _=>Q v)=
  (SC 58 [AV.agg (ke A1 A2 A3 D G P h rc rf),AV.agg (ae o M N L C)] (I th)∧ab (!h.3) (ab (!h.3) (SC rf (lA C L M N Da Ks rc n t y o) (AV.bool right)∧SC 60 [AV.agg (ke A1 A2 A3 D G P h rc rf),AV.agg (ae o M N L C),AV.agg (fR Da Ks n t y),I (Int.negSucc 0)] (AV.bool twice)∧ab (!ak i 0) (Q lz) (ab (aq 0 th) (Q hZ) (ab (!right) (Q kb) (ab twice (Q hZ) (SC 61 [AV.agg (ke A1 A2 A3 D G P h rc rf),AV.agg (ae o M N L C),AV.agg (ly Da Ks an i n t y)] (fq C' L' M' N' e o')∧au (ka C' L' M' N' o') (Q (fq C' L' M' N' e o'))))))) (SC rf (lA C L M N Da Ks rc n t y o) (AV.bool right)∧SC 60 [AV.agg (ke A1 A2 A3 D G P h rc rf),AV.agg (ae o M N L C),AV.agg (fR Da Ks n t y),I (Int.negSucc 0)] (AV.bool twice)∧ab (!ak i 0) (Q lz) (ab (!right) (Q kb) (ab twice (Q hZ) (SC 61 [AV.agg (ke A1 A2 A3 D G P h rc rf),AV.agg (ae o M N L C),AV.agg (ly Da Ks an i n t y)] (fq C' L' M' N' e o')∧au (ka C' L' M' N' o') (Q (fq C' L' M' N' e o'))))))) (ab (!h.3) (SC rf (lA C L M N Da Ks rc n t y o) (AV.bool right)∧SC 60 [AV.agg (ke A1 A2 A3 D G P h rc rf),AV.agg (ae o M N L C),AV.agg (fR Da Ks n t y),I (Int.negSucc 0)] (AV.bool twice)∧ab (!ak i th) (Q lz) (ab (aq 0 th) (Q hZ) (ab (!right) (Q kb) (ab twice (Q hZ) (SC 61 [AV.agg (ke A1 A2 A3 D G P h rc rf),AV.agg (ae o M N L C),AV.agg (ly Da Ks an i n t y)] (fq C' L' M' N' e o')∧au (ka C' L' M' N' o') (Q (fq C' L' M' N' e o'))))))) (SC rf (lA C L M N Da Ks rc n t y o) (AV.bool right)∧SC 60 [AV.agg (ke A1 A2 A3 D G P h rc rf),AV.agg (ae o M N L C),AV.agg (fR Da Ks n t y),I (Int.negSucc 0)] (AV.bool twice)∧ab (!ak i th) (Q lz) (ab (!right) (Q kb) (ab twice (Q hZ) (SC 61 [AV.agg (ke A1 A2 A3 D G P h rc rf),AV.agg (ae o M N L C),AV.agg (ly Da Ks an i n t y)] (fq C' L' M' N' e o')∧au (ka C' L' M' N' o') (Q (fq C' L' M' N' e o')))))))):=by kernel_rfl
end
def zo (W:List AV):AV:= .tuple [.agg W,.bool true]
noncomputable def uP (fi la:AV) (may:Bool):eP:=fun _ args _ _=>match args with
 | .str _::_=>some (.val fi)
 | .agg a::rest=>match Nat.beq (aa a) 12 with
  |true=>some (.val la)
  |false=>match rest with
   |[]=>some (.val (.bool may))
   |_=>none
 |_=>none
theorem PD (o:Ob) (M N L C:AV) (an:List UInt8) (i t y n:Int) (Da Ks:List AV) (Q:AV→Prop):ax Tryz.prog opts0 40 (ap [] [] (uP (oW none) .nilsl true) [] []) 17 [.agg (ae o M N L C),.agg (.str an::I i::ag t y n Da Ks)] [] 0 (fun v _ _=>Q v)=
  (SC 32 [AV.str an] (AV.tuple [AV.agg [AV.str [],I 0,AV.bool false,AV.bool false,AV.nilFunc,AV.nilFunc,AV.nilFunc,AV.nilFunc,AV.nilFunc,AV.nilFunc,AV.nilFunc,AV.nilFunc],AV.bool false])∧Q (AV.tuple [AV.agg zL,I 7])):=by kernel_rfl
theorem PE (h:gk) (A1 A2 A3 G R P D RM:AV) (o o':Ob) (M N L C M' N' L' C':AV) (an:List UInt8) (i t y n:Int) (Da Ks:List AV) (e:Int) (Q:AV→Prop):ax Tryz.prog opts0 40 (ap [] [] (uP (zo (dZ h A1 A2 A3 G R P D RM)) (.tuple [.agg (ae o' M' N' L' C'),I e]) true) [] []) 17 [.agg (ae o M N L C),.agg (.str an::I i::ag t y n Da Ks)] [] 0 (fun v _ _=>Q v)=
  (SC 32 [AV.str an] (AV.tuple [AV.agg [AV.str h.1,I h.2,AV.bool h.3,AV.bool h.4,A1,A2,A3,G,R,P,D,RM],AV.bool true])∧au (bM Tryz.prog 99 (AV.agg [AV.str h.1,I h.2,AV.bool h.3,AV.bool h.4,A1,A2,A3,G,R,P,D,RM]) 12) (ab (!h.4) (Q (AV.tuple [AV.agg zL,I 7])) (SC 33 [AV.agg [AV.str h.1,I h.2,AV.bool h.3,AV.bool h.4,A1,A2,A3,G,R,P,D,RM],AV.agg (ae o M N L C),AV.agg [AV.str an,I i,I t,I y,I n,AV.fsl false Da,AV.fsl false Ks]] (AV.tuple [AV.agg (ae o' M' N' L' C'),I e])∧au (bM Tryz.prog 38 (AV.agg (ae o' M' N' L' C')) 37) (Q (AV.tuple [AV.agg (ae o' M' N' L' C'),I e]))))):=by kernel_rfl
end Go.Proofs.YtmnlofhodbnenaaGreatDoor
namespace Go.Proofs.YtmnlofhodbnenaaGreatDoor
set_option maxRecDepth 20000
open Go Go.RowKit
open Go.Proofs.Abs
noncomputable section
def cG:It→Int| .mk _ _ n _ _=>n
def dr:It→List UInt8| .mk _ _ _ d _=>d
def aV:It→List It| .mk _ _ _ _ k=>k
def ea (o:Ob):Nat→Dt
 |0=>o.d0
 |1=>o.d1
 |2=>o.d2
 |3=>o.d3
 |4=>o.d4
 |5=>o.d5
 |6=>o.d6
 |7=>o.d7
 |8=>o.d8
 |_=>o.d9
def uQ (o:Ob) (d:Dt):Nat→Ob
 |0=>{o with d0:=d}
 |1=>{o with d1:=d}
 |2=>{o with d2:=d}
 |3=>{o with d3:=d}
 |4=>{o with d4:=d}
 |5=>{o with d5:=d}
 |6=>{o with d6:=d}
 |7=>{o with d7:=d}
 |8=>{o with d8:=d}
 |_=>{o with d9:=d}
def fv (s:List UInt8):It:=bE 7 0 s []
def a9 (y n:Int):It:=bE y n [] []
def eT (t y n:Int):It:= .mk t y n [] []
def fS (ks:List It):It:=bE 1 0 [] ks
def o1 (l:Lk):It:=fS [eT 4325451 5 l.ty,.mk 4325452 7 0 l.id []]
def o2:List UInt8→List It
 |[]=>[]
 |s::t=>[.mk 4325504 7 0 (s::t) []]
def rH (o:Ob):It:=fS (eT 4325506 5 o.why::o2 o.msg)
def rI (o:Ob):It:=fS [eT 4325527 3 o.lt,eT 4325526 3 o.lc,eT 4325528 5 o.lu]
def cd (b:Bool) (x:It):List It:=match b with
 |true=>[x]
 |false=>[]
def aK (o:Ob):Kd→List It
 | .uid=>[fv o.id]
 | .nam=>o.names.map fv
 | .typ=>[a9 5 o.ty]
 | .alg=>cd (!ak o.alg 0) (a9 5 o.alg)
 | .len=>cd (!ak o.len 0) (a9 2 o.len)
 | .mask=>[a9 2 o.mask]
 | .sta=>[a9 5 o.st]
 | .dat k=>cd (ea o k).has (a9 9 (ea o k).t)
 | .why=>cd (!ak o.why 0) (rH o)
 | .lnk=>o.links.map o1
 | .lim=>cd o.lh (rI o)
 | .cus s=>(o.cust.filter fun c=>aA c.name s).map fun c=>fv c.text
theorem zp {l:List AV} (h:ac l=true):ac [.agg l]=true:=by simp[ac,ah,h]
theorem iS {f:Bool} {l:List AV} (h:ac l=true):ah (.fsl f l)=true:=h
def zq (sz:Nat) (v:AV) (h:af):Option (Nat × List AV):=match v with
 | .nilsl=>some (0,[])
 | .rsl _ id 0 len sz'=>match Nat.beq sz' sz,hget h id with
  |true,some (.cells c)=>some (len,c)
  |_,_=>none
 |_=>none
theorem PF {sz:Nat} {v w:AV} {h:af} {es:List AV} (e:zq sz v h=some (es.length,flat es)) (hg:∀e∈es,ei sz e) (hc:ac es=true) (hw:Wk (.fsl false es) w):jV w v h:=by
 unfold zq at e
 split at e
 ·have e:=congrArg Prod.fst (Option.some.inj e)
  have:es=[]:=List.eq_nil_of_length_eq_zero e.symm
  subst this
  exact ⟨.nilsl,⟨1,rfl⟩,rfl,Wk.nil.trans hw⟩
 ·split at e
  ·rename_i h1 h2
   have e:=Option.some.inj e
   have h1:=beq_iff.1 h1
   subst h1
   exact ⟨_,(Frz.row (es:=es) rfl h2 (congrArg Prod.snd e) (congrArg Prod.fst e) hg hc).out,iS hc,hw⟩
  ·cases e
 ·cases e
theorem Ft {A:aX} {f:FuncId} {args:List AV} {v:AV} {sz:Nat} {es:List AV} (hA:cQ Tryz.prog opts0 A) (hl:iL Tryz.prog opts0.glob 0 A f) (hcl:ac args=true) (hg:∀e∈es,ei sz e) (hc:ac es=true) (hw:Wk (.fsl false es) v)
  (h:ax Tryz.prog opts0 40 A f args [] 0 (fun u H _=>zq sz u H=some (es.length,flat es))=(some (es.length,flat es)=some (es.length,flat es))):SC f args v:=by
 have h:=h.mpr rfl
 obtain ⟨fn,c,hfn,hc',hname,hsz,hw'⟩:=mV base0 hA hl h
 refine yZ base0 hfn hc' hname hsz hcl fun w I a hr=>wp_mono (hw'.out w I _ [] [] a w (fun _ _=>rfl) hr) ?_
 rintro e a' w' ⟨x,s',rfl,h2,hx,l,hl,hq⟩
 refine ⟨s',l, ?_,h2,hl,PF hq hg hc hw⟩
 rcases hx with rfl|rfl
 ·exact .inl rfl
 ·exact .inr rfl
def cb:List Nat:=[118,104,121,208]
def o3:List Nat:=[114,122,123]
theorem PG (o:Ob) (M N L C:AV) (Q:AV→Prop):ax Tryz.prog opts0 40 (ap [] [] aH cb []) 117 [.agg (ae o M N L C)] [] 0 (fun v _ _=>Q v)=
  (Q (AV.fsl true [AV.agg [I 4325387,I 7,I 0,AV.fsl false (ai o.1),AV.nilsl]])):=by kernel_rfl
theorem PH (o:Ob) (M N L C:AV) (Q:AV→Prop):ax Tryz.prog opts0 40 (ap [] [] aH cb []) 120 [.agg (ae o M N L C)] [] 0 (fun v _ _=>Q v)=
  (Q (AV.fsl true [AV.agg [I 4325387,I 5,I o.2,AV.nilsl,AV.nilsl]])):=by kernel_rfl
theorem PI (o:Ob) (M N L C:AV) (Q:AV→Prop):ax Tryz.prog opts0 40 (ap [] [] aH cb []) 124 [.agg (ae o M N L C)] [] 0 (fun v _ _=>Q v)=
  (Q (AV.fsl true [AV.agg [I 4325387,I 5,I o.7,AV.nilsl,AV.nilsl]])):=by kernel_rfl
theorem PJ (o:Ob) (M N L C:AV) (Q:AV→Prop):ax Tryz.prog opts0 40 (ap [] [] aH cb []) 216 [.agg (ae o M N L C)] [] 0 (fun v _ _=>Q v)=
  (ab (!o.23) (Q AV.nilsl) (Q (AV.fsl true [AV.agg [I 4325387,I 1,I 0,AV.nilsl,AV.fsl true [AV.agg [I 4325527,I 3,I o.24,AV.nilsl,AV.nilsl],AV.agg [I 4325526,I 3,I o.25,AV.nilsl,AV.nilsl],AV.agg [I 4325528,I 5,I o.26,AV.nilsl,AV.nilsl]]]]))):=by kernel_rfl
abbrev zr (o:Ob):=[AV.agg [I 4325506,I 5,I o.18,AV.nilsl,AV.nilsl]]
abbrev zs (o:Ob):=[I 4325387,I 1,I 0,AV.nilsl,AV.rsl true 16 0 (aa (zr o)+aa [AV.agg [I 4325504,I 7,I 0,AV.fsl false (ai o.19),AV.nilsl]]) 5]
abbrev rJ (o:Ob):=[I 4325387,I 1,I 0,AV.nilsl,AV.fsl true (zr o)]
abbrev Fu (C L M N:AV) (o:Ob):=[(29,some (Blk.cells (zs o))),(25,some (Blk.cells (zs o))),(16,some (Blk.cells (flat (zr o)++flat [AV.agg [I 4325504,I 7,I 0,AV.fsl false (ai o.19),AV.nilsl]]))),(0,some (Blk.cells (ae o M N L C)))]
theorem PK (o:Ob) (M N L C:AV) (Q:AV→af→Prop):ax Tryz.prog opts0 40 (ap [] [] aH cb []) 127 [.agg (ae o M N L C)] [] 0 (fun v H _=>Q v H)=
  (ab (!aA o.19 []) (ab (!!ak o.18 0) (Q AV.nilsl (Fu C L M N o)) (Q (AV.fsl true [AV.agg (zs o)]) (Fu C L M N o))) (ab (!!ak o.18 0) (Q AV.nilsl [(21,some (Blk.cells (rJ o))),(17,some (Blk.cells (rJ o))),(0,some (Blk.cells (ae o M N L C)))]) (Q (AV.fsl true [AV.agg (rJ o)]) [(21,some (Blk.cells (rJ o))),(17,some (Blk.cells (rJ o))),(0,some (Blk.cells (ae o M N L C)))]))):=by kernel_rfl
theorem PL (o:Ob) (M N L C:AV) (Q:AV→Prop):ax Tryz.prog opts0 40 (ap [] [] aH cb o3) 193 [.agg (ae o M N L C),.fptr [bQ 122] 0,.fptr [I 1] 0,.fptr [I 5] 0] [] 0 (fun v _ _=>Q v)=
  (ab (!ak o.3 0) (Q (AV.fsl true [AV.agg [I 4325387,I 5,I o.3,AV.nilsl,AV.nilsl]])) (Q AV.nilsl)):=by kernel_rfl
theorem PM (o:Ob) (M N L C:AV) (Q:AV→Prop):ax Tryz.prog opts0 40 (ap [] [] aH cb o3) 193 [.agg (ae o M N L C),.fptr [bQ 123] 0,.fptr [I 1] 0,.fptr [I 2] 0] [] 0 (fun v _ _=>Q v)=
  (ab (!ak o.4 0) (Q (AV.fsl true [AV.agg [I 4325387,I 2,I o.4,AV.nilsl,AV.nilsl]])) (Q AV.nilsl)):=by kernel_rfl
theorem PN (o:Ob) (M N L C:AV) (Q:AV→Prop):ax Tryz.prog opts0 40 (ap [] [] aH cb o3) 193 [.agg (ae o M N L C),.fptr [bQ 114] 0,.fptr [I 0] 0,.fptr [I 2] 0] [] 0 (fun v _ _=>Q v)=
  (ab (!ak o.5 0) (Q (AV.fsl true [AV.agg [I 4325387,I 2,I o.5,AV.nilsl,AV.nilsl]])) (Q (AV.fsl true [AV.agg [I 4325387,I 2,I o.5,AV.nilsl,AV.nilsl]]))):=by kernel_rfl
theorem PO (o:Ob) (M N L C:AV) (Q:AV→Prop):ax Tryz.prog opts0 40 (ap [] [] aH cb []) 204 [.agg (ae o M N L C),.fptr [I 0] 0] [] 0 (fun v _ _=>Q v)=
  (ab (!o.d0.1) (Q AV.nilsl) (Q (AV.fsl true [AV.agg [I 4325387,I 9,I o.d0.2,AV.nilsl,AV.nilsl]]))):=by kernel_rfl
theorem PP (o:Ob) (M N L C:AV) (Q:AV→Prop):ax Tryz.prog opts0 40 (ap [] [] aH cb []) 204 [.agg (ae o M N L C),.fptr [I 1] 0] [] 0 (fun v _ _=>Q v)=
  (ab (!o.d1.1) (Q AV.nilsl) (Q (AV.fsl true [AV.agg [I 4325387,I 9,I o.d1.2,AV.nilsl,AV.nilsl]]))):=by kernel_rfl
theorem PQ (o:Ob) (M N L C:AV) (Q:AV→Prop):ax Tryz.prog opts0 40 (ap [] [] aH cb []) 204 [.agg (ae o M N L C),.fptr [I 2] 0] [] 0 (fun v _ _=>Q v)=
  (ab (!o.d2.1) (Q AV.nilsl) (Q (AV.fsl true [AV.agg [I 4325387,I 9,I o.d2.2,AV.nilsl,AV.nilsl]]))):=by kernel_rfl
theorem PR (o:Ob) (M N L C:AV) (Q:AV→Prop):ax Tryz.prog opts0 40 (ap [] [] aH cb []) 204 [.agg (ae o M N L C),.fptr [I 3] 0] [] 0 (fun v _ _=>Q v)=
  (ab (!o.d3.1) (Q AV.nilsl) (Q (AV.fsl true [AV.agg [I 4325387,I 9,I o.d3.2,AV.nilsl,AV.nilsl]]))):=by kernel_rfl
theorem PS (o:Ob) (M N L C:AV) (Q:AV→Prop):ax Tryz.prog opts0 40 (ap [] [] aH cb []) 204 [.agg (ae o M N L C),.fptr [I 4] 0] [] 0 (fun v _ _=>Q v)=
  (ab (!o.d4.1) (Q AV.nilsl) (Q (AV.fsl true [AV.agg [I 4325387,I 9,I o.d4.2,AV.nilsl,AV.nilsl]]))):=by kernel_rfl
theorem PT (o:Ob) (M N L C:AV) (Q:AV→Prop):ax Tryz.prog opts0 40 (ap [] [] aH cb []) 204 [.agg (ae o M N L C),.fptr [I 5] 0] [] 0 (fun v _ _=>Q v)=
  (ab (!o.d5.1) (Q AV.nilsl) (Q (AV.fsl true [AV.agg [I 4325387,I 9,I o.d5.2,AV.nilsl,AV.nilsl]]))):=by kernel_rfl
theorem PU (o:Ob) (M N L C:AV) (Q:AV→Prop):ax Tryz.prog opts0 40 (ap [] [] aH cb []) 204 [.agg (ae o M N L C),.fptr [I 6] 0] [] 0 (fun v _ _=>Q v)=
  (ab (!o.d6.1) (Q AV.nilsl) (Q (AV.fsl true [AV.agg [I 4325387,I 9,I o.d6.2,AV.nilsl,AV.nilsl]]))):=by kernel_rfl
theorem PV (o:Ob) (M N L C:AV) (Q:AV→Prop):ax Tryz.prog opts0 40 (ap [] [] aH cb []) 204 [.agg (ae o M N L C),.fptr [I 7] 0] [] 0 (fun v _ _=>Q v)=
  (ab (!o.d7.1) (Q AV.nilsl) (Q (AV.fsl true [AV.agg [I 4325387,I 9,I o.d7.2,AV.nilsl,AV.nilsl]]))):=by kernel_rfl
theorem PW (o:Ob) (M N L C:AV) (Q:AV→Prop):ax Tryz.prog opts0 40 (ap [] [] aH cb []) 204 [.agg (ae o M N L C),.fptr [I 8] 0] [] 0 (fun v _ _=>Q v)=
  (ab (!o.d8.1) (Q AV.nilsl) (Q (AV.fsl true [AV.agg [I 4325387,I 9,I o.d8.2,AV.nilsl,AV.nilsl]]))):=by kernel_rfl
theorem PX (o:Ob) (M N L C:AV) (Q:AV→Prop):ax Tryz.prog opts0 40 (ap [] [] aH cb []) 204 [.agg (ae o M N L C),.fptr [I 9] 0] [] 0 (fun v _ _=>Q v)=
  (ab (!o.d9.1) (Q AV.nilsl) (Q (AV.fsl true [AV.agg [I 4325387,I 9,I o.d9.2,AV.nilsl,AV.nilsl]]))):=by kernel_rfl
def gm (x:List UInt8):AV:= .agg [I 4325387,I 7,I 0,.fsl false (ai x),.nilsl]
theorem rK:∀l:List (List UInt8),ac (l.map gm)=true
 |[]=>rfl
 |x::r=>by
  rw[List.map_cons,ac,rK r]
  simp[gm,ah,ac]
theorem Fv:∀l:List (List UInt8),∀e∈l.map gm,ei 5 e:=fun l e he=>by
 obtain ⟨x,_,rfl⟩:=List.mem_map.1 he
 exact ⟨rfl,rfl⟩
theorem Fw (l:List (List UInt8)):Wk (.fsl false (l.map gm)) (.fsl false (ad (l.map fv))):=by
 rw[jU,List.map_map]
 refine Wk.rows (WkE.map fun x _=> ?_)
 simp only[gm,Function.comp,fv,bE,aG,ad,AV.cells]
 (repeat (first|exact Wk.refl _|exact WkL.refl _|exact Wk.nil|exact Wk.row|exact WkE.refl _|exact WkL.nil|exact WkE.nil|apply Wk.agg|apply Wk.tuple|apply WkL.cons|apply Wk.rows|apply WkE.consA))
theorem PY (o:Ob) {M L C:AV} (hM:ah M=true) (hL:ah L=true) (hC:ah C=true) (l:List (List UInt8)) (h:l.length≤6):SC 198 [.agg (ae o M (.fsl false (l.map .str)) L C)] (.fsl false (ad (l.map fv))):=by
 have hcl:ac [.agg (ae o M (.fsl false (l.map .str)) L C)]=true:=zp (dY o hM (iS (oN l)) hL hC)
 refine Ft (A:=ap [] [] aH cb []) ao (aw (LsOk.no rfl)) hcl (Fv l) (rK l) (Fw l) ?_
 clear hcl
 rcases l with _|⟨_,_|⟨_,_|⟨_,_|⟨_,_|⟨_,_|⟨_,_|⟨_,_⟩⟩⟩⟩⟩⟩⟩
 all_goals first
  |(exfalso;simp only[List.length_cons] at h;omega)
  |kernel_rfl
def rL (x:Lk):AV:= .agg [I 4325387,I 1,I 0,.nilsl,.fsl true [.agg [I 4325451,I 5,I x.ty,.nilsl,.nilsl],.agg [I 4325452,I 7,I 0,.fsl false (ai x.id),.nilsl]]]
theorem Fx:∀l:List (Lk),ac (l.map rL)=true
 |[]=>rfl
 |x::r=>by
  rw[List.map_cons,ac,Fx r]
  simp[rL,ah,ac]
theorem PZ:∀l:List (Lk),∀e∈l.map rL,ei 5 e:=fun l e he=>by
 obtain ⟨x,_,rfl⟩:=List.mem_map.1 he
 exact ⟨rfl,rfl⟩
theorem P0 (l:List (Lk)):Wk (.fsl false (l.map rL)) (.fsl false (ad (l.map o1))):=by
 rw[jU,List.map_map]
 refine Wk.rows (WkE.map fun x _=> ?_)
 simp only[rL,Function.comp,o1,fS,eT,bE,aG,ad,AV.cells,ai]
 (repeat (first|exact Wk.refl _|exact WkL.refl _|exact Wk.nil|exact Wk.row|exact WkE.refl _|exact WkL.nil|exact WkE.nil|apply Wk.agg|apply Wk.tuple|apply WkL.cons|apply Wk.rows|apply WkE.consA))
theorem P1 (o:Ob) {M N C:AV} (hM:ah M=true) (hL:ah N=true) (hC:ah C=true) (l:List (Lk)) (h:l.length≤8):SC 210 [.agg (ae o M N (.fsl false (l.map bi)) C)] (.fsl false (ad (l.map o1))):=by
 have hcl:ac [.agg (ae o M N (.fsl false (l.map bi)) C)]=true:=zp (dY o hM hL (iS (oO l)) hC)
 refine Ft (A:=ap [] [] aH cb []) ao (aw (LsOk.no rfl)) hcl (PZ l) (Fx l) (P0 l) ?_
 clear hcl
 rcases l with _|⟨_,_|⟨_,_|⟨_,_|⟨_,_|⟨_,_|⟨_,_|⟨_,_|⟨_,_|⟨_,_⟩⟩⟩⟩⟩⟩⟩⟩⟩
 all_goals first
  |(exfalso;simp only[List.length_cons] at h;omega)
  |kernel_rfl
end
end Go.Proofs.YtmnlofhodbnenaaGreatDoor
namespace Go.Proofs.YtmnlofhodbnenaaGreatDoor
open Go Go.RowKit
open Go.Proofs.Abs
noncomputable section
def kf (x lo hi:Int):Bool:= !aq x lo&& !aq hi x
def dB (x:It) (tag kind lo hi:Int):Bool:=bp x tag kind&&kf (cG x) lo hi
def ia (x:It) (tag:Int):Bool:=bp x tag 7&&oX (dr x)
def ib:List It→Bool
 |[a,b]=>dB a 4325451 5 101 110&&ia b 4325452
 |_=>false
def di:List It→Bool
 |[a,b,c]=>dB a 4325527 3 1 1099511627776&&(dB b 4325526 3 0 (cG a)&&dB c 4325528 5 1 2)
 |_=>false
def rM:List It→Bool
 |a::b::_=>ak (cG b) (cG a)
 |_=>false
def gn (o:Ob) (v:It):Kd→Bool
 | .nam| .cus _=>ia v 4325387
 | .alg=>dB v 4325387 5 1 100
 | .len=>dB v 4325387 2 1 100000
 | .mask=>dB v 4325387 2 0 1048575
 | .dat _=>dB v 4325387 9 (-1099511627776) 1099511627776
 | .lnk=>bp v 4325387 1&&ib (aV v)
 | .lim=>bp v 4325387 1&&(di (aV v)&&(o.lh||rM (aV v)))
 |_=>false
abbrev kg (D K:List AV) (n t y:Int):=[I t,I y,I n,AV.fsl false D,AV.fsl false K]
theorem P2 (t y n tag:Int) (D K:List AV) (sh tx:Bool) (Q:AV→Prop):ax Tryz.prog opts0 40 (ap [] [] (bg [(53,.bool sh),(99,.bool tx)]) [] []) 106 [.agg (ag t y n D K),I tag] [] 0 (fun v _ _=>Q v)=
  (SC 53 [AV.agg (kg D K n t y),I tag,I 7] (AV.bool sh)∧ab sh (au (cW D).isSome (SC 99 [AV.str (gH D)] (AV.bool tx)∧Q (AV.bool tx))) (Q (AV.bool false))):=by kernel_rfl
theorem P3 (t y n tag kind lo hi:Int) (D K:List AV) (sh:Bool) (Q:AV→Prop):ax Tryz.prog opts0 40 (ap [] [] (bg [(53,.bool sh)]) [] []) 195 [.agg (ag t y n D K),I tag,I kind,I lo,I hi] [] 0 (fun v _ _=>Q v)=
  (SC 53 [AV.agg (kg D K n t y),I tag,I kind] (AV.bool sh)∧ab sh (ab (!aq n lo) (Q (AV.bool !aq hi n)) (Q (AV.bool false))) (Q (AV.bool false))):=by kernel_rfl
theorem P4 (o:Ob) (M N L C:AV) (t y n:Int) (D K:List AV) (r:Bool) (Q:AV→Prop):ax Tryz.prog opts0 40 (ap [] [] (bg [(106,.bool r)]) [] []) 199 [.agg (ae o M N L C),.agg (ag t y n D K)] [] 0 (fun v _ _=>Q v)=
  (SC 106 [AV.agg (kg D K n t y),I 4325387] (AV.bool r)∧Q (AV.bool r)):=by kernel_rfl
theorem P5 (o:Ob) (M N L C:AV) (t y n:Int) (D K:List AV) (r:Bool) (Q:AV→Prop):ax Tryz.prog opts0 40 (ap [] [] (bg [(106,.bool r)]) [] []) 105 [.agg (ae o M N L C),.agg (ag t y n D K)] [] 0 (fun v _ _=>Q v)=
  (SC 106 [AV.agg (kg D K n t y),I 4325387] (AV.bool r)∧Q (AV.bool r)):=by kernel_rfl
theorem P6 (o:Ob) (M N L C:AV) (t y n:Int) (D K:List AV) (r:Bool) (Q:AV→Prop):ax Tryz.prog opts0 40 (ap [] [] (bg [(195,.bool r)]) [] []) 205 [.agg (ae o M N L C),.agg (ag t y n D K)] [] 0 (fun v _ _=>Q v)=
  (SC 195 [AV.agg (kg D K n t y),I 4325387,I 9,I (Int.negSucc 1099511627775),I 1099511627776] (AV.bool r)∧Q (AV.bool r)):=by kernel_rfl
theorem P7 (o:Ob) (M N L C:AV) (t y n:Int) (D K:List AV) (a b c:Int) (r:Bool) (Q:AV→Prop):ax Tryz.prog opts0 40 (ap [] [] (bg [(195,.bool r)]) [] []) 194 [.agg (ae o M N L C),.agg (ag t y n D K),.fptr [I a] 0,.fptr [I b] 0,.fptr [I c] 0] [] 0 (fun v _ _=>Q v)=
  (SC 195 [AV.agg (kg D K n t y),I 4325387,I a,I b,I c] (AV.bool r)∧Q (AV.bool r)):=by kernel_rfl
def zt (c0 c1:List AV) (sh r0 r1:Bool):aX:=ap [(1,11,.res (.fptr c0 0)),(1,18,.res (.fptr c1 0))] [] (bg [(53,.bool sh),(195,.bool r0),(106,.bool r1)]) [] []
abbrev o4 (D0 K0:List AV) (n0 t0 y0:Int):=[I t0,I y0,I n0,AV.fsl false D0,AV.fsl false K0]
abbrev rN (D1 K1:List AV) (n1 t1 y1:Int):=[I t1,I y1,I n1,AV.fsl false D1,AV.fsl false K1]
theorem Fy (o:Ob) (M N L C:AV) (t y n:Int) (D K:List AV) (t0 y0 n0 t1 y1 n1:Int) (D0 K0 D1 K1:List AV) (sh r0 r1:Bool) (Q:AV→Prop):ax Tryz.prog opts0 40 (zt (ag t0 y0 n0 D0 K0) (ag t1 y1 n1 D1 K1) sh r0 r1) 211 [.agg (ae o M N L C),.agg (ag t y n D K)] [] 0 (fun v _ _=>Q v)=
  (SC 53 [AV.agg (kg D K n t y),I 4325387,I 1] (AV.bool sh)∧ab sh (ab (ak (Int.ofNat (aa K)) 2) (aC Tryz.prog 24 (AV.fsl false K) (I 0)=some (AV.fptr (o4 D0 K0 n0 t0 y0) 0)∧SC 195 [AV.agg (o4 D0 K0 n0 t0 y0),I 4325451,I 5,I 101,I 110] (AV.bool r0)∧ab r0 (aC Tryz.prog 24 (AV.fsl false K) (I 1)=some (AV.fptr (rN D1 K1 n1 t1 y1) 0)∧SC 106 [AV.agg (rN D1 K1 n1 t1 y1),I 4325452] (AV.bool r1)∧Q (AV.bool r1)) (Q (AV.bool false))) (Q (AV.bool false))) (Q (AV.bool false))):=by kernel_rfl
def P8 (r0 r1 r2:Bool):List AV→Option AV
 | [_,.int _ (.ofNat n),_,_,_]=>match Nat.beq n 4325527 with
  |true=>some (.bool r0)
  |false=>match Nat.beq n 4325526 with
   |true=>some (.bool r1)
   |false=>some (.bool r2)
 |_=>none
def zu (c0 c1 c2:List AV) (sh r0 r1 r2:Bool):aX:=ap [(1,11,.res (.fptr c0 0)),(1,18,.res (.fptr c1 0)),(1,22,.res (.fptr c0 0)),(1,30,.res (.fptr c2 0))] [] (dW [(53,fun _=>some (.bool sh)),(195,P8 r0 r1 r2)]) [] []
theorem Fz (o:Ob) (M N L C:AV) (t y n:Int) (D K:List AV) (t0 y0 n0 t1 y1 n1 t2 y2 n2:Int) (D0 K0 D1 K1 D2 K2:List AV) (sh r0 r1 r2:Bool) (Q:AV→Prop):ax Tryz.prog opts0 40 (zu (ag t0 y0 n0 D0 K0) (ag t1 y1 n1 D1 K1) (ag t2 y2 n2 D2 K2) sh r0 r1 r2) 218 [.agg (ae o M N L C),.agg (ag t y n D K)] [] 0 (fun v _ _=>Q v)=
  (SC 53 [AV.agg (kg D K n t y),I 4325387,I 1] (AV.bool sh)∧ab sh (ab (ak (Int.ofNat (aa K)) 3) (aC Tryz.prog 24 (AV.fsl false K) (I 0)=some (AV.fptr (o4 D0 K0 n0 t0 y0) 0)∧SC 195 [AV.agg (o4 D0 K0 n0 t0 y0),I 4325527,I 3,I 1,I 1099511627776] (AV.bool r0)∧ab r0 (aC Tryz.prog 24 (AV.fsl false K) (I 1)=some (AV.fptr (rN D1 K1 n1 t1 y1) 0)∧aC Tryz.prog 24 (AV.fsl false K) (I 0)=some (AV.fptr (o4 D0 K0 n0 t0 y0) 0)∧SC 195 [AV.agg (rN D1 K1 n1 t1 y1),I 4325526,I 3,I 0,I n0] (AV.bool r1)∧ab r1 (aC Tryz.prog 24 (AV.fsl false K) (I 2)=some (AV.fptr [I t2,I y2,I n2,AV.fsl false D2,AV.fsl false K2] 0)∧SC 195 [AV.agg [I t2,I y2,I n2,AV.fsl false D2,AV.fsl false K2],I 4325528,I 5,I 1,I 2] (AV.bool r2)∧Q (AV.bool r2)) (Q (AV.bool false))) (Q (AV.bool false))) (Q (AV.bool false))) (Q (AV.bool false))):=by kernel_rfl
def zw (c0 c1:List AV) (r:Bool):aX:=ap [(1,10,.res (.fptr c1 0)),(1,15,.res (.fptr c0 0))] [] (bg [(218,.bool r)]) [] []
theorem FA (o:Ob) (M N L C:AV) (t y n:Int) (D K:List AV) (t0 y0 n0 t1 y1 n1:Int) (D0 K0 D1 K1:List AV) (r:Bool) (Q:AV→Prop):ax Tryz.prog opts0 40 (zw (ag t0 y0 n0 D0 K0) (ag t1 y1 n1 D1 K1) r) 217 [.agg (ae o M N L C),.agg (ag t y n D K)] [] 0 (fun v _ _=>Q v)=
  (SC 218 [AV.agg (ae o M N L C),AV.agg (kg D K n t y)] (AV.bool r)∧ab r (ab o.23 (Q (AV.bool true)) (aC Tryz.prog 24 (AV.fsl false K) (I 1)=some (AV.fptr (rN D1 K1 n1 t1 y1) 0)∧aC Tryz.prog 24 (AV.fsl false K) (I 0)=some (AV.fptr (o4 D0 K0 n0 t0 y0) 0)∧Q (AV.bool (ak n1 n0)))) (Q (AV.bool false))):=by kernel_rfl
theorem P9 (o:Ob) (M L C:AV) (es:List AV) (Q:AV→Prop):ax Tryz.prog opts0 40 bm 197 [.agg (ae o M (.fsl false es) L C)] [] 0 (fun v _ _=>Q v)=
  (Q (AV.bool (aq (Int.ofNat (aa es)) 6))):=by kernel_rfl
theorem Qa (o:Ob) (M N C:AV) (es:List AV) (Q:AV→Prop):ax Tryz.prog opts0 40 bm 209 [.agg (ae o M N (.fsl false es) C)] [] 0 (fun v _ _=>Q v)=
  (Q (AV.bool (aq (Int.ofNat (aa es)) 8))):=by kernel_rfl
theorem Qb (o:Ob) (M N L:AV) (es:List AV) (Q:AV→Prop):ax Tryz.prog opts0 40 bm 101 [.agg (ae o M N L (.fsl false es))] [] 0 (fun v _ _=>Q v)=
  (Q (AV.bool (aq (Int.ofNat (aa es)) 6))):=by kernel_rfl
def uR:Kd→Nat
 | .uid=>117
 | .nam=>198
 | .typ=>120
 | .sta=>124
 | .dat _=>204
 | .why=>127
 | .lnk=>210
 | .lim=>216
 | .cus _=>102
 |_=>193
def uS:Kd→List AV
 | .dat k=>[.fptr [nI k] 0]
 | .cus s=>[.fptr [.str s] 0]
 | .alg=>[.fptr [dX .alg] 0,.fptr [I 1] 0,.fptr [I 5] 0]
 | .len=>[.fptr [dX .len] 0,.fptr [I 1] 0,.fptr [I 2] 0]
 | .mask=>[.fptr [dX .mask] 0,.fptr [I 0] 0,.fptr [I 2] 0]
 |_=>[]
theorem Qc (k:Kd):lr k=dh (uR k) (uS k):=by cases k<;>rfl
def zx:Kd→Nat
 | .nam=>199
 | .dat _=>205
 | .lnk=>211
 | .lim=>217
 | .cus _=>105
 |_=>194
def zy:Kd→List AV
 | .alg=>[.fptr [I 5] 0,.fptr [I 1] 0,.fptr [I 100] 0]
 | .len=>[.fptr [I 2] 0,.fptr [I 1] 0,.fptr [I 100000] 0]
 | .mask=>[.fptr [I 2] 0,.fptr [I 0] 0,.fptr [I 1048575] 0]
 |_=>[]
def o5:Kd→Bool
 | .uid| .typ| .sta| .why=>false
 |_=>true
theorem Qd {k:Kd} (h:o5 k=true):j6 k=dh (zx k) (zy k):=by cases k<;>first|rfl|cases h
mutual
def cV:It→Prop
 | .mk _ _ _ d ks=>d∈cF∧o6 ks
def o6:List It→Prop
 |[]=>True
 |k::r=>cV k∧o6 r
end
theorem jn {x:It} (h:cV x):dr x∈cF:=by cases x;exact h.1
theorem zz (x:It) (tag:Int) (h:dr x∈cF):SC 106 [aG x,I tag] (.bool (ia x tag)):=by
 have hs:=lm x tag 7
 have ht:=Pa _ h
 simp only[ia]
 revert hs ht
 generalize bp x tag 7=sh
 intro hs ht
 obtain ⟨t,y,n,d,ks⟩:=x
 refine bN (A:=ap [] [] (bg [(53,.bool sh),(99,.bool (oX d))]) [] []) base0 ao (aw (LsOk.no rfl)) (by simp[ac,bG,ah]) rfl ?_
 rw[aU] at hs⊢
 rw[P2]
 simp only[dr] at ht
 refine And.intro hs (aj (fun e=>aF (by simp) ⟨by rw[mX];exact ht, ?_⟩) (fun e=> ?_))
 all_goals simp[e,dr]
theorem o7 (x:It) (tag kind lo hi:Int):SC 195 [aG x,I tag,I kind,I lo,I hi] (.bool (dB x tag kind lo hi)):=by
 have hs:=lm x tag kind
 simp only[dB]
 revert hs
 generalize bp x tag kind=sh
 intro hs
 obtain ⟨t,y,n,d,ks⟩:=x
 refine bN (A:=ap [] [] (bg [(53,.bool sh)]) [] []) base0 ao (aw (LsOk.no rfl)) (by simp[ac,bG,ah]) rfl ?_
 rw[aU] at hs⊢
 rw[P3]
 refine And.intro hs (aj (fun e=>aj (fun e2=> ?_) (fun e2=> ?_)) (fun e=> ?_))
 all_goals simp_all [kf,cG]
theorem kh {l m:List AV} (h:ac l=true) (h':ac m=true):ac [.agg l,.agg m]=true:=by simp[ac,ah,h,h']
theorem uT (x:It):∃t y n D K,aG x= .agg (ag t y n D K):=by obtain ⟨t,y,n,d,ks⟩:=x;exact ⟨t,y,n,_,_,rfl⟩
theorem Qe (o:Ob) (v:It) (h:dr v∈cF):SC 199 [az o,aG v] (.bool (ia v 4325387)):=by
 have hs:=zz v 4325387 h
 revert hs
 generalize ia v 4325387=r
 intro hs
 have hc:=bG v
 obtain ⟨t,y,n,D,K,e⟩:=uT v
 rw[e] at hs hc⊢
 refine bN (A:=ap [] [] (bg [(106,.bool r)]) [] []) base0 ao (aw (LsOk.no rfl)) (kh (bH o) hc) rfl ?_
 simp only[az,am]
 rw[P4]
 exact ⟨hs,rfl⟩
theorem Qf (o:Ob) (v:It) (h:dr v∈cF):SC 105 [az o,aG v] (.bool (ia v 4325387)):=by
 have hs:=zz v 4325387 h
 revert hs
 generalize ia v 4325387=r
 intro hs
 have hc:=bG v
 obtain ⟨t,y,n,D,K,e⟩:=uT v
 rw[e] at hs hc⊢
 refine bN (A:=ap [] [] (bg [(106,.bool r)]) [] []) base0 ao (aw (LsOk.no rfl)) (kh (bH o) hc) rfl ?_
 simp only[az,am]
 rw[P5]
 exact ⟨hs,rfl⟩
theorem Qg (o:Ob) (v:It):SC 205 [az o,aG v] (.bool (dB v 4325387 9 (-1099511627776) 1099511627776)):=by
 have hs:=o7 v 4325387 9 (-1099511627776) 1099511627776
 revert hs
 generalize dB v 4325387 9 (-1099511627776) 1099511627776=r
 intro hs
 have hc:=bG v
 obtain ⟨t,y,n,D,K,e⟩:=uT v
 rw[e] at hs hc⊢
 refine bN (A:=ap [] [] (bg [(195,.bool r)]) [] []) base0 ao (aw (LsOk.no rfl)) (kh (bH o) hc) rfl ?_
 simp only[az,am]
 rw[P6]
 exact ⟨hs,rfl⟩
theorem zA (o:Ob) (v:It) (a b c:Int):SC 194 [az o,aG v,.fptr [I a] 0,.fptr [I b] 0,.fptr [I c] 0] (.bool (dB v 4325387 a b c)):=by
 have hs:=o7 v 4325387 a b c
 revert hs
 generalize dB v 4325387 a b c=r
 intro hs
 have hc:=bG v
 obtain ⟨t,y,n,D,K,e⟩:=uT v
 rw[e] at hs hc⊢
 refine bN (A:=ap [] [] (bg [(195,.bool r)]) [] []) base0 ao (aw (LsOk.no rfl)) (by have:=bH o;simp only[ah] at hc;simp[ac,ah,az,this,hc]) rfl ?_
 simp only[az,am]
 rw[P7]
 exact ⟨hs,rfl⟩
theorem Qh (o:Ob) (v:It) (h:cV v):SC 211 [az o,aG v] (.bool (bp v 4325387 1&&ib (aV v))):=by
 have hs:=lm v 4325387 1
 revert hs
 generalize bp v 4325387 1=sh
 intro hs
 have hc:=bG v
 obtain ⟨t,y,n,d,ks⟩:=v
 rw[aU] at hs hc⊢
 have key:∀ (a b:It),ks=[a,b]→SC 211 [az o,.agg (ag t y n (ai d) (ad ks))] (.bool (sh&&ib (aV (.mk t y n d ks)))):=fun a b e=>by
  subst e
  have h0:=o7 a 4325451 5 101 110
  have h1:=zz b 4325452 (jn h.2.2.1)
  simp only[aV,ib]
  revert h0 h1
  generalize dB a 4325451 5 101 110=r0
  generalize ia b 4325452=r1
  intro h0 h1
  obtain ⟨t0,y0,n0,d0,k0⟩:=a
  obtain ⟨t1,y1,n1,d1,k1⟩:=b
  refine bN (A:=zt (ag t0 y0 n0 (ai d0) (ad k0)) (ag t1 y1 n1 (ai d1) (ad k1)) sh r0 r1) base0 ao (aw (LsOk.no rfl)) (kh (bH o) hc) rfl ?_
  simp only[az,am]
  rw[Fy]
  rw[aU] at h0 h1
  refine And.intro hs (aj (fun e=>aj (fun e2=>And.intro (bB (i:=0) rfl) (And.intro h0 (aj (fun e3=>And.intro (bB (i:=1) rfl) (And.intro h1 ?_)) (fun e3=> ?_)))) (fun e2=> ?_)) (fun e=> ?_))
  ·simp[e,e3]
  ·simp[e,e3]
  ·exact absurd e2 (by simp[ad,aa,beqInt_iff])
  ·simp[e]
 have other:aa (ad ks)≠2→SC 211 [az o,.agg (ag t y n (ai d) (ad ks))] (.bool false):=fun hne=>by
  refine bN (A:=zt (ag 0 0 0 [] []) (ag 0 0 0 [] []) sh true true) base0 ao (aw (LsOk.no rfl)) (kh (bH o) hc) rfl ?_
  simp only[az,am]
  rw[Fy]
  refine And.intro hs (aj (fun _=>aj (fun e2=> ?_) (fun _=>rfl)) (fun _=>rfl))
  rw[beqInt_iff] at e2
  exact absurd (Int.ofNat.inj e2) hne
 match ks,key,other with
 |[a,b],key,_=>exact key a b rfl
 |[],_,other=>simpa [aV,ib] using other (by simp[ad,aa])
 |[_],_,other=>simpa [aV,ib] using other (by simp[ad,aa])
 |_::_::_::_,_,other=>simpa [aV,ib] using other (by simp[ad,aa])
theorem Qi (o:Ob) (v:It):SC 218 [az o,aG v] (.bool (bp v 4325387 1&&di (aV v))):=by
 have hs:=lm v 4325387 1
 revert hs
 generalize bp v 4325387 1=sh
 intro hs
 have hc:=bG v
 obtain ⟨t,y,n,d,ks⟩:=v
 rw[aU] at hs hc⊢
 have key:∀ (a b c:It),ks=[a,b,c]→SC 218 [az o,.agg (ag t y n (ai d) (ad ks))] (.bool (sh&&di (aV (.mk t y n d ks)))):=fun a b c e=>by
  subst e
  have h0:=o7 a 4325527 3 1 1099511627776
  have h1:=o7 b 4325526 3 0 (cG a)
  have h2:=o7 c 4325528 5 1 2
  simp only[aV,di]
  revert h0 h1 h2
  generalize dB a 4325527 3 1 1099511627776=r0
  generalize dB b 4325526 3 0 (cG a)=r1
  generalize dB c 4325528 5 1 2=r2
  intro h0 h1 h2
  obtain ⟨t0,y0,n0,d0,k0⟩:=a
  obtain ⟨t1,y1,n1,d1,k1⟩:=b
  obtain ⟨t2,y2,n2,d2,k2⟩:=c
  refine bN (A:=zu (ag t0 y0 n0 (ai d0) (ad k0)) (ag t1 y1 n1 (ai d1) (ad k1)) (ag t2 y2 n2 (ai d2) (ad k2)) sh r0 r1 r2) base0 ao (aw (LsOk.no rfl)) (kh (bH o) hc) rfl ?_
  simp only[az,am]
  rw[Fz]
  rw[aU] at h0 h1 h2
  simp only[cG] at h1
  refine And.intro hs (aj (fun e=>aj (fun e2=>And.intro (bB (i:=0) rfl) (And.intro h0 (aj (fun e3=>And.intro (bB (i:=1) rfl) (And.intro (bB (i:=0) rfl) (And.intro h1 (aj (fun e4=>And.intro (bB (i:=2) rfl) (And.intro h2 ?_)) (fun e4=> ?_))))) (fun e3=> ?_)))) (fun e2=> ?_)) (fun e=> ?_))
  ·simp[e,e3,e4]
  ·simp[e,e3,e4]
  ·simp[e,e3]
  ·exact absurd e2 (by simp[ad,aa,beqInt_iff])
  ·simp[e]
 have other:aa (ad ks)≠3→SC 218 [az o,.agg (ag t y n (ai d) (ad ks))] (.bool false):=fun hne=>by
  refine bN (A:=zu (ag 0 0 0 [] []) (ag 0 0 0 [] []) (ag 0 0 0 [] []) sh true true true) base0 ao (aw (LsOk.no rfl)) (kh (bH o) hc) rfl ?_
  simp only[az,am]
  rw[Fz]
  refine And.intro hs (aj (fun _=>aj (fun e2=> ?_) (fun _=>rfl)) (fun _=>rfl))
  rw[beqInt_iff] at e2
  exact absurd (Int.ofNat.inj e2) hne
 match ks,key,other with
 |[a,b,c],key,_=>exact key a b c rfl
 |[],_,other=>simpa [aV,di] using other (by simp[ad,aa])
 |[_],_,other=>simpa [aV,di] using other (by simp[ad,aa])
 |[_,_],_,other=>simpa [aV,di] using other (by simp[ad,aa])
 |_::_::_::_::_,_,other=>simpa [aV,di] using other (by simp[ad,aa])
theorem Qj (o:Ob) (v:It):SC 217 [az o,aG v] (.bool (bp v 4325387 1&&(di (aV v)&&(o.lh||rM (aV v))))):=by
  have hs:=Qi o v
  have hc:=bG v
  obtain ⟨t,y,n,d,ks⟩:=v
  simp only[aV] at hs⊢
  rw[aU] at hs hc⊢
  rw[←Bool.and_assoc]
  match ks with
  | [⟨t0,y0,n0,d0,k0⟩,⟨t1,y1,n1,d1,k1⟩,⟨t2,y2,n2,d2,k2⟩]=>
    revert hs
    generalize (bp (.mk t y n d [⟨t0,y0,n0,d0,k0⟩,⟨t1,y1,n1,d1,k1⟩,⟨t2,y2,n2,d2,k2⟩]) 4325387 1&&di [⟨t0,y0,n0,d0,k0⟩,⟨t1,y1,n1,d1,k1⟩,⟨t2,y2,n2,d2,k2⟩])=r
    intro hs
    refine bN (A:=zw (ag t0 y0 n0 (ai d0) (ad k0)) (ag t1 y1 n1 (ai d1) (ad k1)) r) base0 ao (aw (LsOk.no rfl)) (kh (bH o) hc) rfl ?_
    simp only[az,am] at hs⊢
    rw[FA]
    refine And.intro hs (aj (fun e=>aj (fun e2=> ?_) (fun e2=>And.intro (bB (i:=1) rfl) (And.intro (bB (i:=0) rfl) ?_))) (fun e=> ?_))
    · simp[e,e2]
    · simp[e,e2,rM,cG]
    · simp[e]
  |[]=>simpa [di] using none_sem hs hc
  |[_]=>simpa [di] using none_sem hs hc
  |[_,_]=>simpa [di] using none_sem hs hc
  |_::_::_::_::_=>simpa [di] using none_sem hs hc
 where
  none_sem {o:Ob} {t y n:Int} {D K:List AV} {r:Bool} (hs:SC 218 [az o,.agg (ag t y n D K)] (.bool (r&&false))) (hc:ah (.agg (ag t y n D K))=true):SC 217 [az o,.agg (ag t y n D K)] (.bool false):=by
    rw[Bool.and_false] at hs
    refine bN (A:=zw (ag 0 0 0 [] []) (ag 0 0 0 [] []) false) base0 ao (aw (LsOk.no rfl)) (kh (bH o) hc) rfl ?_
    simp only[az,am] at hs⊢
    rw[FA]
    exact And.intro hs rfl
theorem Qk {k:Kd} (hk:o5 k=true) (o:Ob) (v:It) (h:cV v):SC (zx k) (az o::aG v::zy k) (.bool (gn o v k)):=by
 cases k with
 |nam=>exact Qe o v (jn h)
 |cus s=>exact Qf o v (jn h)
 |dat k=>exact Qg o v
 |alg=>exact zA o v 5 1 100
 |len=>exact zA o v 2 1 100000
 |mask=>exact zA o v 2 0 1048575
 |lnk=>exact Qh o v h
 |lim=>exact Qj o v
 |_=>cases hk
end
end Go.Proofs.YtmnlofhodbnenaaGreatDoor
namespace Go.Proofs.YtmnlofhodbnenaaGreatDoor
set_option maxRecDepth 20000
open Go Go.RowKit
open Go.Proofs.Abs
noncomputable section
def lB (O P:List AV) (i:Nat):View:=⟨[(4,.nilsl),(9,.fsl false P),(10,I (.ofNat (aa P))),(11,I (.ofNat i))],[(2,.ptr 0 0)],[(0,.cells O,.whole)],2,27⟩
def fT (O P:List AV) (i:Nat) (es:List AV):View:=⟨[(9,.fsl false P),(10,I (.ofNat (aa P))),(11,I (.ofNat i))],[(2,.ptr 0 0),(4,.rsl true 1 0 i 5)],[(0,.cells O,.whole),(1,.cells es,.whole)],2,27⟩
def o8 (p:Nat) (n t:List UInt8):aX:=ap [(4,0,.res (.fptr [nI p] 0)),(5,4,.res (.fptr [.str n,.str t] 0))] [] aH [104] []
@[simp] abbrev uU (P:List AV):=(I (Int.ofNat (aa P))=I (Int.ofNat (aa P))∧ah (I (Int.ofNat (aa P)))=true)
@[simp] abbrev uV (P:List AV):=(AV.fsl false P=AV.fsl false P∧ah (AV.fsl false P)=true)
@[simp] abbrev uW (C L M N:AV) (o:Ob):=((ae o M N L C)=(ae o M N L C)∧ac (ae o M N L C)=true)
@[simp] abbrev uX:=(some 0=some 0∧0=0)
@[simp] abbrev zB (C L M N:AV) (P:List AV) (o:Ob):=(((AV.nilsl=AV.nilsl∧true=true)∧(uV P)∧(uU P)∧(I 0=I 0∧true=true)∧True)∧(uX∧True)∧(uW C L M N o)∧True)
abbrev nf (t:List UInt8):=[AV.agg [I 4325387,I 7,I 0,AV.fsl false (ai t),AV.nilsl]]
theorem FB (o:Ob) (M N L C:AV) (P:List AV) (p:Nat) (n t:List UInt8) (es:List AV) (Nx:Prop) (Q:AExit→St→Prop):aI Tryz.prog opts0 40 (o8 p n t) (aD Tryz.prog 102 4) (lB (ae o M N L C) P 0).st (bf 0 [(0,0),(1,15)] (fT (ae o M N L C) P 1 es) Nx [(0,0)] (lB (ae o M N L C) P 0) Q)=
  (ab (aq 0 (Int.ofNat (aa P))) (aC Tryz.prog 209 (AV.fsl false P) (I 0)=some (AV.fptr [I (Int.ofNat p)] 0)∧aC Tryz.prog 34 C (I (Int.ofNat p))=some (AV.fptr [AV.str n,AV.str t] 0)∧(((uV P)∧(uU P)∧(I 1=I 1∧true=true)∧True)∧(uX∧(true=true∧some 15=some 15∧0=0∧1=aa (nf t)∧5=5)∧True)∧(uW C L M N o)∧(flat (nf t)=es∧ac es=true)∧True)∧Nx) ((zB C L M N P o)∧Q (AExit.exit 0) (lB (ae o M N L C) P 0).st)):=by kernel_rfl
theorem FC (o:Ob) (M N L C:AV) (P:List AV) (p i j:Nat) (n t:List UInt8) (es es':List AV) (Nx:Prop) (Q:AExit→St→Prop):aI Tryz.prog opts0 40 (o8 p n t) (aD Tryz.prog 102 4) (fT (ae o M N L C) P i es).st (bf 0 [(0,0),(1,15)] (fT (ae o M N L C) P j es') Nx [(0,0),(1,1)] (fT (ae o M N L C) P i es) Q)=
  (ab (aq (Int.ofNat i) (Int.ofNat (aa P))) (aC Tryz.prog 209 (AV.fsl false P) (I (Int.ofNat i))=some (AV.fptr [I (Int.ofNat p)] 0)∧aC Tryz.prog 34 C (I (Int.ofNat p))=some (AV.fptr [AV.str n,AV.str t] 0)∧au (a8 5 (nf t)&&(((i+aa (nf t))*72).ble 140737488355328&&(bc (flat (nf t))&&true))) (au ((aa es).beq (i*5)) ((((uV P)∧(uU P)∧(I (ar IntKind.i64 (Int.ofNat i+1))=I (Int.ofNat j)∧ah (I (Int.ofNat j))=true)∧True)∧(uX∧(true=true∧some 15=some 15∧0=0∧j=i+aa (nf t)∧5=5)∧True)∧(uW C L M N o)∧(es++flat (nf t)=es'∧ac es'=true)∧True)∧Nx))) ((((uV P)∧(uU P)∧(I (Int.ofNat i)=I (Int.ofNat i)∧ah (I (Int.ofNat i))=true)∧True)∧(uX∧(true=true∧some 1=some 1∧0=0∧i=i∧5=5)∧True)∧(uW C L M N o)∧(es=es∧ac es=true)∧True)∧Q (AExit.exit 0) (fT (ae o M N L C) P i es).st)):=by kernel_rfl
def uY (O P:List AV) (F:View):bq:=fun st Q=>ck 0 [(0,0)] (lB O P 0) st∧Q (.exit 0) F.st
theorem Ql (o:Ob) (M N L C:AV) (s:List UInt8) (P:List AV) (Q:AV→af→Prop):ax Tryz.prog opts0 40 (ap [] [(4,uY (ae o M N L C) P (lB (ae o M N L C) P 0))] (bg [(103,.fsl false P)]) [] []) 102 [.agg (ae o M N L C),.fptr [.str s] 0] [] 0 (fun v H _=>Q v H)=
  (SC 103 [AV.agg (ae o M N L C),AV.str s] (AV.fsl false P)∧(zB C L M N P o)∧Q AV.nilsl [(0,some (Blk.cells (ae o M N L C)))]):=by kernel_rfl
theorem Qm (o:Ob) (M N L C:AV) (s:List UInt8) (P:List AV) (es:List AV) (Q:AV→af→Prop):ax Tryz.prog opts0 40 (ap [] [(4,uY (ae o M N L C) P (fT (ae o M N L C) P (aa P) es))] (bg [(103,.fsl false P)]) [] []) 102 [.agg (ae o M N L C),.fptr [.str s] 0] [] 0 (fun v H _=>Q v H)=
  (SC 103 [AV.agg (ae o M N L C),AV.str s] (AV.fsl false P)∧(zB C L M N P o)∧Q (AV.rsl true 1 0 (aa P) 5) [(0,some (Blk.cells (ae o M N L C))),(1,some (Blk.cells es))]):=by kernel_rfl
theorem Qn:∀p:List Nat,∀e∈p.map nI,ei 1 e:=fun p e he=>by
 obtain ⟨x,_,rfl⟩:=List.mem_map.1 he
 exact ⟨rfl,rfl⟩
theorem Qo (o:Ob) {M N L:AV} (s:List UInt8) (hM:ah M=true) (hN:ah N=true) (hL:ah L=true) (hb:o.cust.length≤bd):SC 103 [.agg (ae o M N L (bo o)),.str s] (.fsl false ((b6 s o.cust 0).map nI)):=by
 have h0:=Fq o s hM hN hL hb
 revert h0
 generalize b6 s o.cust 0=p
 intro h0
 have hcl:ac [.agg (ae o M N L (bo o)),.str s]=true:=by simp only[ac,ah,dY o hM hN hL (m6 o),Bool.and_self]
 refine Mg base0.glob hcl h0 ?_
 cases p with
 |nil=>exact ⟨.nilsl,⟨1,rfl⟩,rfl,.nil⟩
 |cons a r=>exact ⟨.fsl false ((a::r).map nI),Frz.out (Frz.row (es:=(a::r).map nI) rfl rfl (Fl _).symm (by simp) (Qn _) (j9 _)),iS (j9 _),.refl _⟩
def dt (l:List Cu) (p:Nat):List UInt8:=match l[p]? with
 |some c=>c.text
 |none=>[]
theorem zC (s:List UInt8):∀ (l pre:List Cu),(b6 s l pre.length).map (dt (pre++l))=(l.filter fun c=>aA c.name s).map Cu.text
 |[],_=>rfl
 | c::r,pre=>by
  have ih:=zC s r (pre++[c])
  simp only[List.length_append,List.length_cons,List.length_nil,Nat.zero_add,List.append_assoc,List.cons_append,List.nil_append] at ih
  simp only[b6]
  cases hc:aA c.name s with
  |false=>simp only[List.filter_cons,hc,Bool.false_eq_true,if_false,ih]
  |true=>
   have:dt (pre++c::r) pre.length=c.text:=by simp[dt]
   simp only[List.filter_cons,hc,if_true,List.map_cons,ih,this]
theorem Qp (l:List (List UInt8)):(flat (l.map gm)).length=l.length*5:=by
 induction l with
 |nil=>rfl
 |cons x r ih=>simp only[List.map_cons,flat,List.length_append,ih,gm,AV.cells,List.length_cons,List.length_nil];omega
theorem FD (l:List (List UInt8)):ac (flat (l.map gm))=true:=rD (rK l) fun e he=>by
 obtain ⟨x,_,rfl⟩:=List.mem_map.1 he
 simp[gm,AV.cells,ac,ah]
theorem FE {f:Bool} {l:List Nat} {i p:Nat} (hx:l[i]? =some p):aC Tryz.prog 209 (.fsl f (l.map nI)) (.int .i64 (.ofNat i))=some (.fptr [nI p] 0):=
 fN (v:=nI p) (e:=3) (sz:=1) (by kernel_rfl) (by kernel_rfl) (by rw[List.getElem?_map,hx];rfl) rfl
def eU (T:List (List UInt8)) (i:Nat):List AV:=flat ((T.take i).map gm)
theorem FF {T:List (List UInt8)} {i:Nat} {x:List UInt8} (h:T[i]? =some x):eU T i++flat [gm x]=eU T (i+1):=by
 rw[eU,eU,lw h,List.map_append,ej]
 rfl
theorem Qq {T:List (List UInt8)} {i:Nat} (h:i≤T.length):(eU T i).length=i*5:=by rw[eU,Qp,List.length_take,Nat.min_eq_left h]
theorem Qr {o:Ob} {M N L:AV} {ps:List Nat} {Q:AExit→St→Prop} (hM:ah M=true) (hN:ah N=true) (hL:ah L=true) (hps:∀p∈ps,p<o.cust.length) (hb:ps.length≤bd)
  (hq:Q (.exit 0) (fT (ae o M N L (bo o)) (ps.map nI) ps.length (eU (ps.map (dt o.cust)) ps.length)).st):
  ∀i,i≤ps.length→(0<i→ALp Tryz.prog opts0.glob 0 (aD Tryz.prog 102 4) (fT (ae o M N L (bo o)) (ps.map nI) i (eU (ps.map (dt o.cust)) i)).st Q):=by
 have hO:=dY o hM hN hL (m6 o)
 have hP:=j9 ps
 have hlen:aa (ps.map nI)=ps.length:=by rw[aE,List.length_map]
 have hb:ps.length≤1099511627776:=hb
 have hE:∀i,ac (eU (ps.map (dt o.cust)) i)=true:=fun i=>FD _
 refine rG _ (fun _=> ?_) (fun i hi ih h0=> ?_)
 ·refine ALp.round (A:=o8 0 [] []) (V2:=fT (ae o M N L (bo o)) (ps.map nI) 0 []) (F:=fT (ae o M N L (bo o)) (ps.map nI) ps.length (eU (ps.map (dt o.cust)) ps.length)) (lk:=[(0,0),(1,15)]) (lk':=[(0,0),(1,1)]) base0 ao (LsOk.no rfl) .refl ?_
  rw[FC]
  refine aj (fun h=> ?_) (fun _=>⟨⟨⟨⟨rfl,iS hP⟩,⟨rfl,rfl⟩,⟨rfl,rfl⟩,trivial⟩,⟨⟨rfl,rfl⟩,⟨rfl,rfl,rfl,rfl,rfl⟩,trivial⟩,⟨rfl,hO⟩,⟨rfl,hE _⟩,trivial⟩,hq⟩)
  have h:=ltInt_iff.1 h
  simp only[hlen,Int.ofNat_eq_natCast] at h
  omega
 ·have g1:=List.getElem?_eq_getElem hi
  have hp:=hps _ (List.getElem_mem hi)
  have hT:(ps.map (dt o.cust))[i]? =some (dt o.cust ps[i]):=by rw[List.getElem?_map,g1];rfl
  have hs:=FF hT
  revert g1 hp hs
  generalize ps[i]=p
  intro g1 hp hs
  have g2:=List.getElem?_eq_getElem hp
  have htx:dt o.cust p=(o.cust[p]).text:=by simp[dt,hp]
  rw[htx] at hs
  revert g2 hs
  generalize o.cust[p]=c
  intro hs g2
  have ih:=ih (by omega)
  refine ALp.round (A:=o8 p c.name c.text) (V2:=fT (ae o M N L (bo o)) (ps.map nI) (i+1) (eU (ps.map (dt o.cust)) (i+1))) (F:=fT (ae o M N L (bo o)) (ps.map nI) i (eU (ps.map (dt o.cust)) i)) (lk:=[(0,0),(1,15)]) (lk':=[(0,0),(1,1)]) base0 ao (LsOk.no rfl) .refl ?_
  rw[FC]
  refine aj (fun _=>⟨FE g1,o0 g2,aF ?_ (aF ?_ ⟨⟨⟨⟨rfl,iS hP⟩,⟨rfl,rfl⟩,⟨?_,rfl⟩,trivial⟩,⟨⟨rfl,rfl⟩,⟨rfl,rfl,rfl,rfl,rfl⟩,trivial⟩,⟨rfl,hO⟩,⟨hs,hE _⟩,trivial⟩,ih⟩)⟩) (fun h=> ?_)
  ·have hi2:(i+1)*72≤140737488355328:=by omega
   simp only[Bool.and_eq_true,Nat.ble_eq]
   exact ⟨rfl,hi2,rfl,trivial⟩
  ·rw[beq_iff,aE,Qq (by rw[List.length_map];omega)]
  ·rw[eQ (by simp;omega) (by simp;omega)];rfl
  ·have h:=ltInt_false.1 h
   simp only[hlen,Int.ofNat_eq_natCast] at h
   omega
theorem FG:bu (cy Tryz.prog 102) 4=[aD Tryz.prog 102 4]:=by kernel_rfl
theorem Qs (o:Ob) (s:List UInt8) (hb:o.cust.length≤bd):SC 102 [az o,.fptr [.str s] 0] (.fsl false (ad (aK o (.cus s)))):=by
 have hpl:=Qo o s (m5 o) (oP o) (oQ o) hb
 have htx:=zC s o.cust []
 have hlt:=uE s o.cust 0
 have hln:=uC s o.cust 0
 simp only[List.length_nil,List.nil_append] at htx
 have hget:ad (aK o (.cus s))=ad (((o.cust.filter fun c=>aA c.name s).map Cu.text).map fv):=by rw[List.map_map];rfl
 rw[hget,←htx]
 clear hget htx
 revert hpl hlt hln
 generalize b6 s o.cust 0=ps
 intro hpl hlt hln
 have hps:∀p∈ps,p<o.cust.length:=fun p hp=>by have:=hlt p hp;omega
 have hO:=bH o
 have hcl:ac [az o,.fptr [.str s] 0]=true:=by simp only[ac,az,ah,hO,Bool.and_self]
 cases ps with
 | nil=>
  refine dp (A:=ap [] [(4,uY (am o) [] (lB (am o) [] 0))] (bg [(103,.fsl false [])]) [] []) base0 ao
   (aw (LsOk.at1 rfl FG fun st Q hs=> .seen base0.glob hs.1 ?_)) hcl ?_
  ·refine ALp.round (A:=o8 0 [] []) (V2:=fT (am o) [] 1 []) (F:=lB (am o) [] 0) (lk:=[(0,0),(1,15)]) (lk':=[(0,0)]) base0 ao (LsOk.no rfl) .refl ?_
   simp only[am]
   rw[FB]
   refine aj (fun h=>by cases h) (fun _=>⟨⟨⟨⟨rfl,rfl⟩,⟨rfl,rfl⟩,⟨rfl,rfl⟩,⟨rfl,rfl⟩,trivial⟩,⟨⟨rfl,rfl⟩,trivial⟩,⟨rfl,hO⟩,trivial⟩,hs.2⟩)
  ·simp only[az,am]
   rw[Ql]
   exact ⟨hpl,⟨⟨⟨rfl,rfl⟩,⟨rfl,rfl⟩,⟨rfl,rfl⟩,⟨rfl,rfl⟩,trivial⟩,⟨⟨rfl,rfl⟩,trivial⟩,⟨rfl,hO⟩,trivial⟩,.nilsl,⟨1,rfl⟩,rfl,.nil⟩
 | cons p r=>
  have hlen:aa ((p::r).map nI)=(p::r).length:=by rw[aE,List.length_map]
  have hP:=j9 (p::r)
  have hb':(p::r).length≤bd:=Nat.le_trans hln hb
  refine dp (A:=ap [] [(4,uY (am o) ((p::r).map nI) (fT (am o) ((p::r).map nI) (aa ((p::r).map nI)) (eU ((p::r).map (dt o.cust)) (p::r).length)))] (bg [(103,.fsl false ((p::r).map nI))]) [] []) base0 ao
   (aw (LsOk.at1 rfl FG fun st Q hs=> .seen base0.glob hs.1 ?_)) hcl ?_
  ·have hp:=hps p (by simp)
   have g2:=List.getElem?_eq_getElem hp
   have htx:dt o.cust p=(o.cust[p]).text:=by simp[dt,hp]
   have hT:((p::r).map (dt o.cust))[0]? =some (dt o.cust p):=rfl
   have hs1:=FF hT
   rw[htx] at hs1
   revert g2 hs1
   generalize o.cust[p]=c
   intro g2 hs1
   have hs1:flat [gm c.text]=eU ((p::r).map (dt o.cust)) 1:=hs1
   have hq:=hs.2
   rw[hlen] at hq
   refine ALp.round (A:=o8 p c.name c.text) (V2:=fT (am o) ((p::r).map nI) 1 (eU ((p::r).map (dt o.cust)) 1)) (F:=lB (am o) ((p::r).map nI) 0) (lk:=[(0,0),(1,15)]) (lk':=[(0,0)]) base0 ao (LsOk.no rfl) .refl ?_
   have hnext:=Qr (m5 o) (oP o) (oQ o) hps hb' hq 1 (by simp) (by omega)
   simp only[am]
   rw[FB]
   refine aj (fun _=>⟨FE (i:=0) rfl,o0 g2,⟨⟨⟨rfl,iS hP⟩,⟨rfl,rfl⟩,⟨rfl,rfl⟩,trivial⟩,⟨⟨rfl,rfl⟩,⟨rfl,rfl,rfl,rfl,rfl⟩,trivial⟩,⟨rfl,hO⟩,⟨hs1,FD _⟩,trivial⟩,hnext⟩) (fun h=> ?_)
   have h:=ltInt_false.1 h
   simp only[hlen,Int.ofNat_eq_natCast,List.length_cons] at h
   omega
  ·simp only[az,am]
   rw[Qm]
   refine ⟨hpl,⟨⟨⟨rfl,rfl⟩,⟨rfl,iS hP⟩,⟨rfl,rfl⟩,⟨rfl,rfl⟩,trivial⟩,⟨⟨rfl,rfl⟩,trivial⟩,⟨rfl,hO⟩,trivial⟩,.fsl false (((p::r).map (dt o.cust)).map gm),Frz.out (Frz.row (c:=eU ((p::r).map (dt o.cust)) (p::r).length) (es:=((p::r).map (dt o.cust)).map gm) rfl rfl ?_ ?_ (Fv _) (rK _)),iS (rK _),Fw _⟩
   ·rw[eU,List.take_of_length_le (by simp)]
   ·rw[hlen,List.length_map,List.length_map]
end
end Go.Proofs.YtmnlofhodbnenaaGreatDoor
namespace Go.Proofs.YtmnlofhodbnenaaGreatDoor
open Go Go.RowKit
open Go.Proofs.Abs
noncomputable section
abbrev ic (D K:List AV) (n t y:Int):=(15,some (Blk.cells [I t,I y,I n,AV.fsl false D,AV.fsl false K]))
theorem Qt (o:Ob) (M N L C:AV) (i t y n:Int) (D K R:List AV) (Q:AV→af→Nat→Prop):ax Tryz.prog opts0 40 (ap [] [] (bg [(201,.fsl false R)]) [] []) 200 [.ptr 1 0,I i,.agg (ag t y n D K)] [(1,some (.cells (ae o M N L C)))] 15 Q=
  (au (cW D).isSome (SC 201 [N,I i,AV.str (gH D)] (AV.fsl false R)∧Q (AV.tuple []) [(ic D K n t y),(1,some (Blk.cells (ae o M (AV.fsl false R) L C)))] 29)):=by kernel_rfl
theorem Qu (o:Ob) (M N L C:AV) (i t y n:Int) (D K:List AV) (Q:AV→af→Nat→Prop):ax Tryz.prog opts0 40 bm 206 [.ptr 1 0,I i,.agg (ag t y n D K),.fptr [I 1] 0] [(1,some (.cells (ae o M N L C)))] 15 Q=
  (Q (AV.tuple []) [(ic D K n t y),(1,some (Blk.cells (ae {o with d1:=⟨true,n⟩} M N L C)))] 25):=by kernel_rfl
theorem Qv (o:Ob) (M N L C:AV) (i t y n:Int) (D K:List AV) (Q:AV→af→Nat→Prop):ax Tryz.prog opts0 40 bm 206 [.ptr 1 0,I i,.agg (ag t y n D K),.fptr [I 2] 0] [(1,some (.cells (ae o M N L C)))] 15 Q=
  (Q (AV.tuple []) [(ic D K n t y),(1,some (Blk.cells (ae {o with d2:=⟨true,n⟩} M N L C)))] 25):=by kernel_rfl
theorem Qw (o:Ob) (M N L C:AV) (i t y n:Int) (D K:List AV) (Q:AV→af→Nat→Prop):ax Tryz.prog opts0 40 bm 206 [.ptr 1 0,I i,.agg (ag t y n D K),.fptr [I 3] 0] [(1,some (.cells (ae o M N L C)))] 15 Q=
  (Q (AV.tuple []) [(ic D K n t y),(1,some (Blk.cells (ae {o with d3:=⟨true,n⟩} M N L C)))] 25):=by kernel_rfl
theorem Qx (o:Ob) (M N L C:AV) (i t y n:Int) (D K:List AV) (Q:AV→af→Nat→Prop):ax Tryz.prog opts0 40 bm 206 [.ptr 1 0,I i,.agg (ag t y n D K),.fptr [I 4] 0] [(1,some (.cells (ae o M N L C)))] 15 Q=
  (Q (AV.tuple []) [(ic D K n t y),(1,some (Blk.cells (ae {o with d4:=⟨true,n⟩} M N L C)))] 25):=by kernel_rfl
theorem Qy (o:Ob) (M N L C:AV) (i t y n:Int) (D K:List AV) (Q:AV→af→Nat→Prop):ax Tryz.prog opts0 40 (ap [] [] aH [122] []) 196 [.ptr 1 0,I i,.agg (ag t y n D K),.fptr [bQ 122] 0] [(1,some (.cells (ae o M N L C)))] 15 Q=
  (Q (AV.tuple []) [(ic D K n t y),(1,some (Blk.cells (ae {o with alg:=n} M N L C)))] 28):=by kernel_rfl
theorem Qz (o:Ob) (M N L C:AV) (i t y n:Int) (D K:List AV) (Q:AV→af→Nat→Prop):ax Tryz.prog opts0 40 (ap [] [] aH [123] []) 196 [.ptr 1 0,I i,.agg (ag t y n D K),.fptr [bQ 123] 0] [(1,some (.cells (ae o M N L C)))] 15 Q=
  (Q (AV.tuple []) [(ic D K n t y),(1,some (Blk.cells (ae {o with len:=n} M N L C)))] 28):=by kernel_rfl
theorem QA (o:Ob) (M N L C:AV) (i t y n:Int) (D K:List AV) (Q:AV→af→Nat→Prop):ax Tryz.prog opts0 40 (ap [] [] aH [114] []) 196 [.ptr 1 0,I i,.agg (ag t y n D K),.fptr [bQ 114] 0] [(1,some (.cells (ae o M N L C)))] 15 Q=
  (Q (AV.tuple []) [(ic D K n t y),(1,some (Blk.cells (ae {o with mask:=n} M N L C)))] 28):=by kernel_rfl
def FH (c0 c1 R:List AV):aX:=ap [(1,8,.res (.fptr c0 0)),(1,13,.res (.fptr c1 0))] [] (bg [(213,.fsl false R)]) [] []
theorem QB (o:Ob) (M N L C:AV) (i t y n:Int) (D K R:List AV) (t0 y0 n0 t1 y1 n1:Int) (D0 K0 D1 K1:List AV) (Q:AV→af→Nat→Prop):ax Tryz.prog opts0 40 (FH (ag t0 y0 n0 D0 K0) (ag t1 y1 n1 D1 K1) R) 212 [.ptr 1 0,I i,.agg (ag t y n D K)] [(1,some (.cells (ae o M N L C)))] 15 Q=
  (aC Tryz.prog 24 (AV.fsl false K) (I 0)=some (AV.fptr [I t0,I y0,I n0,AV.fsl false D0,AV.fsl false K0] 0)∧aC Tryz.prog 24 (AV.fsl false K) (I 1)=some (AV.fptr [I t1,I y1,I n1,AV.fsl false D1,AV.fsl false K1] 0)∧au (cW D1).isSome (SC 213 [L,I i,AV.agg [I n0,AV.str (gH D1)]] (AV.fsl false R)∧Q (AV.tuple []) [(ic D K n t y),(1,some (Blk.cells (ae o M N (AV.fsl false R) C)))] 38)):=by kernel_rfl
def FI (c0 c1 c2:List AV):aX:=ap [(1,3,.res (.fptr c0 0)),(1,8,.res (.fptr c1 0)),(1,13,.res (.fptr c2 0))] [] aH [] []
theorem QC (o:Ob) (M N L C:AV) (i t y n:Int) (D K:List AV) (t0 y0 n0 t1 y1 n1 t2 y2 n2:Int) (D0 K0 D1 K1 D2 K2:List AV) (Q:AV→af→Nat→Prop):ax Tryz.prog opts0 40 (FI (ag t0 y0 n0 D0 K0) (ag t1 y1 n1 D1 K1) (ag t2 y2 n2 D2 K2)) 219 [.ptr 1 0,I i,.agg (ag t y n D K)] [(1,some (.cells (ae o M N L C)))] 15 Q=
  (aC Tryz.prog 24 (AV.fsl false K) (I 0)=some (AV.fptr [I t0,I y0,I n0,AV.fsl false D0,AV.fsl false K0] 0)∧aC Tryz.prog 24 (AV.fsl false K) (I 1)=some (AV.fptr [I t1,I y1,I n1,AV.fsl false D1,AV.fsl false K1] 0)∧aC Tryz.prog 24 (AV.fsl false K) (I 2)=some (AV.fptr [I t2,I y2,I n2,AV.fsl false D2,AV.fsl false K2] 0)∧Q (AV.tuple []) [(ic D K n t y),(1,some (Blk.cells (ae {o with lh:=true,lt:=n0,lc:=n1,lu:=n2} M N L C)))] 36):=by kernel_rfl
def uZ (P R:List AV):eP:=fun f _ _ nx=>match Nat.beq f 103 with
 |true=>some (match P with
  |[]=> .part [] .nilsl [] 3
  |_::_=> .part [] (.rsl true nx 0 (aa P) 1) [(nx,some (.cells P))] 3)
 |false=>some (.val (.fsl false R))
theorem QD (o:Ob) (M N L:AV) (i t y n:Int) (_b at' q:Nat) (es D K R:List AV) (s:List UInt8) (Q:AV→af→Nat→Prop):ax Tryz.prog opts0 40 (ap [(2,7,.res (.ptr 27 at')),(2,8,.ld (nI q))] [] (uZ [] R) [] []) 107 [.ptr 1 0,I i,.agg (ag t y n D K),.fptr [.str s] 0] [(1,some (.cells (ae o M N L (.fsl false es))))] 15 Q=
  (cw Tryz.prog opts0.glob 103 [AV.agg (ae o M N L (AV.fsl false es)),AV.str s] [] 29 AV.nilsl [] 32∧aC Tryz.prog 209 (AV.rsl true 27 0 (aa [I (Int.ofNat (aa es))]) 1) (I i)=some (AV.ptr 27 at')∧b8 Tryz.prog 3 (flat [I (Int.ofNat (aa es))]) at'=some (I (Int.ofNat q))∧au (cW D).isSome (SC 108 [AV.fsl false es,I (Int.ofNat q),AV.agg [AV.str s,AV.str (gH D)]] (AV.fsl false R)∧Q (AV.tuple []) [(27,some (Blk.cells (flat [I (Int.ofNat (aa es))]))),(ic D K n t y),(1,some (Blk.cells (ae o M N L (AV.fsl false R))))] 50)):=by kernel_rfl
theorem QE (o:Ob) (M N L:AV) (i t y n:Int) (_b at' q:Nat) (p:AV) (P es D K R:List AV) (s:List UInt8) (Q:AV→af→Nat→Prop):ax Tryz.prog opts0 40 (ap [(2,7,.res (.ptr 27 at')),(2,8,.ld (nI q))] [] (uZ (p::P) R) [] []) 107 [.ptr 1 0,I i,.agg (ag t y n D K),.fptr [.str s] 0] [(1,some (.cells (ae o M N L (.fsl false es))))] 15 Q=
  (cw Tryz.prog opts0.glob 103 [AV.agg (ae o M N L (AV.fsl false es)),AV.str s] [] 29 (AV.rsl true 29 0 (aa (p::P)) 1) [(29,some (Blk.cells (p::P)))] 32∧au (a8 1 [I (Int.ofNat (aa es))]&&(((aa (p::P)+aa [I (Int.ofNat (aa es))])*8).ble 140737488355328&&(bc (flat [I (Int.ofNat (aa es))])&&true))) (au ((aa (p::P)).beq (aa (p::P)*1)) (aC Tryz.prog 209 (AV.rsl true 27 0 (aa (p::P)+aa [I (Int.ofNat (aa es))]) 1) (I i)=some (AV.ptr 27 at')∧b8 Tryz.prog 3 (p::(P++flat [I (Int.ofNat (aa es))])) at'=some (I (Int.ofNat q))∧au (cW D).isSome (SC 108 [AV.fsl false es,I (Int.ofNat q),AV.agg [AV.str s,AV.str (gH D)]] (AV.fsl false R)∧Q (AV.tuple []) [(29,none),(27,some (Blk.cells (p::(P++flat [I (Int.ofNat (aa es))])))),(ic D K n t y),(1,some (Blk.cells (ae o M N L (AV.fsl false R))))] 50)))):=by kernel_rfl
end
structure dO (o:Ob):Prop where
 n:o.names.length≤6
 l:o.links.length≤8
 c:o.cust.length≤6
 m:o.mat.length≤bd
def lC:Kd→Bool
 | .dat k=>Nat.blt k 10
 |_=>true
theorem ig (o:Ob):ac [az o]=true:=zp (bH o)
theorem dj (o:Ob) {c:List AV} (h:ac c=true):ac (az o::c)=true:=by
 have:=bH o
 simp only[ac,az,ah,this,h,Bool.and_self]
theorem QF (o:Ob):SC 117 [az o] (.fsl false (ad (aK o .uid))):=by
 refine bh (A:=ap [] [] aH cb []) base0 ao (aw (LsOk.no rfl)) (ig o) ?_
 simp only[az,am]
 rw[PG]
 refine ⟨by simp[ac,ah], ?_⟩
 simp only[aK,fv,bE,ad,aG]
 (repeat (first|exact Wk.refl _|exact WkL.refl _|exact Wk.nil|exact Wk.row|exact WkE.refl _|exact WkL.nil|exact WkE.nil|apply Wk.agg|apply Wk.tuple|apply WkL.cons|apply Wk.rows|apply WkE.consA))
theorem QG (o:Ob):SC 120 [az o] (.fsl false (ad (aK o .typ))):=by
 refine bh (A:=ap [] [] aH cb []) base0 ao (aw (LsOk.no rfl)) (ig o) ?_
 simp only[az,am]
 rw[PH]
 refine ⟨by simp[ac,ah], ?_⟩
 simp only[aK,a9,bE,ad,aG,ai]
 (repeat (first|exact Wk.refl _|exact WkL.refl _|exact Wk.nil|exact Wk.row|exact WkE.refl _|exact WkL.nil|exact WkE.nil|apply Wk.agg|apply Wk.tuple|apply WkL.cons|apply Wk.rows|apply WkE.consA))
theorem QH (o:Ob):SC 124 [az o] (.fsl false (ad (aK o .sta))):=by
 refine bh (A:=ap [] [] aH cb []) base0 ao (aw (LsOk.no rfl)) (ig o) ?_
 simp only[az,am]
 rw[PI]
 refine ⟨by simp[ac,ah], ?_⟩
 simp only[aK,a9,bE,ad,aG,ai]
 (repeat (first|exact Wk.refl _|exact WkL.refl _|exact Wk.nil|exact Wk.row|exact WkE.refl _|exact WkL.nil|exact WkE.nil|apply Wk.agg|apply Wk.tuple|apply WkL.cons|apply Wk.rows|apply WkE.consA))
theorem QI (o:Ob):SC 193 [az o,.fptr [dX .alg] 0,.fptr [I 1] 0,.fptr [I 5] 0] (.fsl false (ad (aK o .alg))):=by
 refine bh (A:=ap [] [] aH cb o3) base0 ao (aw (LsOk.no rfl)) (dj o rfl) ?_
 simp only[az,am,dX]
 rw[PL]
 refine aj (fun e=> ?_) (fun e=> ?_)
 all_goals
  refine ⟨by simp[ac,ah], ?_⟩
  simp only[aK,cd,a9,bE,ad,aG,ai,e]
  (repeat (first|exact Wk.refl _|exact WkL.refl _|exact Wk.nil|exact Wk.row|exact WkE.refl _|exact WkL.nil|exact WkE.nil|apply Wk.agg|apply Wk.tuple|apply WkL.cons|apply Wk.rows|apply WkE.consA))
theorem QJ (o:Ob):SC 193 [az o,.fptr [dX .len] 0,.fptr [I 1] 0,.fptr [I 2] 0] (.fsl false (ad (aK o .len))):=by
 refine bh (A:=ap [] [] aH cb o3) base0 ao (aw (LsOk.no rfl)) (dj o rfl) ?_
 simp only[az,am,dX]
 rw[PM]
 refine aj (fun e=> ?_) (fun e=> ?_)
 all_goals
  refine ⟨by simp[ac,ah], ?_⟩
  simp only[aK,cd,a9,bE,ad,aG,ai,e]
  (repeat (first|exact Wk.refl _|exact WkL.refl _|exact Wk.nil|exact Wk.row|exact WkE.refl _|exact WkL.nil|exact WkE.nil|apply Wk.agg|apply Wk.tuple|apply WkL.cons|apply Wk.rows|apply WkE.consA))
theorem QK (o:Ob):SC 193 [az o,.fptr [dX .mask] 0,.fptr [I 0] 0,.fptr [I 2] 0] (.fsl false (ad (aK o .mask))):=by
 refine bh (A:=ap [] [] aH cb o3) base0 ao (aw (LsOk.no rfl)) (dj o rfl) ?_
 simp only[az,am,dX]
 rw[PN]
 refine aj (fun e=> ?_) (fun e=> ?_)
 all_goals
  refine ⟨by simp[ac,ah], ?_⟩
  simp only[aK,a9,bE,ad,aG,ai]
  (repeat (first|exact Wk.refl _|exact WkL.refl _|exact Wk.nil|exact Wk.row|exact WkE.refl _|exact WkL.nil|exact WkE.nil|apply Wk.agg|apply Wk.tuple|apply WkL.cons|apply Wk.rows|apply WkE.consA))
theorem QL (o:Ob):SC 204 [az o,.fptr [nI 0] 0] (.fsl false (ad (aK o (.dat 0)))):=by
 refine bh (A:=ap [] [] aH cb []) base0 ao (aw (LsOk.no rfl)) (dj o rfl) ?_
 have h:=PO o (bU o) (bV o) (bW o) (bo o) (eH (.fsl false (ad (aK o (.dat 0)))))
 simp only[az,am]
 rw[show (nI 0:AV)=I 0 from rfl,h]
 refine aj (fun e=> ?_) (fun e=> ?_)
 all_goals
  refine ⟨by simp[ac,ah], ?_⟩
  first|rw[Bool.not_eq_true'] at e|rw[Bool.not_eq_false'] at e
  simp only[aK,cd,ea,a9,bE,ad,aG,ai,e]
  (repeat (first|exact Wk.refl _|exact WkL.refl _|exact Wk.nil|exact Wk.row|exact WkE.refl _|exact WkL.nil|exact WkE.nil|apply Wk.agg|apply Wk.tuple|apply WkL.cons|apply Wk.rows|apply WkE.consA))
theorem QM (o:Ob):SC 204 [az o,.fptr [nI 1] 0] (.fsl false (ad (aK o (.dat 1)))):=by
 refine bh (A:=ap [] [] aH cb []) base0 ao (aw (LsOk.no rfl)) (dj o rfl) ?_
 have h:=PP o (bU o) (bV o) (bW o) (bo o) (eH (.fsl false (ad (aK o (.dat 1)))))
 simp only[az,am]
 rw[show (nI 1:AV)=I 1 from rfl,h]
 refine aj (fun e=> ?_) (fun e=> ?_)
 all_goals
  refine ⟨by simp[ac,ah], ?_⟩
  first|rw[Bool.not_eq_true'] at e|rw[Bool.not_eq_false'] at e
  simp only[aK,cd,ea,a9,bE,ad,aG,ai,e]
  (repeat (first|exact Wk.refl _|exact WkL.refl _|exact Wk.nil|exact Wk.row|exact WkE.refl _|exact WkL.nil|exact WkE.nil|apply Wk.agg|apply Wk.tuple|apply WkL.cons|apply Wk.rows|apply WkE.consA))
theorem QN (o:Ob):SC 204 [az o,.fptr [nI 2] 0] (.fsl false (ad (aK o (.dat 2)))):=by
 refine bh (A:=ap [] [] aH cb []) base0 ao (aw (LsOk.no rfl)) (dj o rfl) ?_
 have h:=PQ o (bU o) (bV o) (bW o) (bo o) (eH (.fsl false (ad (aK o (.dat 2)))))
 simp only[az,am]
 rw[show (nI 2:AV)=I 2 from rfl,h]
 refine aj (fun e=> ?_) (fun e=> ?_)
 all_goals
  refine ⟨by simp[ac,ah], ?_⟩
  first|rw[Bool.not_eq_true'] at e|rw[Bool.not_eq_false'] at e
  simp only[aK,cd,ea,a9,bE,ad,aG,ai,e]
  (repeat (first|exact Wk.refl _|exact WkL.refl _|exact Wk.nil|exact Wk.row|exact WkE.refl _|exact WkL.nil|exact WkE.nil|apply Wk.agg|apply Wk.tuple|apply WkL.cons|apply Wk.rows|apply WkE.consA))
theorem QO (o:Ob):SC 204 [az o,.fptr [nI 3] 0] (.fsl false (ad (aK o (.dat 3)))):=by
 refine bh (A:=ap [] [] aH cb []) base0 ao (aw (LsOk.no rfl)) (dj o rfl) ?_
 have h:=PR o (bU o) (bV o) (bW o) (bo o) (eH (.fsl false (ad (aK o (.dat 3)))))
 simp only[az,am]
 rw[show (nI 3:AV)=I 3 from rfl,h]
 refine aj (fun e=> ?_) (fun e=> ?_)
 all_goals
  refine ⟨by simp[ac,ah], ?_⟩
  first|rw[Bool.not_eq_true'] at e|rw[Bool.not_eq_false'] at e
  simp only[aK,cd,ea,a9,bE,ad,aG,ai,e]
  (repeat (first|exact Wk.refl _|exact WkL.refl _|exact Wk.nil|exact Wk.row|exact WkE.refl _|exact WkL.nil|exact WkE.nil|apply Wk.agg|apply Wk.tuple|apply WkL.cons|apply Wk.rows|apply WkE.consA))
theorem QP (o:Ob):SC 204 [az o,.fptr [nI 4] 0] (.fsl false (ad (aK o (.dat 4)))):=by
 refine bh (A:=ap [] [] aH cb []) base0 ao (aw (LsOk.no rfl)) (dj o rfl) ?_
 have h:=PS o (bU o) (bV o) (bW o) (bo o) (eH (.fsl false (ad (aK o (.dat 4)))))
 simp only[az,am]
 rw[show (nI 4:AV)=I 4 from rfl,h]
 refine aj (fun e=> ?_) (fun e=> ?_)
 all_goals
  refine ⟨by simp[ac,ah], ?_⟩
  first|rw[Bool.not_eq_true'] at e|rw[Bool.not_eq_false'] at e
  simp only[aK,cd,ea,a9,bE,ad,aG,ai,e]
  (repeat (first|exact Wk.refl _|exact WkL.refl _|exact Wk.nil|exact Wk.row|exact WkE.refl _|exact WkL.nil|exact WkE.nil|apply Wk.agg|apply Wk.tuple|apply WkL.cons|apply Wk.rows|apply WkE.consA))
theorem QQ (o:Ob):SC 204 [az o,.fptr [nI 5] 0] (.fsl false (ad (aK o (.dat 5)))):=by
 refine bh (A:=ap [] [] aH cb []) base0 ao (aw (LsOk.no rfl)) (dj o rfl) ?_
 have h:=PT o (bU o) (bV o) (bW o) (bo o) (eH (.fsl false (ad (aK o (.dat 5)))))
 simp only[az,am]
 rw[show (nI 5:AV)=I 5 from rfl,h]
 refine aj (fun e=> ?_) (fun e=> ?_)
 all_goals
  refine ⟨by simp[ac,ah], ?_⟩
  first|rw[Bool.not_eq_true'] at e|rw[Bool.not_eq_false'] at e
  simp only[aK,cd,ea,a9,bE,ad,aG,ai,e]
  (repeat (first|exact Wk.refl _|exact WkL.refl _|exact Wk.nil|exact Wk.row|exact WkE.refl _|exact WkL.nil|exact WkE.nil|apply Wk.agg|apply Wk.tuple|apply WkL.cons|apply Wk.rows|apply WkE.consA))
theorem QR (o:Ob):SC 204 [az o,.fptr [nI 6] 0] (.fsl false (ad (aK o (.dat 6)))):=by
 refine bh (A:=ap [] [] aH cb []) base0 ao (aw (LsOk.no rfl)) (dj o rfl) ?_
 have h:=PU o (bU o) (bV o) (bW o) (bo o) (eH (.fsl false (ad (aK o (.dat 6)))))
 simp only[az,am]
 rw[show (nI 6:AV)=I 6 from rfl,h]
 refine aj (fun e=> ?_) (fun e=> ?_)
 all_goals
  refine ⟨by simp[ac,ah], ?_⟩
  first|rw[Bool.not_eq_true'] at e|rw[Bool.not_eq_false'] at e
  simp only[aK,cd,ea,a9,bE,ad,aG,ai,e]
  (repeat (first|exact Wk.refl _|exact WkL.refl _|exact Wk.nil|exact Wk.row|exact WkE.refl _|exact WkL.nil|exact WkE.nil|apply Wk.agg|apply Wk.tuple|apply WkL.cons|apply Wk.rows|apply WkE.consA))
theorem QS (o:Ob):SC 204 [az o,.fptr [nI 7] 0] (.fsl false (ad (aK o (.dat 7)))):=by
 refine bh (A:=ap [] [] aH cb []) base0 ao (aw (LsOk.no rfl)) (dj o rfl) ?_
 have h:=PV o (bU o) (bV o) (bW o) (bo o) (eH (.fsl false (ad (aK o (.dat 7)))))
 simp only[az,am]
 rw[show (nI 7:AV)=I 7 from rfl,h]
 refine aj (fun e=> ?_) (fun e=> ?_)
 all_goals
  refine ⟨by simp[ac,ah], ?_⟩
  first|rw[Bool.not_eq_true'] at e|rw[Bool.not_eq_false'] at e
  simp only[aK,cd,ea,a9,bE,ad,aG,ai,e]
  (repeat (first|exact Wk.refl _|exact WkL.refl _|exact Wk.nil|exact Wk.row|exact WkE.refl _|exact WkL.nil|exact WkE.nil|apply Wk.agg|apply Wk.tuple|apply WkL.cons|apply Wk.rows|apply WkE.consA))
theorem QT (o:Ob):SC 204 [az o,.fptr [nI 8] 0] (.fsl false (ad (aK o (.dat 8)))):=by
 refine bh (A:=ap [] [] aH cb []) base0 ao (aw (LsOk.no rfl)) (dj o rfl) ?_
 have h:=PW o (bU o) (bV o) (bW o) (bo o) (eH (.fsl false (ad (aK o (.dat 8)))))
 simp only[az,am]
 rw[show (nI 8:AV)=I 8 from rfl,h]
 refine aj (fun e=> ?_) (fun e=> ?_)
 all_goals
  refine ⟨by simp[ac,ah], ?_⟩
  first|rw[Bool.not_eq_true'] at e|rw[Bool.not_eq_false'] at e
  simp only[aK,cd,ea,a9,bE,ad,aG,ai,e]
  (repeat (first|exact Wk.refl _|exact WkL.refl _|exact Wk.nil|exact Wk.row|exact WkE.refl _|exact WkL.nil|exact WkE.nil|apply Wk.agg|apply Wk.tuple|apply WkL.cons|apply Wk.rows|apply WkE.consA))
theorem QU (o:Ob):SC 204 [az o,.fptr [nI 9] 0] (.fsl false (ad (aK o (.dat 9)))):=by
 refine bh (A:=ap [] [] aH cb []) base0 ao (aw (LsOk.no rfl)) (dj o rfl) ?_
 have h:=PX o (bU o) (bV o) (bW o) (bo o) (eH (.fsl false (ad (aK o (.dat 9)))))
 simp only[az,am]
 rw[show (nI 9:AV)=I 9 from rfl,h]
 refine aj (fun e=> ?_) (fun e=> ?_)
 all_goals
  refine ⟨by simp[ac,ah], ?_⟩
  first|rw[Bool.not_eq_true'] at e|rw[Bool.not_eq_false'] at e
  simp only[aK,cd,ea,a9,bE,ad,aG,ai,e]
  (repeat (first|exact Wk.refl _|exact WkL.refl _|exact Wk.nil|exact Wk.row|exact WkE.refl _|exact WkL.nil|exact WkE.nil|apply Wk.agg|apply Wk.tuple|apply WkL.cons|apply Wk.rows|apply WkE.consA))
theorem QV (o:Ob):SC 216 [az o] (.fsl false (ad (aK o .lim))):=by
 refine bh (A:=ap [] [] aH cb []) base0 ao (aw (LsOk.no rfl)) (ig o) ?_
 simp only[az,am]
 rw[PJ]
 refine aj (fun e=> ?_) (fun e=> ?_)
 all_goals
  refine ⟨by simp[ac,ah], ?_⟩
  first|rw[Bool.not_eq_true'] at e|rw[Bool.not_eq_false'] at e
  simp only[aK,cd,rI,fS,eT,bE,ad,aG,ai,e]
  (repeat (first|exact Wk.refl _|exact WkL.refl _|exact Wk.nil|exact Wk.row|exact WkE.refl _|exact WkL.nil|exact WkE.nil|apply Wk.agg|apply Wk.tuple|apply WkL.cons|apply Wk.rows|apply WkE.consA))
theorem QW (o:Ob):SC 127 [az o] (.fsl false (ad (aK o .why))):=by
 refine dp (A:=ap [] [] aH cb []) base0 ao (aw (LsOk.no rfl)) (ig o) ?_
 simp only[az,am]
 rw[PK]
 refine aj (fun e=>aj (fun e2=> ?_) (fun e2=> ?_)) (fun e=>aj (fun e2=> ?_) (fun e2=> ?_))
 ·refine ⟨.nilsl,⟨1,rfl⟩,rfl, ?_⟩
  rw[Bool.not_eq_true'] at e2
  simp only[aK,cd,e2,ad]
  exact .nil
 ·rw[Bool.not_eq_false'] at e2
  have hm:o2 o.msg=[.mk 4325504 7 0 o.msg []]:=by
   cases hm:o.msg with
   |nil=>rw[hm] at e;cases e
   |cons a r=>rfl
  refine ⟨.fsl true [.agg [I 4325387,I 1,I 0,.nilsl,.fsl false [.agg [I 4325506,I 5,I o.why,.nilsl,.nilsl],.agg [I 4325504,I 7,I 0,.fsl false (ai o.msg),.nilsl]]]],Frz.out (Frz.fsl (FrzL.cons (Frz.agg (FrzL.cons (Frz.closed _ rfl) (FrzL.cons (Frz.closed _ rfl) (FrzL.cons (Frz.closed _ rfl) (FrzL.cons (Frz.closed _ rfl) (FrzL.cons (Frz.row (es:=[.agg [I 4325506,I 5,I o.why,.nilsl,.nilsl],.agg [I 4325504,I 7,I 0,.fsl false (ai o.msg),.nilsl]]) rfl rfl rfl rfl ?_ ?_) FrzL.nil)))))) FrzL.nil)), ?_, ?_⟩
  ·simp only[List.forall_mem_cons];exact ⟨⟨rfl,rfl⟩,⟨rfl,rfl⟩,fun _ h=>by cases h⟩
  ·simp[ac,ah]
  ·simp[ac,ah]
  ·simp only[aK,cd,e2,rH,hm,fS,eT,bE,ad,aG,ai]
   (repeat (first|exact Wk.refl _|exact WkL.refl _|exact Wk.nil|exact Wk.row|exact WkE.refl _|exact WkL.nil|exact WkE.nil|apply Wk.agg|apply Wk.tuple|apply WkL.cons|apply Wk.rows|apply WkE.consA))
 ·refine ⟨.nilsl,⟨1,rfl⟩,rfl, ?_⟩
  rw[Bool.not_eq_true'] at e2
  simp only[aK,cd,e2,ad]
  exact .nil
 ·rw[Bool.not_eq_false'] at e2
  have hm:o2 o.msg=[]:=by
   cases hm:o.msg with
   |nil=>rfl
   |cons a r=>rw[hm] at e;cases e
  refine ⟨_,Frz.out (Frz.closed _ ?_), ?_, ?_⟩
  ·simp[ac,ah]
  ·simp[ac,ah]
  ·simp only[aK,cd,e2,rH,hm,fS,eT,bE,ad,aG,ai]
   (repeat (first|exact Wk.refl _|exact WkL.refl _|exact Wk.nil|exact Wk.row|exact WkE.refl _|exact WkL.nil|exact WkE.nil|apply Wk.agg|apply Wk.tuple|apply WkL.cons|apply Wk.rows|apply WkE.consA))
theorem FJ {k:Kd} (hk:lC k=true) {o:Ob} (ho:dO o):SC (uR k) (az o::uS k) (.fsl false (ad (aK o k))):=by
 cases k with
 |uid=>exact QF o
 |nam=>exact PY o (m5 o) (oQ o) (m6 o) o.names ho.n
 |typ=>exact QG o
 |alg=>exact QI o
 |len=>exact QJ o
 |mask=>exact QK o
 |sta=>exact QH o
 |why=>exact QW o
 |lnk=>exact P1 o (m5 o) (oP o) (m6 o) o.links ho.l
 |lim=>exact QV o
 |cus s=>exact Qs o s (by have:=ho.c;show _≤1099511627776;omega)
 |dat k=>
  match k,hk with
  |0,_=>exact QL o
  |1,_=>exact QM o
  |2,_=>exact QN o
  |3,_=>exact QO o
  |4,_=>exact QP o
  |5,_=>exact QQ o
  |6,_=>exact QR o
  |7,_=>exact QS o
  |8,_=>exact QT o
  |9,_=>exact QU o
  |k+10,hk=>exact absurd (blt_iff.1 hk) (by omega)
def ij (o:Ob) (s:List UInt8) (i:Nat):Nat:=((b6 s o.cust 0++[o.cust.length])[i]?).getD 0
def ng (v:It) (i:Nat):It:=((aV v)[i]?).getD v
def cn (o:Ob) (i:Nat) (v:It):Kd→Ob
 | .nam=>{o with names:=dA o.names i (dr v)}
 | .alg=>{o with alg:=cG v}
 | .len=>{o with len:=cG v}
 | .mask=>{o with mask:=cG v}
 | .dat k=>uQ o ⟨true,cG v⟩ k
 | .lnk=>{o with links:=dA o.links i ⟨cG (ng v 0),dr (ng v 1)⟩}
 | .lim=>{o with lh:=true,lt:=cG (ng v 0),lc:=cG (ng v 1),lu:=cG (ng v 2)}
 | .cus s=>{o with cust:=dA o.cust (ij o s i) ⟨s,dr v⟩}
 |_=>o
def nh (o:Ob) (j:Nat):Kd→Prop
 | .nam=>j≤o.names.length∧j<6
 | .lnk=>j≤o.links.length∧j<8
 | .cus s=>j<(b6 s o.cust 0).length∨j=(b6 s o.cust 0).length∧o.cust.length<6
 |_=>True
def zD:Kd→Nat
 | .nam=>200
 | .dat _=>206
 | .lnk=>212
 | .lim=>219
 | .cus _=>107
 |_=>196
def zE:Kd→List AV
 | .dat k=>[.fptr [nI k] 0]
 | .cus s=>[.fptr [.str s] 0]
 | .alg=>[.fptr [dX .alg] 0]
 | .len=>[.fptr [dX .len] 0]
 | .mask=>[.fptr [dX .mask] 0]
 |_=>[]
theorem QX {k:Kd} (h:o5 k=true):j7 k=dh (zD k) (zE k):=by cases k<;>first|rfl|cases h
theorem il {k b nx2 m:Nat} {h:af} {O O':List AV} (hb:Nat.blt b k=true) (hm:Nat.ble m nx2=true) (hg:hget h b=some (.cells O)) (e:O=O') (hc:ac O'=true):t9 k (.tuple []) [(b,some (.cells O'))] nx2 (.tuple []) h m:=by
 subst e
 exact ⟨hm,⟨.tuple [],Frz.closed _ rfl,.refl _⟩,⟨hb,.cells O,.cells O,hg,FrzL.closed _ hc,.refl _⟩,trivial⟩
abbrev gO (f:Nat) (c:List AV) (o:Ob) (j:Nat) (v:It) (o':Ob):Prop:=cw Tryz.prog opts0.glob f (.ptr 1 0::nI j::aG v::c) [(1,some (.cells (am o)))] 15 (.tuple []) [(1,some (.cells (am o')))] 115
theorem QY {o:Ob} (ho:dO o) {j:Nat} (h1:j≤o.names.length) (h2:j<6) (v:It):gO 200 [] o j v (cn o j v .nam):=by
 have hp:=Pd o.names j (dr v) h1 ho.n h2
 obtain ⟨t,y,n,d,ks⟩:=v
 refine fh (k:=2) (A:=ap [] [] (bg [(201,.fsl false ((dA o.names j d).map .str))]) [] []) base0 ao (aw (LsOk.no rfl)) ?_
 rw[aU]
 simp only[am,nI]
 rw[Qt]
 refine aF (by simp) ⟨by rw[mX];exact hp, ?_⟩
 exact il rfl rfl rfl rfl (bH _)
theorem QZ (o:Ob) (j:Nat) (v:It):gO 206 [.fptr [nI 1] 0] o j v (cn o j v (.dat 1)):=by
 obtain ⟨t,y,n,d,ks⟩:=v
 refine fh (k:=2) (A:=bm) base0 cD (aw (LsOk.no rfl)) ?_
 rw[aU,show (nI 1:AV)=I 1 from rfl]
 simp only[am,nI]
 rw[Qu]
 exact il rfl rfl rfl rfl (bH _)
theorem Q0 (o:Ob) (j:Nat) (v:It):gO 206 [.fptr [nI 2] 0] o j v (cn o j v (.dat 2)):=by
 obtain ⟨t,y,n,d,ks⟩:=v
 refine fh (k:=2) (A:=bm) base0 cD (aw (LsOk.no rfl)) ?_
 rw[aU,show (nI 2:AV)=I 2 from rfl]
 simp only[am,nI]
 rw[Qv]
 exact il rfl rfl rfl rfl (bH _)
theorem Q1 (o:Ob) (j:Nat) (v:It):gO 206 [.fptr [nI 3] 0] o j v (cn o j v (.dat 3)):=by
 obtain ⟨t,y,n,d,ks⟩:=v
 refine fh (k:=2) (A:=bm) base0 cD (aw (LsOk.no rfl)) ?_
 rw[aU,show (nI 3:AV)=I 3 from rfl]
 simp only[am,nI]
 rw[Qw]
 exact il rfl rfl rfl rfl (bH _)
theorem Q2 (o:Ob) (j:Nat) (v:It):gO 206 [.fptr [nI 4] 0] o j v (cn o j v (.dat 4)):=by
 obtain ⟨t,y,n,d,ks⟩:=v
 refine fh (k:=2) (A:=bm) base0 cD (aw (LsOk.no rfl)) ?_
 rw[aU,show (nI 4:AV)=I 4 from rfl]
 simp only[am,nI]
 rw[Qx]
 exact il rfl rfl rfl rfl (bH _)
theorem Q3 (o:Ob) (j:Nat) (v:It):gO 196 [.fptr [dX .alg] 0] o j v (cn o j v .alg):=by
 obtain ⟨t,y,n,d,ks⟩:=v
 refine fh (k:=2) (A:=ap [] [] aH [122] []) base0 ao (aw (LsOk.no rfl)) ?_
 rw[aU]
 simp only[am,nI,dX]
 rw[Qy]
 exact il rfl rfl rfl rfl (bH _)
theorem Q4 (o:Ob) (j:Nat) (v:It):gO 196 [.fptr [dX .len] 0] o j v (cn o j v .len):=by
 obtain ⟨t,y,n,d,ks⟩:=v
 refine fh (k:=2) (A:=ap [] [] aH [123] []) base0 ao (aw (LsOk.no rfl)) ?_
 rw[aU]
 simp only[am,nI,dX]
 rw[Qz]
 exact il rfl rfl rfl rfl (bH _)
theorem Q5 (o:Ob) (j:Nat) (v:It):gO 196 [.fptr [dX .mask] 0] o j v (cn o j v .mask):=by
 obtain ⟨t,y,n,d,ks⟩:=v
 refine fh (k:=2) (A:=ap [] [] aH [114] []) base0 ao (aw (LsOk.no rfl)) ?_
 rw[aU]
 simp only[am,nI,dX]
 rw[QA]
 exact il rfl rfl rfl rfl (bH _)
theorem Q6 {o:Ob} (ho:dO o) {j:Nat} (h1:j≤o.links.length) (h2:j<8) {v:It} (hv:ib (aV v)=true):gO 212 [] o j v (cn o j v .lnk):=by
 obtain ⟨t,y,n,d,ks⟩:=v
 match ks,hv with
 |[⟨t0,y0,n0,d0,k0⟩,⟨t1,y1,n1,d1,k1⟩],_=>
  have hp:=Pe o.links j ⟨n0,d1⟩ h1 ho.l h2
  refine fh (k:=2) (A:=FH (ag t0 y0 n0 (ai d0) (ad k0)) (ag t1 y1 n1 (ai d1) (ad k1)) ((dA o.links j ⟨n0,d1⟩).map bi)) base0 ao (aw (LsOk.no rfl)) ?_
  rw[aU]
  simp only[am,nI]
  rw[QB]
  refine ⟨bB (i:=0) rfl,bB (i:=1) rfl,aF (by simp) ⟨by rw[mX];exact hp, ?_⟩⟩
  exact il rfl rfl rfl rfl (bH _)
theorem Q7 (o:Ob) (j:Nat) {v:It} (hv:di (aV v)=true):gO 219 [] o j v (cn o j v .lim):=by
 obtain ⟨t,y,n,d,ks⟩:=v
 match ks,hv with
 |[⟨t0,y0,n0,d0,k0⟩,⟨t1,y1,n1,d1,k1⟩,⟨t2,y2,n2,d2,k2⟩],_=>
  refine fh (k:=2) (A:=FI (ag t0 y0 n0 (ai d0) (ad k0)) (ag t1 y1 n1 (ai d1) (ad k1)) (ag t2 y2 n2 (ai d2) (ad k2))) base0 ao (aw (LsOk.no rfl)) ?_
  rw[aU]
  simp only[am,nI]
  rw[QC]
  refine ⟨bB (i:=0) rfl,bB (i:=1) rfl,bB (i:=2) rfl, ?_⟩
  exact il rfl rfl rfl rfl (bH _)
theorem Q8:fe Tryz.prog 3=some false:=by kernel_rfl
theorem FK {l:List Nat} {j q:Nat} (h:l[j]? =some q):b8 Tryz.prog 3 (l.map nI) j=some (nI q):=by
 simp only[b8,Q8,fJ,List.getElem?_map,h,Option.map_some]
theorem FL {own:Bool} {id len j:Nat} (h:j<len):aC Tryz.prog 209 (.rsl own id 0 len 1) (.int .i64 (.ofNat j))=some (.ptr id j):=by
 have h1:Tryz.prog.underlying 209=some (.slice 3):=by kernel_rfl
 have h2:bR Tryz.prog 3=some 1:=by kernel_rfl
 simp only[aC,fB,h1,h2,Option.bind_eq_bind,Option.bind_some,blt_iff.2 h,Bool.true_and,Nat.zero_add,Nat.mul_one]
 rfl
theorem FM {o:Ob} {s:List UInt8} {j:Nat} (h:j≤(b6 s o.cust 0).length):(b6 s o.cust 0++[o.cust.length])[j]? =some (ij o s j)∧ij o s j≤o.cust.length∧(j<(b6 s o.cust 0).length→ij o s j<o.cust.length):=by
 have hj:j<(b6 s o.cust 0++[o.cust.length]).length:=by simp;omega
 have e:=List.getElem?_eq_getElem hj
 have e2:(b6 s o.cust 0++[o.cust.length])[j]? =some (ij o s j):=by rw[e,ij,e];rfl
 refine ⟨e2, ?_,fun hlt=> ?_⟩
 ·have hm:=List.mem_of_getElem? e2
  rcases List.mem_append.1 hm with hm|hm
  ·have:=uE s o.cust 0 _ hm;omega
  ·simp at hm;omega
 ·rw[List.getElem?_append_left hlt] at e2
  have:=uE s o.cust 0 _ (List.mem_of_getElem? e2)
  omega
set_option maxRecDepth 20000 in
theorem Q9 {o:Ob} (ho:dO o) {j:Nat} {s:List UInt8} (hj:nh o j (.cus s)) (v:It):gO 107 [.fptr [.str s] 0] o j v (cn o j v (.cus s)):=by
 have hb:o.cust.length≤bd:=by have:=ho.c;show _≤1099511627776;omega
 have hpl:=Py o (M:=bU o) (N:=bV o) (L:=bW o) s 29 (m5 o) (oP o) (oQ o) hb
 have hln:=uC s o.cust 0
 have hj':j≤(b6 s o.cust 0).length:=by rcases hj with h|h<;>omega
 obtain ⟨e1,e2,e3⟩:=FM hj'
 have hq:ij o s j<6:=by
  have:=ho.c
  rcases hj with h|h
  ·have:=e3 h;omega
  ·omega
 have hput:=Pf o.cust (ij o s j) ⟨s,dr v⟩ e2 ho.c hq
 obtain ⟨t,y,n,d,ks⟩:=v
 have hlen:aa (o.cust.map aQ)=o.cust.length:=by rw[aE,List.length_map]
 simp only[cn]
 revert hpl e1 hln hput hj'
 generalize ij o s j=q
 cases b6 s o.cust 0 with
 |nil=>
  intro hpl hln hj' e1 hput
  obtain rfl:j=0:=by simpa using hj'
  refine fh (k:=2) (A:=ap [(2,7,.res (.ptr 27 0)),(2,8,.ld (nI q))] [] (uZ [] ((dA o.cust q ⟨s,d⟩).map aQ)) [] []) base0 ao (aw (LsOk.no rfl)) ?_
  rw[aU,show (nI 0:AV)=I (.ofNat 0) from rfl]
  simp only[am,bo]
  rw[QD (_b:=0)]
  rw[hlen]
  refine ⟨hpl,FL (by simp[aa]),FK (l:=[o.cust.length]) e1,aF (by simp) ⟨by rw[mX];exact hput, ?_⟩⟩
  exact il rfl rfl rfl rfl (bH _)
 | cons p r=>
  intro hpl hln hj' e1 hput
  refine fh (k:=2) (A:=ap [(2,7,.res (.ptr 27 j)),(2,8,.ld (nI q))] [] (uZ ((p::r).map nI) ((dA o.cust q ⟨s,d⟩).map aQ)) [] []) base0 ao (aw (LsOk.no rfl)) ?_
  rw[aU,show (nI j:AV)=I (.ofNat j) from rfl,List.map_cons]
  simp only[am,bo]
  rw[QE (_b:=0),hlen]
  have hl2:aa (nI p::r.map nI)=r.length+1:=by rw[aE];simp
  have hc6:=ho.c
  simp only[List.length_cons] at hln hj'
  refine ⟨?_,aF ?_ (aF (by rw[Nat.mul_one];exact beq_iff.2 rfl) ⟨?_, ?_,aF (by simp) ⟨by rw[mX];exact hput, ?_⟩⟩)⟩
  ·rw[hl2];exact hpl
  ·rw[hl2]
   have:(r.length+1+1)*8≤140737488355328:=by omega
   simp only[Bool.and_eq_true,Nat.ble_eq]
   exact ⟨rfl,this,rfl,trivial⟩
  ·refine FL ?_
   rw[hl2]
   show j<r.length+1+1
   omega
  ·have:=FK (l:=p::r++[o.cust.length]) e1
   simpa [nI,flat,AV.cells] using this
  ·exact il rfl rfl rfl rfl (bH _)
theorem Ra {k:Kd} (hk:dg k=true) {o:Ob} (ho:dO o) {j:Nat} (hj:nh o j k) {v:It} (hv:gn o v k=true):gO (zD k) (zE k) o j v (cn o j v k):=by
 cases k with
 |nam=>exact QY ho hj.1 hj.2 v
 |alg=>exact Q3 o j v
 |len=>exact Q4 o j v
 |mask=>exact Q5 o j v
 |lnk=>
  simp only[gn,Bool.and_eq_true] at hv
  exact Q6 ho hj.1 hj.2 hv.2
 |lim=>
  simp only[gn,Bool.and_eq_true] at hv
  exact Q7 o j hv.2.1
 |cus s=>exact Q9 ho hj v
 | dat k=>
  match k,hk with
  |1,_=>exact QZ o j v
  |2,_=>exact Q0 o j v
  |3,_=>exact Q1 o j v
  |4,_=>exact Q2 o j v
  |k+5,hk=>
   simp only[dg,lq,Bool.and_eq_true,Nat.ble_eq] at hk
   omega
 |_=>cases hk
theorem FN (o:Ob) (s:List UInt8):(aK o (.cus s)).length=(b6 s o.cust 0).length:=by
 have h:=zC s o.cust []
 simp only[List.length_nil,List.nil_append] at h
 have h:=congrArg List.length h
 simp only[List.length_map] at h
 simp only[aK,List.length_map,h]
theorem Rb (o:Ob):SC 197 [az o] (.bool (Nat.blt o.names.length 6)):=by
 refine bN (A:=bm) base0 cD (aw (LsOk.no rfl)) (ig o) rfl ?_
 simp only[az,am,bV,bW,bo]
 rw[P9]
 rw[aE,List.length_map]
 refine congrArg AV.bool ?_
 rw[Bool.eq_iff_iff,ltInt_iff,blt_iff]
 simp only[Int.ofNat_eq_natCast]
 omega
theorem Rc (o:Ob):SC 209 [az o] (.bool (Nat.blt o.links.length 8)):=by
 refine bN (A:=bm) base0 cD (aw (LsOk.no rfl)) (ig o) rfl ?_
 simp only[az,am,bV,bW,bo]
 rw[Qa]
 rw[aE,List.length_map]
 refine congrArg AV.bool ?_
 rw[Bool.eq_iff_iff,ltInt_iff,blt_iff]
 simp only[Int.ofNat_eq_natCast]
 omega
theorem Rd (o:Ob):SC 101 [az o] (.bool (Nat.blt o.cust.length 6)):=by
 refine bN (A:=bm) base0 cD (aw (LsOk.no rfl)) (ig o) rfl ?_
 simp only[az,am,bV,bW,bo]
 rw[Qb]
 rw[aE,List.length_map]
 refine congrArg AV.bool ?_
 rw[Bool.eq_iff_iff,ltInt_iff,blt_iff]
 simp only[Int.ofNat_eq_natCast]
 omega
end Go.Proofs.YtmnlofhodbnenaaGreatDoor
namespace Go.Proofs.YtmnlofhodbnenaaGreatDoor
set_option maxRecDepth 20000
open Go Go.RowKit
open Go.Proofs.Abs
noncomputable section
abbrev bw (Q:AV→Prop) (o:Ob):=(Q (AV.bool !aq o.d3.2 o.d2.2))
theorem Re (o:Ob) (M N L C:AV) (Q:AV→Prop):ax Tryz.prog opts0 40 (ap [] [] aH [] [223]) 131 [.agg (ae o M N L C)] [] 0 (fun v _ _=>Q v)=
  (ab (!o.d1.1) (ab (!o.d1.1) (ab (!o.d3.1) (ab (!o.d2.1) (Q (AV.bool true)) (ab (!o.d3.1) (Q (AV.bool true)) (bw Q o))) (ab (!o.d4.1) (ab (!o.d2.1) (Q (AV.bool true)) (ab (!o.d3.1) (Q (AV.bool true)) (bw Q o))) (ab (!aq o.d4.2 o.d3.2) (ab (!o.d2.1) (Q (AV.bool true)) (ab (!o.d3.1) (Q (AV.bool true)) (bw Q o))) (Q (AV.bool false))))) (ab (!o.d2.1) (ab (!o.d3.1) (ab (!o.d2.1) (Q (AV.bool true)) (ab (!o.d3.1) (Q (AV.bool true)) (bw Q o))) (ab (!o.d4.1) (ab (!o.d2.1) (Q (AV.bool true)) (ab (!o.d3.1) (Q (AV.bool true)) (bw Q o))) (ab (!aq o.d4.2 o.d3.2) (ab (!o.d2.1) (Q (AV.bool true)) (ab (!o.d3.1) (Q (AV.bool true)) (bw Q o))) (Q (AV.bool false))))) (ab (!aq o.d2.2 o.d1.2) (ab (!o.d3.1) (ab (!o.d2.1) (Q (AV.bool true)) (ab (!o.d3.1) (Q (AV.bool true)) (bw Q o))) (ab (!o.d4.1) (ab (!o.d2.1) (Q (AV.bool true)) (ab (!o.d3.1) (Q (AV.bool true)) (bw Q o))) (ab (!aq o.d4.2 o.d3.2) (ab (!o.d2.1) (Q (AV.bool true)) (ab (!o.d3.1) (Q (AV.bool true)) (bw Q o))) (Q (AV.bool false))))) (Q (AV.bool false))))) (ab (!o.d4.1) (ab (!o.d1.1) (ab (!o.d3.1) (ab (!o.d2.1) (Q (AV.bool true)) (ab (!o.d3.1) (Q (AV.bool true)) (bw Q o))) (ab (!o.d4.1) (ab (!o.d2.1) (Q (AV.bool true)) (ab (!o.d3.1) (Q (AV.bool true)) (bw Q o))) (ab (!aq o.d4.2 o.d3.2) (ab (!o.d2.1) (Q (AV.bool true)) (ab (!o.d3.1) (Q (AV.bool true)) (bw Q o))) (Q (AV.bool false))))) (ab (!o.d2.1) (ab (!o.d3.1) (ab (!o.d2.1) (Q (AV.bool true)) (ab (!o.d3.1) (Q (AV.bool true)) (bw Q o))) (ab (!o.d4.1) (ab (!o.d2.1) (Q (AV.bool true)) (ab (!o.d3.1) (Q (AV.bool true)) (bw Q o))) (ab (!aq o.d4.2 o.d3.2) (ab (!o.d2.1) (Q (AV.bool true)) (ab (!o.d3.1) (Q (AV.bool true)) (bw Q o))) (Q (AV.bool false))))) (ab (!aq o.d2.2 o.d1.2) (ab (!o.d3.1) (ab (!o.d2.1) (Q (AV.bool true)) (ab (!o.d3.1) (Q (AV.bool true)) (bw Q o))) (ab (!o.d4.1) (ab (!o.d2.1) (Q (AV.bool true)) (ab (!o.d3.1) (Q (AV.bool true)) (bw Q o))) (ab (!aq o.d4.2 o.d3.2) (ab (!o.d2.1) (Q (AV.bool true)) (ab (!o.d3.1) (Q (AV.bool true)) (bw Q o))) (Q (AV.bool false))))) (Q (AV.bool false))))) (ab (!aq o.d4.2 o.d1.2) (ab (!o.d1.1) (ab (!o.d3.1) (ab (!o.d2.1) (Q (AV.bool true)) (ab (!o.d3.1) (Q (AV.bool true)) (bw Q o))) (ab (!o.d4.1) (ab (!o.d2.1) (Q (AV.bool true)) (ab (!o.d3.1) (Q (AV.bool true)) (bw Q o))) (ab (!aq o.d4.2 o.d3.2) (ab (!o.d2.1) (Q (AV.bool true)) (ab (!o.d3.1) (Q (AV.bool true)) (bw Q o))) (Q (AV.bool false))))) (ab (!o.d2.1) (ab (!o.d3.1) (ab (!o.d2.1) (Q (AV.bool true)) (ab (!o.d3.1) (Q (AV.bool true)) (bw Q o))) (ab (!o.d4.1) (ab (!o.d2.1) (Q (AV.bool true)) (ab (!o.d3.1) (Q (AV.bool true)) (bw Q o))) (ab (!aq o.d4.2 o.d3.2) (ab (!o.d2.1) (Q (AV.bool true)) (ab (!o.d3.1) (Q (AV.bool true)) (bw Q o))) (Q (AV.bool false))))) (ab (!aq o.d2.2 o.d1.2) (ab (!o.d3.1) (ab (!o.d2.1) (Q (AV.bool true)) (ab (!o.d3.1) (Q (AV.bool true)) (bw Q o))) (ab (!o.d4.1) (ab (!o.d2.1) (Q (AV.bool true)) (ab (!o.d3.1) (Q (AV.bool true)) (bw Q o))) (ab (!aq o.d4.2 o.d3.2) (ab (!o.d2.1) (Q (AV.bool true)) (ab (!o.d3.1) (Q (AV.bool true)) (bw Q o))) (Q (AV.bool false))))) (Q (AV.bool false))))) (Q (AV.bool false))))):=by kernel_rfl
theorem Rf (o:Ob) (M N L C:AV) (Q:AV→Prop):ax Tryz.prog opts0 40 (ap [] [] aH [135] []) 70 [.agg (ae o M N L C)] [] 0 (fun v _ _=>Q v)=
  (ab (!o.d1.1) (ab (!o.d1.1) (ab (!o.d3.1) (ab (!o.d2.1) (Q (AV.bool true)) (ab (!o.d3.1) (Q (AV.bool true)) (bw Q o))) (ab (!o.d4.1) (ab (!o.d2.1) (Q (AV.bool true)) (ab (!o.d3.1) (Q (AV.bool true)) (bw Q o))) (ab (!aq o.d4.2 o.d3.2) (ab (!o.d2.1) (Q (AV.bool true)) (ab (!o.d3.1) (Q (AV.bool true)) (bw Q o))) (Q (AV.bool false))))) (ab (!o.d2.1) (ab (!o.d3.1) (ab (!o.d2.1) (Q (AV.bool true)) (ab (!o.d3.1) (Q (AV.bool true)) (bw Q o))) (ab (!o.d4.1) (ab (!o.d2.1) (Q (AV.bool true)) (ab (!o.d3.1) (Q (AV.bool true)) (bw Q o))) (ab (!aq o.d4.2 o.d3.2) (ab (!o.d2.1) (Q (AV.bool true)) (ab (!o.d3.1) (Q (AV.bool true)) (bw Q o))) (Q (AV.bool false))))) (ab (!aq o.d2.2 o.d1.2) (ab (!o.d3.1) (ab (!o.d2.1) (Q (AV.bool true)) (ab (!o.d3.1) (Q (AV.bool true)) (bw Q o))) (ab (!o.d4.1) (ab (!o.d2.1) (Q (AV.bool true)) (ab (!o.d3.1) (Q (AV.bool true)) (bw Q o))) (ab (!aq o.d4.2 o.d3.2) (ab (!o.d2.1) (Q (AV.bool true)) (ab (!o.d3.1) (Q (AV.bool true)) (bw Q o))) (Q (AV.bool false))))) (Q (AV.bool false))))) (ab (!o.d4.1) (ab (!o.d1.1) (ab (!o.d3.1) (ab (!o.d2.1) (Q (AV.bool true)) (ab (!o.d3.1) (Q (AV.bool true)) (bw Q o))) (ab (!o.d4.1) (ab (!o.d2.1) (Q (AV.bool true)) (ab (!o.d3.1) (Q (AV.bool true)) (bw Q o))) (ab (!aq o.d4.2 o.d3.2) (ab (!o.d2.1) (Q (AV.bool true)) (ab (!o.d3.1) (Q (AV.bool true)) (bw Q o))) (Q (AV.bool false))))) (ab (!o.d2.1) (ab (!o.d3.1) (ab (!o.d2.1) (Q (AV.bool true)) (ab (!o.d3.1) (Q (AV.bool true)) (bw Q o))) (ab (!o.d4.1) (ab (!o.d2.1) (Q (AV.bool true)) (ab (!o.d3.1) (Q (AV.bool true)) (bw Q o))) (ab (!aq o.d4.2 o.d3.2) (ab (!o.d2.1) (Q (AV.bool true)) (ab (!o.d3.1) (Q (AV.bool true)) (bw Q o))) (Q (AV.bool false))))) (ab (!aq o.d2.2 o.d1.2) (ab (!o.d3.1) (ab (!o.d2.1) (Q (AV.bool true)) (ab (!o.d3.1) (Q (AV.bool true)) (bw Q o))) (ab (!o.d4.1) (ab (!o.d2.1) (Q (AV.bool true)) (ab (!o.d3.1) (Q (AV.bool true)) (bw Q o))) (ab (!aq o.d4.2 o.d3.2) (ab (!o.d2.1) (Q (AV.bool true)) (ab (!o.d3.1) (Q (AV.bool true)) (bw Q o))) (Q (AV.bool false))))) (Q (AV.bool false))))) (ab (!aq o.d4.2 o.d1.2) (ab (!o.d1.1) (ab (!o.d3.1) (ab (!o.d2.1) (Q (AV.bool true)) (ab (!o.d3.1) (Q (AV.bool true)) (bw Q o))) (ab (!o.d4.1) (ab (!o.d2.1) (Q (AV.bool true)) (ab (!o.d3.1) (Q (AV.bool true)) (bw Q o))) (ab (!aq o.d4.2 o.d3.2) (ab (!o.d2.1) (Q (AV.bool true)) (ab (!o.d3.1) (Q (AV.bool true)) (bw Q o))) (Q (AV.bool false))))) (ab (!o.d2.1) (ab (!o.d3.1) (ab (!o.d2.1) (Q (AV.bool true)) (ab (!o.d3.1) (Q (AV.bool true)) (bw Q o))) (ab (!o.d4.1) (ab (!o.d2.1) (Q (AV.bool true)) (ab (!o.d3.1) (Q (AV.bool true)) (bw Q o))) (ab (!aq o.d4.2 o.d3.2) (ab (!o.d2.1) (Q (AV.bool true)) (ab (!o.d3.1) (Q (AV.bool true)) (bw Q o))) (Q (AV.bool false))))) (ab (!aq o.d2.2 o.d1.2) (ab (!o.d3.1) (ab (!o.d2.1) (Q (AV.bool true)) (ab (!o.d3.1) (Q (AV.bool true)) (bw Q o))) (ab (!o.d4.1) (ab (!o.d2.1) (Q (AV.bool true)) (ab (!o.d3.1) (Q (AV.bool true)) (bw Q o))) (ab (!aq o.d4.2 o.d3.2) (ab (!o.d2.1) (Q (AV.bool true)) (ab (!o.d3.1) (Q (AV.bool true)) (bw Q o))) (Q (AV.bool false))))) (Q (AV.bool false))))) (Q (AV.bool false))))):=by kernel_rfl
theorem Rg (o:Ob) (M N L C:AV) (Q:AV→Prop):ax Tryz.prog opts0 40 (ap [] [] (bg [(34,M),(35,N),(36,L),(37,C)]) [] []) 18 [.agg (ae o M N L C)] [] 0 (fun v _ _=>Q v)=
  (SC 34 [M] M∧SC 35 [N] N∧SC 36 [L] L∧SC 37 [C] C∧au (bM Tryz.prog 23 M 1) (au (bM Tryz.prog 32 N 1) (au (bM Tryz.prog 33 L 1) (au (bM Tryz.prog 34 C 1) (au (bM Tryz.prog 38 (AV.agg (ae o M N L C)) 37) (Q (AV.agg (ae o M N L C)))))))):=by kernel_rfl
def o9 (x y:Dt):Bool:= !x.has||(!y.has|| !aq y.t x.t)
def im (o:Ob):Bool:=o9 o.d1 o.d4&&(o9 o.d1 o.d2&&(o9 o.d3 o.d4&&o9 o.d2 o.d3))
theorem Rh (o:Ob):SC 131 [az o] (.bool (im o)):=by
 refine bN (A:=ap [] [] aH [] [223]) base0 ao (aw (LsOk.no rfl)) (ig o) rfl ?_
 simp only[az,am]
 rw[Re]
 repeat' refine aj (fun _=> ?_) (fun _=> ?_)
 all_goals
  refine congrArg AV.bool ?_
  simp_all [im,o9]
theorem FO (o:Ob):SC 70 [az o] (.bool (im o)):=by
 refine bN (A:=ap [] [] aH [135] []) base0 ao (aw (LsOk.no rfl)) (ig o) rfl ?_
 simp only[az,am]
 rw[Rf]
 repeat' refine aj (fun _=> ?_) (fun _=> ?_)
 all_goals
  refine congrArg AV.bool ?_
  simp_all [im,o9]
theorem Ri:fe Tryz.prog 38=some true:=by kernel_rfl
theorem Rj:fe Tryz.prog 99=some true:=by kernel_rfl
theorem lD (o:Ob):bM Tryz.prog 38 (.agg (am o)) 37=true:=yY Ri (Md o) (Mc o)
theorem Rk:fe Tryz.prog 32=some false:=by kernel_rfl
theorem Rl:fe Tryz.prog 33=some false:=by kernel_rfl
theorem Rm:fe Tryz.prog 34=some false:=by kernel_rfl
theorem Rn:fe Tryz.prog 23=some false:=by kernel_rfl
theorem zF {α:Type} {f:α→AV} {n:Nat} (h:∀x,ei n (f x)):∀l:List α,∀e∈l.map f,ei n e:=fun l e he=>by
 obtain ⟨x,_,rfl⟩:=List.mem_map.1 he
 exact h x
theorem FP {o:Ob} (ho:dO o):SC 18 [az o] (az o):=by
 have h1:SC 34 [bU o] (bU o):=Ee yr (tS _) (by rw[←aE,mW];exact ho.m)
 have hn:=ho.n
 have hl:=ho.l
 have hc:=ho.c
 have h2:SC 35 [bV o] (bV o):=M5 (zF (f:= .str) (n:=1) (fun _=>⟨rfl,rfl⟩) _) (oN _) (by rw[List.length_map];show _≤1099511627776;omega)
 have h3:SC 36 [bW o] (bW o):=M9 (zF (f:=bi) (n:=2) (fun _=>⟨rfl,rfl⟩) _) (oO _) (by rw[List.length_map];show _≤1099511627776;omega)
 have h4:SC 37 [bo o] (bo o):=Nd (zF (f:=aQ) (n:=2) (fun _=>⟨rfl,rfl⟩) _) (m4 _) (by rw[List.length_map];show _≤1099511627776;omega)
 refine bN (A:=ap [] [] (bg [(34,bU o),(35,bV o),(36,bW o),(37,bo o)]) [] []) base0 ao (aw (LsOk.no rfl)) (ig o) (Mb o) ?_
 simp only[az,am]
 rw[Rg]
 exact ⟨h1,h2,h3,h4,aF (t8 Rn rfl) (aF (t8 Rk rfl) (aF (t8 Rl rfl) (aF (t8 Rm rfl) (aF (lD o) rfl))))⟩
def iT (k:Kd):gk:=⟨aJ k,gi k,ce k,dg k⟩
theorem u0 (k:Kd):eS k=dZ (iT k) (j3 k) (j4 k) (j5 k) (lr k) (j6 k) (j7 k) (j8 k) (iR k):=rfl
theorem FQ (k:Kd):eS k=dZ (iT k) (j3 k) (j4 k) (j5 k) (dh (uR k) (uS k)) (j6 k) (j7 k) (j8 k) (iR k):=by rw[u0,Qc]
theorem FR (k:Kd):ac (eS k)=true:=zf k
def ni (many:Bool) (ty:Int):List It→Nat
 |[x]=>match many||(!ak ty 2|| !ak (cG x) 0) with
  |true=>1
  |false=>0
 |l=>l.length
def cL (o:Ob) (k:Kd):Nat:=ni (ce k) (gi k) (aK o k)
theorem u1 (k:Kd) (o:Ob) {c:List AV} (h:ac c=true):ac (.agg (eS k)::az o::c)=true:=by
 have h1:=FR k
 have h2:=dj o h
 rw[ac,ah,h1,h2];rfl
theorem Ro {k:Kd} (hk:lC k=true) {o:Ob} (ho:dO o):SC 58 [.agg (eS k),az o] (I (.ofNat (cL o k))):=by
 have hg:=FJ hk ho
 have hcl:=u1 k o (c:=[]) rfl
 simp only[cL]
 rw[FQ] at hcl⊢
 revert hg
 generalize aK o k=l
 intro hg
 match l,hg with
 |[],hg=>
  refine bN (A:=uF [] (ag 0 0 0 [] [])) base0 ao (aw (LsOk.no rfl)) hcl rfl ?_
  simp only[az,am] at hg⊢
  rw[zk]
  refine ⟨hg,aj (fun _=>aj (fun e=>by cases e) (fun _=>rfl)) (fun _=>rfl)⟩
 | [⟨t,y,n,d,ks⟩],hg=>
  refine bN (A:=uF (ad [⟨t,y,n,d,ks⟩]) (ag t y n (ai d) (ad ks))) base0 ao (aw (LsOk.no rfl)) hcl rfl ?_
  simp only[az,am] at hg⊢
  rw[zk]
  have hh:∀m ty,(iT k).many=m→(iT k).ty=ty→ce k=m∧gi k=ty:=fun m ty h1 h2=>⟨h1,h2⟩
  refine ⟨hg,aj (fun e1=>aj (fun _=>aj (fun e2=>⟨bB (i:=0) rfl,aj (fun e3=> ?_) (fun e3=> ?_)⟩) (fun e2=> ?_)) (fun e=>by cases e)) (fun e1=> ?_)⟩
  all_goals
   simp only[iT] at*
   simp_all [ni,cG,ad,aa]
 |a::b::r,hg=>
  refine bN (A:=uF (ad (a::b::r)) (ag 0 0 0 [] [])) base0 ao (aw (LsOk.no rfl)) hcl rfl ?_
  simp only[az,am] at hg⊢
  rw[zk]
  have hl:aa (ad (a::b::r))=r.length+2:=by rw[aE,dq];rfl
  rw[hl]
  refine ⟨hg,aj (fun e1=>aj (fun e=> ?_) (fun _=>rfl)) (fun _=>rfl)⟩
  rw[beqInt_iff] at e
  have e:((r.length+2:Nat):Int)=1:=e
  omega
def gp (v:It) (but:Int):List It→Nat→Bool
 |[],_=>false
 |x::r,i=>(!ak (.ofNat i) but&&dL x v)||gp v but r (i+1)
def nj (o:Ob) (k:Kd) (v:It) (but:Int):Bool:=ce k&&gp v but (aK o k) 0
theorem Rp {h:gk} {A1 A2 A3 Ge R P D RM:AV} {l:List It} {t y n:Int} {d:List UInt8} {ks:List It} {but:Int} {Q:AExit→St→Prop} (hW:ac (dZ h A1 A2 A3 Ge R P D RM)=true) (hb:l.length≤1000) (hl:∀x∈l,bO bd x):
  ∀i,i≤l.length→(ab (h.many&&gp (.mk t y n d ks) but (l.drop i) i) (Q .ret (hY true).st) (Q (.exit 0) (hY false).st)→ALp Tryz.prog opts0.glob 0 (aD Tryz.prog 60 3) (nc (dZ h A1 A2 A3 Ge R P D RM) (ad l) t y n (ai d) (ad ks) but i).st Q):=by
 have hG:=cH l
 have hK:ac (ag t y n (ai d) (ad ks))=true:=by have:=bG (.mk t y n d ks);exact this
 have hlen:aa (ad l)=l.length:=by rw[aE,dq]
 refine rG _ (fun hq=> ?_) (fun i hi ih hq=> ?_)
 ·refine ALp.round (A:=uG (ag 0 0 0 [] []) true) (V2:=nc (dZ h A1 A2 A3 Ge R P D RM) (ad l) t y n (ai d) (ad ks) but 0) (F:=hY false) (lk:=[(0,0),(1,1)]) (lk':=[]) base0 ao (LsOk.no rfl) .refl ?_
  rw[zn]
  refine aj (fun e=> ?_) (fun _=> ?_)
  ·have e:=ltInt_iff.1 e
   simp only[hlen,Int.ofNat_eq_natCast] at e
   omega
  ·rw[List.drop_of_length_le (by omega),gp,Bool.and_false] at hq
   exact ⟨⟨⟨⟨rfl,rfl⟩,trivial⟩,trivial,trivial⟩,hq⟩
 ·have g1:=List.getElem?_eq_getElem hi
  have hok:=hl _ (List.getElem_mem hi)
  rw[List.drop_eq_getElem_cons hi,gp] at hq
  revert g1 hq hok
  generalize l[i]=x
  intro hq g1 hok
  have hs:=Fe x (.mk t y n d ks) hok
  obtain ⟨a,b,c,e',f'⟩:=x
  revert hs hq
  generalize dL (.mk a b c e' f') (.mk t y n d ks)=r
  intro hq hs
  rw[aU,aU] at hs
  cases hr:(!ak (.ofNat i) but&&(h.many&&r)) with
  | true=>
   have h3:ak (.ofNat i) but=false∧h.many=true∧r=true:=by simpa using hr
   rw[h3.1,h3.2.1,h3.2.2] at hq
   refine ALp.round (A:=uG (ag a b c (ai e') (ad f')) r) (V2:=nc (dZ h A1 A2 A3 Ge R P D RM) (ad l) t y n (ai d) (ad ks) but (i+1)) (F:=hY true) (lk:=[(0,0),(1,1)]) (lk':=[]) base0 ao (LsOk.no rfl) .refl ?_
   rw[zn]
   refine aj (fun _=>⟨bB g1,aj (fun _=>aj (fun _=>⟨hs,aj (fun _=>⟨⟨⟨⟨rfl,rfl⟩,trivial⟩,trivial,trivial⟩,hq⟩) (fun e=> ?_)⟩) (fun e=> ?_)) (fun e=> ?_)⟩) (fun e=> ?_)
   ·rw[h3.2.2] at e;cases e
   ·rw[h3.2.1] at e;cases e
   ·rw[h3.1] at e;cases e
   ·have e:=ltInt_false.1 e
    simp only[hlen,Int.ofNat_eq_natCast] at e
    omega
  | false=>
   have hq':ab (h.many&&gp (.mk t y n d ks) but (l.drop (i+1)) (i+1)) (Q .ret (hY true).st) (Q (.exit 0) (hY false).st):=by
    have:(h.many&&(!ak (.ofNat i) but&&r||gp (.mk t y n d ks) but (l.drop (i+1)) (i+1)))=(h.many&&gp (.mk t y n d ks) but (l.drop (i+1)) (i+1)):=by
     revert hr
     cases ak (.ofNat i) but<;>cases h.many<;>cases r<;>simp
    rw[this] at hq
    exact hq
   have hnext:=ih hq'
   have hw:ar .i64 (Int.ofNat i+1)=Int.ofNat (i+1):=eQ (by simp;omega) (by simp;omega)
   refine ALp.round (A:=uG (ag a b c (ai e') (ad f')) r) (V2:=nc (dZ h A1 A2 A3 Ge R P D RM) (ad l) t y n (ai d) (ad ks) but (i+1)) (F:=hY false) (lk:=[(0,0),(1,1)]) (lk':=[]) base0 ao (LsOk.no rfl) .refl ?_
   rw[zn,hw]
   have hsee:((((I but=I but∧ah (I but)=true)∧(AV.bool false= .bool false∧true=true)∧(AV.fsl false (ad l)= .fsl false (ad l)∧ah (.fsl false (ad l))=true)∧(I (.ofNat (aa (ad l)))=I (.ofNat (aa (ad l)))∧ah (I (.ofNat (aa (ad l))))=true)∧(I (Int.ofNat (i+1))=I (.ofNat (i+1))∧ah (I (.ofNat (i+1)))=true)∧True))):=⟨⟨rfl,rfl⟩,⟨rfl,rfl⟩,⟨rfl,hG⟩,⟨rfl,rfl⟩,⟨rfl,rfl⟩,trivial⟩
   refine aj (fun _=>⟨bB g1,aj (fun e1=>aj (fun e2=>⟨hs,aj (fun e3=> ?_) (fun _=> ?_)⟩) (fun _=> ?_)) (fun _=> ?_)⟩) (fun e=> ?_)
   ·rw[Bool.not_eq_true'] at e1
    rw[e1,e2,e3] at hr;cases hr
   ·exact ⟨⟨hsee,⟨⟨rfl,rfl⟩,⟨rfl,rfl⟩,trivial⟩,⟨rfl,hW⟩,⟨rfl,hK⟩,trivial⟩,hnext⟩
   ·exact ⟨⟨hsee,⟨⟨rfl,rfl⟩,⟨rfl,rfl⟩,trivial⟩,⟨rfl,hW⟩,⟨rfl,hK⟩,trivial⟩,hnext⟩
   ·exact ⟨⟨hsee,⟨⟨rfl,rfl⟩,⟨rfl,rfl⟩,trivial⟩,⟨rfl,hW⟩,⟨rfl,hK⟩,trivial⟩,hnext⟩
   ·have e:=ltInt_false.1 e
    simp only[hlen,Int.ofNat_eq_natCast] at e
    omega
theorem Rq:bu (cy Tryz.prog 60) 3=[aD Tryz.prog 60 3]:=by kernel_rfl
structure lE (o:Ob) (k:Kd):Prop where
 n:(aK o k).length≤1000
 i:∀x∈aK o k,bO bd x
theorem Rr {k:Kd} (hk:lC k=true) {o:Ob} (ho:dO o) (hg:lE o k) (v:It) (but:Int):SC 60 [.agg (eS k),az o,aG v,I but] (.bool (nj o k v but)):=by
 have hs:=FJ hk ho
 have hcl:=u1 k o (c:=[aG v,I but]) (by simp[ac,bG,ah])
 have hW:=FR k
 rw[FQ] at hcl hW⊢
 obtain ⟨t,y,n,d,ks⟩:=v
 rw[aU] at hcl⊢
 have hK:ac (ag t y n (ai d) (ad ks))=true:=by have:=bG (.mk t y n d ks);exact this
 refine bN (A:=ap [] [(3,Fs (dZ (iT k) (j3 k) (j4 k) (j5 k) (dh (uR k) (uS k)) (j6 k) (j7 k) (j8 k) (iR k)) (ad (aK o k)) t y n (ai d) (ad ks) but (nj o k (.mk t y n d ks) but))] (fun _ _ _ _=>some (.val (.fsl false (ad (aK o k))))) [] []) base0 ao
  (aw (LsOk.at1 rfl Rq fun st Q hs=> .seen base0.glob hs.1 (Rp hW hg.n hg.i 0 (Nat.zero_le _) hs.2))) hcl rfl ?_
 simp only[az,am] at hs⊢
 rw[PA]
 refine ⟨hs,⟨⟨⟨rfl,rfl⟩,⟨rfl,rfl⟩,⟨rfl,cH _⟩,⟨rfl,rfl⟩,⟨rfl,rfl⟩,trivial⟩,⟨⟨rfl,rfl⟩,⟨rfl,rfl⟩,trivial⟩,⟨rfl,hW⟩,⟨rfl,hK⟩,trivial⟩,aj (fun e=>by rw[e]) (fun e=>by rw[e])⟩
end
end Go.Proofs.YtmnlofhodbnenaaGreatDoor
