import Derived.Test.YtjhggnebkfpgcaaGreatDoorQ4
import Derived.Test.YtjhggnebkfpgcaaGreatDoorQ2
import Derived.KernelRfl
import Derived.Test.YtjhggnebkfpgcaaGreatDoorQ1
import Derived.Test.YtjhggnebkfpgcaaGreatDoorG5
namespace Go.Proofs.YtjhggnebkfpgcaaGreatDoor
open Go Go.RowKit
open Go.Proofs.Abs
noncomputable section
abbrev vN (a d g m p r re ro:AV) (h:fh):=[AV.str h.1,I h.2,AV.bool h.3,AV.bool h.4,a,m,re,g,r,p,d,ro]
theorem GX (h:fh) (a m re g r p d ro:AV) (f:Bool) (s:List UInt8) (Q:AV→Prop):aL Tryz.prog opts0 40 (jF (.agg (b8 h a m re g r p d ro)) f []) 46 [.str s] [] 0 (fun v _ _=>Q v)=
  (SC 61 [AV.str s] (AV.tuple [AV.agg (vN a d g m p r re ro h),AV.bool f])∧aC (cQ Tryz.prog 89 (AV.agg (vN a d g m p r re ro h)) 12) (Q (AV.bool f))):=by kernel_rfl
theorem GY (h:fh) (a m re g r p d ro:AV) (f:Bool) (s:List UInt8) (Q:AV→Prop):aL Tryz.prog opts0 40 (jF (.agg (b8 h a m re g r p d ro)) f []) 146 [.str s] [] 0 (fun v _ _=>Q v)=
  (SC 61 [AV.str s] (AV.tuple [AV.agg (vN a d g m p r re ro h),AV.bool f])∧aC (cQ Tryz.prog 89 (AV.agg (vN a d g m p r re ro h)) 12) (ak f (Q (I h.2)) (Q (I 0)))):=by kernel_rfl
def GZ (ty:Int) (dt:Bool) (Vs:List AV):be:=aq [] [] (cz [(146,I ty),(97,.bool dt),(99,.fsl false Vs)]) [] []
theorem Td (s:List UInt8) (idx t y q ty:Int) (dt:Bool) (D K Ls Vs:List AV) (Q:AV→Prop):aL Tryz.prog opts0 40 (GZ ty dt Vs) 106 [.agg (.str s::I idx::ay t y q D K),.fsl false Ls] [] 0 (fun v _ _=>Q v)=
  (SC 146 [AV.str s] (I ty)∧ak (aF ty y) (ak (aF idx 0) (SC 97 [AV.agg [AV.str s,I idx,I t,I y,I q,AV.fsl false D,AV.fsl false K]] (AV.bool dt)∧ak dt (SC 99 [AV.fsl false Ls,AV.str s] (AV.fsl false Vs)∧Q (AV.bool !ar 2 (Int.ofNat (ab Vs)))) (Q (AV.bool true))) (Q (AV.bool false))) (Q (AV.bool false))):=by kernel_rfl
def G0 (b:Bool) (Ls:List AV):dj:=fun f _ _ _=>match Nat.beq f 100 with
 |true=>some (.part [0] (.bool b) [(0,some (.cells [.fsl false Ls]))] 30)
 |false=>none
theorem Te (b:Bool) (Ls:List AV) (Q:AV→Prop):aL Tryz.prog opts0 40 (aq [] [] (G0 b Ls) [] []) 55 [.fsl false Ls] [] 0 (fun v _ _=>Q v)=
  (ak (ar 20 (Int.ofNat (ab Ls))) (Q (I 7)) (BodySem Tryz.prog opts0.glob 100 [AV.fsl false Ls,AV.func (Fn.func 105) [] [AV.ptr 0 0]] [(0,some (Blk.cells [AV.fsl false Ls]))] 10 (AV.bool b) [(0,some (Blk.cells [AV.fsl false Ls]))] 40∧ak b (Q (I 7)) (Q (I 0)))):=by kernel_rfl
def eR (i how:Int) (Ls:List AV):View:=⟨[(0,.fsl false Ls),(1,I how),(5,.nilsl),(6,I i)],[],[],0,46⟩
def dc (i how:Int) (Ls:List AV) (k:Nat) (es:List AV):View:=⟨[(0,.fsl false Ls),(1,I how),(6,I i)],[(5,.rsl true 0 0 k 7)],[(0,.cells es,.whole)],1,46⟩
def jL (y:Rw) (a:List AV) (h:Bool):be:=aq [(5,2,.res (.fptr (kq y) 0)),(6,2,.res (.bool h))] [] (cz [(16,.agg a)]) [] []
@[simp] abbrev nQ (Ls:List AV):=(AV.fsl false Ls=AV.fsl false Ls∧ac (AV.fsl false Ls)=true)
@[simp] abbrev nR (how:Int):=(I how=I how∧ac (I how)=true)
@[simp] abbrev vO (Ls:List AV) (Q:AExit→St→Prop) (how i:Int):=((((nQ Ls)∧(nR how)∧(AV.nilsl=AV.nilsl∧true=true)∧(I i=I i∧ac (I i)=true)∧True)∧True∧True)∧Q (AExit.exit 0) (eR i how Ls).st)
abbrev gD (D K:List AV) (ix n t yy:Int) (s:List UInt8):=[AV.str s,I ix,I t,I yy,I n,AV.fsl false D,AV.fsl false K]
abbrev nS (D K:List AV) (n t yy:Int) (s:List UInt8):=[AV.agg [AV.str s,I 0,I t,I yy,I n,AV.fsl false D,AV.fsl false K]]
abbrev lN (y:Rw):=[I y.1,I y.2,I y.3,I y.4]
theorem Tf (y:Rw) (i j how:Int) (s:List UInt8) (ix t yy n:Int) (D K Ls es':List AV) (Nx:Prop) (Q:AExit→St→Prop):aw Tryz.prog opts0 40 (jL y (.str s::I ix::ay t yy n D K) true) (ah Tryz.prog 56 4) (eR i how Ls).st (bf 0 [(0,23)] (dc j how Ls 1 es') Nx [] (eR i how Ls) Q)=
  (ak (ar i (Int.ofNat (ab Ls))) (ak (ar i 4) (ax Tryz.prog 22 (AV.fsl false Ls) (I i)=some (AV.fptr (lN y) 0)∧SC 16 [AV.agg (lN y)] (AV.agg (gD D K ix n t yy s))∧aG Tryz.prog BinOp.gtr 3 (Operand.tmp 24) (Operand.const (Value.int IntKind.i64 0)) (I (how.tmod 5)) (I 0)=some (AV.bool true)∧(((nQ Ls)∧(nR how)∧(I (af IntKind.i64 (i+1))=I j∧ac (I j)=true)∧True)∧((true=true∧some 23=some 23∧0=0∧1=ab (nS D K n t yy s)∧7=7)∧True)∧(flat (nS D K n t yy s)=es'∧ad es'=true)∧True)∧Nx) (vO Ls Q how i)) (vO Ls Q how i)):=by kernel_rfl
theorem G1 (y:Rw) (i j how:Int) (s:List UInt8) (ix t yy n:Int) (D K Ls es':List AV) (Nx:Prop) (Q:AExit→St→Prop):aw Tryz.prog opts0 40 (jL y (.str s::I ix::ay t yy n D K) false) (ah Tryz.prog 56 4) (eR i how Ls).st (bf 0 [(0,21)] (dc j how Ls 1 es') Nx [] (eR i how Ls) Q)=
  (ak (ar i (Int.ofNat (ab Ls))) (ak (ar i 4) (ax Tryz.prog 22 (AV.fsl false Ls) (I i)=some (AV.fptr (lN y) 0)∧SC 16 [AV.agg (lN y)] (AV.agg (gD D K ix n t yy s))∧aG Tryz.prog BinOp.gtr 3 (Operand.tmp 24) (Operand.const (Value.int IntKind.i64 0)) (I (how.tmod 5)) (I 0)=some (AV.bool false)∧(((nQ Ls)∧(nR how)∧(I (af IntKind.i64 (i+1))=I j∧ac (I j)=true)∧True)∧((true=true∧some 21=some 21∧0=0∧1=ab [AV.agg (gD D K ix n t yy s)]∧7=7)∧True)∧(flat [AV.agg (gD D K ix n t yy s)]=es'∧ad es'=true)∧True)∧Nx) (vO Ls Q how i)) (vO Ls Q how i)):=by kernel_rfl
@[simp] abbrev vP (Ls es:List AV) (Q:AExit→St→Prop) (how i:Int) (k:Nat):=((((nQ Ls)∧(nR how)∧(I i=I i∧ac (I i)=true)∧True)∧((true=true∧some 0=some 0∧0=0∧k=k∧7=7)∧True)∧(es=es∧ad es=true)∧True)∧Q (AExit.exit 0) (dc i how Ls k es).st)
theorem Tg (y:Rw) (i j how:Int) (s:List UInt8) (ix t yy n:Int) (k:Nat) (D K Ls es es':List AV) (Nx:Prop) (Q:AExit→St→Prop):aw Tryz.prog opts0 40 (jL y (.str s::I ix::ay t yy n D K) true) (ah Tryz.prog 56 4) (dc i how Ls k es).st (bf 0 [(0,24)] (dc j how Ls (k+1) es') Nx [(0,0)] (dc i how Ls k es) Q)=
  (ak (ar i (Int.ofNat (ab Ls))) (ak (ar i 4) (ax Tryz.prog 22 (AV.fsl false Ls) (I i)=some (AV.fptr (lN y) 0)∧SC 16 [AV.agg (lN y)] (AV.agg (gD D K ix n t yy s))∧aG Tryz.prog BinOp.gtr 3 (Operand.tmp 24) (Operand.const (Value.int IntKind.i64 0)) (I (how.tmod 5)) (I 0)=some (AV.bool true)∧aC (bo 7 (nS D K n t yy s)&&(((k+ab (nS D K n t yy s))*96).ble 140737488355328&&(aS (flat (nS D K n t yy s))&&true))) (aC ((ab es).beq (k*7)) ((((nQ Ls)∧(nR how)∧(I (af IntKind.i64 (i+1))=I j∧ac (I j)=true)∧True)∧((true=true∧some 24=some 24∧0=0∧k+1=k+ab (nS D K n t yy s)∧7=7)∧True)∧(es++flat (nS D K n t yy s)=es'∧ad es'=true)∧True)∧Nx))) (vP Ls es Q how i k)) (vP Ls es Q how i k)):=by kernel_rfl
abbrev G2 (D K:List AV) (ix n t yy:Int) (k:Nat) (s:List UInt8):=(bo 7 [AV.agg (gD D K ix n t yy s)]&&(((k+ab [AV.agg (gD D K ix n t yy s)])*96).ble 140737488355328&&(aS (flat [AV.agg (gD D K ix n t yy s)])&&true)))
theorem G3 (y:Rw) (i j how:Int) (s:List UInt8) (ix t yy n:Int) (k:Nat) (D K Ls es es':List AV) (Nx:Prop) (Q:AExit→St→Prop):aw Tryz.prog opts0 40 (jL y (.str s::I ix::ay t yy n D K) false) (ah Tryz.prog 56 4) (dc i how Ls k es).st (bf 0 [(0,22)] (dc j how Ls (k+1) es') Nx [(0,0)] (dc i how Ls k es) Q)=
  (ak (ar i (Int.ofNat (ab Ls))) (ak (ar i 4) (ax Tryz.prog 22 (AV.fsl false Ls) (I i)=some (AV.fptr (lN y) 0)∧SC 16 [AV.agg (lN y)] (AV.agg (gD D K ix n t yy s))∧aG Tryz.prog BinOp.gtr 3 (Operand.tmp 24) (Operand.const (Value.int IntKind.i64 0)) (I (how.tmod 5)) (I 0)=some (AV.bool false)∧aC (G2 D K ix n t yy k s) (aC ((ab es).beq (k*7)) ((((nQ Ls)∧(nR how)∧(I (af IntKind.i64 (i+1))=I j∧ac (I j)=true)∧True)∧((true=true∧some 22=some 22∧0=0∧k+1=k+ab [AV.agg (gD D K ix n t yy s)]∧7=7)∧True)∧(es++flat [AV.agg (gD D K ix n t yy s)]=es'∧ad es'=true)∧True)∧Nx))) (vP Ls es Q how i k)) (vP Ls es Q how i k)):=by kernel_rfl
def vQ (V W:View):bg:=fun st Q=>bR 0 [] V st∧Q (.exit 0) W.st
@[simp] abbrev G4 (Ls:List AV) (how:Int):=(((nQ Ls)∧(nR how)∧(AV.nilsl=AV.nilsl∧true=true)∧(I 0=I 0∧true=true)∧True)∧True∧True)
theorem Th (i how:Int) (Ls:List AV) (Q:AV→ae→Prop):aL Tryz.prog opts0 40 (aq [] [(4,vQ (eR 0 how Ls) (eR i how Ls))] aA [] []) 56 [.fsl false Ls,I how] [] 0 (fun v H _=>Q v H)=
  ((G4 Ls how)∧ak (aF (how.tmod 3) 0) (Q AV.nilsl []) (Q AV.nilsl [])):=by kernel_rfl
theorem Ti (i how:Int) (Ls:List AV) (k:Nat) (s:List UInt8) (ix t yy n:Int) (D K es:List AV) (Q:AV→ae→Prop):aL Tryz.prog opts0 40 (aq [(10,3,.ld (.agg (.str s::I ix::ay t yy n D K)))] [(4,vQ (eR 0 how Ls) (dc i how Ls k es))] aA [] []) 56 [.fsl false Ls,I how] [] 0 (fun v H _=>Q v H)=
  ((G4 Ls how)∧ak (aF (how.tmod 3) 0) (ak (ar 0 (Int.ofNat k)) (aC (Nat.blt 0 k&&true) (bh Tryz.prog 39 es 0=some (AV.agg (gD D K ix n t yy s))∧aC (G2 D K ix n t yy k s) (aC ((ab es).beq (k*7)) (Q (AV.rsl true 14 0 (k+ab [AV.agg (gD D K ix n t yy s)]) 7) [(14,some (Blk.cells (es++flat [AV.agg (gD D K ix n t yy s)]))),(0,none)])))) (Q (AV.rsl true 0 0 k 7) [(0,some (Blk.cells es))])) (Q (AV.rsl true 0 0 k 7) [(0,some (Blk.cells es))])):=by kernel_rfl
end
noncomputable section
def G5 (a b:Dt) (s s':List UInt8):be:=aq [(1,5,.ld (.agg [.bool a.has,I a.t])),(1,11,.ld (.agg [.bool b.has,I b.t])),(6,4,.ld (.str s)),(6,9,.ld (.str s'))] [] aA [] []
abbrev AU (a b:Dt) (es:List AV):=[(16,some (Blk.cells [AV.bool b.1,I b.2])),(15,some (Blk.cells [AV.bool a.1,I a.2])),(1,some (Blk.cells es))]
theorem Tj (own:Bool) (n i j:Nat) (es:List AV) (a b:Dt) (s s':List UInt8) (Q:AV→ae→Nat→Prop):aL Tryz.prog opts0 40 (G5 a b s s') 212 [.rsl own 1 0 n 37,I (.ofNat i),I (.ofNat j)] [(1,some (.cells es))] 2 Q=
  (aC (cJ (Int.ofNat i)&&((Int.ofNat i).toNat.blt n&&true)) (bh Tryz.prog 25 es (0+(Int.ofNat i).toNat*37+7+0)=some (AV.agg [AV.bool a.1,I a.2])∧aC (cJ (Int.ofNat j)&&((Int.ofNat j).toNat.blt n&&true)) (bh Tryz.prog 25 es (0+(Int.ofNat j).toNat*37+7+0)=some (AV.agg [AV.bool b.1,I b.2])∧ak (!decide (a.has=b.has)) (Q (AV.bool a.1) (AU a b es) 28) (ak (!aF a.2 b.2) (Q (AV.bool (ar b.2 a.2)) (AU a b es) 37) (aC (cJ (Int.ofNat i)&&((Int.ofNat i).toNat.blt n&&true)) (bh Tryz.prog 9 es (0+(Int.ofNat i).toNat*37+0)=some (AV.str s)∧aC (cJ (Int.ofNat j)&&((Int.ofNat j).toNat.blt n&&true)) (bh Tryz.prog 9 es (0+(Int.ofNat j).toNat*37+0)=some (AV.str s')∧Q (AV.bool (cu s s')) (AU a b es) 43))))))):=by kernel_rfl
def G6 (x y:List AV):be:=aq [(0,7,.ld (.agg x)),(0,11,.ld (.agg y))] [] aA [] []
theorem Tk (own:Bool) (n i j:Nat) (es x y:List AV) (Q:AV→ae→Nat→Prop):aL Tryz.prog opts0 40 (G6 x y) 213 [.rsl own 1 0 n 37,I (.ofNat i),I (.ofNat j)] [(1,some (.cells es))] 2 Q=
  (aC (cJ (Int.ofNat j)&&((Int.ofNat j).toNat.blt n&&true)) (bh Tryz.prog 33 es (0+(Int.ofNat j).toNat*37)=some (AV.agg x)∧aC (cJ (Int.ofNat i)&&((Int.ofNat i).toNat.blt n&&true)) (bh Tryz.prog 33 es (0+(Int.ofNat i).toNat*37)=some (AV.agg y)∧aC (cJ (Int.ofNat i)&&((Int.ofNat i).toNat.blt n&&true)) (aC (cQ Tryz.prog 33 (AV.agg x) 37) (aC ((0+(Int.ofNat i).toNat*37+37).ble (ab es)) (aC (cJ (Int.ofNat j)&&((Int.ofNat j).toNat.blt n&&true)) (aC (cQ Tryz.prog 33 (AV.agg y) 37) (aC ((0+(Int.ofNat j).toNat*37+37).ble (ab (List.take (0+(Int.ofNat i).toNat*37) es++(x++List.drop (0+(Int.ofNat i).toNat*37+ab x) es)))) (Q (AV.tuple []) [(1,some (Blk.cells (List.take (0+(Int.ofNat j).toNat*37) (List.take (0+(Int.ofNat i).toNat*37) es++(x++List.drop (0+(Int.ofNat i).toNat*37+ab x) es))++(y++List.drop (0+(Int.ofNat j).toNat*37+ab y) (List.take (0+(Int.ofNat i).toNat*37) es++(x++List.drop (0+(Int.ofNat i).toNat*37+ab x) es))))))] 18))))))))):=by kernel_rfl
abbrev eG:AV:= .iface 149 (.ptr 0 0)
def nT (own:Bool) (n:Nat) (j:Int) (es:List AV):View:=⟨[(1,I j)],[(0,eG)],[(0,.cells [.rsl own 1 0 n 37],.each),(1,.cells es,.whole)],2,23⟩
def lO (own:Bool) (n:Nat) (es:List AV):View:=⟨[],[],[(0,.cells [.rsl own 1 0 n 37],.each),(1,.cells es,.whole)],90,23⟩
def vR (b:Bool) (es es':List AV):dj:=fun f _ _ _=>match Nat.beq f 212 with
 |true=>some (.part [1] (.bool b) [(1,some (.cells es))] 1)
 |false=>match Nat.beq f 213 with
  |true=>some (.part [1] (.tuple []) [(1,some (.cells es'))] 1)
  |false=>none
@[simp] abbrev kD (n:Nat) (own:Bool):=((own=own∧some 1=some 1∧0=0∧n=n∧37=37)∧True)
@[simp] abbrev pV:=((149=149∧some 0=some 0∧0=0)∧True)
@[simp] abbrev sU (es:List AV):=(es=es∧ad es=true)
@[simp] abbrev vS (es':List AV):=(es'=es'∧ad es'=true)
theorem AW (own b:Bool) (n:Nat) (j j':Int) (es es':List AV) (N:Prop) (Q:AExit→St→Prop):aw Tryz.prog opts0 40 (aq [] [] (vR b es es') [] []) (ah Tryz.prog 144 1) (nT own n j es).st (bf 2 [(0,0),(1,1)] (nT own n j' es') N [(0,0),(1,1)] (lO own n es) Q)=
  (ak (aF (af IntKind.i64 ((af IntKind.i64 (j-1)).tdiv 2)) j) ((True∧True∧(kD n own)∧(sU es)∧True)∧Q (AExit.exit 0) (lO own n es).st) (BodySem Tryz.prog opts0.glob 212 [AV.rsl own 1 0 n 37,I j,I (af IntKind.i64 ((af IntKind.i64 (j-1)).tdiv 2))] [(1,some (Blk.cells es))] 16 (AV.bool b) [(1,some (Blk.cells es))] 17∧ak (!b) ((True∧True∧(kD n own)∧(sU es)∧True)∧Q (AExit.exit 0) (lO own n es).st) (BodySem Tryz.prog opts0.glob 213 [AV.rsl own 1 0 n 37,I (af IntKind.i64 ((af IntKind.i64 (j-1)).tdiv 2)),I j] [(1,some (Blk.cells es))] 21 (AV.tuple []) [(1,some (Blk.cells es'))] 22∧(((I (af IntKind.i64 ((af IntKind.i64 (j-1)).tdiv 2))=I j'∧ac (I j')=true)∧True)∧pV∧(kD n own)∧(vS es')∧True)∧N))):=by kernel_rfl
def G7 (own:Bool) (n:Nat) (j:Int) (es es':List AV):bg:=fun st Q=>bR 2 [(0,0),(1,1)] (nT own n j es) st∧Q (.exit 0) (lO own n es').st
abbrev vT (n:Nat) (own:Bool):=(0,some (Blk.cells [AV.rsl own 1 0 n 37]))
theorem Tl (own:Bool) (n:Nat) (j:Int) (es es':List AV) (Q:AV→ae→Nat→Prop):aL Tryz.prog opts0 40 (aq [] [(1,G7 own n j es es')] aA [] []) 144 [eG,I j] [(0,some (.cells [.rsl own 1 0 n 37])),(1,some (.cells es))] 2 Q=
  ((((I j=I j∧ac (I j)=true)∧True)∧pV∧(kD n own)∧(sU es)∧True)∧Q (AV.tuple []) [(vT n own),(1,some (Blk.cells es'))] 90):=by kernel_rfl
abbrev nU (C L M N:AV) (o:Ob):=[AV.agg (aa o M N L C),AV.bool true]
theorem Tm (n:Nat) (es:List AV) (o:Ob) (M N L C:AV) (Q:AV→ae→Nat→Prop):aL Tryz.prog opts0 40 ej 215 [.ptr 0 0,.iface 33 (.agg (aa o M N L C))] [(0,some (.cells [.rsl true 1 0 n 37])),(1,some (.cells es))] 2 Q=
  (aC (bo 37 [if false=true then AV.tuple (nU C L M N o) else AV.agg (aa o M N L C)]&&(((n+ab [if false=true then AV.tuple (nU C L M N o) else AV.agg (aa o M N L C)])*376).ble 140737488355328&&(aS (flat [if false=true then AV.tuple (nU C L M N o) else AV.agg (aa o M N L C)])&&true))) (aC ((ab es).beq (n*37)) (Q (AV.tuple []) [(9,some (Blk.cells (es++flat [if false=true then AV.tuple (nU C L M N o) else AV.agg (aa o M N L C)]))),(1,none),(0,some (Blk.cells [AV.rsl true 9 0 (n+ab [if false=true then AV.tuple (nU C L M N o) else AV.agg (aa o M N L C)]) 37])),(1,some (Blk.cells es))] 12))):=by kernel_rfl
theorem Tn (o:Ob) (M N L C:AV) (Q:AV→ae→Nat→Prop):aL Tryz.prog opts0 40 ej 215 [.ptr 0 0,.iface 33 (.agg (aa o M N L C))] [(0,some (.cells [.nilsl]))] 1 Q=
  (Q (AV.tuple []) [(8,some (Blk.cells (flat [if false=true then AV.tuple (nU C L M N o) else AV.agg (aa o M N L C)]))),(0,some (Blk.cells [AV.rsl true 8 0 (ab [if false=true then AV.tuple (nU C L M N o) else AV.agg (aa o M N L C)]) 37]))] 11):=by kernel_rfl
theorem To (own:Bool) (n:Nat) (es:List AV) (o:Ob) (M N L C:AV) (Q:AV→ae→Nat→Prop):aL Tryz.prog opts0 40 (aq [(1,9,.ld (.agg (aa o M N L C)))] [] aA [] []) 214 [.ptr 0 0] [(0,some (.cells [.rsl own 1 0 n 37])),(1,some (.cells es))] 2 Q=
  (aC (cJ (af IntKind.i64 (Int.ofNat n-1))&&((af IntKind.i64 (Int.ofNat n-1)).toNat.blt n&&true)) (bh Tryz.prog 33 es (0+(af IntKind.i64 (Int.ofNat n-1)).toNat*37)=some (AV.agg (aa o M N L C))∧aC (cQ Tryz.prog 33 (AV.agg (aa o M N L C)) 37) (aC (cJ (af IntKind.i64 (Int.ofNat n-1))&&(af IntKind.i64 (Int.ofNat n-1)).toNat.ble n) (Q (AV.iface 33 (AV.agg (aa o M N L C))) [(13,some (Blk.cells (aa o M N L C))),(0,some (Blk.cells [AV.rsl own 1 0 (af IntKind.i64 (Int.ofNat n-1)).toNat 37])),(1,some (Blk.cells es))] 30)))):=by kernel_rfl
def i7 (own:Bool) (n:Nat) (i0 i m:Int) (es:List AV):View:=⟨[(1,I i0),(2,I m),(6,.bool false),(7,I i)],[(0,eG)],[(0,.cells [.rsl own 1 0 n 37],.each),(1,.cells es,.whole)],2,48⟩
def jM (own:Bool) (n:Nat) (i0 i:Int) (es:List AV):View:=⟨[(1,I i0),(7,I i)],[],[(0,.cells [.rsl own 1 0 n 37],.each),(1,.cells es,.whole)],90,48⟩
def sV (b c:Bool) (es es':List AV):dj:=fun f _ _ nx=>match Nat.beq f 212 with
 |true=>match Nat.ble nx 30 with
  |true=>some (.part [1] (.bool b) [(1,some (.cells es))] 1)
  |false=>some (.part [1] (.bool c) [(1,some (.cells es))] 1)
 |false=>match Nat.beq f 213 with
  |true=>some (.part [1] (.tuple []) [(1,some (.cells es'))] 1)
  |false=>none
@[simp] abbrev pW (i0:Int):=(I i0=I i0∧ac (I i0)=true)
@[simp] abbrev sW (Q:AExit→St→Prop) (es:List AV) (i i0:Int) (n:Nat) (own:Bool):=((((pW i0)∧(I i=I i∧ac (I i)=true)∧True)∧True∧(kD n own)∧(sU es)∧True)∧Q (AExit.exit 0) (jM own n i0 i es).st)
@[simp] abbrev vU:=(AV.bool false=AV.bool false∧true=true)
@[simp] abbrev vV (m:Int):=(I m=I m∧ac (I m)=true)
theorem vW (own b c:Bool) (n:Nat) (i0 i i' m:Int) (es es':List AV) (N:Prop) (Q:AExit→St→Prop):aw Tryz.prog opts0 40 (aq [] [] (sV b c es es') [] []) (ah Tryz.prog 145 3) (i7 own n i0 i m es).st (bf 2 [(0,0),(1,1)] (i7 own n i0 i' m es') N [(0,0),(1,1)] (jM own n i0 i es) Q)=
  (ak (!ar (af IntKind.i64 (af IntKind.i64 (2*i)+1)) m) (sW Q es i i0 n own) (ak (ar (af IntKind.i64 (af IntKind.i64 (2*i)+1)) 0) (sW Q es i i0 n own) (ak (ar (af IntKind.i64 (af IntKind.i64 (af IntKind.i64 (2*i)+1)+1)) m) (BodySem Tryz.prog opts0.glob 212 [AV.rsl own 1 0 n 37,I (af IntKind.i64 (af IntKind.i64 (af IntKind.i64 (2*i)+1)+1)),I (af IntKind.i64 (af IntKind.i64 (2*i)+1))] [(1,some (Blk.cells es))] 27 (AV.bool b) [(1,some (Blk.cells es))] 28∧ak b (BodySem Tryz.prog opts0.glob 212 [AV.rsl own 1 0 n 37,I (af IntKind.i64 (af IntKind.i64 (af IntKind.i64 (2*i)+1)+1)),I i] [(1,some (Blk.cells es))] 35 (AV.bool c) [(1,some (Blk.cells es))] 36∧ak (!c) (sW Q es i i0 n own) (BodySem Tryz.prog opts0.glob 213 [AV.rsl own 1 0 n 37,I i,I (af IntKind.i64 (af IntKind.i64 (af IntKind.i64 (2*i)+1)+1))] [(1,some (Blk.cells es))] 40 (AV.tuple []) [(1,some (Blk.cells es'))] 41∧(((pW i0)∧(vV m)∧vU∧(I (af IntKind.i64 (af IntKind.i64 (af IntKind.i64 (2*i)+1)+1))=I i'∧ac (I i')=true)∧True)∧pV∧(kD n own)∧(vS es')∧True)∧N)) (BodySem Tryz.prog opts0.glob 212 [AV.rsl own 1 0 n 37,I (af IntKind.i64 (af IntKind.i64 (2*i)+1)),I i] [(1,some (Blk.cells es))] 33 (AV.bool c) [(1,some (Blk.cells es))] 34∧ak (!c) (sW Q es i i0 n own) (BodySem Tryz.prog opts0.glob 213 [AV.rsl own 1 0 n 37,I i,I (af IntKind.i64 (af IntKind.i64 (2*i)+1))] [(1,some (Blk.cells es))] 38 (AV.tuple []) [(1,some (Blk.cells es'))] 39∧(((pW i0)∧(vV m)∧vU∧(I (af IntKind.i64 (af IntKind.i64 (2*i)+1))=I i'∧ac (I i')=true)∧True)∧pV∧(kD n own)∧(vS es')∧True)∧N))) (BodySem Tryz.prog opts0.glob 212 [AV.rsl own 1 0 n 37,I (af IntKind.i64 (af IntKind.i64 (2*i)+1)),I i] [(1,some (Blk.cells es))] 32 (AV.bool c) [(1,some (Blk.cells es))] 33∧ak (!c) (sW Q es i i0 n own) (BodySem Tryz.prog opts0.glob 213 [AV.rsl own 1 0 n 37,I i,I (af IntKind.i64 (af IntKind.i64 (2*i)+1))] [(1,some (Blk.cells es))] 37 (AV.tuple []) [(1,some (Blk.cells es'))] 38∧(((pW i0)∧(vV m)∧vU∧(I (af IntKind.i64 (af IntKind.i64 (2*i)+1))=I i'∧ac (I i')=true)∧True)∧pV∧(kD n own)∧(vS es')∧True)∧N))))):=by kernel_rfl
def G8 (own:Bool) (n:Nat) (i0 i m:Int) (es es':List AV):bg:=fun st Q=>bR 2 [(0,0),(1,1)] (i7 own n i0 i0 m es) st∧Q (.exit 0) (jM own n i0 i es').st
theorem Tp (own:Bool) (n:Nat) (i0 i m:Int) (es es':List AV) (Q:AV→ae→Nat→Prop):aL Tryz.prog opts0 40 (aq [] [(3,G8 own n i0 i m es es')] aA [] []) 145 [eG,I i0,I m] [(0,some (.cells [.rsl own 1 0 n 37])),(1,some (.cells es))] 2 Q=
  ((((pW i0)∧(vV m)∧vU∧(pW i0)∧True)∧pV∧(kD n own)∧(sU es)∧True)∧Q (AV.bool (ar i0 i)) [(vT n own),(1,some (Blk.cells es'))] 94):=by kernel_rfl
def G9 (K:Nat) (n:Nat) (es es':List AV):dj:=fun f _ _ _=>match Nat.beq f 215 with
 |true=>some (.part [0,1] (.tuple []) [(0,some (.cells [.rsl true K 0 (n+1) 37])),(K,some (.cells es))] 20)
 |false=>match Nat.beq f 144 with
  |true=>some (.part [0,K] (.tuple []) [(0,some (.cells [.rsl true K 0 (n+1) 37])),(K,some (.cells es'))] 1)
  |false=>none
def Ha (K:Nat) (es:List AV):dj:=fun f _ _ _=>match Nat.beq f 215 with
 |true=>some (.part [0] (.tuple []) [(0,some (.cells [.rsl true K 0 1 37])),(K,some (.cells es))] 20)
 |false=>match Nat.beq f 144 with
  |true=>some (.part [0,K] (.tuple []) [(0,some (.cells [.rsl true K 0 1 37])),(K,some (.cells es))] 1)
  |false=>none
abbrev vX (n:Nat):=(0,some (Blk.cells [AV.rsl true 12 0 (n+1) 37]))
theorem Tq (n:Nat) (es es1 es2:List AV) (o:Ob) (M N L C:AV) (Q:AV→ae→Nat→Prop):aL Tryz.prog opts0 40 (aq [] [] (G9 12 n es1 es2) [] []) 102 [eG,.iface 33 (.agg (aa o M N L C))] [(0,some (.cells [.rsl true 1 0 n 37])),(1,some (.cells es))] 2 Q=
  (BodySem Tryz.prog opts0.glob 215 [AV.ptr 0 0,AV.iface 33 (AV.agg (aa o M N L C))] [(1,some (Blk.cells es)),(0,some (Blk.cells [AV.rsl true 1 0 n 37]))] 5 (AV.tuple []) [(vX n),(12,some (Blk.cells es1))] 25∧BodySem Tryz.prog opts0.glob 144 [AV.iface 149 (AV.ptr 0 0),I (af IntKind.i64 (Int.ofNat (n+1)-1))] [(12,some (Blk.cells es1)),(vX n)] 34 (AV.tuple []) [(vX n),(12,some (Blk.cells es2))] 35∧Q (AV.tuple []) [(12,some (Blk.cells es2)),(1,none),(vX n),(1,some (Blk.cells es))] 35):=by kernel_rfl
abbrev vY:=(0,some (Blk.cells [AV.rsl true 11 0 1 37]))
theorem Ts (es1:List AV) (o:Ob) (M N L C:AV) (Q:AV→ae→Nat→Prop):aL Tryz.prog opts0 40 (aq [] [] (Ha 11 es1) [] []) 102 [eG,.iface 33 (.agg (aa o M N L C))] [(0,some (.cells [.nilsl]))] 1 Q=
  (BodySem Tryz.prog opts0.glob 215 [AV.ptr 0 0,AV.iface 33 (AV.agg (aa o M N L C))] [(0,some (Blk.cells [AV.nilsl]))] 4 (AV.tuple []) [vY,(11,some (Blk.cells es1))] 24∧BodySem Tryz.prog opts0.glob 144 [AV.iface 149 (AV.ptr 0 0),I 0] [(11,some (Blk.cells es1)),vY] 33 (AV.tuple []) [vY,(11,some (Blk.cells es1))] 34∧Q (AV.tuple []) [(11,some (Blk.cells es1)),vY] 34):=by kernel_rfl
def Hb (own r:Bool) (n:Nat) (es1 es2 x:List AV):dj:=fun f _ _ _=>match Nat.beq f 213 with
 |true=>some (.part [1] (.tuple []) [(1,some (.cells es1))] 1)
 | false=>match Nat.beq f 145 with
  |true=>some (.part [0,1] (.bool r) [(0,some (.cells [.rsl own 1 0 (n+1) 37])),(1,some (.cells es2))] 1)
  |false=>match Nat.beq f 214 with
   |true=>some (.part [0,1] (.iface 33 (.agg x)) [(0,some (.cells [.rsl own 1 0 n 37])),(1,some (.cells es2))] 1)
   |false=>none
theorem Tt (own r:Bool) (n:Nat) (es es1 es2:List AV) (o:Ob) (M N L C:AV) (Q:AV→ae→Nat→Prop):aL Tryz.prog opts0 40 (aq [] [] (Hb own r n es1 es2 (aa o M N L C)) [] []) 104 [eG] [(0,some (.cells [.rsl own 1 0 (n+1) 37])),(1,some (.cells es))] 2 Q=
  (BodySem Tryz.prog opts0.glob 213 [AV.rsl own 1 0 (n+1) 37,I 0,I (af IntKind.i64 (Int.ofNat (n+1)-1))] [(1,some (Blk.cells es))] 14 (AV.tuple []) [(1,some (Blk.cells es1))] 15∧BodySem Tryz.prog opts0.glob 145 [AV.iface 149 (AV.ptr 0 0),I 0,I (af IntKind.i64 (Int.ofNat (n+1)-1))] [(1,some (Blk.cells es1)),(0,some (Blk.cells [AV.rsl own 1 0 (n+1) 37]))] 18 (AV.bool r) [(0,some (Blk.cells [AV.rsl own 1 0 (n+1) 37])),(1,some (Blk.cells es2))] 19∧BodySem Tryz.prog opts0.glob 214 [AV.ptr 0 0] [(1,some (Blk.cells es2)),(0,some (Blk.cells [AV.rsl own 1 0 (n+1) 37]))] 22 (AV.iface 33 (AV.agg (aa o M N L C))) [(vT n own),(1,some (Blk.cells es2))] 23∧Q (AV.iface 33 (AV.agg (aa o M N L C))) [(1,some (Blk.cells es2)),(vT n own),(1,some (Blk.cells es))] 23):=by kernel_rfl
end
end Go.Proofs.YtjhggnebkfpgcaaGreatDoor
namespace Go.Proofs.YtjhggnebkfpgcaaGreatDoor
section
variable {α:Type}
def cA (l:List α) (i j:Nat):List α:=match l[i]?,l[j]? with
 |some a,some b=>(l.set i b).set j a
 |_,_=>l
theorem vZ (l:List α) (i j:Nat):(cA l i j).Perm l:=by
 unfold cA
 cases hi:l[i]? with
 |none=>exact .refl _
 | some a=>
  cases hj:l[j]? with
  |none=>exact .refl _
  |some b=>
   obtain ⟨h1,rfl⟩:=List.getElem?_eq_some_iff.1 hi
   obtain ⟨h2,rfl⟩:=List.getElem?_eq_some_iff.1 hj
   exact List.set_set_perm h1 h2
theorem fx (l:List α) (i j:Nat):(cA l i j).length=l.length:=(vZ l i j).length_eq
theorem lP {l:List α} {i j:Nat} (hi:i<l.length) (hj:j<l.length) (k:Nat):(cA l i j)[k]? =if k=j then l[i]? else if k=i then l[j]? else l[k]? :=by
 unfold cA
 rw[List.getElem?_eq_getElem hi,List.getElem?_eq_getElem hj]
 simp only[List.getElem?_set,List.length_set]
 by_cases h1:j=k
 ·subst h1;simp[hj]
 ·by_cases h2:i=k
  ·subst h2;simp[hi,h1,Ne.symm h1]
  ·simp[h1,h2,Ne.symm h1,Ne.symm h2]
theorem AX {l:List α} {i j:Nat} (hi:i<l.length) (hj:j<l.length) {k:Nat} (h1:k≠i) (h2:k≠j):(cA l i j)[k]? =l[k]? :=by
 rw[lP hi hj,if_neg h2,if_neg h1]
variable (lt:α→α→Bool)
def Hp (l:List α) (n:Nat):Prop:=∀k a b,0<k→k<n→l[k]? =some a→l[(k-1)/2]? =some b→lt a b=false
def jN:Nat→List α→Nat→List α
 |0,l,_=>l
 |f+1,l,j=>if (j-1)/2=j then l else match l[j]?,l[(j-1)/2]? with
  |some a,some b=>if lt a b=true then jN f (cA l ((j-1)/2) j) ((j-1)/2) else l
  |_,_=>l
def dK (l:List α) (i n:Nat):Nat:=if 2*i+2<n then match l[2*i+2]?,l[2*i+1]? with
  |some a,some b=>if lt a b=true then 2*i+2 else 2*i+1
  |_,_=>2*i+1
 else 2*i+1
def eS:Nat→List α→Nat→Nat→List α
 |0,l,_,_=>l
 |f+1,l,i,n=>if n≤2*i+1 then l else match l[dK lt l i n]?,l[i]? with
  |some a,some b=>if lt a b=true then eS f (cA l i (dK lt l i n)) (dK lt l i n) n else l
  |_,_=>l
def fy (l:List α) (x:α):List α:=jN lt (l.length+1) (l++[x]) l.length
def cF (l:List α):List α:=eS lt l.length (cA l 0 (l.length-1)) 0 (l.length-1)
def iA:Nat→List α→List α
 |0,_=>[]
 |f+1,l=>match (cF lt l)[l.length-1]? with
  |none=>[]
  |some x=>x::iA f ((cF lt l).take (l.length-1))
variable {lt}
structure OrdL (lt:α→α→Bool):Prop where
 tr:∀a b c,lt b a=false→lt c b=false→lt c a=false
 asy:∀a b,lt a b=true→lt b a=false
theorem OrdL.ir (h:OrdL lt) (a:α):lt a a=false:=by
 cases e:lt a a with
 |false=>rfl
 |true=>rw[h.asy a a e] at e;cases e
theorem Hc:∀ (f:Nat) (l:List α) (j:Nat),(jN lt f l j).Perm l
 |0,_,_=> .refl _
 | f+1,l,j=>by
  unfold jN
  split
  ·exact .refl _
  split
  ·split
   ·exact (Hc f _ _).trans (vZ _ _ _)
   ·exact .refl _
  ·exact .refl _
def Tu (lt:α→α→Bool) (l:List α) (j:Nat):Prop:=(∀k a b,0<k→k≠j→l[k]? =some a→l[(k-1)/2]? =some b→lt a b=false)∧(∀k a b,0<j→0<k→(k-1)/2=j→l[k]? =some a→l[(j-1)/2]? =some b→lt a b=false)
theorem He (o:OrdL lt):∀ (f:Nat) (l:List α) (j:Nat),j<f→j<l.length→Tu lt l j→Hp lt (jN lt f l j) l.length
 |0,_,_,h,_,_=>absurd h (Nat.not_lt_zero _)
 | f +1,l,j,hf,hj,⟨h1,h2⟩=>by
  unfold jN
  by_cases e:(j-1)/2=j
  ·rw[if_pos e]
   intro k a b h0 _ ha hb
   exact h1 k a b h0 (by omega) ha hb
  rw[if_neg e]
  have hi:(j-1)/2<l.length:=by omega
  have gj:=List.getElem?_eq_getElem hj
  have gi:=List.getElem?_eq_getElem hi
  revert gj gi
  generalize l[j]=x
  generalize l[(j-1)/2]=y
  intro gj gi
  simp only[gj,gi]
  by_cases hl:lt x y=true
  ·rw[if_pos hl]
   have:=He o f (cA l ((j-1)/2) j) ((j-1)/2) (by omega) (by rw[fx];exact hi) ?_
   ·rw[fx] at this;exact this
   have hyx:=o.asy x y hl
   refine ⟨fun k a b h0 hk ha hb=> ?_,fun k a b h0 h0' hk ha hb=> ?_⟩
   ·rw[lP hi hj] at ha hb
    by_cases k1:k=j
    ·subst k1
     rw[if_pos rfl,gi] at ha
     rw[if_neg e,if_pos rfl,gj] at hb
     cases ha;cases hb
     exact hyx
    rw[if_neg k1,if_neg hk] at ha
    by_cases k2:(k-1)/2=j
    ·rw[if_pos k2,gi] at hb
     cases hb
     exact h2 k a y (by omega) h0 k2 ha gi
    rw[if_neg k2] at hb
    by_cases k3:(k-1)/2=(j-1)/2
    ·rw[if_pos k3,gj] at hb
     cases hb
     exact o.tr x y a hyx (h1 k a y h0 k1 ha (by rw[k3];exact gi))
    ·rw[if_neg k3] at hb
     exact h1 k a b h0 k1 ha hb
   ·rw[lP hi hj,if_neg (by omega),if_neg (by omega)] at hb
    have hyb:=h1 ((j-1)/2) y b h0 (by omega) gi hb
    rw[lP hi hj] at ha
    by_cases k1:k=j
    ·rw[if_pos k1,gi] at ha
     cases ha
     exact hyb
    rw[if_neg k1,if_neg (by omega)] at ha
    exact o.tr b y a hyb (h1 k a y h0' k1 ha (by rw[hk];exact gi))
  ·rw[if_neg hl]
   intro k a b h0 _ ha hb
   by_cases k1:k=j
   ·subst k1
    rw[gj] at ha
    rw[gi] at hb
    cases ha;cases hb
    exact Bool.eq_false_iff.2 hl
   ·exact h1 k a b h0 k1 ha hb
theorem Hf (l:List α) (x:α):(fy lt l x).Perm (l++[x]):=Hc _ _ _
theorem Hg (l:List α) (x:α):(fy lt l x).length=l.length+1:=by rw[(Hf l x).length_eq,List.length_append];rfl
theorem Tv (o:OrdL lt) {l:List α} (h:Hp lt l l.length) (x:α):Hp lt (fy lt l x) (fy lt l x).length:=by
 have:=He o (l.length+1) (l++[x]) l.length (by omega) (by simp) ⟨fun k a b h0 hk ha hb=> ?_,fun k a b h0 h0' hk ha hb=> ?_⟩
 ·rw[Hg]
  simpa [fy] using this
 ·have hlt:k<l.length:=by
   have:=(List.getElem?_eq_some_iff.1 ha).1
   simp at this
   omega
  rw[List.getElem?_append_left hlt] at ha
  rw[List.getElem?_append_left (by omega)] at hb
  exact h k a b h0 hlt ha hb
 ·have:=(List.getElem?_eq_some_iff.1 ha).1
  simp at this
  omega
def Tw (lt:α→α→Bool) (l:List α) (i n:Nat):Prop:=(∀k a b,0<k→k<n→(k-1)/2≠i→l[k]? =some a→l[(k-1)/2]? =some b→lt a b=false)∧(∀k a b,0<i→0<k→k<n→(k-1)/2=i→l[k]? =some a→l[(i-1)/2]? =some b→lt a b=false)
theorem v6 (l:List α) (i n:Nat) (h:2*i+1<n):dK lt l i n<n∧(dK lt l i n=2*i+1∨dK lt l i n=2*i+2):=by
 unfold dK
 split
 ·split
  ·split<;>omega
  ·omega
 ·omega
theorem Tx (o:OrdL lt) {l:List α} {i n:Nat} (h:2*i+1<n) (hn:n≤l.length) {k:Nat} (hk:k<n) (h0:0<k) (hp:(k-1)/2=i) {a b:α} (ha:l[k]? =some a) (hb:l[dK lt l i n]? =some b):lt a b=false:=by
 have hk2:k=2*i+1∨k=2*i+2:=by omega
 unfold dK at hb
 by_cases e:2*i+2<n
 ·rw[if_pos e] at hb
  have g2:=List.getElem?_eq_getElem (show 2*i+2<l.length by omega)
  have g1:=List.getElem?_eq_getElem (show 2*i+1<l.length by omega)
  revert g2 g1
  generalize l[2*i+2]'(by omega)=y
  generalize l[2*i+1]'(by omega)=x
  intro g2 g1
  simp only[g2,g1] at hb
  by_cases hl:lt y x=true
  ·rw[if_pos hl,g2] at hb
   cases hb
   rcases hk2 with rfl|rfl
   ·rw[g1] at ha;cases ha;exact o.asy _ _ hl
   ·rw[g2] at ha;cases ha;exact o.ir _
  ·rw[if_neg hl,g1] at hb
   cases hb
   rcases hk2 with rfl|rfl
   ·rw[g1] at ha;cases ha;exact o.ir _
   ·rw[g2] at ha;cases ha;exact Bool.eq_false_iff.2 hl
 ·rw[if_neg e] at hb
  obtain rfl:k=2*i+1:=by omega
  rw[ha] at hb
  cases hb
  exact o.ir _
theorem AY:∀ (f:Nat) (l:List α) (i n:Nat),(eS lt f l i n).Perm l
 |0,_,_,_=> .refl _
 | f+1,l,i,n=>by
  unfold eS
  split
  ·exact .refl _
  split
  ·split
   ·exact (AY f _ _ _).trans (vZ _ _ _)
   ·exact .refl _
  ·exact .refl _
theorem Hh (f:Nat) (l:List α) (i n:Nat):(eS lt f l i n).length=l.length:=(AY f l i n).length_eq
theorem Hi:∀ (f:Nat) (l:List α) (i n:Nat),n≤l.length→∀k,n≤k→(eS lt f l i n)[k]? =l[k]?
 |0,_,_,_,_,_,_=>rfl
 | f+1,l,i,n,hn,k,hk=>by
  unfold eS
  split
  ·rfl
  rename_i h
  have hc:=v6 (lt:=lt) l i n (by omega)
  split
  ·split
   ·rw[Hi f _ _ n (by rw[fx];exact hn) k hk,AX (by omega) (by omega) (by omega) (by omega)]
   ·rfl
  ·rfl
theorem Hj (o:OrdL lt):∀ (f:Nat) (l:List α) (i n:Nat),n≤i+f→i<l.length→n≤l.length→Tw lt l i n→Hp lt (eS lt f l i n) n
 |0,l,i,n,hf,_,_,⟨h1,_⟩=>fun k a b h0 hk ha hb=>h1 k a b h0 hk (by omega) ha hb
 | f +1,l,i,n,hf,hi,hn,⟨h1,h2⟩=>by
  unfold eS
  by_cases e:n≤2*i+1
  ·rw[if_pos e]
   exact fun k a b h0 hk ha hb=>h1 k a b h0 hk (by omega) ha hb
  rw[if_neg e]
  have hc:=v6 (lt:=lt) l i n (by omega)
  have hle:∀k a b,0<k→k<n→(k-1)/2=i→l[k]? =some a→l[dK lt l i n]? =some b→lt a b=false:=fun k a b h0 hk hp ha hb=>Tx o (by omega) hn hk h0 hp ha hb
  revert hc hle
  generalize dK lt l i n=j
  intro ⟨hjn,hj⟩ hle
  have hjl:j<l.length:=by omega
  have gj:=List.getElem?_eq_getElem hjl
  have gi:=List.getElem?_eq_getElem hi
  revert gj gi
  generalize l[j]=x
  generalize l[i]=y
  intro gj gi
  simp only[gj,gi]
  have hpj:(j-1)/2=i:=by omega
  by_cases hl:lt x y=true
  ·rw[if_pos hl]
   have hyx:=o.asy x y hl
   refine Hj o f (cA l i j) j n (by omega) (by rw[fx];exact hjl) (by rw[fx];exact hn) ⟨fun k a b h0 hk hp ha hb=> ?_,fun k a b _ h0 hk hp ha hb=> ?_⟩
   ·rw[lP hi hjl] at ha hb
    by_cases k1:k=j
    ·subst k1
     rw[if_pos rfl,gi] at ha
     rw[if_neg hp,if_pos hpj,gj] at hb
     cases ha;cases hb
     exact hyx
    rw[if_neg k1] at ha
    rw[if_neg hp] at hb
    by_cases k2:k=i
    ·subst k2
     rw[if_pos rfl,gj] at ha
     rw[if_neg (by omega)] at hb
     cases ha
     exact h2 j x b h0 (by omega) hjn hpj gj hb
    rw[if_neg k2] at ha
    by_cases k3:(k-1)/2=i
    ·rw[if_pos k3,gj] at hb
     cases hb
     exact hle k a x h0 hk k3 ha gj
    ·rw[if_neg k3] at hb
     exact h1 k a b h0 hk k3 ha hb
   ·rw[lP hi hjl,if_neg (by omega),if_neg (by omega)] at ha
    rw[hpj,lP hi hjl,if_neg (by omega),if_pos rfl,gj] at hb
    cases hb
    exact h1 k a x h0 hk (by omega) ha (by rw[hp];exact gj)
  ·rw[if_neg hl]
   intro k a b h0 hk ha hb
   by_cases k1:(k-1)/2=i
   ·rw[k1,gi] at hb
    cases hb
    exact o.tr y x a (Bool.eq_false_iff.2 hl) (hle k a x h0 hk k1 ha gj)
   ·exact h1 k a b h0 hk k1 ha hb
theorem Ty (o:OrdL lt) {l:List α} {n:Nat} (hn:n≤l.length) (h:Hp lt l n) {x:α} (hx:l[0]? =some x):∀k,k<n→∀a,l[k]? =some a→lt a x=false:=by
 intro k
 induction k using Nat.strongRecOn with
 | _ k ih=>
  intro hk a ha
  by_cases h0:k=0
  ·subst h0
   rw[ha] at hx
   cases hx
   exact o.ir _
  ·have g:=List.getElem?_eq_getElem (show (k-1)/2<l.length by omega)
   exact o.tr x _ a (ih ((k-1)/2) (by omega) (by omega) _ g) (h k a _ (by omega) hk ha g)
theorem v7 (o:OrdL lt) {l:List α} (h:Hp lt l l.length) (hl:0<l.length):∃x r,(cF lt l)[l.length-1]? =some x∧(cF lt l).take (l.length-1)=r∧cF lt l=r++[x]∧(x::r).Perm l∧Hp lt r r.length∧(∀a∈r,lt a x=false)∧r.length=l.length-1:=by
 have gx:=List.getElem?_eq_getElem hl
 revert gx
 generalize l[0]=x
 intro gx
 have hlen:(cF lt l).length=l.length:=by unfold cF;rw[Hh,fx]
 have hx:(cF lt l)[l.length-1]? =some x:=by
  unfold cF
  rw[Hi _ _ _ _ (by rw[fx];omega) _ (Nat.le_refl _),lP hl (by omega),if_pos rfl,gx]
 have hr:cF lt l=(cF lt l).take (l.length-1)++[x]:=by
  obtain ⟨h1,h2⟩:=List.getElem?_eq_some_iff.1 hx
  have:=List.take_append_drop (l.length-1) (cF lt l)
  rw[List.drop_eq_getElem_cons h1,h2,List.drop_of_length_le (by omega)] at this
  exact this.symm
 have hp:(x::(cF lt l).take (l.length-1)).Perm l:=by
  have h1:(cF lt l).Perm l:=(AY _ _ _ _).trans (vZ _ _ _)
  rw[hr] at h1
  exact (List.perm_append_comm (l₁:=[x])).trans h1
 have hrl:((cF lt l).take (l.length-1)).length=l.length-1:=by rw[List.length_take];omega
 refine ⟨x,_,hx,rfl,hr,hp, ?_,fun a ha=> ?_,hrl⟩
 ·have:=Hj o l.length (cA l 0 (l.length-1)) 0 (l.length-1) (by omega) (by rw[fx];exact hl) (by rw[fx];omega) ⟨fun k a b h0 hk hp ha hb=> ?_,fun _ _ _ h=>absurd h (Nat.lt_irrefl 0)⟩
  ·rw[hrl]
   intro k a b h0 hk ha hb
   rw[List.getElem?_take_of_lt hk] at ha
   rw[List.getElem?_take_of_lt (by omega)] at hb
   exact this k a b h0 hk ha hb
  ·rw[AX hl (by omega) (by omega) (by omega)] at ha
   rw[AX hl (by omega) (by omega) (by omega)] at hb
   exact h k a b h0 (by omega) ha hb
 ·have:a∈l:=hp.subset (List.mem_cons_of_mem _ ha)
  obtain ⟨k,hk,rfl⟩:=List.mem_iff_getElem.1 this
  exact Ty o (Nat.le_refl _) h gx k hk _ (List.getElem?_eq_getElem hk)
theorem AZ (o:OrdL lt):∀ (f:Nat) (l:List α),l.length=f→Hp lt l l.length→(iA lt f l).Perm l∧(iA lt f l).Pairwise fun a b=>lt b a=false
 |0,l,hl,_=>by
  obtain rfl:=List.length_eq_zero_iff.1 hl
  exact ⟨.refl _,.nil⟩
 | f+1,l,hl,h=>by
  obtain ⟨x,r,h1,h2,h3,h4,h5,h6,h7⟩:=v7 o h (by omega)
  obtain ⟨i1,i2⟩:=AZ o f r (by omega) h5
  have e:iA lt (f+1) l=x::iA lt f r:=by
   rw[iA,h1,h2]
  rw[e]
  exact ⟨(i1.cons x).trans h4,.cons (fun a ha=>h6 a (i1.subset ha)) i2⟩
theorem Tz {P S:List α} (hp:P.Perm S) (h1:P.Pairwise fun a b=>lt b a=false) (h2:S.Pairwise fun a b=>lt b a=false) (ha:∀a∈S,∀b∈S,lt a b=false→lt b a=false→a=b):P=S:=
 List.Perm.eq_of_pairwise (le:=fun a b=>lt b a=false) (fun a b m1 m2 k1 k2=>ha a (hp.subset m1) b m2 k2 k1) h1 h2 hp
end
end Go.Proofs.YtjhggnebkfpgcaaGreatDoor
namespace Go.Proofs.YtjhggnebkfpgcaaGreatDoor
open Go Go.RowKit
open Go.Proofs.Abs
theorem A0 (a b:UInt8) (x y:List UInt8):cu (a::x) (b::y)=if a.toNat<b.toNat then true else if a.toNat=b.toNat then cu x y else false:=by
 rw[cu]
 by_cases h:a.toNat<b.toNat
 ·rw[blt_iff.2 h,if_pos h]
 ·rw[if_neg h]
  have:Nat.blt a.toNat b.toNat=false:=by
   cases e:Nat.blt a.toNat b.toNat with
   |false=>rfl
   |true=>exact absurd (blt_iff.1 e) h
  rw[this]
  dsimp only
  by_cases h2:a.toNat=b.toNat
  ·rw[if_pos h2,beq_iff.2 h2]
  ·rw[if_neg h2,beq_false_iff.2 h2]
theorem Hk:∀a b:List UInt8,cu a b=true→cu b a=false
 |[],[],h=>by cases h
 |[],_::_,_=>by rw[cu]
 |_::_,[],h=>by rw[cu] at h;cases h
 | a::x,b::y,h=>by
  have ih:=Hk x y
  rw[A0] at h⊢
  by_cases h1:a.toNat<b.toNat
  ·rw[if_neg (by omega),if_neg (by omega)]
  ·rw[if_neg h1] at h
   by_cases h2:a.toNat=b.toNat
   ·rw[if_pos h2] at h
    rw[if_neg (by omega),if_pos h2.symm]
    exact ih h
   ·rw[if_neg h2] at h;cases h
theorem Hl:∀a b c:List UInt8,cu b a=false→cu c b=false→cu c a=false
 |[],b,c,h1,h2=>by
  cases c<;>rw[cu]
 |a::x,[],c,h1,h2=>by rw[cu] at h1;cases h1
 |a::x,b::y,[],h1,h2=>by rw[cu] at h2;cases h2
 | a::x,b::y,c::z,h1,h2=>by
  have ih:=Hl x y z
  rw[A0] at h1 h2⊢
  by_cases k1:b.toNat<a.toNat
  ·rw[if_pos k1] at h1;cases h1
  rw[if_neg k1] at h1
  by_cases k2:c.toNat<b.toNat
  ·rw[if_pos k2] at h2;cases h2
  rw[if_neg k2] at h2
  rw[if_neg (by omega)]
  by_cases k3:c.toNat=a.toNat
  ·rw[if_pos k3]
   rw[if_pos (by omega)] at h1 h2
   exact ih h1 h2
  ·rw[if_neg k3]
theorem Hm:∀a b:List UInt8,cu a b=false→cu b a=false→a=b
 |[],[],_,_=>rfl
 |[],_::_,h,_=>by rw[cu] at h;cases h
 |_::_,[],_,h=>by rw[cu] at h;cases h
 |a::x,b::y,h1,h2=>by
  have ih:=Hm x y
  rw[A0] at h1 h2
  by_cases k1:a.toNat<b.toNat
  ·rw[if_pos k1] at h1;cases h1
  by_cases k2:b.toNat<a.toNat
  ·rw[if_pos k2] at h2;cases h2
  have k3:a.toNat=b.toNat:=by omega
  rw[if_neg k1,if_pos k3] at h1
  rw[if_neg k2,if_pos k3.symm] at h2
  rw[ih h1 h2,show a=b from UInt8.toNat.inj k3]
def aP (a b:Ob):Bool:=match decide (a.d0.has=b.d0.has) with
 |false=>a.d0.has
 |true=>match aF a.d0.t b.d0.t with
  |false=>ar b.d0.t a.d0.t
  |true=>cu a.id b.id
theorem v8 (a b:Ob):aP a b=if a.d0.has=b.d0.has then (if a.d0.t=b.d0.t then cu a.id b.id else decide (b.d0.t<a.d0.t)) else a.d0.has:=by
 unfold aP
 by_cases h:a.d0.has=b.d0.has
 ·rw[decide_eq_true h,if_pos h]
  dsimp only
  by_cases h2:a.d0.t=b.d0.t
  ·rw[beqInt_iff.2 h2,if_pos h2]
  ·rw[beqInt_false.2 h2,if_neg h2]
   dsimp only
   by_cases h3:b.d0.t<a.d0.t
   ·rw[ltInt_iff.2 h3,decide_eq_true h3]
   ·rw[ltInt_false.2 (by omega),decide_eq_false h3]
 ·rw[decide_eq_false h,if_neg h]
theorem ordO:OrdL aP where
 tr a b c h1 h2:=by
  rw[v8] at h1 h2⊢
  have ih:=Hl a.id b.id c.id
  revert h1 h2
  generalize a.d0.has=p
  generalize b.d0.has=q
  generalize c.d0.has=r
  intro h1 h2
  by_cases e1:b.d0.t=a.d0.t<;>by_cases e2:c.d0.t=b.d0.t<;>by_cases e3:c.d0.t=a.d0.t<;>cases p<;>cases q<;>cases r<;>simp_all<;>omega
 asy a b h1:=by
  rw[v8] at h1⊢
  have ih:=Hk a.id b.id
  revert h1
  generalize a.d0.has=p
  generalize b.d0.has=q
  intro h1
  cases p<;>cases q<;>simp only[if_true,reduceCtorEq,if_false] at h1⊢ <;>(try (first|rfl|cases h1))
  all_goals
   by_cases e1:a.d0.t=b.d0.t
   ·rw[if_pos e1] at h1
    rw[if_pos e1.symm]
    exact ih h1
   ·rw[if_neg e1] at h1
    rw[if_neg (fun h=>e1 h.symm)]
    exact decide_eq_false (by have:=of_decide_eq_true h1;omega)
theorem TA {a b:Ob} (h1:aP a b=false) (h2:aP b a=false):a.id=b.id:=by
 rw[v8] at h1 h2
 refine Hm _ _ ?_ ?_
 all_goals
  revert h1 h2
  generalize a.d0.has=p
  generalize b.d0.has=q
  intro h1 h2
  by_cases e1:a.d0.t=b.d0.t<;>by_cases e2:b.d0.t=a.d0.t<;>cases p<;>cases q<;>simp_all<;>omega
def au (l:List Ob):List AV:=flat (l.map aj)
theorem pX (o:Ob) (l:List Ob):au (o::l)=ao o++au l:=rfl
theorem pY (a b:List Ob):au (a++b)=au a++au b:=by rw[au,List.map_append,gv];rfl
theorem wd (o:Ob):(ao o).length=37:=rfl
theorem i8:∀l:List Ob,(au l).length=l.length*37
 |[]=>rfl
 |o::r=>by rw[pX,List.length_append,i8 r,wd,List.length_cons];omega
theorem bw:∀l:List Ob,ad (au l)=true
 |[]=>rfl
 |o::r=>by rw[pX,dh,dr,bw r];rfl
theorem we {l:List Ob} {i:Nat} {o:Ob} (h:l[i]? =some o):∃p s,au l=p++(ao o++s)∧p.length=i*37∧p=au (l.take i)∧s=au (l.drop (i+1)):=by
 obtain ⟨hi,rfl⟩:=List.getElem?_eq_some_iff.1 h
 refine ⟨au (l.take i),au (l.drop (i+1)), ?_, ?_,rfl,rfl⟩
 ·rw[←pX,←pY,←List.drop_eq_getElem_cons hi,List.take_append_drop]
 ·rw[i8,List.length_take]
  congr 1
  omega
theorem Hn:∀ (p r:List AV) (k n:Nat),chunk (p++r) (p.length+k) n=chunk r k n
 |[],r,k,n=>by rw[List.nil_append,List.length_nil,Nat.zero_add]
 | a::p,r,k,n=>by
  have ih:=Hn p r k n
  rw[List.length_cons,show p.length+1+k=(p.length+k)+1 by omega,List.cons_append]
  cases n with
  |zero=>
   rw[chunk]
   cases r<;>cases k<;>rw[chunk]
  |succ n=>rw[chunk];exact ih
theorem TB:∀ (s:List AV),chunk s 0 0=some []
 |[]=>by rw[chunk]
 |_::_=>by rw[chunk]
theorem A4:∀ (x s:List AV),chunk (x++s) 0 x.length=some x
 |[],s=>TB s
 |a::x,s=>by rw[List.cons_append,List.length_cons,chunk,A4 x s];rfl
theorem A5 (p m s:List AV):chunk (p++(m++s)) p.length m.length=some m:=by
 rw[show p.length=p.length+0 from rfl,Hn,A4]
theorem TC:∀ (p r:List AV) (k:Nat),c7 (p++r) (p.length+k)=c7 r k:=fun p r k=>by
 rw[fb,fb,List.getElem?_append_right (by omega)]
 congr 1
 omega
theorem sX {l:List Ob} {i:Nat} {o:Ob} (h:l[i]? =some o):bh Tryz.prog 33 (au l) (0+(Int.ofNat i).toNat*37)=some (.agg (ao o)):=by
 obtain ⟨p,s,e,hp,_⟩:=we h
 have h1:eY Tryz.prog 33=some true:=by kernel_rfl
 have h2:bJ Tryz.prog 33=some 37:=by kernel_rfl
 simp only[bh,h1,h2,Nat.zero_add,Int.toNat_natCast,Int.ofNat_eq_natCast]
 rw[e,←hp,show (37:Nat)=(ao o).length from rfl,A5]
 rfl
theorem Ho {l:List Ob} {i:Nat} {o:Ob} (h:l[i]? =some o):bh Tryz.prog 25 (au l) (0+(Int.ofNat i).toNat*37+7+0)=some (.agg [.bool o.d0.has,I o.d0.t]):=by
 obtain ⟨p,s,e,hp,_⟩:=we h
 have h1:eY Tryz.prog 25=some true:=by kernel_rfl
 have h2:bJ Tryz.prog 25=some 2:=by kernel_rfl
 simp only[bh,h1,h2,Nat.zero_add,Int.toNat_natCast,Int.ofNat_eq_natCast,Nat.add_zero]
 have h3:=A5 (p++(ao o).take 7) [.bool o.d0.has,I o.d0.t] ((ao o).drop 9++s)
 rw[List.append_assoc,List.length_append,hp,show ((ao o).take 7).length=7 from rfl] at h3
 rw[e]
 exact congrArg (Option.map AV.agg) h3
theorem Hq {l:List Ob} {i:Nat} {o:Ob} (h:l[i]? =some o):bh Tryz.prog 9 (au l) (0+(Int.ofNat i).toNat*37+0)=some (.str o.id):=by
 obtain ⟨p,s,e,hp,_⟩:=we h
 have h1:eY Tryz.prog 9=some false:=by kernel_rfl
 simp only[bh,h1,Nat.zero_add,Int.toNat_natCast,Int.ofNat_eq_natCast,Nat.add_zero]
 rw[e,←hp,show p.length=p.length+0 from rfl,TC]
 rfl
theorem Hr {l:List Ob} {i:Nat} (hi:i<l.length) (o:Ob):(au l).take (0+(Int.ofNat i).toNat*37)++(ao o++(au l).drop (0+(Int.ofNat i).toNat*37+ab (ao o)))=au (l.set i o):=by
 obtain ⟨p,s,e,hp,h1,h2⟩:=we (List.getElem?_eq_getElem hi)
 rw[List.set_eq_take_append_cons_drop,if_pos hi,pY,pX,←h1,←h2,aI,wd]
 simp only[Nat.zero_add,Int.toNat_natCast,Int.ofNat_eq_natCast]
 rw[←hp,e,List.take_append_of_le_length (Nat.le_refl _),List.take_length]
 congr 2
 rw[List.drop_append,List.drop_of_length_le (by omega),List.nil_append,Nat.add_sub_cancel_left,List.drop_append,wd,Nat.sub_self,List.drop_zero,List.drop_of_length_le (by rw[wd];exact Nat.le_refl _),List.nil_append]
theorem f6 {i n:Nat} (h:i<n):(cJ (Int.ofNat i)&&(Nat.blt (Int.ofNat i).toNat n&&true))=true:=by
 simp only[cJ,Bool.true_and,Bool.and_true]
 exact blt_iff.2 h
theorem wg {es es':List AV} {v:AV} {k m:Nat} (h:Nat.ble m k=true) (hv:ac v=true) (hc:ad es'=true) (he:es=es') {H:ae} (hg:hget H 1=some (.cells es)):uK 2 v [(1,some (.cells es'))] k v H m:=
 ⟨h,⟨v,Frz.closed _ hv,.refl _⟩,⟨rfl,.cells es,.cells es',hg,by subst he;exact FrzL.closed _ hc,WkL.refl _⟩,trivial⟩
theorem TD {own:Bool} {n:Nat} {l:List Ob} {i j:Nat} {a b:Ob} (ha:l[i]? =some a) (hb:l[j]? =some b) (hi:i<n) (hj:j<n):BodySem Tryz.prog opts0.glob 212 [.rsl own 1 0 n 37,I (.ofNat i),I (.ofNat j)] [(1,some (.cells (au l)))] 2 (.bool (aP a b)) [(1,some (.cells (au l)))] 60:=by
 have hc:=bw l
 refine ei (k:=2) (A:=G5 a.d0 b.d0 a.id b.id) base0 am (aN (LsOk.no rfl)) ?_
 rw[Tj]
 refine aH (f6 hi) ⟨Ho ha,aH (f6 hj) ⟨Ho hb,az (fun e=> ?_) (fun e=>az (fun e2=> ?_) (fun e2=>aH (f6 hi) ⟨Hq ha,aH (f6 hj) ⟨Hq hb, ?_⟩⟩))⟩⟩
 ·have e':aP a b=a.d0.has:=by unfold aP;rw[show decide (a.d0.has=b.d0.has)=false by simpa using e]
  rw[e'];exact wg rfl rfl hc rfl rfl
 ·have e':aP a b=ar b.d0.t a.d0.t:=by unfold aP;rw[show decide (a.d0.has=b.d0.has)=true by simpa using e,show aF a.d0.t b.d0.t=false by simpa using e2]
  rw[e'];exact wg rfl rfl hc rfl rfl
 ·have e':aP a b=cu a.id b.id:=by unfold aP;rw[show decide (a.d0.has=b.d0.has)=true by simpa using e,show aF a.d0.t b.d0.t=true by simpa using e2]
  rw[e'];exact wg rfl rfl hc rfl rfl
theorem nV (o:Ob):cQ Tryz.prog 33 (.agg (ao o)) 37=true:=by kernel_rfl
theorem iB {a b:Nat} (h:a≤b):Nat.ble a b=true:=Nat.ble_eq_true_of_le h
theorem sY {l:List Ob} {i j:Nat} {a b:Ob} (ha:l[i]? =some a) (hb:l[j]? =some b):cA l i j=(l.set i b).set j a:=by unfold cA;rw[ha,hb]
set_option maxRecDepth 20000 in
theorem TE {own:Bool} {n:Nat} {l:List Ob} {i j:Nat} (hi:i<n) (hj:j<n) (hn:n≤l.length):BodySem Tryz.prog opts0.glob 213 [.rsl own 1 0 n 37,I (.ofNat i),I (.ofNat j)] [(1,some (.cells (au l)))] 2 (.tuple []) [(1,some (.cells (au (cA l i j))))] 60:=by
 have hil:i<l.length:=by omega
 have hjl:j<l.length:=by omega
 have ha:=List.getElem?_eq_getElem hil
 have hb:=List.getElem?_eq_getElem hjl
 revert ha hb
 generalize l[i]=a
 generalize l[j]=b
 intro ha hb
 have h1:=Hr hil b
 have h2:=Hr (l:=l.set i b) (i:=j) (by rw[List.length_set];exact hjl) a
 rw[←sY ha hb] at h2
 have hlen:(au (l.set i b)).length=l.length*37:=by rw[i8,List.length_set]
 refine ei (k:=2) (A:=G6 (ao b) (ao a)) base0 am (aN (LsOk.no rfl)) ?_
 rw[Tk,h1,h2]
 refine aH (f6 hj) ⟨sX hb,aH (f6 hi) ⟨sX ha,aH (f6 hi) (aH (nV b) (aH (iB ?_) (aH (f6 hj) (aH (nV a) (aH (iB ?_) (wg rfl rfl (bw _) rfl rfl))))))⟩⟩
 ·rw[aI,i8]
  simp only[Int.ofNat_eq_natCast,Int.toNat_natCast]
  omega
 ·rw[aI,hlen]
  simp only[Int.ofNat_eq_natCast,Int.toNat_natCast]
  omega
theorem wi:∀g l,opts0.glob g=some l→ad l=true:=base0.glob
section
variable {f:FuncId} {args args2:List AV} {v:AV} {es es':List AV} {nx nx' K m m' Z:Nat} {c c':List AV}
theorem Hs (h:BodySem Tryz.prog opts0.glob f args [(1,some (.cells es))] 2 v [(1,some (.cells es'))] nx') (hA:RenL [(1,K)] args args2) (hv:ac v=true) (he:ad es=true) (he':ad es'=true) (hm:m≤m'):BodySem Tryz.prog opts0.glob f args2 [(K,some (.cells es))] m v [(K,some (.cells es'))] m':=by
 refine BodySem.ren (lk:=[(1,K)]) wi h (by simp) (by simp) (by simp) hA (fun i b hb=> ?_) (.same _ hv) (fun j b hb=> ?_) hm
 ·simp only[hget] at hb
  split at hb
  ·rename_i e
   have e:=beq_iff.1 e
   subst e
   cases hb
   exact ⟨K,.cells es,rfl,by simp[hget],RenL.same _ he⟩
  ·cases hb
 ·simp only[hget] at hb
  split at hb
  ·rename_i e
   have e:=beq_iff.1 e
   subst e
   cases hb
   exact ⟨1,.cells es',by simp[cZ,aY],rfl,RenL.same _ he'⟩
  ·cases hb
theorem pZ (h:BodySem Tryz.prog opts0.glob f args [(0,some (.cells c)),(1,some (.cells es))] 2 v [(0,some (.cells c')),(1,some (.cells es'))] nx') (hZ:Z≠K) {v2:AV} {c2 c2':List AV} {H2:ae} (g1:hget H2 Z=some (.cells c2)) (g2:hget H2 K=some (.cells es)) (hA:RenL [(0,Z),(1,K)] args args2) (hc:RenL [(0,Z),(1,K)] c c2) (hc':RenL [(Z,0),(K,1)] c2' c') (hv:cw [(Z,0),(K,1)] v2 v) (he:ad es=true) (he':ad es'=true) (hm:m≤m'):BodySem Tryz.prog opts0.glob f args2 H2 m v2 [(Z,some (.cells c2')),(K,some (.cells es'))] m':=by
 have hk:Nat.beq Z K=false:=beq_false_iff.2 hZ
 refine BodySem.ren (lk:=[(0,Z),(1,K)]) wi h (by simp) (by simp[hZ]) (by simp) hA (fun i b hb=> ?_) hv (fun j b hb=> ?_) hm
 ·simp only[hget] at hb
  split at hb
  ·rename_i e
   have e:=beq_iff.1 e
   subst e
   cases hb
   exact ⟨Z,.cells c2,rfl,g1,hc⟩
  split at hb
  ·rename_i e
   have e:=beq_iff.1 e
   subst e
   cases hb
   exact ⟨K,.cells es,rfl,g2,RenL.same _ he⟩
  ·cases hb
 ·simp only[hget] at hb
  split at hb
  ·rename_i e
   have e:=beq_iff.1 e
   subst e
   cases hb
   exact ⟨0,.cells c',by simp[cZ,aY],rfl,hc'⟩
  split at hb
  ·rename_i e1 e
   have e:=beq_iff.1 e
   subst e
   cases hb
   exact ⟨1,.cells es',by simp[cZ,aY,hk],rfl,RenL.same _ he'⟩
  ·cases hb
end
end Go.Proofs.YtjhggnebkfpgcaaGreatDoor
namespace Go.Proofs.YtjhggnebkfpgcaaGreatDoor
set_option maxRecDepth 20000
open Go Go.RowKit
open Go.Proofs.Abs
theorem Ht (x y:Operand) (a b:Int):aG Tryz.prog .gtr 3 x y (I a) (I b)=some (.bool (ar b a)):=by kernel_rfl
def nW (how:Int) (y:Rw):At:=match ar 0 (how.tmod 5) with
 |true=>⟨(jC y).name,0,(jC y).v⟩
 |false=>jC y
def iC (how:Int) (l:List Rw):List At:=(l.take 4).map (nW how)
def lQ (how:Int) (l:List Rw):List At:=match aF (how.tmod 3) 0,iC how l with
 |true,a::r=>a::r++[a]
 |_,b=>b
def cG (l:List At):List AV:=flat (l.map ag)
theorem p5:∀l:List At,ad (cG l)=true
 |[]=>rfl
 |a::r=>by
  have h1:=jB a
  have h2:=p5 r
  show ad (gU a++cG r)=true
  rw[dh,h2,show ad (gU a)=true from h1]
  rfl
theorem Hu (a:At) (l:List At):cG (a::l)=gU a++cG l:=rfl
theorem A6 (a b:List At):cG (a++b)=cG a++cG b:=by rw[cG,List.map_append,gv];rfl
theorem Hv (a:At):(gU a).length=7:=by
 obtain ⟨s,i,⟨t,y,n,d,ks⟩⟩:=a
 rfl
theorem Hw:∀l:List At,(cG l).length=l.length*7
 |[]=>rfl
 |a::r=>by rw[Hu,List.length_append,Hw r,Hv,List.length_cons];omega
theorem Hx (a:At):aS (flat [ag a])=true:=Gu [a]
theorem A7 (a:At) {k:Nat} (hk:k≤100000):(bo 7 [ag a]&&(Nat.ble ((k+ab [ag a])*96) 140737488355328&&(aS (flat [ag a])&&true)))=true:=by
 have h1:=Gt [a]
 have h2:=Hx a
 have h3:Nat.ble ((k+ab [ag a])*96) 140737488355328=true:=iB (by rw[aI];simp only[List.length_singleton];omega)
 rw[show bo 7 [ag a]=true from h1,h2,h3]
 rfl
theorem A8 (l:List At):Nat.beq (ab (cG l)) (l.length*7)=true:=by rw[beq_iff,aI,Hw]
noncomputable def p6 (i how:Int) (Ls:List AV):List At→View
 |[]=>eR i how Ls
 |a::r=>dc i how Ls (r.length+1) (cG (a::r))
section
variable {l:List Rw} {how:Int} {Q:AExit→St→Prop}
theorem TF {i:Nat} (hi:i=min l.length 4) (L:List At) (hq:Q (.exit 0) (p6 (.ofNat i) how (l.map aJ) L).st):ALp Tryz.prog opts0.glob 0 (ah Tryz.prog 56 4) (p6 (.ofNat i) how (l.map aJ) L).st Q:=by
 have hR:=fv l
 have hlen:ab (l.map aJ)=l.length:=by rw[aI,List.length_map]
 have no:ar (Int.ofNat i) (Int.ofNat l.length)=true→ar (Int.ofNat i) 4=true→False:=fun e e2=>by
  have e:=ltInt_iff.1 e
  have e2:=ltInt_iff.1 e2
  simp only[Int.ofNat_eq_natCast] at e e2
  omega
 cases L with
 |nil=>
  refine ALp.round (A:=jL ⟨0,0,0,0⟩ (.str []::I 0::ay 0 0 0 [] []) false) (V2:=dc 0 how (l.map aJ) 1 []) (F:=eR (.ofNat i) how (l.map aJ)) (lk:=[(0,21)]) (lk':=[]) base0 am (LsOk.no rfl) .refl ?_
  show aw Tryz.prog opts0 40 _ _ (eR (.ofNat i) how (l.map aJ)).st _
  rw[G1,hlen]
  exact az (fun e=>az (fun e2=>(no e e2).elim) fun _=>⟨⟨⟨⟨rfl,hR⟩,⟨rfl,rfl⟩,⟨rfl,rfl⟩,⟨rfl,rfl⟩,trivial⟩,trivial,trivial⟩,hq⟩) fun _=>⟨⟨⟨⟨rfl,hR⟩,⟨rfl,rfl⟩,⟨rfl,rfl⟩,⟨rfl,rfl⟩,trivial⟩,trivial,trivial⟩,hq⟩
 |cons x r=>
  have hc:=p5 (x::r)
  refine ALp.round (A:=jL ⟨0,0,0,0⟩ (.str []::I 0::ay 0 0 0 [] []) false) (V2:=dc 0 how (l.map aJ) (r.length+1+1) []) (F:=dc (.ofNat i) how (l.map aJ) (r.length+1) (cG (x::r))) (lk:=[(0,22)]) (lk':=[(0,0)]) base0 am (LsOk.no rfl) .refl ?_
  show aw Tryz.prog opts0 40 _ _ (dc (.ofNat i) how (l.map aJ) (r.length+1) (cG (x::r))).st _
  rw[G3,hlen]
  exact az (fun e=>az (fun e2=>(no e e2).elim) fun _=>⟨⟨⟨⟨rfl,hR⟩,⟨rfl,rfl⟩,⟨rfl,rfl⟩,trivial⟩,⟨⟨rfl,rfl,rfl,rfl,rfl⟩,trivial⟩,⟨rfl,hc⟩,trivial⟩,hq⟩) fun _=>⟨⟨⟨⟨rfl,hR⟩,⟨rfl,rfl⟩,⟨rfl,rfl⟩,trivial⟩,⟨⟨rfl,rfl,rfl,rfl,rfl⟩,trivial⟩,⟨rfl,hc⟩,trivial⟩,hq⟩
theorem TG {i:Nat} {y:Rw} (hy:l[i]? =some y) (hi:i<4) (L:List At) (hL:L.length=i) (hn:ALp Tryz.prog opts0.glob 0 (ah Tryz.prog 56 4) (p6 (.ofNat (i+1)) how (l.map aJ) (L++[nW how y])).st Q):ALp Tryz.prog opts0.glob 0 (ah Tryz.prog 56 4) (p6 (.ofNat i) how (l.map aJ) L).st Q:=by
 have hR:=fv l
 have hlen:ab (l.map aJ)=l.length:=by rw[aI,List.length_map]
 have hlt:i<l.length:=(List.getElem?_eq_some_iff.1 hy).1
 have yes:ar (Int.ofNat i) (Int.ofNat l.length)=true:=ltInt_iff.2 (by simp only[Int.ofNat_eq_natCast];omega)
 have y4:ar (Int.ofNat i) 4=true:=ltInt_iff.2 (by simp only[Int.ofNat_eq_natCast];omega)
 have gx:ax Tryz.prog 22 (.fsl false (l.map aJ)) (I (.ofNat i))=some (.fptr (kq y) 0):=fY (v:=aJ y) (e:=42) (sz:=4) (by kernel_rfl) (by kernel_rfl) (by rw[List.getElem?_map,hy];rfl) rfl
 have hw:af .i64 (Int.ofNat i+1)=Int.ofNat (i+1):=co (by simp;omega) (by simp;omega)
 have hat:=NS y
 have hd:nW how y=match ar 0 (how.tmod 5) with|true=>⟨(jC y).name,0,(jC y).v⟩|false=>jC y:=rfl
 revert hat hd hn
 generalize nW how y=a
 generalize jC y=b
 intro hn hat hd
 obtain ⟨s,ix,⟨t,yy,n,d,ks⟩⟩:=b
 rw[px] at hat
 cases hh:ar 0 (how.tmod 5) with
 | true=>
  rw[hh] at hd
  dsimp only at hd
  have hg:∀x y:Operand,aG Tryz.prog .gtr 3 x y (I (how.tmod 5)) (I 0)=some (.bool true):=fun x y=>by rw[Ht,hh]
  subst hd
  cases L with
  |nil=>
   have hn:ALp Tryz.prog opts0.glob 0 (ah Tryz.prog 56 4) (dc (.ofNat (i+1)) how (l.map aJ) 1 (cG [⟨s,0,.mk t yy n d ks⟩])).st Q:=hn
   have hc:=p5 [⟨s,0,.mk t yy n d ks⟩]
   refine ALp.round (A:=jL y (.str s::I ix::ay t yy n (ap d) (an ks)) true) (V2:=dc (.ofNat (i+1)) how (l.map aJ) 1 (cG [⟨s,0,.mk t yy n d ks⟩])) (F:=eR (.ofNat i) how (l.map aJ)) (lk:=[(0,23)]) (lk':=[]) base0 am (LsOk.no rfl) .refl ?_
   show aw Tryz.prog opts0 40 _ _ (eR (.ofNat i) how (l.map aJ)).st _
   rw[Tf,hlen,hw]
   exact a8 yes (a8 y4 ⟨gx,hat,hg _ _,⟨⟨⟨rfl,hR⟩,⟨rfl,rfl⟩,⟨rfl,rfl⟩,trivial⟩,⟨⟨rfl,rfl,rfl,rfl,rfl⟩,trivial⟩,⟨rfl,hc⟩,trivial⟩,hn⟩)
  |cons x r=>
   simp only[List.length_cons] at hL
   have hn:ALp Tryz.prog opts0.glob 0 (ah Tryz.prog 56 4) (dc (.ofNat (i+1)) how (l.map aJ) ((r++[(⟨s,0,.mk t yy n d ks⟩:At)]).length+1) (cG ((x::r)++[⟨s,0,.mk t yy n d ks⟩]))).st Q:=hn
   rw[List.length_append,List.length_singleton] at hn
   have hc:=p5 ((x::r)++[⟨s,0,.mk t yy n d ks⟩])
   have e1:cG (x::r)++cG [⟨s,0,.mk t yy n d ks⟩]=cG ((x::r)++[⟨s,0,.mk t yy n d ks⟩]):=(A6 _ _).symm
   refine ALp.round (A:=jL y (.str s::I ix::ay t yy n (ap d) (an ks)) true) (V2:=dc (.ofNat (i+1)) how (l.map aJ) (r.length+1+1) (cG ((x::r)++[⟨s,0,.mk t yy n d ks⟩]))) (F:=dc (.ofNat i) how (l.map aJ) (r.length+1) (cG (x::r))) (lk:=[(0,24)]) (lk':=[(0,0)]) base0 am (LsOk.no rfl) .refl ?_
   show aw Tryz.prog opts0 40 _ _ (dc (.ofNat i) how (l.map aJ) (r.length+1) (cG (x::r))).st _
   rw[Tg,hlen,hw]
   exact a8 yes (a8 y4 ⟨gx,hat,hg _ _,aH (A7 ⟨s,0,.mk t yy n d ks⟩ (by omega)) (aH (A8 (x::r)) ⟨⟨⟨⟨rfl,hR⟩,⟨rfl,rfl⟩,⟨rfl,rfl⟩,trivial⟩,⟨⟨rfl,rfl,rfl,rfl,rfl⟩,trivial⟩,⟨e1,hc⟩,trivial⟩,hn⟩)⟩)
 | false=>
  rw[hh] at hd
  dsimp only at hd
  have hg:∀x y:Operand,aG Tryz.prog .gtr 3 x y (I (how.tmod 5)) (I 0)=some (.bool false):=fun x y=>by rw[Ht,hh]
  subst hd
  cases L with
  |nil=>
   have hn:ALp Tryz.prog opts0.glob 0 (ah Tryz.prog 56 4) (dc (.ofNat (i+1)) how (l.map aJ) 1 (cG [⟨s,ix,.mk t yy n d ks⟩])).st Q:=hn
   have hc:=p5 [⟨s,ix,.mk t yy n d ks⟩]
   refine ALp.round (A:=jL y (.str s::I ix::ay t yy n (ap d) (an ks)) false) (V2:=dc (.ofNat (i+1)) how (l.map aJ) 1 (cG [⟨s,ix,.mk t yy n d ks⟩])) (F:=eR (.ofNat i) how (l.map aJ)) (lk:=[(0,21)]) (lk':=[]) base0 am (LsOk.no rfl) .refl ?_
   show aw Tryz.prog opts0 40 _ _ (eR (.ofNat i) how (l.map aJ)).st _
   rw[G1,hlen,hw]
   exact a8 yes (a8 y4 ⟨gx,hat,hg _ _,⟨⟨⟨rfl,hR⟩,⟨rfl,rfl⟩,⟨rfl,rfl⟩,trivial⟩,⟨⟨rfl,rfl,rfl,rfl,rfl⟩,trivial⟩,⟨rfl,hc⟩,trivial⟩,hn⟩)
  |cons x r=>
   simp only[List.length_cons] at hL
   have hn:ALp Tryz.prog opts0.glob 0 (ah Tryz.prog 56 4) (dc (.ofNat (i+1)) how (l.map aJ) ((r++[(⟨s,ix,.mk t yy n d ks⟩:At)]).length+1) (cG ((x::r)++[⟨s,ix,.mk t yy n d ks⟩]))).st Q:=hn
   rw[List.length_append,List.length_singleton] at hn
   have hc:=p5 ((x::r)++[⟨s,ix,.mk t yy n d ks⟩])
   have e1:cG (x::r)++cG [⟨s,ix,.mk t yy n d ks⟩]=cG ((x::r)++[⟨s,ix,.mk t yy n d ks⟩]):=(A6 _ _).symm
   refine ALp.round (A:=jL y (.str s::I ix::ay t yy n (ap d) (an ks)) false) (V2:=dc (.ofNat (i+1)) how (l.map aJ) (r.length+1+1) (cG ((x::r)++[⟨s,ix,.mk t yy n d ks⟩]))) (F:=dc (.ofNat i) how (l.map aJ) (r.length+1) (cG (x::r))) (lk:=[(0,22)]) (lk':=[(0,0)]) base0 am (LsOk.no rfl) .refl ?_
   show aw Tryz.prog opts0 40 _ _ (dc (.ofNat i) how (l.map aJ) (r.length+1) (cG (x::r))).st _
   rw[G3,hlen,hw]
   exact a8 yes (a8 y4 ⟨gx,hat,hg _ _,aH (A7 ⟨s,ix,.mk t yy n d ks⟩ (by omega)) (aH (A8 (x::r)) ⟨⟨⟨⟨rfl,hR⟩,⟨rfl,rfl⟩,⟨rfl,rfl⟩,trivial⟩,⟨⟨rfl,rfl,rfl,rfl,rfl⟩,trivial⟩,⟨e1,hc⟩,trivial⟩,hn⟩)⟩)
theorem Hy (hq:Q (.exit 0) (p6 (.ofNat (min l.length 4)) how (l.map aJ) (iC how l)).st):∀m i,i+m=min l.length 4→ALp Tryz.prog opts0.glob 0 (ah Tryz.prog 56 4) (p6 (.ofNat i) how (l.map aJ) ((l.take i).map (nW how))).st Q
 | 0,i,hi=>by
  have e:i=min l.length 4:=by omega
  have e2:(l.take i).map (nW how)=iC how l:=by
   unfold iC
   subst e
   by_cases h:l.length≤4
   ·rw[Nat.min_eq_left h,List.take_of_length_le (Nat.le_refl _),List.take_of_length_le h]
   ·rw[Nat.min_eq_right (by omega)]
  rw[e2]
  refine TF e _ ?_
  rw[e]
  exact hq
 |m+1,i,hi=>by
  have g:=List.getElem?_eq_getElem (show i<l.length by omega)
  have ih:=Hy hq m (i+1) (by omega)
  rw[fg g,List.map_append] at ih
  exact TG g (by omega) _ (by rw[List.length_map,List.length_take];omega) ih
end
theorem Hz:br (cy Tryz.prog 56) 4=[ah Tryz.prog 56 4]:=by kernel_rfl
theorem TH (a:At) (r:List At):bh Tryz.prog 39 (cG (a::r)) 0=some (ag a):=by
 have h1:eY Tryz.prog 39=some true:=by kernel_rfl
 have h2:bJ Tryz.prog 39=some 7:=by kernel_rfl
 simp only[bh,h1,h2]
 rw[Hu,←Hv a,A4]
 rfl
theorem HA {H:ae} {id:Nat} {L:List At} {c:List AV} {k:Nat} (hg:hget H id=some (.cells c)) (hc:c=cG L) (hk:k=L.length):Frz 0 H (.rsl true id 0 k 7) (.fsl false (L.map ag)):=
 .row (len:=k) rfl hg hc (by rw[hk,List.length_map]) (fun e he=>by obtain ⟨a,_,rfl⟩:=List.mem_map.1 he;exact z6 a) (bP L)
theorem TI (l:List Rw) (how:Int):SC 56 [.fsl false (l.map aJ),I how] (.fsl false ((lQ how l).map ag)):=by
 have hR:=fv l
 have hcl:ad [.fsl false (l.map aJ),I how]=true:=by simp only[ad,ac,hR,Bool.and_self]
 have hrun:=fun (Q:AExit→St→Prop) hq=>Hy (l:=l) (how:=how) (Q:=Q) hq (min l.length 4) 0 (Nat.zero_add _)
 rw[List.take_zero] at hrun
 have hbl:(iC how l).length≤4:=by unfold iC;rw[List.length_map,List.length_take];omega
 unfold lQ
 generalize iC how l=L at hrun hbl⊢
 cases L with
 | nil=>
  refine dH (A:=aq [] [(4,vQ (eR 0 how (l.map aJ)) (eR (.ofNat (min l.length 4)) how (l.map aJ)))] aA [] []) base0 am
   (aN (LsOk.at1 rfl Hz fun st Q hs=> .seen base0.glob hs.1 (hrun Q hs.2))) hcl ?_
  rw[Th]
  have e:(match aF (how.tmod 3) 0,([]:List At) with|true,a::r=>a::r++[a]|_,b=>b)=[]:=by cases aF (how.tmod 3) 0<;>rfl
  rw[e]
  exact ⟨⟨⟨⟨rfl,hR⟩,⟨rfl,rfl⟩,⟨rfl,rfl⟩,⟨rfl,rfl⟩,trivial⟩,trivial,trivial⟩,az (fun _=>⟨.nilsl,(Frz.closed _ rfl).out,rfl,.nil⟩) fun _=>⟨.nilsl,(Frz.closed _ rfl).out,rfl,.nil⟩⟩
 | cons a r=>
  simp only[List.length_cons] at hbl
  have h0:=TH a r
  have hp:=Hx a
  have hask:=A7 a (k:=r.length+1) (by omega)
  have hl7:=A8 (a::r)
  obtain ⟨s,ix,⟨t,yy,n,d,ks⟩⟩:=a
  refine dH (A:=aq [(10,3,.ld (.agg (.str s::I ix::ay t yy n (ap d) (an ks))))] [(4,vQ (eR 0 how (l.map aJ)) (dc (.ofNat (min l.length 4)) how (l.map aJ) (r.length+1) (cG (⟨s,ix,.mk t yy n d ks⟩::r))))] aA [] []) base0 am
   (aN (LsOk.at1 rfl Hz fun st Q hs=> .seen base0.glob hs.1 (hrun Q hs.2))) hcl ?_
  rw[Ti]
  refine ⟨⟨⟨⟨rfl,hR⟩,⟨rfl,rfl⟩,⟨rfl,rfl⟩,⟨rfl,rfl⟩,trivial⟩,trivial,trivial⟩,az (fun e=>a8 (ltInt_iff.2 (by simp only[Int.ofNat_eq_natCast];omega)) (aH rfl ⟨h0,aH hask (aH hl7 ?_)⟩)) fun e=> ?_⟩
  ·rw[e]
   exact ⟨_,(HA (L:=⟨s,ix,.mk t yy n d ks⟩::r++[⟨s,ix,.mk t yy n d ks⟩]) rfl (by rw[A6];rfl) (by rw[aI];simp)).out,bP _,.refl _⟩
  ·rw[e]
   exact ⟨_,(HA (L:=⟨s,ix,.mk t yy n d ks⟩::r) rfl rfl rfl).out,bP _,.refl _⟩
theorem TJ (how:Int) (l:List Rw):(lQ how l).length≤5:=by
 have hbl:(iC how l).length≤4:=by unfold iC;rw[List.length_map,List.length_take];omega
 unfold lQ
 generalize iC how l=L at hbl⊢
 cases L with
 |nil=>cases aF (how.tmod 3) 0<;>exact Nat.zero_le _
 |cons a r=>
  cases aF (how.tmod 3) 0 with
  |true=>simp only[List.length_append,List.length_singleton];omega
  |false=>dsimp only;omega
theorem TK {how:Int} {l:List Rw} {a:At} (h:a∈lQ how l):a.name∈nameL:=by
 have hb:∀a∈iC how l,a.name∈nameL:=fun a ha=>by
  obtain ⟨y,_,rfl⟩:=List.mem_map.1 ha
  have:(jC y).name∈nameL:=ig nameL [] y.k (by simp[nameL])
  unfold nW
  split<;>exact this
 unfold lQ at h
 revert hb h
 generalize iC how l=L
 intro h hb
 cases L with
 |nil=>cases hq:aF (how.tmod 3) 0<;>rw[hq] at h<;>cases h
 | cons a' r=>
  cases hq:aF (how.tmod 3) 0 with
  | true=>
   rw[hq] at h
   rcases List.mem_append.1 h with h|h
   ·exact hb a h
   ·rw[List.mem_singleton] at h
    rw[h]
    exact hb a' List.mem_cons_self
  |false=>
   rw[hq] at h
   exact hb a h
def fz (s:List UInt8):Bool:=match eb (da s) s with
 |none=>false
 |some _=>true
def gE (s:List UInt8):Int:=match eb (da s) s with
 |none=>0
 |some k=>(ku k).ty
section
variable {s:List UInt8}
theorem TL (hs:s∈nameL):SC 46 [.str s] (.bool (fz s)):=by
 have hf:=zN (uQ s hs)
 unfold fz
 cases hk:eb (da s) s with
 |none=>
  dsimp only
  rw[hk] at hf
  refine cY (A:=jF kr false []) base0 am (aN (LsOk.no rfl)) rfl ?_
  have e:kr= .agg (b8 ⟨[],0,false,false⟩ .nilFunc .nilFunc .nilFunc .nilFunc .nilFunc .nilFunc .nilFunc .nilFunc):=rfl
  rw[nu,e] at hf
  have hz:=z8
  rw[e] at hz⊢
  rw[GX]
  exact ⟨hf,aH hz (o8 rfl)⟩
 |some k=>
  dsimp only
  rw[hk] at hf
  have hfit:=z2 k
  refine cY (A:=jF (.agg (gA k)) true []) base0 am (aN (LsOk.no rfl)) rfl ?_
  rw[zZ,uY] at hf
  rw[u7] at hf hfit⊢
  rw[GX]
  exact ⟨hf,aH hfit (o8 rfl)⟩
theorem TM (hs:s∈nameL):SC 146 [.str s] (I (gE s)):=by
 have hf:=zN (uQ s hs)
 unfold gE
 cases hk:eb (da s) s with
 |none=>
  dsimp only
  rw[hk] at hf
  refine cY (A:=jF kr false []) base0 am (aN (LsOk.no rfl)) rfl ?_
  have e:kr= .agg (b8 ⟨[],0,false,false⟩ .nilFunc .nilFunc .nilFunc .nilFunc .nilFunc .nilFunc .nilFunc .nilFunc):=rfl
  rw[nu,e] at hf
  have hz:=z8
  rw[e] at hz⊢
  rw[GY]
  exact ⟨hf,aH hz (o8 rfl)⟩
 |some k=>
  dsimp only
  rw[hk] at hf
  have hfit:=z2 k
  refine cY (A:=jF (.agg (gA k)) true []) base0 am (aN (LsOk.no rfl)) rfl ?_
  rw[zZ,uY] at hf
  rw[u7] at hf hfit⊢
  rw[GY]
  exact ⟨hf,aH hfit (o8 rfl)⟩
end
def jO (L:List At) (a:At):Bool:=match aF (gE a.name) (bN a.v) with
 |false=>false
 | true=>match aF a.idx 0 with
  |false=>false
  |true=>match aF (bN a.v) 9 with
   |false=>true
   |true=> !ar 2 (.ofNat (bG a.name L).length)
theorem TN {a:At} {L:List At} (hs:a.name∈nameL) (hb:L.length≤1000):SC 106 [ag a,.fsl false (L.map ag)] (.bool (jO L a)):=by
 have ht:=TM hs
 have hd:=GT a
 have hv:=GG (l:=L) (by omega) a.name
 have hL:=bP L
 have hc:=jB a
 have hcl:ad [ag a,.fsl false (L.map ag)]=true:=by simp only[ad,ac,hL,hc,Bool.and_self]
 have hln:ab (an (bG a.name L))=(bG a.name L).length:=by rw[aI,gT]
 unfold jO
 generalize bG a.name L=Vs at hv hln⊢
 generalize gE a.name=ty at ht⊢
 obtain ⟨s,idx,⟨t,y,q,d,ks⟩⟩:=a
 rw[px] at hd hcl⊢
 refine eB (A:=GZ ty (aF y 9) (an Vs)) base0 am (aN (LsOk.no rfl)) hcl rfl ?_
 rw[Td,hln]
 show _∧_
 have e1:bN ⟨t,y,q,d,ks⟩=y:=rfl
 rw[e1] at hd⊢
 exact ⟨ht,az (fun e=>az (fun e2=>⟨hd,az (fun e3=>⟨hv,by simp only[e,e2,e3]⟩) fun e3=>by simp only[e,e2,e3]⟩) fun e2=>by simp only[e,e2]) fun e=>by simp only[e]⟩
def jP (L:List At):Int:=match ar 20 (.ofNat L.length) with
 |true=>7
 |false=>match L.any (pD fz (jO L)) with
  |true=>7
  |false=>0
theorem TO {L:List At} (hn:∀a∈L,a.name∈nameL) (hb:L.length≤1000):SC 55 [.fsl false (L.map ag)] (I (jP L)):=by
 have hL:=bP L
 have hcl:ad [.fsl false (L.map ag)]=true:=by simp only[ad,ac,hL,Bool.and_self]
 have hln:ab (L.map ag)=L.length:=by rw[aI,List.length_map]
 have hcf:=S8 (l:=L) (Ls:=L.map ag) (kn:=fz) (rt:=jO L) hL (fun a ha=>TL (hn a ha)) (fun a ha=>TN (hn a ha) hb) (by omega)
 have hcf:=GO (K:=0) (m:=10) (m':=40) (args2:=[.fsl false (L.map ag),.func (.func 105) [] [.ptr 0 0]]) (H2:=[(0,some (.cells [.fsl false (L.map ag)]))]) hcf rfl ⟨.same _ hL,vL ⟨.ptr _ _ _ rfl,trivial⟩,trivial⟩ rfl (by simp only[ad,ac,hL,Bool.and_self]) (by omega) (by omega)
 unfold jP
 refine eB (A:=aq [] [] (G0 (L.any (pD fz (jO L))) (L.map ag)) [] []) base0 am (aN (LsOk.no rfl)) hcl rfl ?_
 rw[Te,hln]
 exact az (fun e=>by simp only[e]) fun e=>⟨hcf,az (fun e2=>by simp only[e,e2]) fun e2=>by simp only[e,e2]⟩
end Go.Proofs.YtjhggnebkfpgcaaGreatDoor
namespace Go.Proofs.YtjhggnebkfpgcaaGreatDoor
open Go Go.RowKit
open Go.Proofs.Abs
noncomputable section
def wj:Nat→List UInt8
 |1=>[65,77]
 |2=>[65,77,68]
 |3=>[65,77,68]
 |4=>[65,77]
 |_=>[]
def lR:Kd→List UInt8
 | .nam| .lnk| .lim| .cus _=>[65,77,68]
 | .mask=>[77]
 | .dat k=>wj k
 |_=>[]
def wl:Nat→List UInt8
 |1=>[112]
 |2=>[112]
 |3=>[112,97]
 |4=>[112,97]
 |_=>[]
def lS:Kd→List UInt8
 | .mask=>[112]
 | .dat k=>wl k
 |_=>[]
def lT:Kd→Int
 | .dat k=> .ofNat k
 |_=> -1
def p7 (k:Kd):List AV:=[.str (aM k),I (iT k),.bool (pm k),.bool (gV k),.str (lR k),.str (lS k),I (lT k)]
def cH (k:Kd):AV:= .agg (p7 k)
def TP:AV:= .agg [.str [],I 0,.bool false,.bool false,.str [],.str [],I 0]
abbrev HB:=[AV.str [67,114,121,112,116,111,103,114,97,112,104,105,99,32,85,115,97,103,101,32,77,97,115,107],I 2,AV.bool false,AV.bool true,AV.str [77],AV.str [112],I (Int.negSucc 0)]
abbrev HC:=[AV.str [67,114,121,112,116,111,103,114,97,112,104,105,99,32,65,108,103,111,114,105,116,104,109],I 5,AV.bool false,AV.bool true,AV.str [],AV.str [],I (Int.negSucc 0)]
abbrev HD:=[AV.str [67,111,109,112,114,111,109,105,115,101,32,79,99,99,117,114,114,101,110,99,101,32,68,97,116,101],I 9,AV.bool false,AV.bool false,AV.str [],AV.str [],I 6]
abbrev HE:=[AV.str [67,114,121,112,116,111,103,114,97,112,104,105,99,32,76,101,110,103,116,104],I 2,AV.bool false,AV.bool true,AV.str [],AV.str [],I (Int.negSucc 0)]
abbrev HF:=[AV.str [85,110,105,113,117,101,32,73,100,101,110,116,105,102,105,101,114],I 7,AV.bool false,AV.bool false,AV.str [],AV.str [],I (Int.negSucc 0)]
abbrev HG:=[AV.str [80,114,111,99,101,115,115,32,83,116,97,114,116,32,68,97,116,101],I 9,AV.bool false,AV.bool true,AV.str [65,77,68],AV.str [112],I 2]
abbrev HH:=[AV.str [80,114,111,116,101,99,116,32,83,116,111,112,32,68,97,116,101],I 9,AV.bool false,AV.bool true,AV.str [65,77,68],AV.str [112,97],I 3]
abbrev HI:=[AV.str [82,101,118,111,99,97,116,105,111,110,32,82,101,97,115,111,110],I 1,AV.bool false,AV.bool false,AV.str [],AV.str [],I (Int.negSucc 0)]
abbrev HJ:=[AV.str [68,101,97,99,116,105,118,97,116,105,111,110,32,68,97,116,101],I 9,AV.bool false,AV.bool true,AV.str [65,77],AV.str [112,97],I 4]
abbrev HK:=[AV.str [85,115,97,103,101,32,76,105,109,105,116,115],I 1,AV.bool false,AV.bool true,AV.str [65,77,68],AV.str [],I (Int.negSucc 0)]
abbrev HL:=[AV.str [65,99,116,105,118,97,116,105,111,110,32,68,97,116,101],I 9,AV.bool false,AV.bool true,AV.str [65,77],AV.str [112],I 1]
abbrev HM:=[AV.str [76,97,115,116,32,67,104,97,110,103,101,32,68,97,116,101],I 9,AV.bool false,AV.bool false,AV.str [],AV.str [],I 9]
abbrev HN:=[AV.str [67,111,109,112,114,111,109,105,115,101,32,68,97,116,101],I 9,AV.bool false,AV.bool false,AV.str [],AV.str [],I 7]
abbrev HO:=[AV.str [79,98,106,101,99,116,32,84,121,112,101],I 5,AV.bool false,AV.bool false,AV.str [],AV.str [],I (Int.negSucc 0)]
abbrev HP:=[AV.str [68,101,115,116,114,111,121,32,68,97,116,101],I 9,AV.bool false,AV.bool false,AV.str [],AV.str [],I 5]
abbrev HQ:=[AV.str [73,110,105,116,105,97,108,32,68,97,116,101],I 9,AV.bool false,AV.bool false,AV.str [],AV.str [],I 0]
abbrev HR:=[AV.str [65,114,99,104,105,118,101,32,68,97,116,101],I 9,AV.bool false,AV.bool false,AV.str [],AV.str [],I 8]
abbrev HS:=[AV.str [76,105,110,107],I 1,AV.bool true,AV.bool true,AV.str [65,77,68],AV.str [],I (Int.negSucc 0)]
abbrev HT:=[AV.str [78,97,109,101],I 7,AV.bool true,AV.bool true,AV.str [65,77,68],AV.str [],I (Int.negSucc 0)]
abbrev HU:=[AV.str [83,116,97,116,101],I 5,AV.bool false,AV.bool false,AV.str [],AV.str [],I (Int.negSucc 0)]
abbrev HV:=(AV.fsl true [AV.agg HF,AV.agg HT,AV.agg HO,AV.agg HC,AV.agg HE,AV.agg HB,AV.agg HU,AV.agg HQ,AV.agg HL,AV.agg HG,AV.agg HH,AV.agg HJ,AV.agg HP,AV.agg HD,AV.agg HN,AV.agg HR,AV.agg HM,AV.agg HI,AV.agg HS,AV.agg HK])
theorem TQ (Q:AV→Prop):aL Tryz.prog opts0 40 ej 95 [] [] 0 (fun v _ _=>Q v)=
  (Q HV):=by kernel_rfl
theorem sZ:SC 95 [] (.fsl true (kinds.map cH)):=by
 refine cY (A:=ej) base0 jz (aN (LsOk.no rfl)) rfl ?_
 rw[TQ]
 exact sk rfl (by kernel_rfl)
def HW (c:Bool):be:=aq [] [] (cz [(114,.bool c),(95,.fsl true (kinds.map cH))]) [] []
theorem TR (c:Bool) (s:List UInt8) (Q:AV→Prop):aL Tryz.prog opts0 40 (HW c) 63 [.str s] [] 0 (fun v _ _=>Q v)=
  (SC 95 [] HV∧ak (aB [85,110,105,113,117,101,32,73,100,101,110,116,105,102,105,101,114] s) (Q (AV.tuple [AV.agg HF,AV.bool true])) (ak (aB [78,97,109,101] s) (Q (AV.tuple [AV.agg HT,AV.bool true])) (ak (aB [79,98,106,101,99,116,32,84,121,112,101] s) (Q (AV.tuple [AV.agg HO,AV.bool true])) (ak (aB [67,114,121,112,116,111,103,114,97,112,104,105,99,32,65,108,103,111,114,105,116,104,109] s) (Q (AV.tuple [AV.agg HC,AV.bool true])) (ak (aB [67,114,121,112,116,111,103,114,97,112,104,105,99,32,76,101,110,103,116,104] s) (Q (AV.tuple [AV.agg HE,AV.bool true])) (ak (aB [67,114,121,112,116,111,103,114,97,112,104,105,99,32,85,115,97,103,101,32,77,97,115,107] s) (Q (AV.tuple [AV.agg HB,AV.bool true])) (ak (aB [83,116,97,116,101] s) (Q (AV.tuple [AV.agg HU,AV.bool true])) (ak (aB [73,110,105,116,105,97,108,32,68,97,116,101] s) (Q (AV.tuple [AV.agg HQ,AV.bool true])) (ak (aB [65,99,116,105,118,97,116,105,111,110,32,68,97,116,101] s) (Q (AV.tuple [AV.agg HL,AV.bool true])) (ak (aB [80,114,111,99,101,115,115,32,83,116,97,114,116,32,68,97,116,101] s) (Q (AV.tuple [AV.agg HG,AV.bool true])) (ak (aB [80,114,111,116,101,99,116,32,83,116,111,112,32,68,97,116,101] s) (Q (AV.tuple [AV.agg HH,AV.bool true])) (ak (aB [68,101,97,99,116,105,118,97,116,105,111,110,32,68,97,116,101] s) (Q (AV.tuple [AV.agg HJ,AV.bool true])) (ak (aB [68,101,115,116,114,111,121,32,68,97,116,101] s) (Q (AV.tuple [AV.agg HP,AV.bool true])) (ak (aB [67,111,109,112,114,111,109,105,115,101,32,79,99,99,117,114,114,101,110,99,101,32,68,97,116,101] s) (Q (AV.tuple [AV.agg HD,AV.bool true])) (ak (aB [67,111,109,112,114,111,109,105,115,101,32,68,97,116,101] s) (Q (AV.tuple [AV.agg HN,AV.bool true])) (ak (aB [65,114,99,104,105,118,101,32,68,97,116,101] s) (Q (AV.tuple [AV.agg HR,AV.bool true])) (ak (aB [76,97,115,116,32,67,104,97,110,103,101,32,68,97,116,101] s) (Q (AV.tuple [AV.agg HM,AV.bool true])) (ak (aB [82,101,118,111,99,97,116,105,111,110,32,82,101,97,115,111,110] s) (Q (AV.tuple [AV.agg HI,AV.bool true])) (ak (aB [76,105,110,107] s) (Q (AV.tuple [AV.agg HS,AV.bool true])) (ak (aB [85,115,97,103,101,32,76,105,109,105,116,115] s) (Q (AV.tuple [AV.agg HK,AV.bool true])) (SC 114 [AV.str s] (AV.bool c)∧ak c (Q (AV.tuple [AV.agg [AV.str s,I 7,AV.bool true,AV.bool true,AV.str [65,77,68],AV.str [],I (Int.negSucc 0)],AV.bool true])) (Q (AV.tuple [AV.agg [AV.str [],I 0,AV.bool false,AV.bool false,AV.str [],AV.str [],I 0],AV.bool false]))))))))))))))))))))))):=by kernel_rfl
end
noncomputable section
def dQ (nm:List UInt8) (ty:Int) (many set:Bool) (cU sta:List UInt8) (dt:Int):List AV:=[.str nm,I ty,.bool many,.bool set,.str cU,.str sta,I dt]
def f7 (i:Int) (Cs O:List AV):View:=⟨[(4,.bool false),(1,.fsl false Cs),(5,I i)],[(2,.ptr 0 0)],[(0,.cells O,.whole)],1,89⟩
def yiF:View:=⟨[(4,.bool false)],[],[],0,89⟩
def fH (k i:Int) (Cs O R:List AV):View:=⟨[(8,.nilsl),(9,I k),(4,.bool false),(1,.fsl false Cs),(5,I i)],[(2,.ptr 0 0),(6,.ptr 1 0)],[(0,.cells O,.whole),(1,.cells R,.whole)],2,89⟩
def dR (k i:Int) (Cs O R:List AV) (n:Nat) (es:List AV):View:=⟨[(9,I k),(4,.bool false),(1,.fsl false Cs),(5,I i)],[(2,.ptr 0 0),(6,.ptr 1 0),(8,.rsl true 2 0 n 1)],[(0,.cells O,.whole),(1,.cells R,.whole),(2,.cells es,.whole)],3,89⟩
def jQ (x y:List AV):be:=aq [(12,2,.res (.fptr x 0)),(12,7,.res (.fptr y 0)),(13,3,.res (.fptr x 0))] [] aA [] []
@[simp] abbrev dL (Cs:List AV):=(AV.fsl false Cs=AV.fsl false Cs∧ac (AV.fsl false Cs)=true)
@[simp] abbrev ef:=(AV.bool false=AV.bool false∧true=true)
abbrev f8 (D K:List AV) (a q t y:Int) (s:List UInt8):=(AV.fptr [AV.str s,I a,I t,I y,I q,AV.fsl false D,AV.fsl false K] 0)
@[simp] abbrev f9 (i:Int):=(I i=I i∧ac (I i)=true)
@[simp] abbrev fA:=(some 0=some 0∧0=0)
@[simp] abbrev g5 (R:List AV):=(R=R∧ad R=true)
@[simp] abbrev kE:=(some 1=some 1∧0=0)
@[simp] abbrev jR (O:List AV):=(O=O∧ad O=true)
@[simp] abbrev A9:=(AV.nilsl=AV.nilsl∧true=true)
@[simp] abbrev HX (Cs O R:List AV) (Q:AExit→St→Prop) (i k:Int):=(((A9∧(I k=I k∧ac (I k)=true)∧ef∧(dL Cs)∧(f9 i)∧True)∧(fA∧kE∧True)∧(jR O)∧(g5 R)∧True)∧Q (AExit.exit 2) (fH k i Cs O R).st)
abbrev s3 (D' K':List AV) (a' q' t' y':Int) (s':List UInt8):=(AV.fptr [AV.str s',I a',I t',I y',I q',AV.fsl false D',AV.fsl false K'] 0)
theorem HY (s s':List UInt8) (a t y q a' t' y' q':Int) (D K D' K':List AV) (k k' i:Int) (Cs O R:List AV) (Nx:Prop) (Q:AExit→St→Prop):aw Tryz.prog opts0 40 (jQ (.str s::I a::ay t y q D K) (.str s'::I a'::ay t' y' q' D' K')) (ah Tryz.prog 58 11) (fH k i Cs O R).st (bf 0 [(0,0),(1,1)] (fH k' i Cs O R) Nx [(0,0),(1,1)] (fH k i Cs O R) Q)=
  (ak (ar k (Int.ofNat (ab Cs))) (ax Tryz.prog 43 (AV.fsl false Cs) (I k)=some (f8 D K a q t y s)∧ax Tryz.prog 43 (AV.fsl false Cs) (I i)=some (s3 D' K' a' q' t' y' s')∧ak (aB s s') (ax Tryz.prog 43 (AV.fsl false Cs) (I k)=some (f8 D K a q t y s)∧(((AV.rsl true 25 0 (ab [I q]) 1=AV.nilsl∧true=true)∧(I (af IntKind.i64 (k+1))=I k'∧ac (I k')=true)∧ef∧(dL Cs)∧(f9 i)∧True)∧(fA∧kE∧True)∧(jR O)∧(g5 R)∧True)∧Nx) (((A9∧(I (af IntKind.i64 (k+1))=I k'∧ac (I k')=true)∧ef∧(dL Cs)∧(f9 i)∧True)∧(fA∧kE∧True)∧(jR O)∧(g5 R)∧True)∧Nx)) (HX Cs O R Q i k)):=by kernel_rfl
theorem TS (s s':List UInt8) (a t y q a' t' y' q':Int) (D K D' K':List AV) (k k' i:Int) (Cs O R es':List AV) (Nx:Prop) (Q:AExit→St→Prop):aw Tryz.prog opts0 40 (jQ (.str s::I a::ay t y q D K) (.str s'::I a'::ay t' y' q' D' K')) (ah Tryz.prog 58 11) (fH k i Cs O R).st (bf 0 [(0,0),(1,1),(2,25)] (dR k' i Cs O R 1 es') Nx [(0,0),(1,1)] (fH k i Cs O R) Q)=
  (ak (ar k (Int.ofNat (ab Cs))) (ax Tryz.prog 43 (AV.fsl false Cs) (I k)=some (f8 D K a q t y s)∧ax Tryz.prog 43 (AV.fsl false Cs) (I i)=some (s3 D' K' a' q' t' y' s')∧ak (aB s s') (ax Tryz.prog 43 (AV.fsl false Cs) (I k)=some (f8 D K a q t y s)∧(((I (af IntKind.i64 (k+1))=I k'∧ac (I k')=true)∧ef∧(dL Cs)∧(f9 i)∧True)∧(fA∧kE∧(true=true∧some 25=some 25∧0=0∧1=ab [I q]∧1=1)∧True)∧(jR O)∧(g5 R)∧(flat [I q]=es'∧ad es'=true)∧True)∧Nx) ((((I (af IntKind.i64 (k+1))=I k'∧ac (I k')=true)∧ef∧(dL Cs)∧(f9 i)∧True)∧(fA∧kE∧False∧True)∧(jR O)∧(g5 R)∧False∧True)∧Nx)) (HX Cs O R Q i k)):=by kernel_rfl
@[simp] abbrev HZ (n:Nat):=(fA∧kE∧(true=true∧some 2=some 2∧0=0∧n=n∧1=1)∧True)
@[simp] abbrev H3 (Cs O R es:List AV) (Q:AExit→St→Prop) (i k:Int) (n:Nat):=((((I k=I k∧ac (I k)=true)∧ef∧(dL Cs)∧(f9 i)∧True)∧(HZ n)∧(jR O)∧(g5 R)∧(es=es∧ad es=true)∧True)∧Q (AExit.exit 2) (dR k i Cs O R n es).st)
abbrev H4 (n:Nat) (q:Int):=(bo 1 [I q]&&(((n+ab [I q])*8).ble 140737488355328&&(aS (flat [I q])&&true)))
theorem H5 (s s':List UInt8) (a t y q a' t' y' q':Int) (D K D' K':List AV) (k k' i:Int) (n:Nat) (Cs O R es:List AV) (Nx:Prop) (Q:AExit→St→Prop):aw Tryz.prog opts0 40 (jQ (.str s::I a::ay t y q D K) (.str s'::I a'::ay t' y' q' D' K')) (ah Tryz.prog 58 11) (dR k i Cs O R n es).st (bf 0 [(0,0),(1,1),(2,2)] (dR k' i Cs O R n es) Nx [(0,0),(1,1),(2,2)] (dR k i Cs O R n es) Q)=
  (ak (ar k (Int.ofNat (ab Cs))) (ax Tryz.prog 43 (AV.fsl false Cs) (I k)=some (f8 D K a q t y s)∧ax Tryz.prog 43 (AV.fsl false Cs) (I i)=some (s3 D' K' a' q' t' y' s')∧ak (aB s s') (ax Tryz.prog 43 (AV.fsl false Cs) (I k)=some (f8 D K a q t y s)∧aC (H4 n q) (aC ((ab es).beq (n*1)) ((((I (af IntKind.i64 (k+1))=I k'∧ac (I k')=true)∧ef∧(dL Cs)∧(f9 i)∧True)∧(fA∧kE∧(true=true∧some 2=some 26∧0=0∧n=n+ab [I q]∧1=1)∧True)∧(jR O)∧(g5 R)∧False∧True)∧Nx))) ((((I (af IntKind.i64 (k+1))=I k'∧ac (I k')=true)∧ef∧(dL Cs)∧(f9 i)∧True)∧(HZ n)∧(jR O)∧(g5 R)∧(es=es∧ad es=true)∧True)∧Nx)) (H3 Cs O R es Q i k n)):=by kernel_rfl
theorem TT (s s':List UInt8) (a t y q a' t' y' q':Int) (D K D' K':List AV) (k k' i:Int) (n:Nat) (Cs O R es es':List AV) (Nx:Prop) (Q:AExit→St→Prop):aw Tryz.prog opts0 40 (jQ (.str s::I a::ay t y q D K) (.str s'::I a'::ay t' y' q' D' K')) (ah Tryz.prog 58 11) (dR k i Cs O R n es).st (bf 0 [(0,0),(1,1),(2,26)] (dR k' i Cs O R (n+1) es') Nx [(0,0),(1,1),(2,2)] (dR k i Cs O R n es) Q)=
  (ak (ar k (Int.ofNat (ab Cs))) (ax Tryz.prog 43 (AV.fsl false Cs) (I k)=some (f8 D K a q t y s)∧ax Tryz.prog 43 (AV.fsl false Cs) (I i)=some (s3 D' K' a' q' t' y' s')∧ak (aB s s') (ax Tryz.prog 43 (AV.fsl false Cs) (I k)=some (f8 D K a q t y s)∧aC (H4 n q) (aC ((ab es).beq (n*1)) ((((I (af IntKind.i64 (k+1))=I k'∧ac (I k')=true)∧ef∧(dL Cs)∧(f9 i)∧True)∧(fA∧kE∧(true=true∧some 26=some 26∧0=0∧n+1=n+ab [I q]∧1=1)∧True)∧(jR O)∧(g5 R)∧(es++flat [I q]=es'∧ad es'=true)∧True)∧Nx))) ((((I (af IntKind.i64 (k+1))=I k'∧ac (I k')=true)∧ef∧(dL Cs)∧(f9 i)∧True)∧(fA∧kE∧(true=true∧some 26=some 2∧0=0∧n+1=n∧1=1)∧True)∧(jR O)∧(g5 R)∧False∧True)∧Nx)) (H3 Cs O R es Q i k n)):=by kernel_rfl
def s4 (x R:List AV) (b:Bool) (ls:List (Nat × bg)) (d:List AV) (off:Nat) (t0 t1:Int):be:=aq [(4,2,.res (.fptr x 0)),(6,3,.res (.fptr x 0)),(14,3,.res (.ptr 0 off)),(14,4,.ld (.agg d)),(15,8,.ld (.int .i64 t0)),(15,19,.ld (.int .i64 t1))] ls (cz [(63,.tuple [.agg R,.bool true]),(80,.bool b)]) [] []
@[simp] abbrev s5 (C L M N:AV) (o:Ob):=((aa o M N L C)=(aa o M N L C)∧ad (aa o M N L C)=true)
theorem H6 (s nm cU sta:List UInt8) (a t y q ty:Int) (many set b:Bool) (D K:List AV) (i i':Int) (Cs:List AV) (o:Ob) (M N L C:AV) (Nx:Prop) (Q:AExit→St→Prop):aw Tryz.prog opts0 40 (s4 (.str s::I a::ay t y q D K) (dQ nm ty many set cU sta (-1)) b [] [] 0 0 0) (ah Tryz.prog 58 3) (f7 i Cs (aa o M N L C)).st (bf 0 [(0,0)] (f7 i' Cs (aa o M N L C)) Nx [] yiF Q)=
  (ak (ar i (Int.ofNat (ab Cs))) (ax Tryz.prog 43 (AV.fsl false Cs) (I i)=some (f8 D K a q t y s)∧SC 63 [AV.str s] (AV.tuple [AV.agg [AV.str nm,I ty,AV.bool many,AV.bool set,AV.str cU,AV.str sta,I (Int.negSucc 0)],AV.bool true])∧ax Tryz.prog 43 (AV.fsl false Cs) (I i)=some (f8 D K a q t y s)∧SC 80 [AV.agg (aa o M N L C),AV.agg [AV.str s,I a,I t,I y,I q,AV.fsl false D,AV.fsl false K],I (Int.negSucc 0)] (AV.bool b)∧ak (!b) (((ef∧True)∧True∧True)∧Q AExit.ret yiF.st) (((ef∧(dL Cs)∧(I (af IntKind.i64 (i+1))=I i'∧ac (I i')=true)∧True)∧(fA∧True)∧(s5 C L M N o)∧True)∧Nx)) (((ef∧True)∧True∧True)∧Q (AExit.exit 0) yiF.st)):=by kernel_rfl
def H7 (p:Prop) (i c:Int) (Cs O R:List AV) (n:Nat) (es:List AV):bg:=fun st Q=>p∧bR 0 [(0,0),(1,14)] (fH 0 i Cs O R) st∧Q (.exit 2) (dR c i Cs O R n es).st
@[simp] abbrev ga:=(I 0=I 0∧true=true)
abbrev wm (cU nm sta:List UInt8) (d:Nat) (many set:Bool) (ty:Int):=[AV.str nm,I ty,AV.bool many,AV.bool set,AV.str cU,AV.str sta,I (Int.ofNat d)]
theorem TU (p:Prop) (s nm cU sta:List UInt8) (a t y q ty:Int) (d off n:Nat) (many set:Bool) (D K:List AV) (i i' c t0 t1:Int) (dd:Dt) (Cs es:List AV) (o:Ob) (M N L C:AV) (Nx:Prop) (Q:AExit→St→Prop):aw Tryz.prog opts0 40 (s4 (.str s::I a::ay t y q D K) (dQ nm ty many set cU sta (.ofNat d)) false [(11,H7 p i c Cs (aa o M N L C) (dQ nm ty many set cU sta (.ofNat d)) n es)] [.bool dd.has,I dd.t] off t0 t1) (ah Tryz.prog 58 3) (f7 i Cs (aa o M N L C)).st (bf 0 [(0,0)] (f7 i' Cs (aa o M N L C)) Nx [] yiF Q)=
  (ak (ar i (Int.ofNat (ab Cs))) (ax Tryz.prog 43 (AV.fsl false Cs) (I i)=some (f8 D K a q t y s)∧SC 63 [AV.str s] (AV.tuple [AV.agg (wm cU nm sta d many set ty),AV.bool true])∧p∧((A9∧ga∧ef∧(dL Cs)∧(f9 i)∧True)∧(fA∧(some 14=some 14∧0=0)∧True)∧(s5 C L M N o)∧((wm cU nm sta d many set ty)=(wm cU nm sta d many set ty)∧ad (wm cU nm sta d many set ty)=true)∧True)∧ax Tryz.prog 26 (AV.ptr 0 7) (I (Int.ofNat d))=some (AV.ptr 0 off)∧bh Tryz.prog 25 (aa o M N L C) off=some (AV.agg [AV.bool dd.1,I dd.2])∧ak (!dd.1) (((ef∧True)∧True∧True)∧Q AExit.ret yiF.st) (aC (Nat.blt 0 n&&true) (bh Tryz.prog 2 es 0=some (I t0)∧ak (ar dd.2 t0) (((ef∧True)∧True∧True)∧Q AExit.ret yiF.st) (aC (cJ (af IntKind.i64 (Int.ofNat n-1))&&((af IntKind.i64 (Int.ofNat n-1)).toNat.blt n&&true)) (bh Tryz.prog 2 es (0+(af IntKind.i64 (Int.ofNat n-1)).toNat*1)=some (I t1)∧ak (ar t1 dd.2) (((ef∧True)∧True∧True)∧Q AExit.ret yiF.st) (((ef∧(dL Cs)∧(I (af IntKind.i64 (i+1))=I i'∧ac (I i')=true)∧True)∧(fA∧True)∧(s5 C L M N o)∧True)∧Nx)))))) (((ef∧True)∧True∧True)∧Q (AExit.exit 0) yiF.st)):=by kernel_rfl
def wn (e:AExit) (Cs O:List AV):bg:=fun st Q=>bR 0 [(0,0)] (f7 0 Cs O) st∧Q e yiF.st
theorem TV (Cs:List AV) (o:Ob) (M N L C:AV) (Q:AV→Prop):aL Tryz.prog opts0 40 (aq [] [(3,wn .ret Cs (aa o M N L C))] aA [] []) 58 [.agg (aa o M N L C),.fsl false Cs] [] 0 (fun v _ _=>Q v)=
  (((ef∧(dL Cs)∧ga∧True)∧(fA∧True)∧(s5 C L M N o)∧True)∧Q (AV.bool false)):=by kernel_rfl
theorem TW (Cs:List AV) (o:Ob) (M N L C:AV) (Q:AV→Prop):aL Tryz.prog opts0 40 (aq [] [(3,wn (.exit 0) Cs (aa o M N L C))] aA [] []) 58 [.agg (aa o M N L C),.fsl false Cs] [] 0 (fun v _ _=>Q v)=
  (((ef∧(dL Cs)∧ga∧True)∧(fA∧True)∧(s5 C L M N o)∧True)∧Q (AV.bool true)):=by kernel_rfl
def jS (i:Int) (Cs:List AV):View:=⟨[(2,I 0),(0,.fsl false Cs),(3,I i)],[],[],0,72⟩
def i9 (r:Int):View:=⟨[(2,I r)],[],[],0,72⟩
def fI (n k i:Int) (Cs R:List AV):View:=⟨[(6,I n),(7,I k),(2,I 0),(0,.fsl false Cs),(3,I i)],[(4,.ptr 0 0)],[(0,.cells R,.whole)],1,72⟩
def wo (x y:List AV):be:=aq [(13,2,.res (.fptr x 0)),(13,7,.res (.fptr y 0))] [] aA [] []
theorem Ba (s s':List UInt8) (a t y q a' t' y' q':Int) (D K D' K':List AV) (n n' k k' i:Int) (Cs R:List AV) (Nx:Prop) (Q:AExit→St→Prop):aw Tryz.prog opts0 40 (wo (.str s::I a::ay t y q D K) (.str s'::I a'::ay t' y' q' D' K')) (ah Tryz.prog 57 12) (fI n k i Cs R).st (bf 0 [(0,0)] (fI n' k' i Cs R) Nx [(0,0)] (fI n k i Cs R) Q)=
  (ak (!ar i k) (ax Tryz.prog 43 (AV.fsl false Cs) (I k)=some (f8 D K a q t y s)∧ax Tryz.prog 43 (AV.fsl false Cs) (I i)=some (s3 D' K' a' q' t' y' s')∧ak (aB s s') ((((I (af IntKind.i64 (n+1))=I n'∧ac (I n')=true)∧(I (af IntKind.i64 (k+1))=I k'∧ac (I k')=true)∧ga∧(dL Cs)∧(f9 i)∧True)∧(fA∧True)∧(g5 R)∧True)∧Nx) ((((I n=I n'∧ac (I n')=true)∧(I (af IntKind.i64 (k+1))=I k'∧ac (I k')=true)∧ga∧(dL Cs)∧(f9 i)∧True)∧(fA∧True)∧(g5 R)∧True)∧Nx)) ((((I n=I n∧ac (I n)=true)∧(I k=I k∧ac (I k)=true)∧ga∧(dL Cs)∧(f9 i)∧True)∧(fA∧True)∧(g5 R)∧True)∧Q (AExit.exit 2) (fI n k i Cs R).st)):=by kernel_rfl
def wq (p:Prop) (n k i:Int) (Cs R:List AV):bg:=fun st Q=>p∧bR 0 [(0,13)] (fI 0 0 i Cs R) st∧Q (.exit 2) (fI n k i Cs R).st
def wr (x R:List AV) (ok:Bool) (ls:List (Nat × bg)):be:=aq [(6,2,.res (.fptr x 0)),(7,5,.res (.fptr x 0)),(7,16,.res (.fptr x 0))] ls (cz [(63,.tuple [.agg R,.bool ok])]) [] []
@[simp] abbrev wt (Q:AExit→St→Prop) (r:Int):=((((I 7=I r∧ac (I r)=true)∧True)∧True∧True)∧Q AExit.ret (i9 r).st)
theorem Bb (p:Prop) (ok:Bool) (s nm cU sta:List UInt8) (a t y q ty dt r:Int) (many set:Bool) (D K:List AV) (i i' n k:Int) (Cs:List AV) (Nx:Prop) (Q:AExit→St→Prop):aw Tryz.prog opts0 40 (wr (.str s::I a::ay t y q D K) (dQ nm ty many set cU sta dt) ok [(12,wq p n k i Cs (dQ nm ty many set cU sta dt))]) (ah Tryz.prog 57 5) (jS i Cs).st (bf 0 [] (jS i' Cs) Nx [] (i9 r) Q)=
  (ak (ar i (Int.ofNat (ab Cs))) (ax Tryz.prog 43 (AV.fsl false Cs) (I i)=some (f8 D K a q t y s)∧SC 63 [AV.str s] (AV.tuple [AV.agg [AV.str nm,I ty,AV.bool many,AV.bool set,AV.str cU,AV.str sta,I dt],AV.bool ok])∧ak (!ok) (wt Q r) (ax Tryz.prog 43 (AV.fsl false Cs) (I i)=some (f8 D K a q t y s)∧ak (!aF y ty) (wt Q r) (ax Tryz.prog 43 (AV.fsl false Cs) (I i)=some (f8 D K a q t y s)∧ak (!aF a 0) (wt Q r) (p∧((ga∧ga∧ga∧(dL Cs)∧(f9 i)∧True)∧((some 13=some 13∧0=0)∧True)∧([AV.str nm,I ty,AV.bool many,AV.bool set,AV.str cU,AV.str sta,I dt]=[AV.str nm,I ty,AV.bool many,AV.bool set,AV.str cU,AV.str sta,I dt]∧ad [AV.str nm,I ty,AV.bool many,AV.bool set,AV.str cU,AV.str sta,I dt]=true)∧True)∧ak (!ar dt 0) (ak (ar 2 n) (wt Q r) (((ga∧(dL Cs)∧(I (af IntKind.i64 (i+1))=I i'∧ac (I i')=true)∧True)∧True∧True)∧Nx)) (((ga∧(dL Cs)∧(I (af IntKind.i64 (i+1))=I i'∧ac (I i')=true)∧True)∧True∧True)∧Nx))))) ((((I 0=I r∧ac (I r)=true)∧True)∧True∧True)∧Q (AExit.exit 0) (i9 r).st)):=by kernel_rfl
def wu (p:Prop) (e:AExit) (r:Int) (Cs:List AV):bg:=fun st Q=>p∧bR 0 [] (jS 0 Cs) st∧Q e (i9 r).st
theorem TX (p:Prop) (Cs:List AV) (Q:AV→Prop):aL Tryz.prog opts0 40 (aq [] [(5,wu p .ret 7 Cs)] aA [] []) 57 [.fsl false Cs] [] 0 (fun v _ _=>Q v)=
  (ak (ar 20 (Int.ofNat (ab Cs))) (Q (I 7)) (p∧((ga∧(dL Cs)∧ga∧True)∧True∧True)∧Q (I 7))):=by kernel_rfl
theorem TY (Cs:List AV) (Q:AV→Prop):aL Tryz.prog opts0 40 (aq [] [(5,wu True (.exit 0) 0 Cs)] aA [] []) 57 [.fsl false Cs] [] 0 (fun v _ _=>Q v)=
  (ak (ar 20 (Int.ofNat (ab Cs))) (Q (I 7)) (True∧((ga∧(dL Cs)∧ga∧True)∧True∧True)∧Q (I 0))):=by kernel_rfl
end
noncomputable section
theorem TZ (o p:Ob) (M N L C M' N' L' C':AV) (Q:AV→Prop):aL Tryz.prog opts0 40 ej 107 [.agg (aa o M N L C),.agg (aa p M' N' L' C')] [] 0 (fun v _ _=>Q v)=
  (ak (!(decide (o.d0.has=p.d0.has)&&(aF o.d0.2 p.d0.2&&true))) (ak o.d0.1 (ak (!p.d0.1) (Q (AV.bool true)) (Q (AV.bool (ar p.d0.2 o.d0.2)))) (Q (AV.bool false))) (Q (AV.bool (cu o.1 p.1)))):=by kernel_rfl
def dA (i most:Int) (Os Cs:List AV):View:=⟨[(0,.fsl false Os),(1,.fsl false Cs),(2,I most),(7,.nilsl),(8,I i)],[],[],0,95⟩
def cW (i most:Int) (Os Cs:List AV) (n:Nat) (es:List AV):View:=⟨[(0,.fsl false Os),(1,.fsl false Cs),(2,I most),(8,I i)],[(7,.rsl true 0 0 n 37)],[(0,.cells es,.whole)],1,95⟩
def gb (k i most:Int) (Os Cs:List AV) (n:Nat) (es:List AV):View:=⟨[(9,I k),(0,.fsl false Os),(1,.fsl false Cs),(2,I most),(8,I i)],[(7,.rsl true 0 0 n 37)],[(0,.cells es,.whole)],1,95⟩
def wv (x y:List AV) (b:Bool):be:=aq [(7,7,.res (.fptr x 0)),(7,12,.ld (.agg y))] [] (cz [(107,.bool b)]) [] []
@[simp] abbrev fJ (Os:List AV):=(AV.fsl false Os=AV.fsl false Os∧ac (AV.fsl false Os)=true)
@[simp] abbrev fK (Cs:List AV):=(AV.fsl false Cs=AV.fsl false Cs∧ac (AV.fsl false Cs)=true)
@[simp] abbrev dw (most:Int):=(I most=I most∧ac (I most)=true)
@[simp] abbrev kG (n:Nat):=((true=true∧some 0=some 0∧0=0∧n=n∧37=37)∧True)
@[simp] abbrev gF (i:Int):=(I i=I i∧ac (I i)=true)
@[simp] abbrev kH (es:List AV):=(es=es∧ad es=true)
@[simp] abbrev s6 (k:Int):=(I k=I k∧ac (I k)=true)
abbrev ja (C L M N:AV) (o:Ob):=(AV.fptr (aa o M N L C) 0)
theorem Bc (b:Bool) (o p:Ob) (M N L C M' N' L' C':AV) (k k' i most:Int) (Os Cs:List AV) (n:Nat) (es:List AV) (Nx:Prop) (Q:AExit→St→Prop):aw Tryz.prog opts0 40 (wv (aa o M N L C) (aa p M' N' L' C') b) (ah Tryz.prog 59 8) (gb k i most Os Cs n es).st (bf 0 [(0,0)] (gb k' i most Os Cs n es) Nx [(0,0)] (gb k i most Os Cs n es) Q)=
  (ak (ar k (Int.ofNat n)) (ax Tryz.prog 72 (AV.fsl false Os) (I i)=some (ja C L M N o)∧aC (cJ k&&(k.toNat.blt n&&true)) (bh Tryz.prog 33 es (0+k.toNat*37)=some (AV.agg (aa p M' N' L' C'))∧SC 107 [AV.agg (aa o M N L C),AV.agg (aa p M' N' L' C')] (AV.bool b)∧ak (!b) ((((I (af IntKind.i64 (k+1))=I k'∧ac (I k')=true)∧(fJ Os)∧(fK Cs)∧(dw most)∧(gF i)∧True)∧(kG n)∧(kH es)∧True)∧Nx) ((((s6 k)∧(fJ Os)∧(fK Cs)∧(dw most)∧(gF i)∧True)∧(kG n)∧(kH es)∧True)∧Q (AExit.exit 2) (gb k i most Os Cs n es).st))) ((((s6 k)∧(fJ Os)∧(fK Cs)∧(dw most)∧(gF i)∧True)∧(kG n)∧(kH es)∧True)∧Q (AExit.exit 2) (gb k i most Os Cs n es).st)):=by kernel_rfl
def fL (j k i most:Int) (Os Cs:List AV) (n:Nat) (es:List AV):View:=⟨[(10,I j),(9,I k),(0,.fsl false Os),(1,.fsl false Cs),(2,I most),(8,I i)],[(7,.rsl true 0 0 n 37)],[(0,.cells es,.whole)],1,95⟩
theorem H8 (o:Ob) (M N L C:AV) (j j' k i most:Int) (Os Cs:List AV) (n:Nat) (es es':List AV) (Nx:Prop) (Q:AExit→St→Prop):aw Tryz.prog opts0 40 (aq [(13,6,.ld (.agg (aa o M N L C)))] [] aA [] []) (ah Tryz.prog 59 12) (fL j k i most Os Cs n es).st (bf 0 [(0,0)] (fL j' k i most Os Cs n es') Nx [(0,0)] (fL j k i most Os Cs n es) Q)=
  (ak (ar k j) (aC (cJ (af IntKind.i64 (j-1))&&((af IntKind.i64 (j-1)).toNat.blt n&&true)) (bh Tryz.prog 33 es (0+(af IntKind.i64 (j-1)).toNat*37)=some (AV.agg (aa o M N L C))∧aC (cJ j&&(j.toNat.blt n&&true)) (aC (cQ Tryz.prog 33 (AV.agg (aa o M N L C)) 37) (aC ((0+j.toNat*37+37).ble (ab es)) ((((I (af IntKind.i64 (j-1))=I j'∧ac (I j')=true)∧(s6 k)∧(fJ Os)∧(fK Cs)∧(dw most)∧(gF i)∧True)∧(kG n)∧(List.take (0+j.toNat*37) es++AV.str o.1::I o.2::I o.3::I o.4::I o.5::M::I o.7::AV.bool o.d0.1::I o.d0.2::AV.bool o.d1.1::I o.d1.2::AV.bool o.d2.1::I o.d2.2::AV.bool o.d3.1::I o.d3.2::AV.bool o.d4.1::I o.d4.2::AV.bool o.d5.1::I o.d5.2::AV.bool o.d6.1::I o.d6.2::AV.bool o.d7.1::I o.d7.2::AV.bool o.d8.1::I o.d8.2::AV.bool o.d9.1::I o.d9.2::I o.18::AV.str o.19::N::L::C::AV.bool o.23::I o.24::I o.25::I o.26::AV.bool o.27::List.drop (0+j.toNat*37+ab (aa o M N L C)) es=es'∧ad es'=true)∧True)∧Nx))))) ((((I j=I j∧ac (I j)=true)∧(s6 k)∧(fJ Os)∧(fK Cs)∧(dw most)∧(gF i)∧True)∧(kG n)∧(kH es)∧True)∧Q (AExit.exit 4) (fL j k i most Os Cs n es).st)):=by kernel_rfl
def jT (x:List AV) (b:Bool) (ls:List (Nat × bg)):be:=aq [(5,2,.res (.fptr x 0)),(14,4,.res (.fptr x 0))] ls (cz [(58,.bool b)]) [] []
@[simp] abbrev lU:=(AV.nilsl=AV.nilsl∧true=true)
theorem H9 (o:Ob) (M N L C:AV) (i i' most:Int) (Os Cs:List AV) (Nx:Prop) (Q:AExit→St→Prop):aw Tryz.prog opts0 40 (jT (aa o M N L C) false []) (ah Tryz.prog 59 4) (dA i most Os Cs).st (bf 0 [] (dA i' most Os Cs) Nx [] (dA i most Os Cs) Q)=
  (ak (ar i (Int.ofNat (ab Os))) (ax Tryz.prog 72 (AV.fsl false Os) (I i)=some (ja C L M N o)∧SC 58 [AV.agg (aa o M N L C),AV.fsl false Cs] (AV.bool false)∧(((fJ Os)∧(fK Cs)∧(dw most)∧lU∧(I (af IntKind.i64 (i+1))=I i'∧ac (I i')=true)∧True)∧True∧True)∧Nx) ((((fJ Os)∧(fK Cs)∧(dw most)∧lU∧(gF i)∧True)∧True∧True)∧Q (AExit.exit 0) (dA i most Os Cs).st)):=by kernel_rfl
theorem T0 (o:Ob) (M N L C:AV) (i i' most:Int) (Os Cs es:List AV) (Nx:Prop) (Q:AExit→St→Prop):aw Tryz.prog opts0 40 (jT (aa o M N L C) true []) (ah Tryz.prog 59 4) (dA i most Os Cs).st (bf 0 [(0,31)] (cW i' most Os Cs 1 es) Nx [] (dA i most Os Cs) Q)=
  (ak (ar i (Int.ofNat (ab Os))) (ax Tryz.prog 72 (AV.fsl false Os) (I i)=some (ja C L M N o)∧SC 58 [AV.agg (aa o M N L C),AV.fsl false Cs] (AV.bool true)∧ax Tryz.prog 72 (AV.fsl false Os) (I i)=some (ja C L M N o)∧aC (cQ Tryz.prog 33 (AV.agg (aa o M N L C)) 37) ((((fJ Os)∧(fK Cs)∧(dw most)∧(I (af IntKind.i64 (i+1))=I i'∧ac (I i')=true)∧True)∧((true=true∧some 31=some 31∧0=0∧1=1∧37=37)∧True)∧((aa o M N L C)=es∧ad es=true)∧True)∧Nx)) ((((fJ Os)∧(fK Cs)∧(dw most)∧lU∧(gF i)∧True)∧True∧True)∧Q (AExit.exit 0) (dA i most Os Cs).st)):=by kernel_rfl
theorem Ia (o:Ob) (M N L C:AV) (i i' most:Int) (Os Cs es:List AV) (n:Nat) (Nx:Prop) (Q:AExit→St→Prop):aw Tryz.prog opts0 40 (jT (aa o M N L C) false []) (ah Tryz.prog 59 4) (cW i most Os Cs n es).st (bf 0 [(0,0)] (cW i' most Os Cs n es) Nx [(0,0)] (cW i most Os Cs n es) Q)=
  (ak (ar i (Int.ofNat (ab Os))) (ax Tryz.prog 72 (AV.fsl false Os) (I i)=some (ja C L M N o)∧SC 58 [AV.agg (aa o M N L C),AV.fsl false Cs] (AV.bool false)∧(((fJ Os)∧(fK Cs)∧(dw most)∧(I (af IntKind.i64 (i+1))=I i'∧ac (I i')=true)∧True)∧(kG n)∧(kH es)∧True)∧Nx) ((((fJ Os)∧(fK Cs)∧(dw most)∧(gF i)∧True)∧(kG n)∧(kH es)∧True)∧Q (AExit.exit 0) (cW i most Os Cs n es).st)):=by kernel_rfl
def Ib (p:Prop) (k i most:Int) (Os Cs:List AV) (n:Nat) (es:List AV):bg:=fun st Q=>p∧bR 0 [(0,0)] (gb 0 i most Os Cs n es) st∧Q (.exit 2) (gb k i most Os Cs n es).st
def Ic (p:Prop) (j k i most:Int) (Os Cs:List AV) (n:Nat) (es es':List AV):bg:=fun st Q=>p∧bR 0 [(0,4)] (fL j k i most Os Cs n es) st∧Q (.exit 4) (fL k k i most Os Cs n es').st
@[simp] abbrev ww:=(I 0=I 0∧true=true)
theorem T2 (p:Prop) (o:Ob) (M N L C:AV) (i i' j k most:Int) (Os Cs es es0 es1 es2:List AV) (n:Nat) (Nx:Prop) (Q:AExit→St→Prop):aw Tryz.prog opts0 40 (jT (aa o M N L C) true [(8,Ib p k i most Os Cs n es),(12,Ic p j k i most Os Cs (n+1) es0 es1)]) (ah Tryz.prog 59 4) (cW i most Os Cs n es).st (bf 0 [(0,0)] (cW i' most Os Cs (n+1) es2) Nx [(0,0)] (cW i most Os Cs n es) Q)=
  (ak (ar i (Int.ofNat (ab Os))) (ax Tryz.prog 72 (AV.fsl false Os) (I i)=some (ja C L M N o)∧SC 58 [AV.agg (aa o M N L C),AV.fsl false Cs] (AV.bool true)∧p∧((ww∧(fJ Os)∧(fK Cs)∧(dw most)∧(gF i)∧True)∧(kG n)∧(kH es)∧True)∧aC (((n+1)*376).ble 140737488355328&&true) (aC ((ab es).beq (n*37)) (p∧(((I (af IntKind.i64 (Int.ofNat (n+1)-1))=I j∧ac (I j)=true)∧(s6 k)∧(fJ Os)∧(fK Cs)∧(dw most)∧(gF i)∧True)∧((true=true∧some 4=some 4∧0=0∧n+1=n+1∧37=37)∧True)∧(es++zL=es0∧ad es0=true)∧True)∧ax Tryz.prog 72 (AV.fsl false Os) (I i)=some (ja C L M N o)∧aC (cJ k&&(k.toNat.blt (n+1)&&true)) (aC (cQ Tryz.prog 33 (AV.agg (aa o M N L C)) 37) (aC ((0+k.toNat*37+37).ble (ab es1)) ((((fJ Os)∧(fK Cs)∧(dw most)∧(I (af IntKind.i64 (i+1))=I i'∧ac (I i')=true)∧True)∧((true=true∧some 0=some 0∧0=0∧n+1=n+1∧37=37)∧True)∧(List.take (0+k.toNat*37) es1++AV.str o.1::I o.2::I o.3::I o.4::I o.5::M::I o.7::AV.bool o.d0.1::I o.d0.2::AV.bool o.d1.1::I o.d1.2::AV.bool o.d2.1::I o.d2.2::AV.bool o.d3.1::I o.d3.2::AV.bool o.d4.1::I o.d4.2::AV.bool o.d5.1::I o.d5.2::AV.bool o.d6.1::I o.d6.2::AV.bool o.d7.1::I o.d7.2::AV.bool o.d8.1::I o.d8.2::AV.bool o.d9.1::I o.d9.2::I o.18::AV.str o.19::N::L::C::AV.bool o.23::I o.24::I o.25::I o.26::AV.bool o.27::List.drop (0+k.toNat*37+ab (aa o M N L C)) es1=es2∧ad es2=true)∧True)∧Nx)))))) ((((fJ Os)∧(fK Cs)∧(dw most)∧(gF i)∧True)∧(kG n)∧(kH es)∧True)∧Q (AExit.exit 0) (cW i most Os Cs n es).st)):=by kernel_rfl
def gc (i most:Int) (Ss:List AV):View:=⟨[(2,I most),(7,.fsl false Ss),(11,.nilsl),(12,I i)],[],[],0,95⟩
def eT (i most:Int) (Ss:List AV) (k:Nat) (es:List AV):View:=⟨[(2,I most),(7,.fsl false Ss),(12,I i)],[(11,.rsl true 0 0 k 1)],[(0,.cells es,.whole)],1,95⟩
def p8 (x:List AV):be:=aq [(19,3,.res (.fptr x 0))] [] aA [] []
@[simp] abbrev kI (Ss:List AV):=(AV.fsl false Ss=AV.fsl false Ss∧ac (AV.fsl false Ss)=true)
@[simp] abbrev Id (o:Ob):=((true=true∧some 20=some 20∧0=0∧1=ab [AV.str o.1]∧1=1)∧True)
theorem Ie (o:Ob) (M N L C:AV) (i i' most:Int) (Ss es':List AV) (Nx:Prop) (Q:AExit→St→Prop):aw Tryz.prog opts0 40 (p8 (aa o M N L C)) (ah Tryz.prog 59 18) (gc i most Ss).st (bf 0 [(0,20)] (eT i' most Ss 1 es') Nx [] (gc i most Ss) Q)=
  (ak (ar i (Int.ofNat (ab Ss))) (ak (ar most 0) (ax Tryz.prog 72 (AV.fsl false Ss) (I i)=some (ja C L M N o)∧(((dw most)∧(kI Ss)∧(I (af IntKind.i64 (i+1))=I i'∧ac (I i')=true)∧True)∧(Id o)∧(flat [AV.str o.1]=es'∧ad es'=true)∧True)∧Nx) (ak (ar i most) (ax Tryz.prog 72 (AV.fsl false Ss) (I i)=some (ja C L M N o)∧(((dw most)∧(kI Ss)∧(I (af IntKind.i64 (i+1))=I i'∧ac (I i')=true)∧True)∧(Id o)∧(flat [AV.str o.1]=es'∧ad es'=true)∧True)∧Nx) ((((dw most)∧(kI Ss)∧lU∧(gF i)∧True)∧True∧True)∧Q (AExit.exit 6) (gc i most Ss).st))) ((((dw most)∧(kI Ss)∧lU∧(gF i)∧True)∧True∧True)∧Q (AExit.exit 6) (gc i most Ss).st)):=by kernel_rfl
abbrev Ig (k:Nat) (o:Ob):=(bo 1 [AV.str o.1]&&(((k+ab [AV.str o.1])*16).ble 140737488355328&&(aS (flat [AV.str o.1])&&true)))
@[simp] abbrev Ih (Q:AExit→St→Prop) (Ss es:List AV) (i most:Int) (k:Nat):=((((dw most)∧(kI Ss)∧(gF i)∧True)∧((true=true∧some 0=some 0∧0=0∧k=k∧1=1)∧True)∧(kH es)∧True)∧Q (AExit.exit 6) (eT i most Ss k es).st)
@[simp] abbrev Ii (k:Nat) (o:Ob):=((true=true∧some 21=some 21∧0=0∧k+1=k+ab [AV.str o.1]∧1=1)∧True)
theorem Ij (o:Ob) (M N L C:AV) (i i' most:Int) (k:Nat) (Ss es es':List AV) (Nx:Prop) (Q:AExit→St→Prop):aw Tryz.prog opts0 40 (p8 (aa o M N L C)) (ah Tryz.prog 59 18) (eT i most Ss k es).st (bf 0 [(0,21)] (eT i' most Ss (k+1) es') Nx [(0,0)] (eT i most Ss k es) Q)=
  (ak (ar i (Int.ofNat (ab Ss))) (ak (ar most 0) (ax Tryz.prog 72 (AV.fsl false Ss) (I i)=some (ja C L M N o)∧aC (Ig k o) (aC ((ab es).beq (k*1)) ((((dw most)∧(kI Ss)∧(I (af IntKind.i64 (i+1))=I i'∧ac (I i')=true)∧True)∧(Ii k o)∧(es++flat [AV.str o.1]=es'∧ad es'=true)∧True)∧Nx))) (ak (ar i most) (ax Tryz.prog 72 (AV.fsl false Ss) (I i)=some (ja C L M N o)∧aC (Ig k o) (aC ((ab es).beq (k*1)) ((((dw most)∧(kI Ss)∧(I (af IntKind.i64 (i+1))=I i'∧ac (I i')=true)∧True)∧(Ii k o)∧(es++flat [AV.str o.1]=es'∧ad es'=true)∧True)∧Nx))) (Ih Q Ss es i most k))) (Ih Q Ss es i most k)):=by kernel_rfl
def p9 (V W:View):bg:=fun st Q=>bR 0 [] V st∧Q (.exit 0) W.st
def wx (V W:View):bg:=fun st Q=>bR 0 [] V st∧Q (.exit 6) W.st
def wy (most:Int) (Ss:List AV):View:=⟨[(2,I most),(7,.fsl false Ss)],[],[],200,95⟩
@[simp] abbrev Bd (Cs Os:List AV) (most:Int):=(((fJ Os)∧(fK Cs)∧(dw most)∧lU∧ww∧True)∧True∧True)
theorem T3 (Os Cs:List AV) (i most:Int) (Q:AV→ae→Prop):aL Tryz.prog opts0 40 (aq [] [(4,p9 (dA 0 most Os Cs) (dA i most Os Cs))] aA [] []) 59 [.fsl false Os,.fsl false Cs,I most] [] 0 (fun v H _=>Q v H)=
  ((Bd Cs Os most)∧Q AV.nilsl []):=by kernel_rfl
@[simp] abbrev Ik (Cs Os Ss es:List AV) (i most:Int) (n:Nat):=((Frz 0 (cW i most Os Cs n es).st.heap (I most) (I most)∧Frz 0 (cW i most Os Cs n es).st.heap (AV.rsl true 0 0 n 37) (AV.fsl false Ss)∧True)∧True)
theorem T4 (Os Cs Ss es:List AV) (i j most:Int) (n:Nat) (Q:AV→ae→Prop):aL Tryz.prog opts0 40 (lv (aq [] [(4,p9 (dA 0 most Os Cs) (cW i most Os Cs n es)),(18,wx (gc 0 most Ss) (gc j most Ss))] aA [] []) 15 0 (wy most Ss)) 59 [.fsl false Os,.fsl false Cs,I most] [] 0 (fun v H _=>Q v H)=
  ((Bd Cs Os most)∧(Ik Cs Os Ss es i most n)∧(((dw most)∧(kI Ss)∧lU∧ww∧True)∧True∧True)∧Q AV.nilsl []):=by kernel_rfl
theorem T5 (Os Cs Ss es es':List AV) (i j most:Int) (n k:Nat) (Q:AV→ae→Prop):aL Tryz.prog opts0 40 (lv (aq [] [(4,p9 (dA 0 most Os Cs) (cW i most Os Cs n es)),(18,wx (gc 0 most Ss) (eT j most Ss k es'))] aA [] []) 15 0 (wy most Ss)) 59 [.fsl false Os,.fsl false Cs,I most] [] 0 (fun v H _=>Q v H)=
  ((Bd Cs Os most)∧(Ik Cs Os Ss es i most n)∧(((dw most)∧(kI Ss)∧lU∧ww∧True)∧True∧True)∧Q (AV.rsl true 0 0 k 1) [(0,some (Blk.cells es'))]):=by kernel_rfl
end
end Go.Proofs.YtjhggnebkfpgcaaGreatDoor
