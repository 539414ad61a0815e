/- Bs, HpW, HeapQ, Mt0, Hp, Hp2, Hp3, FdW, Same, Clone, Copied. -/
import Derived.Test.YtjhggnebkfpgcaaGreatDoorProg
import Derived.Test.YtjhggnebkfpgcaaGreatDoorG5
import Derived.KernelRfl
namespace Go.Proofs.YtjhggnebkfpgcaaGreatDoor
open Go Go.RowKit
open Go.Proofs.Abs
abbrev I (n:Int):AV:= .int .i64 n
def nameL:List (List UInt8):=[[85,110,105,113,117,101,32,73,100,101,110,116,105,102,105,101,114],[78,97,109,101],[79,98,106,101,99,116,32,84,121,112,101],[67,114,121,112,116,111,103,114,97,112,104,105,99,32,65,108,103,111,114,105,116,104,109],[67,114,121,112,116,111,103,114,97,112,104,105,99,32,76,101,110,103,116,104],[67,114,121,112,116,111,103,114,97,112,104,105,99,32,85,115,97,103,101,32,77,97,115,107],[83,116,97,116,101],[73,110,105,116,105,97,108,32,68,97,116,101],[65,99,116,105,118,97,116,105,111,110,32,68,97,116,101],[80,114,111,99,101,115,115,32,83,116,97,114,116,32,68,97,116,101],[80,114,111,116,101,99,116,32,83,116,111,112,32,68,97,116,101],[68,101,97,99,116,105,118,97,116,105,111,110,32,68,97,116,101],[68,101,115,116,114,111,121,32,68,97,116,101],[67,111,109,112,114,111,109,105,115,101,32,79,99,99,117,114,114,101,110,99,101,32,68,97,116,101],[67,111,109,112,114,111,109,105,115,101,32,68,97,116,101],[65,114,99,104,105,118,101,32,68,97,116,101],[76,97,115,116,32,67,104,97,110,103,101,32,68,97,116,101],[82,101,118,111,99,97,116,105,111,110,32,82,101,97,115,111,110],[76,105,110,107],[85,115,97,103,101,32,76,105,109,105,116,115],[120,45,97],[120,45,98],[120,45],[121]]
def u8L (l:List Nat):List AV:=l.map fun n=> .int .u8 (.ofNat n)
def firL:List Nat:=List.replicate 128 240++List.replicate 66 241++List.replicate 30 2++[19]++List.replicate 12 3++[35]++List.replicate 2 3++[52]++List.replicate 3 4++[68]++List.replicate 11 241
def accL:List Nat:=[128,191,160,191,128,159,144,191,128,143]++List.replicate 22 0
def gl:Glob:=fun g=>match Nat.beq g 0 with
 |true=>some (nameL.map .str)
 | false=>match Nat.beq g 1 with
  |true=>some (u8L firL)
  |false=>match Nat.beq g 2 with
   |true=>some (u8L accL)
   |false=>none
theorem Tryz.mixed:Tryz.prog.follows .mixedOrders=true:=by kernel_rfl
noncomputable def opts0:Opts:={how:=fun _=> .pure,summ:=fun _ _=>none,glob:=gl,lf:=100000}
theorem gl_closed:∀g l,gl g=some l→closedAll l=true:=by
 intro g l h
 unfold gl at h
 split at h
 ·simp only[Option.some.injEq] at h;subst h;kernel_rfl
 split at h
 ·simp only[Option.some.injEq] at h;subst h;kernel_rfl
 split at h
 ·simp only[Option.some.injEq] at h;subst h;kernel_rfl
 ·cases h
theorem base0:Base Tryz.prog opts0 40:=base_of Tryz.mixed (fun _ _ _ h=>by cases h) gl_closed
theorem sum0:∀f args v,opts0.summ f args=some v→SemCall Tryz.prog opts0.glob f args v:=fun _ _ _ h=>by cases h
noncomputable def aid0:Aid:=aidOf (fun _ _=>none) (fun _=>none)
theorem aidOk0:AidOk Tryz.prog opts0 aid0:=aidOf_ok sum0
noncomputable def aidJ (hint:List (Nat × Nat × Hint)) (ls:List (Nat × LoopS)) (sem:SemT) (pure all:List Nat):Aid:=aidI Tryz.prog opts0 40 (manyH hint) (manyL ls) sem (manyI pure all)
theorem aidJ_ok {hint:List (Nat × Nat × Hint)} {ls:List (Nat × LoopS)} {sem:SemT} {pure all:List Nat}:AidOk Tryz.prog opts0 (aidJ hint ls sem pure all):=aidI_ok base0 sum0
abbrev zL:List AV:=[AV.str [],I 0,I 0,I 0,I 0,AV.nilsl,I 0,AV.bool false,I 0,AV.bool false,I 0,AV.bool false,I 0,AV.bool false,I 0,AV.bool false,I 0,AV.bool false,I 0,AV.bool false,I 0,AV.bool false,I 0,AV.bool false,I 0,AV.bool false,I 0,I 0,AV.str [],AV.nilsl,AV.nilsl,AV.nilsl,AV.bool false,I 0,I 0,I 0,AV.bool false]
abbrev SC:=SemCall Tryz.prog opts0.glob
noncomputable section
def leA (a b:Dt) (s s':List UInt8):Aid:=aidJ [(1,5,.ld (.agg [.bool a.has,I a.t])),(1,11,.ld (.agg [.bool b.has,I b.t])),(6,4,.ld (.str s)),(6,9,.ld (.str s'))] [] noSem [] []
abbrev yb4 (a b:Dt) (es:List AV):=[(16,some (Blk.cells [AV.bool b.1,I b.2])),(15,some (Blk.cells [AV.bool a.1,I a.2])),(1,some (Blk.cells es))]
theorem le_fn (own:Bool) (n i j:Nat) (es:List AV) (a b:Dt) (s s':List UInt8) (Q:AV→Heap→Nat→Prop):fnK Tryz.prog opts0 40 (leA a b s s') 212 [.rsl own 1 0 n 37,I (.ofNat i),I (.ofNat j)] [(1,some (.cells es))] 2 Q=
  (oblB (nonneg (Int.ofNat i)&&((Int.ofNat i).toNat.blt n&&true)) (partA Tryz.prog 25 es (0+(Int.ofNat i).toNat*37+7+0)=some (AV.agg [AV.bool a.1,I a.2])∧oblB (nonneg (Int.ofNat j)&&((Int.ofNat j).toNat.blt n&&true)) (partA Tryz.prog 25 es (0+(Int.ofNat j).toNat*37+7+0)=some (AV.agg [AV.bool b.1,I b.2])∧mtB (!decide (a.has=b.has)) (Q (AV.bool a.1) (yb4 a b es) 28) (mtB (!beqInt a.2 b.2) (Q (AV.bool (ltInt b.2 a.2)) (yb4 a b es) 37) (oblB (nonneg (Int.ofNat i)&&((Int.ofNat i).toNat.blt n&&true)) (partA Tryz.prog 9 es (0+(Int.ofNat i).toNat*37+0)=some (AV.str s)∧oblB (nonneg (Int.ofNat j)&&((Int.ofNat j).toNat.blt n&&true)) (partA Tryz.prog 9 es (0+(Int.ofNat j).toNat*37+0)=some (AV.str s')∧Q (AV.bool (ltBytes s s')) (yb4 a b es) 43))))))):=by kernel_rfl
def swA (x y:List AV):Aid:=aidJ [(0,7,.ld (.agg x)),(0,11,.ld (.agg y))] [] noSem [] []
theorem sw_fn (own:Bool) (n i j:Nat) (es x y:List AV) (Q:AV→Heap→Nat→Prop):fnK Tryz.prog opts0 40 (swA x y) 213 [.rsl own 1 0 n 37,I (.ofNat i),I (.ofNat j)] [(1,some (.cells es))] 2 Q=
  (oblB (nonneg (Int.ofNat j)&&((Int.ofNat j).toNat.blt n&&true)) (partA Tryz.prog 33 es (0+(Int.ofNat j).toNat*37)=some (AV.agg x)∧oblB (nonneg (Int.ofNat i)&&((Int.ofNat i).toNat.blt n&&true)) (partA Tryz.prog 33 es (0+(Int.ofNat i).toNat*37)=some (AV.agg y)∧oblB (nonneg (Int.ofNat i)&&((Int.ofNat i).toNat.blt n&&true)) (oblB (fitsT Tryz.prog 33 (AV.agg x) 37) (oblB ((0+(Int.ofNat i).toNat*37+37).ble (lenN es)) (oblB (nonneg (Int.ofNat j)&&((Int.ofNat j).toNat.blt n&&true)) (oblB (fitsT Tryz.prog 33 (AV.agg y) 37) (oblB ((0+(Int.ofNat j).toNat*37+37).ble (lenN (List.take (0+(Int.ofNat i).toNat*37) es++(x++List.drop (0+(Int.ofNat i).toNat*37+lenN x) es)))) (Q (AV.tuple []) [(1,some (Blk.cells (List.take (0+(Int.ofNat j).toNat*37) (List.take (0+(Int.ofNat i).toNat*37) es++(x++List.drop (0+(Int.ofNat i).toNat*37+lenN x) es))++(y++List.drop (0+(Int.ofNat j).toNat*37+lenN y) (List.take (0+(Int.ofNat i).toNat*37) es++(x++List.drop (0+(Int.ofNat i).toNat*37+lenN x) es))))))] 18))))))))):=by kernel_rfl
abbrev hpI:AV:= .iface 149 (.ptr 0 0)
def upV (own:Bool) (n:Nat) (j:Int) (es:List AV):View:=⟨[(1,I j)],[(0,hpI)],[(0,.cells [.rsl own 1 0 n 37],.each),(1,.cells es,.whole)],2,23⟩
def upF (own:Bool) (n:Nat) (es:List AV):View:=⟨[],[],[(0,.cells [.rsl own 1 0 n 37],.each),(1,.cells es,.whole)],90,23⟩
def upT (b:Bool) (es es':List AV):SemT:=fun f _ _ _=>match Nat.beq f 212 with
 |true=>some (.part [1] (.bool b) [(1,some (.cells es))] 1)
 |false=>match Nat.beq f 213 with
  |true=>some (.part [1] (.tuple []) [(1,some (.cells es'))] 1)
  |false=>none
@[simp] abbrev yb2 (n:Nat) (own:Bool):=((own=own∧some 1=some 1∧0=0∧n=n∧37=37)∧True)
@[simp] abbrev yb3:=((149=149∧some 0=some 0∧0=0)∧True)
@[simp] abbrev yb10 (es:List AV):=(es=es∧closedAll es=true)
@[simp] abbrev yb13 (es':List AV):=(es'=es'∧closedAll es'=true)
theorem up_r (own b:Bool) (n:Nat) (j j':Int) (es es':List AV) (N:Prop) (Q:AExit→St→Prop):wpK Tryz.prog opts0 40 (aidJ [] [] (upT b es es') [] []) (lpCode Tryz.prog 144 1) (upV own n j es).st (roundP 2 [(0,0),(1,1)] (upV own n j' es') N [(0,0),(1,1)] (upF own n es) Q)=
  (mtB (beqInt (wrapA IntKind.i64 ((wrapA IntKind.i64 (j-1)).tdiv 2)) j) ((True∧True∧(yb2 n own)∧(yb10 es)∧True)∧Q (AExit.exit 0) (upF own n es).st) (BodySem Tryz.prog opts0.glob 212 [AV.rsl own 1 0 n 37,I j,I (wrapA IntKind.i64 ((wrapA IntKind.i64 (j-1)).tdiv 2))] [(1,some (Blk.cells es))] 16 (AV.bool b) [(1,some (Blk.cells es))] 17∧mtB (!b) ((True∧True∧(yb2 n own)∧(yb10 es)∧True)∧Q (AExit.exit 0) (upF own n es).st) (BodySem Tryz.prog opts0.glob 213 [AV.rsl own 1 0 n 37,I (wrapA IntKind.i64 ((wrapA IntKind.i64 (j-1)).tdiv 2)),I j] [(1,some (Blk.cells es))] 21 (AV.tuple []) [(1,some (Blk.cells es'))] 22∧(((I (wrapA IntKind.i64 ((wrapA IntKind.i64 (j-1)).tdiv 2))=I j'∧closedA (I j')=true)∧True)∧yb3∧(yb2 n own)∧(yb13 es')∧True)∧N))):=by kernel_rfl
def upLp (own:Bool) (n:Nat) (j:Int) (es es':List AV):LoopS:=fun st Q=>seesK 2 [(0,0),(1,1)] (upV own n j es) st∧Q (.exit 0) (upF own n es').st
abbrev yb12 (n:Nat) (own:Bool):=(0,some (Blk.cells [AV.rsl own 1 0 n 37]))
theorem up_fn (own:Bool) (n:Nat) (j:Int) (es es':List AV) (Q:AV→Heap→Nat→Prop):fnK Tryz.prog opts0 40 (aidJ [] [(1,upLp own n j es es')] noSem [] []) 144 [hpI,I j] [(0,some (.cells [.rsl own 1 0 n 37])),(1,some (.cells es))] 2 Q=
  ((((I j=I j∧closedA (I j)=true)∧True)∧yb3∧(yb2 n own)∧(yb10 es)∧True)∧Q (AV.tuple []) [(yb12 n own),(1,some (Blk.cells es'))] 90):=by kernel_rfl
abbrev yb9 (C L M N:AV) (o:Ob):=[AV.agg (obF o M N L C),AV.bool true]
theorem fp_fn1 (n:Nat) (es:List AV) (o:Ob) (M N L C:AV) (Q:AV→Heap→Nat→Prop):fnK Tryz.prog opts0 40 aid0 215 [.ptr 0 0,.iface 33 (.agg (obF o M N L C))] [(0,some (.cells [.rsl true 1 0 n 37])),(1,some (.cells es))] 2 Q=
  (oblB (allSize 37 [if false=true then AV.tuple (yb9 C L M N o) else AV.agg (obF o M N L C)]&&(((n+lenN [if false=true then AV.tuple (yb9 C L M N o) else AV.agg (obF o M N L C)])*376).ble 140737488355328&&(allOne (flat [if false=true then AV.tuple (yb9 C L M N o) else AV.agg (obF o M N L C)])&&true))) (oblB ((lenN es).beq (n*37)) (Q (AV.tuple []) [(9,some (Blk.cells (es++flat [if false=true then AV.tuple (yb9 C L M N o) else AV.agg (obF o M N L C)]))),(1,none),(0,some (Blk.cells [AV.rsl true 9 0 (n+lenN [if false=true then AV.tuple (yb9 C L M N o) else AV.agg (obF o M N L C)]) 37])),(1,some (Blk.cells es))] 12))):=by kernel_rfl
theorem fp_fn0 (o:Ob) (M N L C:AV) (Q:AV→Heap→Nat→Prop):fnK Tryz.prog opts0 40 aid0 215 [.ptr 0 0,.iface 33 (.agg (obF o M N L C))] [(0,some (.cells [.nilsl]))] 1 Q=
  (Q (AV.tuple []) [(8,some (Blk.cells (flat [if false=true then AV.tuple (yb9 C L M N o) else AV.agg (obF o M N L C)]))),(0,some (Blk.cells [AV.rsl true 8 0 (lenN [if false=true then AV.tuple (yb9 C L M N o) else AV.agg (obF o M N L C)]) 37]))] 11):=by kernel_rfl
theorem fq_fn (own:Bool) (n:Nat) (es:List AV) (o:Ob) (M N L C:AV) (Q:AV→Heap→Nat→Prop):fnK Tryz.prog opts0 40 (aidJ [(1,9,.ld (.agg (obF o M N L C)))] [] noSem [] []) 214 [.ptr 0 0] [(0,some (.cells [.rsl own 1 0 n 37])),(1,some (.cells es))] 2 Q=
  (oblB (nonneg (wrapA IntKind.i64 (Int.ofNat n-1))&&((wrapA IntKind.i64 (Int.ofNat n-1)).toNat.blt n&&true)) (partA Tryz.prog 33 es (0+(wrapA IntKind.i64 (Int.ofNat n-1)).toNat*37)=some (AV.agg (obF o M N L C))∧oblB (fitsT Tryz.prog 33 (AV.agg (obF o M N L C)) 37) (oblB (nonneg (wrapA IntKind.i64 (Int.ofNat n-1))&&(wrapA IntKind.i64 (Int.ofNat n-1)).toNat.ble n) (Q (AV.iface 33 (AV.agg (obF o M N L C))) [(13,some (Blk.cells (obF o M N L C))),(0,some (Blk.cells [AV.rsl own 1 0 (wrapA IntKind.i64 (Int.ofNat n-1)).toNat 37])),(1,some (Blk.cells es))] 30)))):=by kernel_rfl
def dnV (own:Bool) (n:Nat) (i0 i m:Int) (es:List AV):View:=⟨[(1,I i0),(2,I m),(6,.bool false),(7,I i)],[(0,hpI)],[(0,.cells [.rsl own 1 0 n 37],.each),(1,.cells es,.whole)],2,48⟩
def dnF (own:Bool) (n:Nat) (i0 i:Int) (es:List AV):View:=⟨[(1,I i0),(7,I i)],[],[(0,.cells [.rsl own 1 0 n 37],.each),(1,.cells es,.whole)],90,48⟩
def dnT (b c:Bool) (es es':List AV):SemT:=fun f _ _ nx=>match Nat.beq f 212 with
 |true=>match Nat.ble nx 30 with
  |true=>some (.part [1] (.bool b) [(1,some (.cells es))] 1)
  |false=>some (.part [1] (.bool c) [(1,some (.cells es))] 1)
 |false=>match Nat.beq f 213 with
  |true=>some (.part [1] (.tuple []) [(1,some (.cells es'))] 1)
  |false=>none
@[simp] abbrev yb5 (i0:Int):=(I i0=I i0∧closedA (I i0)=true)
@[simp] abbrev yb1 (Q:AExit→St→Prop) (es:List AV) (i i0:Int) (n:Nat) (own:Bool):=((((yb5 i0)∧(I i=I i∧closedA (I i)=true)∧True)∧True∧(yb2 n own)∧(yb10 es)∧True)∧Q (AExit.exit 0) (dnF own n i0 i es).st)
@[simp] abbrev yb6:=(AV.bool false=AV.bool false∧true=true)
@[simp] abbrev yb11 (m:Int):=(I m=I m∧closedA (I m)=true)
theorem dn_r (own b c:Bool) (n:Nat) (i0 i i' m:Int) (es es':List AV) (N:Prop) (Q:AExit→St→Prop):wpK Tryz.prog opts0 40 (aidJ [] [] (dnT b c es es') [] []) (lpCode Tryz.prog 145 3) (dnV own n i0 i m es).st (roundP 2 [(0,0),(1,1)] (dnV own n i0 i' m es') N [(0,0),(1,1)] (dnF own n i0 i es) Q)=
  (mtB (!ltInt (wrapA IntKind.i64 (wrapA IntKind.i64 (2*i)+1)) m) (yb1 Q es i i0 n own) (mtB (ltInt (wrapA IntKind.i64 (wrapA IntKind.i64 (2*i)+1)) 0) (yb1 Q es i i0 n own) (mtB (ltInt (wrapA IntKind.i64 (wrapA IntKind.i64 (wrapA IntKind.i64 (2*i)+1)+1)) m) (BodySem Tryz.prog opts0.glob 212 [AV.rsl own 1 0 n 37,I (wrapA IntKind.i64 (wrapA IntKind.i64 (wrapA IntKind.i64 (2*i)+1)+1)),I (wrapA IntKind.i64 (wrapA IntKind.i64 (2*i)+1))] [(1,some (Blk.cells es))] 27 (AV.bool b) [(1,some (Blk.cells es))] 28∧mtB b (BodySem Tryz.prog opts0.glob 212 [AV.rsl own 1 0 n 37,I (wrapA IntKind.i64 (wrapA IntKind.i64 (wrapA IntKind.i64 (2*i)+1)+1)),I i] [(1,some (Blk.cells es))] 35 (AV.bool c) [(1,some (Blk.cells es))] 36∧mtB (!c) (yb1 Q es i i0 n own) (BodySem Tryz.prog opts0.glob 213 [AV.rsl own 1 0 n 37,I i,I (wrapA IntKind.i64 (wrapA IntKind.i64 (wrapA IntKind.i64 (2*i)+1)+1))] [(1,some (Blk.cells es))] 40 (AV.tuple []) [(1,some (Blk.cells es'))] 41∧(((yb5 i0)∧(yb11 m)∧yb6∧(I (wrapA IntKind.i64 (wrapA IntKind.i64 (wrapA IntKind.i64 (2*i)+1)+1))=I i'∧closedA (I i')=true)∧True)∧yb3∧(yb2 n own)∧(yb13 es')∧True)∧N)) (BodySem Tryz.prog opts0.glob 212 [AV.rsl own 1 0 n 37,I (wrapA IntKind.i64 (wrapA IntKind.i64 (2*i)+1)),I i] [(1,some (Blk.cells es))] 33 (AV.bool c) [(1,some (Blk.cells es))] 34∧mtB (!c) (yb1 Q es i i0 n own) (BodySem Tryz.prog opts0.glob 213 [AV.rsl own 1 0 n 37,I i,I (wrapA IntKind.i64 (wrapA IntKind.i64 (2*i)+1))] [(1,some (Blk.cells es))] 38 (AV.tuple []) [(1,some (Blk.cells es'))] 39∧(((yb5 i0)∧(yb11 m)∧yb6∧(I (wrapA IntKind.i64 (wrapA IntKind.i64 (2*i)+1))=I i'∧closedA (I i')=true)∧True)∧yb3∧(yb2 n own)∧(yb13 es')∧True)∧N))) (BodySem Tryz.prog opts0.glob 212 [AV.rsl own 1 0 n 37,I (wrapA IntKind.i64 (wrapA IntKind.i64 (2*i)+1)),I i] [(1,some (Blk.cells es))] 32 (AV.bool c) [(1,some (Blk.cells es))] 33∧mtB (!c) (yb1 Q es i i0 n own) (BodySem Tryz.prog opts0.glob 213 [AV.rsl own 1 0 n 37,I i,I (wrapA IntKind.i64 (wrapA IntKind.i64 (2*i)+1))] [(1,some (Blk.cells es))] 37 (AV.tuple []) [(1,some (Blk.cells es'))] 38∧(((yb5 i0)∧(yb11 m)∧yb6∧(I (wrapA IntKind.i64 (wrapA IntKind.i64 (2*i)+1))=I i'∧closedA (I i')=true)∧True)∧yb3∧(yb2 n own)∧(yb13 es')∧True)∧N))))):=by kernel_rfl
def dnLp (own:Bool) (n:Nat) (i0 i m:Int) (es es':List AV):LoopS:=fun st Q=>seesK 2 [(0,0),(1,1)] (dnV own n i0 i0 m es) st∧Q (.exit 0) (dnF own n i0 i es').st
theorem dn_fn (own:Bool) (n:Nat) (i0 i m:Int) (es es':List AV) (Q:AV→Heap→Nat→Prop):fnK Tryz.prog opts0 40 (aidJ [] [(3,dnLp own n i0 i m es es')] noSem [] []) 145 [hpI,I i0,I m] [(0,some (.cells [.rsl own 1 0 n 37])),(1,some (.cells es))] 2 Q=
  ((((yb5 i0)∧(yb11 m)∧yb6∧(yb5 i0)∧True)∧yb3∧(yb2 n own)∧(yb10 es)∧True)∧Q (AV.bool (ltInt i0 i)) [(yb12 n own),(1,some (Blk.cells es'))] 94):=by kernel_rfl
def puT (K:Nat) (n:Nat) (es es':List AV):SemT:=fun f _ _ _=>match Nat.beq f 215 with
 |true=>some (.part [0,1] (.tuple []) [(0,some (.cells [.rsl true K 0 (n+1) 37])),(K,some (.cells es))] 20)
 |false=>match Nat.beq f 144 with
  |true=>some (.part [0,K] (.tuple []) [(0,some (.cells [.rsl true K 0 (n+1) 37])),(K,some (.cells es'))] 1)
  |false=>none
def puT0 (K:Nat) (es:List AV):SemT:=fun f _ _ _=>match Nat.beq f 215 with
 |true=>some (.part [0] (.tuple []) [(0,some (.cells [.rsl true K 0 1 37])),(K,some (.cells es))] 20)
 |false=>match Nat.beq f 144 with
  |true=>some (.part [0,K] (.tuple []) [(0,some (.cells [.rsl true K 0 1 37])),(K,some (.cells es))] 1)
  |false=>none
abbrev yb8 (n:Nat):=(0,some (Blk.cells [AV.rsl true 12 0 (n+1) 37]))
theorem pu_fn1 (n:Nat) (es es1 es2:List AV) (o:Ob) (M N L C:AV) (Q:AV→Heap→Nat→Prop):fnK Tryz.prog opts0 40 (aidJ [] [] (puT 12 n es1 es2) [] []) 102 [hpI,.iface 33 (.agg (obF o M N L C))] [(0,some (.cells [.rsl true 1 0 n 37])),(1,some (.cells es))] 2 Q=
  (BodySem Tryz.prog opts0.glob 215 [AV.ptr 0 0,AV.iface 33 (AV.agg (obF o M N L C))] [(1,some (Blk.cells es)),(0,some (Blk.cells [AV.rsl true 1 0 n 37]))] 5 (AV.tuple []) [(yb8 n),(12,some (Blk.cells es1))] 25∧BodySem Tryz.prog opts0.glob 144 [AV.iface 149 (AV.ptr 0 0),I (wrapA IntKind.i64 (Int.ofNat (n+1)-1))] [(12,some (Blk.cells es1)),(yb8 n)] 34 (AV.tuple []) [(yb8 n),(12,some (Blk.cells es2))] 35∧Q (AV.tuple []) [(12,some (Blk.cells es2)),(1,none),(yb8 n),(1,some (Blk.cells es))] 35):=by kernel_rfl
abbrev yb7:=(0,some (Blk.cells [AV.rsl true 11 0 1 37]))
theorem pu_fn0 (es1:List AV) (o:Ob) (M N L C:AV) (Q:AV→Heap→Nat→Prop):fnK Tryz.prog opts0 40 (aidJ [] [] (puT0 11 es1) [] []) 102 [hpI,.iface 33 (.agg (obF o M N L C))] [(0,some (.cells [.nilsl]))] 1 Q=
  (BodySem Tryz.prog opts0.glob 215 [AV.ptr 0 0,AV.iface 33 (AV.agg (obF o M N L C))] [(0,some (Blk.cells [AV.nilsl]))] 4 (AV.tuple []) [yb7,(11,some (Blk.cells es1))] 24∧BodySem Tryz.prog opts0.glob 144 [AV.iface 149 (AV.ptr 0 0),I 0] [(11,some (Blk.cells es1)),yb7] 33 (AV.tuple []) [yb7,(11,some (Blk.cells es1))] 34∧Q (AV.tuple []) [(11,some (Blk.cells es1)),yb7] 34):=by kernel_rfl
def poT (own r:Bool) (n:Nat) (es1 es2 x:List AV):SemT:=fun f _ _ _=>match Nat.beq f 213 with
 |true=>some (.part [1] (.tuple []) [(1,some (.cells es1))] 1)
 | false=>match Nat.beq f 145 with
  |true=>some (.part [0,1] (.bool r) [(0,some (.cells [.rsl own 1 0 (n+1) 37])),(1,some (.cells es2))] 1)
  |false=>match Nat.beq f 214 with
   |true=>some (.part [0,1] (.iface 33 (.agg x)) [(0,some (.cells [.rsl own 1 0 n 37])),(1,some (.cells es2))] 1)
   |false=>none
theorem po_fn (own r:Bool) (n:Nat) (es es1 es2:List AV) (o:Ob) (M N L C:AV) (Q:AV→Heap→Nat→Prop):fnK Tryz.prog opts0 40 (aidJ [] [] (poT own r n es1 es2 (obF o M N L C)) [] []) 104 [hpI] [(0,some (.cells [.rsl own 1 0 (n+1) 37])),(1,some (.cells es))] 2 Q=
  (BodySem Tryz.prog opts0.glob 213 [AV.rsl own 1 0 (n+1) 37,I 0,I (wrapA IntKind.i64 (Int.ofNat (n+1)-1))] [(1,some (Blk.cells es))] 14 (AV.tuple []) [(1,some (Blk.cells es1))] 15∧BodySem Tryz.prog opts0.glob 145 [AV.iface 149 (AV.ptr 0 0),I 0,I (wrapA IntKind.i64 (Int.ofNat (n+1)-1))] [(1,some (Blk.cells es1)),(0,some (Blk.cells [AV.rsl own 1 0 (n+1) 37]))] 18 (AV.bool r) [(0,some (Blk.cells [AV.rsl own 1 0 (n+1) 37])),(1,some (Blk.cells es2))] 19∧BodySem Tryz.prog opts0.glob 214 [AV.ptr 0 0] [(1,some (Blk.cells es2)),(0,some (Blk.cells [AV.rsl own 1 0 (n+1) 37]))] 22 (AV.iface 33 (AV.agg (obF o M N L C))) [(yb12 n own),(1,some (Blk.cells es2))] 23∧Q (AV.iface 33 (AV.agg (obF o M N L C))) [(1,some (Blk.cells es2)),(yb12 n own),(1,some (Blk.cells es))] 23):=by kernel_rfl
end
end Go.Proofs.YtjhggnebkfpgcaaGreatDoor
namespace Go.Proofs.YtjhggnebkfpgcaaGreatDoor
section
variable {α:Type}
def swp (l:List α) (i j:Nat):List α:=match l[i]?,l[j]? with
 |some a,some b=>(l.set i b).set j a
 |_,_=>l
theorem swp_perm (l:List α) (i j:Nat):(swp l i j).Perm l:=by
 unfold swp
 cases hi:l[i]? with
 |none=>exact .refl _
 | some a=>
  cases hj:l[j]? with
  |none=>exact .refl _
  |some b=>
   obtain ⟨h1,rfl⟩:=List.getElem?_eq_some_iff.1 hi
   obtain ⟨h2,rfl⟩:=List.getElem?_eq_some_iff.1 hj
   exact List.set_set_perm h1 h2
theorem swp_len (l:List α) (i j:Nat):(swp l i j).length=l.length:=(swp_perm l i j).length_eq
theorem swp_get {l:List α} {i j:Nat} (hi:i<l.length) (hj:j<l.length) (k:Nat):(swp l i j)[k]? =if k=j then l[i]? else if k=i then l[j]? else l[k]? :=by
 unfold swp
 rw[List.getElem?_eq_getElem hi,List.getElem?_eq_getElem hj]
 simp only[List.getElem?_set,List.length_set]
 by_cases h1:j=k
 ·subst h1;simp[hj]
 ·by_cases h2:i=k
  ·subst h2;simp[hi,h1,Ne.symm h1]
  ·simp[h1,h2,Ne.symm h1,Ne.symm h2]
theorem swp_ge {l:List α} {i j:Nat} (hi:i<l.length) (hj:j<l.length) {k:Nat} (h1:k≠i) (h2:k≠j):(swp l i j)[k]? =l[k]? :=by
 rw[swp_get hi hj,if_neg h2,if_neg h1]
variable (lt:α→α→Bool)
def Hp (l:List α) (n:Nat):Prop:=∀k a b,0<k→k<n→l[k]? =some a→l[(k-1)/2]? =some b→lt a b=false
def upL:Nat→List α→Nat→List α
 |0,l,_=>l
 |f+1,l,j=>if (j-1)/2=j then l else match l[j]?,l[(j-1)/2]? with
  |some a,some b=>if lt a b=true then upL f (swp l ((j-1)/2) j) ((j-1)/2) else l
  |_,_=>l
def kidL (l:List α) (i n:Nat):Nat:=if 2*i+2<n then match l[2*i+2]?,l[2*i+1]? with
  |some a,some b=>if lt a b=true then 2*i+2 else 2*i+1
  |_,_=>2*i+1
 else 2*i+1
def dnL:Nat→List α→Nat→Nat→List α
 |0,l,_,_=>l
 |f+1,l,i,n=>if n≤2*i+1 then l else match l[kidL lt l i n]?,l[i]? with
  |some a,some b=>if lt a b=true then dnL f (swp l i (kidL lt l i n)) (kidL lt l i n) n else l
  |_,_=>l
def pushL (l:List α) (x:α):List α:=upL lt (l.length+1) (l++[x]) l.length
def popL (l:List α):List α:=dnL lt l.length (swp l 0 (l.length-1)) 0 (l.length-1)
def popsL:Nat→List α→List α
 |0,_=>[]
 |f+1,l=>match (popL lt l)[l.length-1]? with
  |none=>[]
  |some x=>x::popsL f ((popL lt l).take (l.length-1))
variable {lt}
structure OrdL (lt:α→α→Bool):Prop where
 tr:∀a b c,lt b a=false→lt c b=false→lt c a=false
 asy:∀a b,lt a b=true→lt b a=false
theorem OrdL.ir (h:OrdL lt) (a:α):lt a a=false:=by
 cases e:lt a a with
 |false=>rfl
 |true=>rw[h.asy a a e] at e;cases e
theorem up_perm:∀ (f:Nat) (l:List α) (j:Nat),(upL lt f l j).Perm l
 |0,_,_=> .refl _
 | f+1,l,j=>by
  unfold upL
  split
  ·exact .refl _
  split
  ·split
   ·exact (up_perm f _ _).trans (swp_perm _ _ _)
   ·exact .refl _
  ·exact .refl _
def UpI (lt:α→α→Bool) (l:List α) (j:Nat):Prop:=(∀k a b,0<k→k≠j→l[k]? =some a→l[(k-1)/2]? =some b→lt a b=false)∧(∀k a b,0<j→0<k→(k-1)/2=j→l[k]? =some a→l[(j-1)/2]? =some b→lt a b=false)
theorem up_heap (o:OrdL lt):∀ (f:Nat) (l:List α) (j:Nat),j<f→j<l.length→UpI lt l j→Hp lt (upL lt f l j) l.length
 |0,_,_,h,_,_=>absurd h (Nat.not_lt_zero _)
 | f +1,l,j,hf,hj,⟨h1,h2⟩=>by
  unfold upL
  by_cases e:(j-1)/2=j
  ·rw[if_pos e]
   intro k a b h0 _ ha hb
   exact h1 k a b h0 (by omega) ha hb
  rw[if_neg e]
  have hi:(j-1)/2<l.length:=by omega
  have gj:=List.getElem?_eq_getElem hj
  have gi:=List.getElem?_eq_getElem hi
  revert gj gi
  generalize l[j]=x
  generalize l[(j-1)/2]=y
  intro gj gi
  simp only[gj,gi]
  by_cases hl:lt x y=true
  ·rw[if_pos hl]
   have:=up_heap o f (swp l ((j-1)/2) j) ((j-1)/2) (by omega) (by rw[swp_len];exact hi) ?_
   ·rw[swp_len] at this;exact this
   have hyx:=o.asy x y hl
   refine ⟨fun k a b h0 hk ha hb=> ?_,fun k a b h0 h0' hk ha hb=> ?_⟩
   ·rw[swp_get hi hj] at ha hb
    by_cases k1:k=j
    ·subst k1
     rw[if_pos rfl,gi] at ha
     rw[if_neg e,if_pos rfl,gj] at hb
     cases ha;cases hb
     exact hyx
    rw[if_neg k1,if_neg hk] at ha
    by_cases k2:(k-1)/2=j
    ·rw[if_pos k2,gi] at hb
     cases hb
     exact h2 k a y (by omega) h0 k2 ha gi
    rw[if_neg k2] at hb
    by_cases k3:(k-1)/2=(j-1)/2
    ·rw[if_pos k3,gj] at hb
     cases hb
     exact o.tr x y a hyx (h1 k a y h0 k1 ha (by rw[k3];exact gi))
    ·rw[if_neg k3] at hb
     exact h1 k a b h0 k1 ha hb
   ·rw[swp_get hi hj,if_neg (by omega),if_neg (by omega)] at hb
    have hyb:=h1 ((j-1)/2) y b h0 (by omega) gi hb
    rw[swp_get hi hj] at ha
    by_cases k1:k=j
    ·rw[if_pos k1,gi] at ha
     cases ha
     exact hyb
    rw[if_neg k1,if_neg (by omega)] at ha
    exact o.tr b y a hyb (h1 k a y h0' k1 ha (by rw[hk];exact gi))
  ·rw[if_neg hl]
   intro k a b h0 _ ha hb
   by_cases k1:k=j
   ·subst k1
    rw[gj] at ha
    rw[gi] at hb
    cases ha;cases hb
    exact Bool.eq_false_iff.2 hl
   ·exact h1 k a b h0 k1 ha hb
theorem push_perm (l:List α) (x:α):(pushL lt l x).Perm (l++[x]):=up_perm _ _ _
theorem push_len (l:List α) (x:α):(pushL lt l x).length=l.length+1:=by rw[(push_perm l x).length_eq,List.length_append];rfl
theorem push_heap (o:OrdL lt) {l:List α} (h:Hp lt l l.length) (x:α):Hp lt (pushL lt l x) (pushL lt l x).length:=by
 have:=up_heap o (l.length+1) (l++[x]) l.length (by omega) (by simp) ⟨fun k a b h0 hk ha hb=> ?_,fun k a b h0 h0' hk ha hb=> ?_⟩
 ·rw[push_len]
  simpa [pushL] using this
 ·have hlt:k<l.length:=by
   have:=(List.getElem?_eq_some_iff.1 ha).1
   simp at this
   omega
  rw[List.getElem?_append_left hlt] at ha
  rw[List.getElem?_append_left (by omega)] at hb
  exact h k a b h0 hlt ha hb
 ·have:=(List.getElem?_eq_some_iff.1 ha).1
  simp at this
  omega
def DnI (lt:α→α→Bool) (l:List α) (i n:Nat):Prop:=(∀k a b,0<k→k<n→(k-1)/2≠i→l[k]? =some a→l[(k-1)/2]? =some b→lt a b=false)∧(∀k a b,0<i→0<k→k<n→(k-1)/2=i→l[k]? =some a→l[(i-1)/2]? =some b→lt a b=false)
theorem kid_cases (l:List α) (i n:Nat) (h:2*i+1<n):kidL lt l i n<n∧(kidL lt l i n=2*i+1∨kidL lt l i n=2*i+2):=by
 unfold kidL
 split
 ·split
  ·split<;>omega
  ·omega
 ·omega
theorem kid_least (o:OrdL lt) {l:List α} {i n:Nat} (h:2*i+1<n) (hn:n≤l.length) {k:Nat} (hk:k<n) (h0:0<k) (hp:(k-1)/2=i) {a b:α} (ha:l[k]? =some a) (hb:l[kidL lt l i n]? =some b):lt a b=false:=by
 have hk2:k=2*i+1∨k=2*i+2:=by omega
 unfold kidL at hb
 by_cases e:2*i+2<n
 ·rw[if_pos e] at hb
  have g2:=List.getElem?_eq_getElem (show 2*i+2<l.length by omega)
  have g1:=List.getElem?_eq_getElem (show 2*i+1<l.length by omega)
  revert g2 g1
  generalize l[2*i+2]'(by omega)=y
  generalize l[2*i+1]'(by omega)=x
  intro g2 g1
  simp only[g2,g1] at hb
  by_cases hl:lt y x=true
  ·rw[if_pos hl,g2] at hb
   cases hb
   rcases hk2 with rfl|rfl
   ·rw[g1] at ha;cases ha;exact o.asy _ _ hl
   ·rw[g2] at ha;cases ha;exact o.ir _
  ·rw[if_neg hl,g1] at hb
   cases hb
   rcases hk2 with rfl|rfl
   ·rw[g1] at ha;cases ha;exact o.ir _
   ·rw[g2] at ha;cases ha;exact Bool.eq_false_iff.2 hl
 ·rw[if_neg e] at hb
  obtain rfl:k=2*i+1:=by omega
  rw[ha] at hb
  cases hb
  exact o.ir _
theorem dn_perm:∀ (f:Nat) (l:List α) (i n:Nat),(dnL lt f l i n).Perm l
 |0,_,_,_=> .refl _
 | f+1,l,i,n=>by
  unfold dnL
  split
  ·exact .refl _
  split
  ·split
   ·exact (dn_perm f _ _ _).trans (swp_perm _ _ _)
   ·exact .refl _
  ·exact .refl _
theorem dn_len (f:Nat) (l:List α) (i n:Nat):(dnL lt f l i n).length=l.length:=(dn_perm f l i n).length_eq
theorem dn_ge:∀ (f:Nat) (l:List α) (i n:Nat),n≤l.length→∀k,n≤k→(dnL lt f l i n)[k]? =l[k]?
 |0,_,_,_,_,_,_=>rfl
 | f+1,l,i,n,hn,k,hk=>by
  unfold dnL
  split
  ·rfl
  rename_i h
  have hc:=kid_cases (lt:=lt) l i n (by omega)
  split
  ·split
   ·rw[dn_ge f _ _ n (by rw[swp_len];exact hn) k hk,swp_ge (by omega) (by omega) (by omega) (by omega)]
   ·rfl
  ·rfl
theorem dn_heap (o:OrdL lt):∀ (f:Nat) (l:List α) (i n:Nat),n≤i+f→i<l.length→n≤l.length→DnI lt l i n→Hp lt (dnL lt f l i n) n
 |0,l,i,n,hf,_,_,⟨h1,_⟩=>fun k a b h0 hk ha hb=>h1 k a b h0 hk (by omega) ha hb
 | f +1,l,i,n,hf,hi,hn,⟨h1,h2⟩=>by
  unfold dnL
  by_cases e:n≤2*i+1
  ·rw[if_pos e]
   exact fun k a b h0 hk ha hb=>h1 k a b h0 hk (by omega) ha hb
  rw[if_neg e]
  have hc:=kid_cases (lt:=lt) l i n (by omega)
  have hle:∀k a b,0<k→k<n→(k-1)/2=i→l[k]? =some a→l[kidL lt l i n]? =some b→lt a b=false:=fun k a b h0 hk hp ha hb=>kid_least o (by omega) hn hk h0 hp ha hb
  revert hc hle
  generalize kidL lt l i n=j
  intro ⟨hjn,hj⟩ hle
  have hjl:j<l.length:=by omega
  have gj:=List.getElem?_eq_getElem hjl
  have gi:=List.getElem?_eq_getElem hi
  revert gj gi
  generalize l[j]=x
  generalize l[i]=y
  intro gj gi
  simp only[gj,gi]
  have hpj:(j-1)/2=i:=by omega
  by_cases hl:lt x y=true
  ·rw[if_pos hl]
   have hyx:=o.asy x y hl
   refine dn_heap o f (swp l i j) j n (by omega) (by rw[swp_len];exact hjl) (by rw[swp_len];exact hn) ⟨fun k a b h0 hk hp ha hb=> ?_,fun k a b _ h0 hk hp ha hb=> ?_⟩
   ·rw[swp_get hi hjl] at ha hb
    by_cases k1:k=j
    ·subst k1
     rw[if_pos rfl,gi] at ha
     rw[if_neg hp,if_pos hpj,gj] at hb
     cases ha;cases hb
     exact hyx
    rw[if_neg k1] at ha
    rw[if_neg hp] at hb
    by_cases k2:k=i
    ·subst k2
     rw[if_pos rfl,gj] at ha
     rw[if_neg (by omega)] at hb
     cases ha
     exact h2 j x b h0 (by omega) hjn hpj gj hb
    rw[if_neg k2] at ha
    by_cases k3:(k-1)/2=i
    ·rw[if_pos k3,gj] at hb
     cases hb
     exact hle k a x h0 hk k3 ha gj
    ·rw[if_neg k3] at hb
     exact h1 k a b h0 hk k3 ha hb
   ·rw[swp_get hi hjl,if_neg (by omega),if_neg (by omega)] at ha
    rw[hpj,swp_get hi hjl,if_neg (by omega),if_pos rfl,gj] at hb
    cases hb
    exact h1 k a x h0 hk (by omega) ha (by rw[hp];exact gj)
  ·rw[if_neg hl]
   intro k a b h0 hk ha hb
   by_cases k1:(k-1)/2=i
   ·rw[k1,gi] at hb
    cases hb
    exact o.tr y x a (Bool.eq_false_iff.2 hl) (hle k a x h0 hk k1 ha gj)
   ·exact h1 k a b h0 hk k1 ha hb
theorem heap_least (o:OrdL lt) {l:List α} {n:Nat} (hn:n≤l.length) (h:Hp lt l n) {x:α} (hx:l[0]? =some x):∀k,k<n→∀a,l[k]? =some a→lt a x=false:=by
 intro k
 induction k using Nat.strongRecOn with
 | _ k ih=>
  intro hk a ha
  by_cases h0:k=0
  ·subst h0
   rw[ha] at hx
   cases hx
   exact o.ir _
  ·have g:=List.getElem?_eq_getElem (show (k-1)/2<l.length by omega)
   exact o.tr x _ a (ih ((k-1)/2) (by omega) (by omega) _ g) (h k a _ (by omega) hk ha g)
theorem pop_ex (o:OrdL lt) {l:List α} (h:Hp lt l l.length) (hl:0<l.length):∃x r,(popL lt l)[l.length-1]? =some x∧(popL lt l).take (l.length-1)=r∧popL lt l=r++[x]∧(x::r).Perm l∧Hp lt r r.length∧(∀a∈r,lt a x=false)∧r.length=l.length-1:=by
 have gx:=List.getElem?_eq_getElem hl
 revert gx
 generalize l[0]=x
 intro gx
 have hlen:(popL lt l).length=l.length:=by unfold popL;rw[dn_len,swp_len]
 have hx:(popL lt l)[l.length-1]? =some x:=by
  unfold popL
  rw[dn_ge _ _ _ _ (by rw[swp_len];omega) _ (Nat.le_refl _),swp_get hl (by omega),if_pos rfl,gx]
 have hr:popL lt l=(popL lt l).take (l.length-1)++[x]:=by
  obtain ⟨h1,h2⟩:=List.getElem?_eq_some_iff.1 hx
  have:=List.take_append_drop (l.length-1) (popL lt l)
  rw[List.drop_eq_getElem_cons h1,h2,List.drop_of_length_le (by omega)] at this
  exact this.symm
 have hp:(x::(popL lt l).take (l.length-1)).Perm l:=by
  have h1:(popL lt l).Perm l:=(dn_perm _ _ _ _).trans (swp_perm _ _ _)
  rw[hr] at h1
  exact (List.perm_append_comm (l₁:=[x])).trans h1
 have hrl:((popL lt l).take (l.length-1)).length=l.length-1:=by rw[List.length_take];omega
 refine ⟨x,_,hx,rfl,hr,hp, ?_,fun a ha=> ?_,hrl⟩
 ·have:=dn_heap o l.length (swp l 0 (l.length-1)) 0 (l.length-1) (by omega) (by rw[swp_len];exact hl) (by rw[swp_len];omega) ⟨fun k a b h0 hk hp ha hb=> ?_,fun _ _ _ h=>absurd h (Nat.lt_irrefl 0)⟩
  ·rw[hrl]
   intro k a b h0 hk ha hb
   rw[List.getElem?_take_of_lt hk] at ha
   rw[List.getElem?_take_of_lt (by omega)] at hb
   exact this k a b h0 hk ha hb
  ·rw[swp_ge hl (by omega) (by omega) (by omega)] at ha
   rw[swp_ge hl (by omega) (by omega) (by omega)] at hb
   exact h k a b h0 (by omega) ha hb
 ·have:a∈l:=hp.subset (List.mem_cons_of_mem _ ha)
  obtain ⟨k,hk,rfl⟩:=List.mem_iff_getElem.1 this
  exact heap_least o (Nat.le_refl _) h gx k hk _ (List.getElem?_eq_getElem hk)
theorem pops_ok (o:OrdL lt):∀ (f:Nat) (l:List α),l.length=f→Hp lt l l.length→(popsL lt f l).Perm l∧(popsL lt f l).Pairwise fun a b=>lt b a=false
 |0,l,hl,_=>by
  obtain rfl:=List.length_eq_zero_iff.1 hl
  exact ⟨.refl _,.nil⟩
 | f+1,l,hl,h=>by
  obtain ⟨x,r,h1,h2,h3,h4,h5,h6,h7⟩:=pop_ex o h (by omega)
  obtain ⟨i1,i2⟩:=pops_ok o f r (by omega) h5
  have e:popsL lt (f+1) l=x::popsL lt f r:=by
   rw[popsL,h1,h2]
  rw[e]
  exact ⟨(i1.cons x).trans h4,.cons (fun a ha=>h6 a (i1.subset ha)) i2⟩
theorem sorted_eq {P S:List α} (hp:P.Perm S) (h1:P.Pairwise fun a b=>lt b a=false) (h2:S.Pairwise fun a b=>lt b a=false) (ha:∀a∈S,∀b∈S,lt a b=false→lt b a=false→a=b):P=S:=
 List.Perm.eq_of_pairwise (le:=fun a b=>lt b a=false) (fun a b m1 m2 k1 k2=>ha a (hp.subset m1) b m2 k2 k1) h1 h2 hp
end
end Go.Proofs.YtjhggnebkfpgcaaGreatDoor
namespace Go.Proofs.YtjhggnebkfpgcaaGreatDoor
open Go Go.RowKit
open Go.Proofs.Abs
theorem mtT {c:Bool} {T F:Prop} (h:c=true) (t:T):mtB c T F:=mtB_of (fun _=>t) fun e=>by rw[h] at e;cases e
theorem mtF {c:Bool} {T F:Prop} (h:c=false) (f:F):mtB c T F:=mtB_of (fun e=>by rw[h] at e;cases e) fun _=>f
theorem ltb_cons (a b:UInt8) (x y:List UInt8):ltBytes (a::x) (b::y)=if a.toNat<b.toNat then true else if a.toNat=b.toNat then ltBytes x y else false:=by
 rw[ltBytes]
 by_cases h:a.toNat<b.toNat
 ·rw[blt_iff.2 h,if_pos h]
 ·rw[if_neg h]
  have:Nat.blt a.toNat b.toNat=false:=by
   cases e:Nat.blt a.toNat b.toNat with
   |false=>rfl
   |true=>exact absurd (blt_iff.1 e) h
  rw[this]
  dsimp only
  by_cases h2:a.toNat=b.toNat
  ·rw[if_pos h2,beq_iff.2 h2]
  ·rw[if_neg h2,beq_false_iff.2 h2]
theorem ltb_as:∀a b:List UInt8,ltBytes a b=true→ltBytes b a=false
 |[],[],h=>by cases h
 |[],_::_,_=>by rw[ltBytes]
 |_::_,[],h=>by rw[ltBytes] at h;cases h
 | a::x,b::y,h=>by
  have ih:=ltb_as x y
  rw[ltb_cons] at h⊢
  by_cases h1:a.toNat<b.toNat
  ·rw[if_neg (by omega),if_neg (by omega)]
  ·rw[if_neg h1] at h
   by_cases h2:a.toNat=b.toNat
   ·rw[if_pos h2] at h
    rw[if_neg (by omega),if_pos h2.symm]
    exact ih h
   ·rw[if_neg h2] at h;cases h
theorem ltb_tr:∀a b c:List UInt8,ltBytes b a=false→ltBytes c b=false→ltBytes c a=false
 |[],b,c,h1,h2=>by
  cases c<;>rw[ltBytes]
 |a::x,[],c,h1,h2=>by rw[ltBytes] at h1;cases h1
 |a::x,b::y,[],h1,h2=>by rw[ltBytes] at h2;cases h2
 | a::x,b::y,c::z,h1,h2=>by
  have ih:=ltb_tr x y z
  rw[ltb_cons] at h1 h2⊢
  by_cases k1:b.toNat<a.toNat
  ·rw[if_pos k1] at h1;cases h1
  rw[if_neg k1] at h1
  by_cases k2:c.toNat<b.toNat
  ·rw[if_pos k2] at h2;cases h2
  rw[if_neg k2] at h2
  rw[if_neg (by omega)]
  by_cases k3:c.toNat=a.toNat
  ·rw[if_pos k3]
   rw[if_pos (by omega)] at h1 h2
   exact ih h1 h2
  ·rw[if_neg k3]
theorem ltb_eq:∀a b:List UInt8,ltBytes a b=false→ltBytes b a=false→a=b
 |[],[],_,_=>rfl
 |[],_::_,h,_=>by rw[ltBytes] at h;cases h
 |_::_,[],_,h=>by rw[ltBytes] at h;cases h
 |a::x,b::y,h1,h2=>by
  have ih:=ltb_eq x y
  rw[ltb_cons] at h1 h2
  by_cases k1:a.toNat<b.toNat
  ·rw[if_pos k1] at h1;cases h1
  by_cases k2:b.toNat<a.toNat
  ·rw[if_pos k2] at h2;cases h2
  have k3:a.toNat=b.toNat:=by omega
  rw[if_neg k1,if_pos k3] at h1
  rw[if_neg k2,if_pos k3.symm] at h2
  rw[ih h1 h2,show a=b from UInt8.toNat.inj k3]
def ltO (a b:Ob):Bool:=match decide (a.d0.has=b.d0.has) with
 |false=>a.d0.has
 |true=>match beqInt a.d0.t b.d0.t with
  |false=>ltInt b.d0.t a.d0.t
  |true=>ltBytes a.id b.id
theorem ltO_if (a b:Ob):ltO a b=if a.d0.has=b.d0.has then (if a.d0.t=b.d0.t then ltBytes a.id b.id else decide (b.d0.t<a.d0.t)) else a.d0.has:=by
 unfold ltO
 by_cases h:a.d0.has=b.d0.has
 ·rw[decide_eq_true h,if_pos h]
  dsimp only
  by_cases h2:a.d0.t=b.d0.t
  ·rw[beqInt_iff.2 h2,if_pos h2]
  ·rw[beqInt_false.2 h2,if_neg h2]
   dsimp only
   by_cases h3:b.d0.t<a.d0.t
   ·rw[ltInt_iff.2 h3,decide_eq_true h3]
   ·rw[ltInt_false.2 (by omega),decide_eq_false h3]
 ·rw[decide_eq_false h,if_neg h]
theorem ordO:OrdL ltO where
 tr a b c h1 h2:=by
  rw[ltO_if] at h1 h2⊢
  have ih:=ltb_tr a.id b.id c.id
  revert h1 h2
  generalize a.d0.has=p
  generalize b.d0.has=q
  generalize c.d0.has=r
  intro h1 h2
  by_cases e1:b.d0.t=a.d0.t<;>by_cases e2:c.d0.t=b.d0.t<;>by_cases e3:c.d0.t=a.d0.t<;>cases p<;>cases q<;>cases r<;>simp_all<;>omega
 asy a b h1:=by
  rw[ltO_if] at h1⊢
  have ih:=ltb_as a.id b.id
  revert h1
  generalize a.d0.has=p
  generalize b.d0.has=q
  intro h1
  cases p<;>cases q<;>simp only[if_true,reduceCtorEq,if_false] at h1⊢ <;>(try (first|rfl|cases h1))
  all_goals
   by_cases e1:a.d0.t=b.d0.t
   ·rw[if_pos e1] at h1
    rw[if_pos e1.symm]
    exact ih h1
   ·rw[if_neg e1] at h1
    rw[if_neg (fun h=>e1 h.symm)]
    exact decide_eq_false (by have:=of_decide_eq_true h1;omega)
theorem ltO_id {a b:Ob} (h1:ltO a b=false) (h2:ltO b a=false):a.id=b.id:=by
 rw[ltO_if] at h1 h2
 refine ltb_eq _ _ ?_ ?_
 all_goals
  revert h1 h2
  generalize a.d0.has=p
  generalize b.d0.has=q
  intro h1 h2
  by_cases e1:a.d0.t=b.d0.t<;>by_cases e2:b.d0.t=a.d0.t<;>cases p<;>cases q<;>simp_all<;>omega
def flO (l:List Ob):List AV:=flat (l.map obA)
theorem flO_cons (o:Ob) (l:List Ob):flO (o::l)=obC o++flO l:=rfl
theorem flO_app (a b:List Ob):flO (a++b)=flO a++flO b:=by rw[flO,List.map_append,flat_append];rfl
theorem obC_len (o:Ob):(obC o).length=37:=rfl
theorem flO_len:∀l:List Ob,(flO l).length=l.length*37
 |[]=>rfl
 |o::r=>by rw[flO_cons,List.length_append,flO_len r,obC_len,List.length_cons];omega
theorem closed_flO:∀l:List Ob,closedAll (flO l)=true
 |[]=>rfl
 |o::r=>by rw[flO_cons,closedAll_append,closed_obC,closed_flO r];rfl
theorem flO_split {l:List Ob} {i:Nat} {o:Ob} (h:l[i]? =some o):∃p s,flO l=p++(obC o++s)∧p.length=i*37∧p=flO (l.take i)∧s=flO (l.drop (i+1)):=by
 obtain ⟨hi,rfl⟩:=List.getElem?_eq_some_iff.1 h
 refine ⟨flO (l.take i),flO (l.drop (i+1)), ?_, ?_,rfl,rfl⟩
 ·rw[←flO_cons,←flO_app,←List.drop_eq_getElem_cons hi,List.take_append_drop]
 ·rw[flO_len,List.length_take]
  congr 1
  omega
theorem chunk_pre:∀ (p r:List AV) (k n:Nat),chunk (p++r) (p.length+k) n=chunk r k n
 |[],r,k,n=>by rw[List.nil_append,List.length_nil,Nat.zero_add]
 | a::p,r,k,n=>by
  have ih:=chunk_pre p r k n
  rw[List.length_cons,show p.length+1+k=(p.length+k)+1 by omega,List.cons_append]
  cases n with
  |zero=>
   rw[chunk]
   cases r<;>cases k<;>rw[chunk]
  |succ n=>rw[chunk];exact ih
theorem chunk_nil:∀ (s:List AV),chunk s 0 0=some []
 |[]=>by rw[chunk]
 |_::_=>by rw[chunk]
theorem chunk_all:∀ (x s:List AV),chunk (x++s) 0 x.length=some x
 |[],s=>chunk_nil s
 |a::x,s=>by rw[List.cons_append,List.length_cons,chunk,chunk_all x s];rfl
theorem chunk_at (p m s:List AV):chunk (p++(m++s)) p.length m.length=some m:=by
 rw[show p.length=p.length+0 from rfl,chunk_pre,chunk_all]
theorem getN_pre:∀ (p r:List AV) (k:Nat),getN (p++r) (p.length+k)=getN r k:=fun p r k=>by
 rw[getN_eq,getN_eq,List.getElem?_append_right (by omega)]
 congr 1
 omega
theorem part_obj {l:List Ob} {i:Nat} {o:Ob} (h:l[i]? =some o):partA Tryz.prog 33 (flO l) (0+(Int.ofNat i).toNat*37)=some (.agg (obC o)):=by
 obtain ⟨p,s,e,hp,_⟩:=flO_split h
 have h1:isAggA Tryz.prog 33=some true:=by kernel_rfl
 have h2:sizeA Tryz.prog 33=some 37:=by kernel_rfl
 simp only[partA,h1,h2,Nat.zero_add,Int.toNat_natCast,Int.ofNat_eq_natCast]
 rw[e,←hp,show (37:Nat)=(obC o).length from rfl,chunk_at]
 rfl
theorem part_d0 {l:List Ob} {i:Nat} {o:Ob} (h:l[i]? =some o):partA Tryz.prog 25 (flO l) (0+(Int.ofNat i).toNat*37+7+0)=some (.agg [.bool o.d0.has,I o.d0.t]):=by
 obtain ⟨p,s,e,hp,_⟩:=flO_split h
 have h1:isAggA Tryz.prog 25=some true:=by kernel_rfl
 have h2:sizeA Tryz.prog 25=some 2:=by kernel_rfl
 simp only[partA,h1,h2,Nat.zero_add,Int.toNat_natCast,Int.ofNat_eq_natCast,Nat.add_zero]
 have h3:=chunk_at (p++(obC o).take 7) [.bool o.d0.has,I o.d0.t] ((obC o).drop 9++s)
 rw[List.append_assoc,List.length_append,hp,show ((obC o).take 7).length=7 from rfl] at h3
 rw[e]
 exact congrArg (Option.map AV.agg) h3
theorem part_id {l:List Ob} {i:Nat} {o:Ob} (h:l[i]? =some o):partA Tryz.prog 9 (flO l) (0+(Int.ofNat i).toNat*37+0)=some (.str o.id):=by
 obtain ⟨p,s,e,hp,_⟩:=flO_split h
 have h1:isAggA Tryz.prog 9=some false:=by kernel_rfl
 simp only[partA,h1,Nat.zero_add,Int.toNat_natCast,Int.ofNat_eq_natCast,Nat.add_zero]
 rw[e,←hp,show p.length=p.length+0 from rfl,getN_pre]
 rfl
theorem spl_ob {l:List Ob} {i:Nat} (hi:i<l.length) (o:Ob):(flO l).take (0+(Int.ofNat i).toNat*37)++(obC o++(flO l).drop (0+(Int.ofNat i).toNat*37+lenN (obC o)))=flO (l.set i o):=by
 obtain ⟨p,s,e,hp,h1,h2⟩:=flO_split (List.getElem?_eq_getElem hi)
 rw[List.set_eq_take_append_cons_drop,if_pos hi,flO_app,flO_cons,←h1,←h2,lenN_eq,obC_len]
 simp only[Nat.zero_add,Int.toNat_natCast,Int.ofNat_eq_natCast]
 rw[←hp,e,List.take_append_of_le_length (Nat.le_refl _),List.take_length]
 congr 2
 rw[List.drop_append,List.drop_of_length_le (by omega),List.nil_append,Nat.add_sub_cancel_left,List.drop_append,obC_len,Nat.sub_self,List.drop_zero,List.drop_of_length_le (by rw[obC_len];exact Nat.le_refl _),List.nil_append]
theorem flO_blt {i n:Nat} (h:i<n):(nonneg (Int.ofNat i)&&(Nat.blt (Int.ofNat i).toNat n&&true))=true:=by
 simp only[nonneg,Bool.true_and,Bool.and_true]
 exact blt_iff.2 h
theorem endB1 {es es':List AV} {v:AV} {k m:Nat} (h:Nat.ble m k=true) (hv:closedA v=true) (hc:closedAll es'=true) (he:es=es') {H:Heap} (hg:hget H 1=some (.cells es)):EndB 2 v [(1,some (.cells es'))] k v H m:=
 ⟨h,⟨v,Frz.closed _ hv,.refl _⟩,⟨rfl,.cells es,.cells es',hg,by subst he;exact FrzL.closed _ hc,WkL.refl _⟩,trivial⟩
theorem le_body {own:Bool} {n:Nat} {l:List Ob} {i j:Nat} {a b:Ob} (ha:l[i]? =some a) (hb:l[j]? =some b) (hi:i<n) (hj:j<n):BodySem Tryz.prog opts0.glob 212 [.rsl own 1 0 n 37,I (.ofNat i),I (.ofNat j)] [(1,some (.cells (flO l)))] 2 (.bool (ltO a b)) [(1,some (.cells (flO l)))] 60:=by
 have hc:=closed_flO l
 refine fnK_bodyX (k:=2) (A:=leA a.d0 b.d0 a.id b.id) base0 aidJ_ok (fnLs_of (LsOk.no rfl)) ?_
 rw[le_fn]
 refine oblB_of (flO_blt hi) ⟨part_d0 ha,oblB_of (flO_blt hj) ⟨part_d0 hb,mtB_of (fun e=> ?_) (fun e=>mtB_of (fun e2=> ?_) (fun e2=>oblB_of (flO_blt hi) ⟨part_id ha,oblB_of (flO_blt hj) ⟨part_id hb, ?_⟩⟩))⟩⟩
 ·have e':ltO a b=a.d0.has:=by unfold ltO;rw[show decide (a.d0.has=b.d0.has)=false by simpa using e]
  rw[e'];exact endB1 rfl rfl hc rfl rfl
 ·have e':ltO a b=ltInt b.d0.t a.d0.t:=by unfold ltO;rw[show decide (a.d0.has=b.d0.has)=true by simpa using e,show beqInt a.d0.t b.d0.t=false by simpa using e2]
  rw[e'];exact endB1 rfl rfl hc rfl rfl
 ·have e':ltO a b=ltBytes a.id b.id:=by unfold ltO;rw[show decide (a.d0.has=b.d0.has)=true by simpa using e,show beqInt a.d0.t b.d0.t=true by simpa using e2]
  rw[e'];exact endB1 rfl rfl hc rfl rfl
theorem fits_obh (o:Ob):fitsT Tryz.prog 33 (.agg (obC o)) 37=true:=by kernel_rfl
theorem ble_of {a b:Nat} (h:a≤b):Nat.ble a b=true:=Nat.ble_eq_true_of_le h
theorem swp_set {l:List Ob} {i j:Nat} {a b:Ob} (ha:l[i]? =some a) (hb:l[j]? =some b):swp l i j=(l.set i b).set j a:=by unfold swp;rw[ha,hb]
set_option maxRecDepth 20000 in
theorem sw_body {own:Bool} {n:Nat} {l:List Ob} {i j:Nat} (hi:i<n) (hj:j<n) (hn:n≤l.length):BodySem Tryz.prog opts0.glob 213 [.rsl own 1 0 n 37,I (.ofNat i),I (.ofNat j)] [(1,some (.cells (flO l)))] 2 (.tuple []) [(1,some (.cells (flO (swp l i j))))] 60:=by
 have hil:i<l.length:=by omega
 have hjl:j<l.length:=by omega
 have ha:=List.getElem?_eq_getElem hil
 have hb:=List.getElem?_eq_getElem hjl
 revert ha hb
 generalize l[i]=a
 generalize l[j]=b
 intro ha hb
 have h1:=spl_ob hil b
 have h2:=spl_ob (l:=l.set i b) (i:=j) (by rw[List.length_set];exact hjl) a
 rw[←swp_set ha hb] at h2
 have hlen:(flO (l.set i b)).length=l.length*37:=by rw[flO_len,List.length_set]
 refine fnK_bodyX (k:=2) (A:=swA (obC b) (obC a)) base0 aidJ_ok (fnLs_of (LsOk.no rfl)) ?_
 rw[sw_fn,h1,h2]
 refine oblB_of (flO_blt hj) ⟨part_obj hb,oblB_of (flO_blt hi) ⟨part_obj ha,oblB_of (flO_blt hi) (oblB_of (fits_obh b) (oblB_of (ble_of ?_) (oblB_of (flO_blt hj) (oblB_of (fits_obh a) (oblB_of (ble_of ?_) (endB1 rfl rfl (closed_flO _) rfl rfl))))))⟩⟩
 ·rw[lenN_eq,flO_len]
  simp only[Int.ofNat_eq_natCast,Int.toNat_natCast]
  omega
 ·rw[lenN_eq,hlen]
  simp only[Int.ofNat_eq_natCast,Int.toNat_natCast]
  omega
theorem gl0:∀g l,opts0.glob g=some l→closedAll l=true:=base0.glob
section
variable {f:FuncId} {args args2:List AV} {v:AV} {es es':List AV} {nx nx' K m m' Z:Nat} {c c':List AV}
theorem ren1 (h:BodySem Tryz.prog opts0.glob f args [(1,some (.cells es))] 2 v [(1,some (.cells es'))] nx') (hA:RenL [(1,K)] args args2) (hv:closedA v=true) (he:closedAll es=true) (he':closedAll es'=true) (hm:m≤m'):BodySem Tryz.prog opts0.glob f args2 [(K,some (.cells es))] m v [(K,some (.cells es'))] m':=by
 refine BodySem.ren (lk:=[(1,K)]) gl0 h (by simp) (by simp) (by simp) hA (fun i b hb=> ?_) (.same _ hv) (fun j b hb=> ?_) hm
 ·simp only[hget] at hb
  split at hb
  ·rename_i e
   have e:=beq_iff.1 e
   subst e
   cases hb
   exact ⟨K,.cells es,rfl,by simp[hget],RenL.same _ he⟩
  ·cases hb
 ·simp only[hget] at hb
  split at hb
  ·rename_i e
   have e:=beq_iff.1 e
   subst e
   cases hb
   exact ⟨1,.cells es',by simp[flipLk,lookN],rfl,RenL.same _ he'⟩
  ·cases hb
theorem ren2 (h:BodySem Tryz.prog opts0.glob f args [(0,some (.cells c)),(1,some (.cells es))] 2 v [(0,some (.cells c')),(1,some (.cells es'))] nx') (hZ:Z≠K) {v2:AV} {c2 c2':List AV} {H2:Heap} (g1:hget H2 Z=some (.cells c2)) (g2:hget H2 K=some (.cells es)) (hA:RenL [(0,Z),(1,K)] args args2) (hc:RenL [(0,Z),(1,K)] c c2) (hc':RenL [(Z,0),(K,1)] c2' c') (hv:RenV [(Z,0),(K,1)] v2 v) (he:closedAll es=true) (he':closedAll es'=true) (hm:m≤m'):BodySem Tryz.prog opts0.glob f args2 H2 m v2 [(Z,some (.cells c2')),(K,some (.cells es'))] m':=by
 have hk:Nat.beq Z K=false:=beq_false_iff.2 hZ
 refine BodySem.ren (lk:=[(0,Z),(1,K)]) gl0 h (by simp) (by simp[hZ]) (by simp) hA (fun i b hb=> ?_) hv (fun j b hb=> ?_) hm
 ·simp only[hget] at hb
  split at hb
  ·rename_i e
   have e:=beq_iff.1 e
   subst e
   cases hb
   exact ⟨Z,.cells c2,rfl,g1,hc⟩
  split at hb
  ·rename_i e
   have e:=beq_iff.1 e
   subst e
   cases hb
   exact ⟨K,.cells es,rfl,g2,RenL.same _ he⟩
  ·cases hb
 ·simp only[hget] at hb
  split at hb
  ·rename_i e
   have e:=beq_iff.1 e
   subst e
   cases hb
   exact ⟨0,.cells c',by simp[flipLk,lookN],rfl,hc'⟩
  split at hb
  ·rename_i e1 e
   have e:=beq_iff.1 e
   subst e
   cases hb
   exact ⟨1,.cells es',by simp[flipLk,lookN,hk],rfl,RenL.same _ he'⟩
  ·cases hb
end
end Go.Proofs.YtjhggnebkfpgcaaGreatDoor
namespace Go.Proofs.YtjhggnebkfpgcaaGreatDoor
set_option maxRecDepth 20000
open Go Go.RowKit
open Go.Proofs.Abs
theorem dn_appO:∀ (f:Nat) (p t:List Ob) (i n:Nat),n≤p.length→i<p.length→dnL ltO f (p++t) i n=dnL ltO f p i n++t
 |0,_,_,_,_,_,_=>rfl
 | f+1,p,t,i,n,hn,hi=>by
  have hkid:kidL ltO (p++t) i n=kidL ltO p i n:=by
   unfold kidL
   by_cases h:2*i+2<n
   ·rw[if_pos h,if_pos h,List.getElem?_append_left (by omega),List.getElem?_append_left (by omega)]
   ·rw[if_neg h,if_neg h]
  simp only[dnL,hkid]
  by_cases h:n≤2*i+1
  ·rw[if_pos h,if_pos h]
  rw[if_neg h,if_neg h]
  have hc:=(kid_cases (lt:=ltO) p i n (by omega)).1
  generalize kidL ltO p i n=j at hc⊢
  have hj:j<p.length:=by omega
  have hsw:swp (p++t) i j=swp p i j++t:=by
   rw[swp_set (a:=p[i]) (b:=p[j]) (by rw[List.getElem?_append_left hi,List.getElem?_eq_getElem hi]) (by rw[List.getElem?_append_left hj,List.getElem?_eq_getElem hj]),swp_set (List.getElem?_eq_getElem hi) (List.getElem?_eq_getElem hj),List.set_append_left _ _ hi,List.set_append_left _ _ (by rw[List.length_set];exact hj)]
  rw[List.getElem?_append_left hj,List.getElem?_append_left hi,hsw,dn_appO f (swp p i j) t j n (by rw[swp_len];exact hn) (by rw[swp_len];exact hj)]
  split
  ·split<;>rfl
  ·rfl
def dnX:Nat→List Ob→Nat→Nat→Nat
 |0,_,i,_=>i
 |f+1,l,i,n=>if n≤2*i+1 then i else match l[kidL ltO l i n]?,l[i]? with
  |some a,some b=>if ltO a b=true then dnX f (swp l i (kidL ltO l i n)) (kidL ltO l i n) n else i
  |_,_=>i
theorem wr1 {k:Nat} (h:k≤1000000):wrapA .i64 (Int.ofNat (k+1)-1)=Int.ofNat k:=by
 rw[wrapA_i64 (by simp<;>omega) (by simp<;>omega)]
 simp only[Int.ofNat_eq_natCast]
 omega
theorem wr_up {j:Nat} (h:j≤1000000):wrapA .i64 ((wrapA .i64 (Int.ofNat j-1)).tdiv 2)=Int.ofNat ((j-1)/2):=by
 cases j with
 |zero=>rfl
 |succ j=>
  rw[wr1 (by omega),Nat.add_sub_cancel,show (Int.ofNat j).tdiv 2=Int.ofNat (j/2) from rfl,wrapA_i64 (by simp<;>omega) (by simp<;>omega)]
theorem wr_2 {i:Nat} (h:i≤1000000):wrapA .i64 (wrapA .i64 (2*Int.ofNat i)+1)=Int.ofNat (2*i+1):=by
 rw[show 2*Int.ofNat i=Int.ofNat (2*i) from rfl,wrapA_i64 (n:=Int.ofNat (2*i)) (by simp<;>omega) (by simp<;>omega),wrapA_i64 (by simp<;>omega) (by simp<;>omega)]
 rfl
theorem wr_3 {i:Nat} (h:i≤1000000):wrapA .i64 (Int.ofNat (2*i+1)+1)=Int.ofNat (2*i+2):=by
 rw[wrapA_i64 (by simp<;>omega) (by simp<;>omega)]
 rfl
theorem ren_args {own:Bool} {n i j K:Nat}:RenL [(1,K)] [.rsl own 1 0 n 37,I (.ofNat i),I (.ofNat j)] [.rsl own K 0 n 37,I (.ofNat i),I (.ofNat j)]:=⟨.rsl _ _ _ _ _ _ rfl,.same _ rfl,.same _ rfl,trivial⟩
section
variable {own:Bool} {n m:Nat} {Q:AExit→St→Prop}
theorem le_at {l:List Ob} {i j k k':Nat} {a b:Ob} (ha:l[i]? =some a) (hb:l[j]? =some b) (hi:i<n) (hj:j<n) (h:k≤k'):BodySem Tryz.prog opts0.glob 212 [.rsl own 1 0 n 37,I (.ofNat i),I (.ofNat j)] [(1,some (.cells (flO l)))] k (.bool (ltO a b)) [(1,some (.cells (flO l)))] k':=
 ren1 (le_body ha hb hi hj) ren_args rfl (closed_flO _) (closed_flO _) h
theorem sw_at {l:List Ob} {i j k k':Nat} (hi:i<n) (hj:j<n) (hn:n≤l.length) (h:k≤k'):BodySem Tryz.prog opts0.glob 213 [.rsl own 1 0 n 37,I (.ofNat i),I (.ofNat j)] [(1,some (.cells (flO l)))] k (.tuple []) [(1,some (.cells (flO (swp l i j))))] k':=
 ren1 (sw_body hi hj hn) ren_args rfl (closed_flO _) (closed_flO _) h
theorem up_run (hb:n≤100000):∀ (f:Nat) (l:List Ob) (j:Nat),j<f→j<n→n≤l.length→Q (.exit 0) (upF own n (flO (upL ltO f l j))).st→ALp Tryz.prog opts0.glob 2 (lpCode Tryz.prog 144 1) (upV own n (.ofNat j) (flO l)).st Q
 |0,_,_,h,_,_,_=>absurd h (Nat.not_lt_zero _)
 | f+1,l,j,hf,hj,hn,hq=>by
  have hi2:=wr_up (j:=j) (by omega)
  have hc:=closed_flO l
  unfold upL at hq
  by_cases e:(j-1)/2=j
  ·rw[if_pos e] at hq
   refine ALp.round (A:=aidJ [] [] (upT false (flO l) (flO l)) [] []) (V1:=upV own n 0 (flO l)) (V2:=upV own n 0 (flO l)) (F:=upF own n (flO l)) (lk:=[(0,0),(1,1)]) (lk':=[(0,0),(1,1)]) base0 aidJ_ok (LsOk.no rfl) .refl ?_
   rw[up_r,hi2]
   exact mtT (beqInt_iff.2 (by rw[e])) ⟨⟨trivial,trivial,⟨⟨rfl,rfl,rfl,rfl,rfl⟩,trivial⟩,⟨rfl,hc⟩,trivial⟩,hq⟩
  rw[if_neg e] at hq
  have ne:beqInt (Int.ofNat ((j-1)/2)) (Int.ofNat j)=false:=beqInt_false.2 (fun h=>e (Int.ofNat.inj h))
  have hjl:j<l.length:=by omega
  have hil:(j-1)/2<l.length:=by omega
  have gj:=List.getElem?_eq_getElem hjl
  have gi:=List.getElem?_eq_getElem hil
  revert gj gi
  generalize l[j]=x
  generalize l[(j-1)/2]=y
  intro gj gi
  simp only[gj,gi] at hq
  have h1:=le_at (own:=own) (n:=n) (k:=16) (k':=17) gj gi hj (by omega) (by omega)
  cases hl:ltO x y with
  |true=>
   rw[if_pos hl] at hq
   rw[hl] at h1
   have h2:=sw_at (own:=own) (n:=n) (k:=21) (k':=22) (l:=l) (i:=(j-1)/2) (j:=j) (by omega) hj hn (by omega)
   have ih:=up_run hb f (swp l ((j-1)/2) j) ((j-1)/2) (by omega) (by omega) (by rw[swp_len];exact hn) hq
   refine ALp.round (A:=aidJ [] [] (upT true (flO l) (flO (swp l ((j-1)/2) j))) [] []) (V1:=upV own n (.ofNat ((j-1)/2)) (flO (swp l ((j-1)/2) j))) (V2:=upV own n (.ofNat ((j-1)/2)) (flO (swp l ((j-1)/2) j))) (F:=upF own n (flO l)) (lk:=[(0,0),(1,1)]) (lk':=[(0,0),(1,1)]) base0 aidJ_ok (LsOk.no rfl) .refl ?_
   rw[up_r,hi2]
   exact mtF ne ⟨h1,mtF rfl ⟨h2,⟨⟨⟨rfl,rfl⟩,trivial⟩,⟨⟨rfl,rfl,rfl⟩,trivial⟩,⟨⟨rfl,rfl,rfl,rfl,rfl⟩,trivial⟩,⟨rfl,closed_flO _⟩,trivial⟩,ih⟩⟩
  |false=>
   rw[hl,if_neg (by simp)] at hq
   rw[hl] at h1
   refine ALp.round (A:=aidJ [] [] (upT false (flO l) (flO l)) [] []) (V1:=upV own n 0 (flO l)) (V2:=upV own n 0 (flO l)) (F:=upF own n (flO l)) (lk:=[(0,0),(1,1)]) (lk':=[(0,0),(1,1)]) base0 aidJ_ok (LsOk.no rfl) .refl ?_
   rw[up_r,hi2]
   exact mtF ne ⟨h1,mtT rfl ⟨⟨trivial,trivial,⟨⟨rfl,rfl,rfl,rfl,rfl⟩,trivial⟩,⟨rfl,hc⟩,trivial⟩,hq⟩⟩
theorem up_at:loopsAt (fnCode Tryz.prog 144) 1=[lpCode Tryz.prog 144 1]:=by kernel_rfl
theorem endB2 {es:List AV} {v:AV} {K k m n':Nat} {H:Heap} (h:Nat.ble m k=true) (hv:closedA v=true) (hK:Nat.blt K 20=true) (hc:closedAll es=true) (g0:hget H 0=some (.cells [.rsl own K 0 n' 37])) (g1:hget H K=some (.cells es)):EndB 20 v [(0,some (.cells [.rsl own K 0 n' 37])),(K,some (.cells es))] k v H m:=
 ⟨h,⟨v,Frz.closed _ hv,.refl _⟩,⟨rfl,.cells [.rsl own K 0 n' 37],.cells [.rsl own K 0 n' 37],g0,FrzL.cons (.keepR hK) .nil,WkL.refl _⟩,⟨hK,.cells es,.cells es,g1,FrzL.closed _ hc,WkL.refl _⟩,trivial⟩
theorem up_body (hb:n≤100000) {l:List Ob} {j:Nat} (hj:j<n) (hn:n≤l.length):BodySem Tryz.prog opts0.glob 144 [hpI,I (.ofNat j)] [(0,some (.cells [.rsl own 1 0 n 37])),(1,some (.cells (flO l)))] 2 (.tuple []) [(0,some (.cells [.rsl own 1 0 n 37])),(1,some (.cells (flO (upL ltO n l j))))] 100:=by
 refine fnK_bodyX (k:=20) (A:=aidJ [] [(1,upLp own n (.ofNat j) (flO l) (flO (upL ltO n l j)))] noSem [] []) base0 aidJ_ok
  (fnLs_of (LsOk.at1 rfl up_at fun st Q hs=> .seen base0.glob hs.1 (up_run hb n l j hj hj hn hs.2))) ?_
 rw[up_fn]
 exact ⟨⟨⟨⟨rfl,rfl⟩,trivial⟩,⟨⟨rfl,rfl,rfl⟩,trivial⟩,⟨⟨rfl,rfl,rfl,rfl,rfl⟩,trivial⟩,⟨rfl,closed_flO _⟩,trivial⟩,endB2 rfl rfl rfl (closed_flO _) rfl rfl⟩
theorem dn_run (hb:n≤100000) {i0:Int} (hm:m≤n):∀ (f:Nat) (l:List Ob) (i:Nat),m≤i+f→i<n→n≤l.length→Q (.exit 0) (dnF own n i0 (.ofNat (dnX f l i m)) (flO (dnL ltO f l i m))).st→ALp Tryz.prog opts0.glob 2 (lpCode Tryz.prog 145 3) (dnV own n i0 (.ofNat i) (.ofNat m) (flO l)).st Q:=by
 have stop:∀ (l:List Ob) (i:Nat),i<n→m≤2*i+1→Q (.exit 0) (dnF own n i0 (.ofNat i) (flO l)).st→ALp Tryz.prog opts0.glob 2 (lpCode Tryz.prog 145 3) (dnV own n i0 (.ofNat i) (.ofNat m) (flO l)).st Q:=fun l i hi h hq=>by
  have hc:=closed_flO l
  refine ALp.round (A:=aidJ [] [] (dnT false false (flO l) (flO l)) [] []) (V1:=dnV own n i0 0 (.ofNat m) (flO l)) (V2:=dnV own n i0 0 (.ofNat m) (flO l)) (F:=dnF own n i0 (.ofNat i) (flO l)) (lk:=[(0,0),(1,1)]) (lk':=[(0,0),(1,1)]) base0 aidJ_ok (LsOk.no rfl) .refl ?_
  rw[dn_r,wr_2 (by omega)]
  exact mtT (by rw[ltInt_false.2 (by simp only[Int.ofNat_eq_natCast];omega)];rfl) ⟨⟨⟨⟨rfl,rfl⟩,⟨rfl,rfl⟩,trivial⟩,trivial,⟨⟨rfl,rfl,rfl,rfl,rfl⟩,trivial⟩,⟨rfl,hc⟩,trivial⟩,hq⟩
 intro f
 induction f with
 |zero=>
  intro l i hf hi hn hq
  exact stop l i hi (by omega) hq
 | succ f ih=>
  intro l i hf hi hn hq
  by_cases e:m≤2*i+1
  ·rw[dnX,dnL,if_pos e,if_pos e] at hq
   exact stop l i hi e hq
  rw[dnX,dnL,if_neg e,if_neg e] at hq
  have hc:=closed_flO l
  have hk:=kid_cases (lt:=ltO) l i m (by omega)
  have k1:(!ltInt (Int.ofNat (2*i+1)) (Int.ofNat m))=false:=by rw[ltInt_iff.2 (by simp only[Int.ofNat_eq_natCast];omega)];rfl
  have k2:ltInt (Int.ofNat (2*i+1)) 0=false:=ltInt_false.2 (by simp only[Int.ofNat_eq_natCast];omega)
  have gi:=List.getElem?_eq_getElem (show i<l.length by omega)
  have g1:=List.getElem?_eq_getElem (show 2*i+1<l.length by omega)
  revert gi g1
  generalize l[i]'(by omega)=y
  generalize l[2*i+1]'(by omega)=x1
  intro gi g1
  have fin:∀ (b:Bool) (j:Nat) (x:Ob),kidL ltO l i m=j→l[j]? =some x→j<m→i<j→
    (∀ (c:Bool) (es':List AV) (i':Int) (N:Prop),ltO x y=c→(c=true→es'=flO (swp l i j)∧i'= .ofNat j)→(c=true→N)→(c=false→Q (.exit 0) (dnF own n i0 (.ofNat i) (flO l)).st)→
     wpK Tryz.prog opts0 40 (aidJ [] [] (dnT b c (flO l) es') [] []) (lpCode Tryz.prog 145 3) (dnV own n i0 (.ofNat i) (.ofNat m) (flO l)).st (roundP 2 [(0,0),(1,1)] (dnV own n i0 i' (.ofNat m) es') N [(0,0),(1,1)] (dnF own n i0 (.ofNat i) (flO l)) Q))→
    ALp Tryz.prog opts0.glob 2 (lpCode Tryz.prog 145 3) (dnV own n i0 (.ofNat i) (.ofNat m) (flO l)).st Q:=fun b j x hkj gj hjm hij hw=>by
   rw[hkj] at hq
   simp only[gj,gi] at hq
   cases hl:ltO x y with
   |true=>
    rw[hl] at hq
    have h3:=ih (swp l i j) j (by omega) (by omega) (by rw[swp_len];exact hn) hq
    refine ALp.round (A:=aidJ [] [] (dnT b true (flO l) (flO (swp l i j))) [] []) (V1:=dnV own n i0 (.ofNat j) (.ofNat m) (flO (swp l i j))) (V2:=dnV own n i0 (.ofNat j) (.ofNat m) (flO (swp l i j))) (F:=dnF own n i0 (.ofNat i) (flO l)) (lk:=[(0,0),(1,1)]) (lk':=[(0,0),(1,1)]) base0 aidJ_ok (LsOk.no rfl) .refl ?_
    exact hw true _ _ _ hl (fun _=>⟨rfl,rfl⟩) (fun _=>h3) (fun e=>by cases e)
   |false=>
    rw[hl] at hq
    refine ALp.round (A:=aidJ [] [] (dnT b false (flO l) (flO l)) [] []) (V1:=dnV own n i0 0 (.ofNat m) (flO l)) (V2:=dnV own n i0 0 (.ofNat m) (flO l)) (F:=dnF own n i0 (.ofNat i) (flO l)) (lk:=[(0,0),(1,1)]) (lk':=[(0,0),(1,1)]) base0 aidJ_ok (LsOk.no rfl) .refl ?_
    exact hw false _ _ _ hl (fun e=>by cases e) (fun e=>by cases e) (fun _=>hq)
  by_cases h2:2*i+2<m
  ·have k3:ltInt (Int.ofNat (2*i+2)) (Int.ofNat m)=true:=ltInt_iff.2 (by simp only[Int.ofNat_eq_natCast];omega)
   have g2:=List.getElem?_eq_getElem (show 2*i+2<l.length by omega)
   revert g2
   generalize l[2*i+2]'(by omega)=x2
   intro g2
   have hkd:kidL ltO l i m=if ltO x2 x1=true then 2*i+2 else 2*i+1:=by
    unfold kidL
    rw[if_pos h2,g2,g1]
   cases hb2:ltO x2 x1 with
   | true=>
    rw[hb2,if_pos rfl] at hkd
    refine fin true (2*i+2) x2 hkd g2 h2 (by omega) fun c es' i' N hc' hs hN hf'=> ?_
    rw[dn_r,wr_2 (by omega),wr_3 (by omega)]
    have b1:=le_at (own:=own) (n:=n) (k:=27) (k':=28) g2 g1 (by omega) (by omega) (by omega)
    have b2:=le_at (own:=own) (n:=n) (k:=35) (k':=36) g2 gi (by omega) (by omega) (by omega)
    have b3:=sw_at (own:=own) (n:=n) (k:=40) (k':=41) (l:=l) (i:=i) (j:=2*i+2) (by omega) (by omega) hn (by omega)
    rw[hb2] at b1
    rw[hc'] at b2
    refine mtF k1 (mtF k2 (mtT k3 ⟨b1,mtT rfl ⟨b2,mtB_of (fun e=> ?_) (fun e=> ?_)⟩⟩))
    ·exact ⟨⟨⟨⟨rfl,rfl⟩,⟨rfl,rfl⟩,trivial⟩,trivial,⟨⟨rfl,rfl,rfl,rfl,rfl⟩,trivial⟩,⟨rfl,hc⟩,trivial⟩,hf' (by simpa using e)⟩
    ·have e:c=true:=by simpa using e
     obtain ⟨rfl,rfl⟩:=hs e
     exact ⟨b3,⟨⟨⟨rfl,rfl⟩,⟨rfl,rfl⟩,⟨rfl,rfl⟩,⟨rfl,rfl⟩,trivial⟩,⟨⟨rfl,rfl,rfl⟩,trivial⟩,⟨⟨rfl,rfl,rfl,rfl,rfl⟩,trivial⟩,⟨rfl,closed_flO _⟩,trivial⟩,hN e⟩
   | false=>
    rw[hb2,if_neg (by simp)] at hkd
    refine fin false (2*i+1) x1 hkd g1 (by omega) (by omega) fun c es' i' N hc' hs hN hf'=> ?_
    rw[dn_r,wr_2 (by omega),wr_3 (by omega)]
    have b1:=le_at (own:=own) (n:=n) (k:=27) (k':=28) g2 g1 (by omega) (by omega) (by omega)
    have b2:=fun k k' h=>le_at (own:=own) (n:=n) (k:=k) (k':=k') g1 gi (by omega) (by omega) h
    have b3:=fun k k' h=>sw_at (own:=own) (n:=n) (k:=k) (k':=k') (l:=l) (i:=i) (j:=2*i+1) (by omega) (by omega) hn h
    rw[hb2] at b1
    rw[hc'] at b2
    refine mtF k1 (mtF k2 (mtT k3 ⟨b1,mtF rfl ⟨b2 _ _ (by omega),mtB_of (fun e=> ?_) (fun e=> ?_)⟩⟩))
    ·exact ⟨⟨⟨⟨rfl,rfl⟩,⟨rfl,rfl⟩,trivial⟩,trivial,⟨⟨rfl,rfl,rfl,rfl,rfl⟩,trivial⟩,⟨rfl,hc⟩,trivial⟩,hf' (by simpa using e)⟩
    ·have e:c=true:=by simpa using e
     obtain ⟨rfl,rfl⟩:=hs e
     exact ⟨b3 _ _ (by omega),⟨⟨⟨rfl,rfl⟩,⟨rfl,rfl⟩,⟨rfl,rfl⟩,⟨rfl,rfl⟩,trivial⟩,⟨⟨rfl,rfl,rfl⟩,trivial⟩,⟨⟨rfl,rfl,rfl,rfl,rfl⟩,trivial⟩,⟨rfl,closed_flO _⟩,trivial⟩,hN e⟩
  ·have k3:ltInt (Int.ofNat (2*i+2)) (Int.ofNat m)=false:=ltInt_false.2 (by simp only[Int.ofNat_eq_natCast];omega)
   have hkd:kidL ltO l i m=2*i+1:=by
    unfold kidL
    rw[if_neg h2]
   refine fin false (2*i+1) x1 hkd g1 (by omega) (by omega) fun c es' i' N hc' hs hN hf'=> ?_
   rw[dn_r,wr_2 (by omega),wr_3 (by omega)]
   have b2:=fun k k' h=>le_at (own:=own) (n:=n) (k:=k) (k':=k') g1 gi (by omega) (by omega) h
   have b3:=fun k k' h=>sw_at (own:=own) (n:=n) (k:=k) (k':=k') (l:=l) (i:=i) (j:=2*i+1) (by omega) (by omega) hn h
   rw[hc'] at b2
   refine mtF k1 (mtF k2 (mtF k3 ⟨b2 _ _ (by omega),mtB_of (fun e=> ?_) (fun e=> ?_)⟩))
   ·exact ⟨⟨⟨⟨rfl,rfl⟩,⟨rfl,rfl⟩,trivial⟩,trivial,⟨⟨rfl,rfl,rfl,rfl,rfl⟩,trivial⟩,⟨rfl,hc⟩,trivial⟩,hf' (by simpa using e)⟩
   ·have e:c=true:=by simpa using e
    obtain ⟨rfl,rfl⟩:=hs e
    exact ⟨b3 _ _ (by omega),⟨⟨⟨rfl,rfl⟩,⟨rfl,rfl⟩,⟨rfl,rfl⟩,⟨rfl,rfl⟩,trivial⟩,⟨⟨rfl,rfl,rfl⟩,trivial⟩,⟨⟨rfl,rfl,rfl,rfl,rfl⟩,trivial⟩,⟨rfl,closed_flO _⟩,trivial⟩,hN e⟩
theorem dn_at:loopsAt (fnCode Tryz.prog 145) 3=[lpCode Tryz.prog 145 3]:=by kernel_rfl
theorem dn_body (hb:n≤100000) {l:List Ob} (h0:0<n) (hm:m≤n) {f:Nat} (hf:m≤f) (hn:n≤l.length):BodySem Tryz.prog opts0.glob 145 [hpI,I 0,I (.ofNat m)] [(0,some (.cells [.rsl own 1 0 n 37])),(1,some (.cells (flO l)))] 2 (.bool (ltInt 0 (.ofNat (dnX f l 0 m)))) [(0,some (.cells [.rsl own 1 0 n 37])),(1,some (.cells (flO (dnL ltO f l 0 m))))] 100:=by
 refine fnK_bodyX (k:=20) (A:=aidJ [] [(3,dnLp own n 0 (.ofNat (dnX f l 0 m)) (.ofNat m) (flO l) (flO (dnL ltO f l 0 m)))] noSem [] []) base0 aidJ_ok
  (fnLs_of (LsOk.at1 rfl dn_at fun st Q hs=> .seen base0.glob hs.1 (dn_run hb hm f l 0 (by omega) h0 hn hs.2))) ?_
 rw[dn_fn]
 exact ⟨⟨⟨⟨rfl,rfl⟩,⟨rfl,rfl⟩,⟨rfl,rfl⟩,⟨rfl,rfl⟩,trivial⟩,⟨⟨rfl,rfl,rfl⟩,trivial⟩,⟨⟨rfl,rfl,rfl,rfl,rfl⟩,trivial⟩,⟨rfl,closed_flO _⟩,trivial⟩,endB2 rfl rfl rfl (closed_flO _) rfl rfl⟩
end
theorem fp_cells (l:List Ob) (o:Ob):flO l++obC o=flO (l++[o]):=by rw[flO_app];exact congrArg (flO l++ ·) (List.append_nil (obC o)).symm
theorem flat_one (o:Ob):flat [if false=true then AV.tuple [.agg (obC o),.bool true] else .agg (obC o)]=obC o:=List.append_nil (obC o)
theorem oneO (o:Ob):allOne (flat [if false=true then AV.tuple [.agg (obC o),.bool true] else .agg (obC o)])=true:=by rw[flat_one];exact one_obC o
theorem sizO (o:Ob):allSize 37 [if false=true then AV.tuple [.agg (obC o),.bool true] else .agg (obC o)]=true:=rfl
theorem and3 {a b c:Bool} (ha:a=true) (hb:b=true) (hc:c=true):(a&&(b&&(c&&true)))=true:=by rw[ha,hb,hc];rfl
theorem fp_body1 {l:List Ob} (hb:l.length≤100000) (o:Ob):BodySem Tryz.prog opts0.glob 215 [.ptr 0 0,.iface 33 (obA o)] [(0,some (.cells [.rsl true 1 0 l.length 37])),(1,some (.cells (flO l)))] 2 (.tuple []) [(0,some (.cells [.rsl true 9 0 (l.length+1) 37])),(9,some (.cells (flO (l++[o]))))] 30:=by
 have h1:=sizO o
 have h2:=oneO o
 have h3:Nat.ble ((l.length+1)*376) 140737488355328=true:=ble_of (by omega)
 have hc:=closed_flO (l++[o])
 rw[←fp_cells] at hc⊢
 rw[←flat_one] at hc⊢
 refine fnK_bodyX (k:=20) (A:=aid0) base0 aidOk0 (fnLs_of (LsOk.no rfl)) ?_
 unfold obA
 unfold obC at h1 h2 hc⊢
 rw[fp_fn1]
 refine oblB_of ?_ (oblB_of ?_ (endB2 rfl rfl rfl hc rfl rfl))
 ·have h4:=and3 h1 h3 h2
  exact h4
 ·rw[lenN_eq,flO_len];exact beq_iff.2 rfl
theorem fp_body0 (o:Ob):BodySem Tryz.prog opts0.glob 215 [.ptr 0 0,.iface 33 (obA o)] [(0,some (.cells [.nilsl]))] 1 (.tuple []) [(0,some (.cells [.rsl true 8 0 1 37])),(8,some (.cells (flO [o])))] 30:=by
 have hc:=closed_flO [o]
 rw[show flO [o]=obC o from List.append_nil _] at hc⊢
 rw[←flat_one] at hc⊢
 refine fnK_bodyX (k:=20) (A:=aid0) base0 aidOk0 (fnLs_of (LsOk.no rfl)) ?_
 unfold obA
 unfold obC at hc⊢
 rw[fp_fn0]
 exact (endB2 rfl rfl rfl hc rfl rfl)
theorem clO (o:Ob):closedA (.iface 33 (obA o))=true:=closed_obC o
section
variable {f:FuncId} {o:Ob} {es es':List AV} {nx nx' m m' K K' n n':Nat}
theorem ren3 {H2:Heap} {a:AV} (ha:RenV [(0,0),(1,1),(K,K')] a a) (h:BodySem Tryz.prog opts0.glob f [a,.iface 33 (obA o)] [(0,some (.cells [.rsl true 1 0 n 37])),(1,some (.cells es))] nx (.tuple []) [(0,some (.cells [.rsl true K 0 n' 37])),(K,some (.cells es'))] nx') (hK:1<K) (hK':m≤K'∧K'<m') (hm:1<m) (g0:hget H2 0=some (.cells [.rsl true 1 0 n 37])) (g1:hget H2 1=some (.cells es)) (hx:1<nx) (he:closedAll es=true) (he':closedAll es'=true):BodySem Tryz.prog opts0.glob f [a,.iface 33 (obA o)] H2 m (.tuple []) [(0,some (.cells [.rsl true K' 0 n' 37])),(K',some (.cells es'))] m':=by
 have e1:Nat.beq 0 K=false:=beq_false_iff.2 (by omega)
 have e2:Nat.beq 1 K=false:=beq_false_iff.2 (by omega)
 have e3:Nat.beq 0 K'=false:=beq_false_iff.2 (by omega)
 have e4:Nat.beq 1 K'=false:=beq_false_iff.2 (by omega)
 refine BodySem.ren (lk:=[(0,0),(1,1),(K,K')]) gl0 h (by simp;omega) (by simp;omega) (fun p hp=> ?_) ⟨ha,.same _ (clO o),trivial⟩ (fun i b hb=> ?_) (.same _ rfl) (fun j b hb=> ?_) (by omega)
 ·simp only[List.mem_cons,List.not_mem_nil,or_false] at hp
  rcases hp with rfl|rfl|rfl
  ·exact .inl (by simp only;omega)
  ·exact .inl (by simp only;omega)
  ·exact .inr hK'
 ·simp only[hget] at hb
  split at hb
  ·rename_i e
   have e:=beq_iff.1 e
   subst e
   cases hb
   exact ⟨0,.cells [.rsl true 1 0 n 37],rfl,g0,⟨.rsl _ _ _ _ _ _ rfl,trivial⟩⟩
  split at hb
  ·rename_i e
   have e:=beq_iff.1 e
   subst e
   cases hb
   exact ⟨1,.cells es,rfl,g1,RenL.same _ he⟩
  ·cases hb
 ·simp only[hget] at hb
  split at hb
  ·rename_i e
   have e:=beq_iff.1 e
   subst e
   cases hb
   exact ⟨0,.cells [.rsl true K 0 n' 37],rfl,rfl,⟨.rsl _ _ _ _ _ _ (by simp[flipLk,lookN,e3,e4]),trivial⟩⟩
  split at hb
  ·rename_i e
   have e:=beq_iff.1 e
   subst e
   cases hb
   exact ⟨K,.cells es',by simp[flipLk,lookN,e3,e4],by simp[hget,e1],RenL.same _ he'⟩
  ·cases hb
theorem ren3z {H2:Heap} {a:AV} (ha:RenV [(0,0),(K,K')] a a) (h:BodySem Tryz.prog opts0.glob f [a,.iface 33 (obA o)] [(0,some (.cells [.nilsl]))] nx (.tuple []) [(0,some (.cells [.rsl true K 0 n' 37])),(K,some (.cells es'))] nx') (hK:0<K) (hK':m≤K'∧K'<m') (hm:0<m) (g0:hget H2 0=some (.cells [.nilsl])) (hx:0<nx) (he':closedAll es'=true):BodySem Tryz.prog opts0.glob f [a,.iface 33 (obA o)] H2 m (.tuple []) [(0,some (.cells [.rsl true K' 0 n' 37])),(K',some (.cells es'))] m':=by
 have e1:Nat.beq 0 K=false:=beq_false_iff.2 (by omega)
 have e3:Nat.beq 0 K'=false:=beq_false_iff.2 (by omega)
 refine BodySem.ren (lk:=[(0,0),(K,K')]) gl0 h (by simp;omega) (by simp;omega) (fun p hp=> ?_) ⟨ha,.same _ (clO o),trivial⟩ (fun i b hb=> ?_) (.same _ rfl) (fun j b hb=> ?_) (by omega)
 ·simp only[List.mem_cons,List.not_mem_nil,or_false] at hp
  rcases hp with rfl|rfl
  ·exact .inl (by simp only;omega)
  ·exact .inr hK'
 ·simp only[hget] at hb
  split at hb
  ·rename_i e
   have e:=beq_iff.1 e
   subst e
   cases hb
   exact ⟨0,.cells [.nilsl],rfl,g0,RenL.same _ rfl⟩
  ·cases hb
 ·simp only[hget] at hb
  split at hb
  ·rename_i e
   have e:=beq_iff.1 e
   subst e
   cases hb
   exact ⟨0,.cells [.rsl true K 0 n' 37],rfl,rfl,⟨.rsl _ _ _ _ _ _ (by simp[flipLk,lookN,e3]),trivial⟩⟩
  split at hb
  ·rename_i e
   have e:=beq_iff.1 e
   subst e
   cases hb
   exact ⟨K,.cells es',by simp[flipLk,lookN,e3],by simp[hget,e1],RenL.same _ he'⟩
  ·cases hb
end
theorem hpush1 {l:List Ob} (hb:l.length≤90000) (o:Ob):BodySem Tryz.prog opts0.glob 102 [hpI,.iface 33 (obA o)] [(0,some (.cells [.rsl true 1 0 l.length 37])),(1,some (.cells (flO l)))] 2 (.tuple []) [(0,some (.cells [.rsl true 12 0 (l.length+1) 37])),(12,some (.cells (flO (pushL ltO l o))))] 40:=by
 have b1:=ren3 (K':=12) (m:=5) (m':=25) (H2:=[(1,some (.cells (flO l))),(0,some (.cells [.rsl true 1 0 l.length 37]))]) (.ptr 0 0 0 rfl) (fp_body1 (by omega) o) (by omega) (by omega) (by omega) rfl rfl (by omega) (closed_flO _) (closed_flO _)
 have b2:=ren2 (Z:=0) (K:=12) (m:=34) (m':=35) (args2:=[hpI,I (.ofNat l.length)]) (H2:=[(12,some (.cells (flO (l++[o])))),(0,some (.cells [.rsl true 12 0 (l.length+1) 37]))]) (v2:= .tuple []) (c2:=[.rsl true 12 0 (l.length+1) 37]) (c2':=[.rsl true 12 0 (l.length+1) 37]) (up_body (own:=true) (n:=l.length+1) (l:=l++[o]) (j:=l.length) (by omega) (by omega) (by simp)) (by decide) rfl rfl ⟨.iface _ (.ptr _ _ _ rfl),.same _ rfl,trivial⟩ ⟨.rsl _ _ _ _ _ _ rfl,trivial⟩ ⟨.rsl _ _ _ _ _ _ rfl,trivial⟩ (.same _ rfl) (closed_flO _) (closed_flO _) (by omega)
 have hc:closedAll (flO (pushL ltO l o))=true:=closed_flO _
 refine fnK_bodyX (k:=20) (A:=aidJ [] [] (puT 12 l.length (flO (l++[o])) (flO (pushL ltO l o))) [] []) base0 aidJ_ok (fnLs_of (LsOk.no rfl)) ?_
 unfold obA at b1⊢
 unfold obC at b1⊢
 rw[pu_fn1,wr1 (by omega)]
 exact ⟨b1,b2,(endB2 rfl rfl rfl hc rfl rfl)⟩
theorem hpush0 (o:Ob):BodySem Tryz.prog opts0.glob 102 [hpI,.iface 33 (obA o)] [(0,some (.cells [.nilsl]))] 1 (.tuple []) [(0,some (.cells [.rsl true 11 0 1 37])),(11,some (.cells (flO [o])))] 40:=by
 have b1:=ren3z (K':=11) (m:=4) (m':=24) (H2:=[(0,some (.cells [.nilsl]))]) (.ptr 0 0 0 rfl) (fp_body0 o) (by omega) (by omega) (by omega) rfl (by omega) (closed_flO _)
 have b2:=ren2 (Z:=0) (K:=11) (m:=33) (m':=34) (args2:=[hpI,I 0]) (H2:=[(11,some (.cells (flO [o]))),(0,some (.cells [.rsl true 11 0 1 37]))]) (v2:= .tuple []) (c2:=[.rsl true 11 0 1 37]) (c2':=[.rsl true 11 0 1 37]) (up_body (own:=true) (n:=1) (l:=[o]) (j:=0) (by omega) (by omega) (by simp)) (by decide) rfl rfl ⟨.iface _ (.ptr _ _ _ rfl),.same _ rfl,trivial⟩ ⟨.rsl _ _ _ _ _ _ rfl,trivial⟩ ⟨.rsl _ _ _ _ _ _ rfl,trivial⟩ (.same _ rfl) (closed_flO _) (closed_flO _) (by omega)
 have hc:closedAll (flO [o])=true:=closed_flO _
 refine fnK_bodyX (k:=20) (A:=aidJ [] [] (puT0 11 (flO [o])) [] []) base0 aidJ_ok (fnLs_of (LsOk.no rfl)) ?_
 unfold obA at b1⊢
 unfold obC at b1⊢
 rw[pu_fn0]
 exact ⟨b1,b2,(endB2 rfl rfl rfl hc rfl rfl)⟩
theorem fq_body {own:Bool} {n:Nat} {l:List Ob} {x:Ob} (hb:n≤100000) (hx:l[n]? =some x):BodySem Tryz.prog opts0.glob 214 [.ptr 0 0] [(0,some (.cells [.rsl own 1 0 (n+1) 37])),(1,some (.cells (flO l)))] 2 (.iface 33 (obA x)) [(0,some (.cells [.rsl own 1 0 n 37])),(1,some (.cells (flO l)))] 60:=by
 have h1:=flO_blt (show n<n+1 by omega)
 have h2:=part_obj hx
 have h3:=fits_obh x
 have hcx:=clO x
 refine fnK_bodyX (k:=20) (A:=aidJ [(1,9,.ld (.agg (obC x)))] [] noSem [] []) base0 aidJ_ok (fnLs_of (LsOk.no rfl)) ?_
 unfold obA at hcx⊢
 unfold obC at h2 h3 hcx⊢
 rw[fq_fn,wr1 (by omega)]
 exact oblB_of h1 ⟨h2,oblB_of h3 (oblB_of (by simp only[nonneg,Bool.true_and];exact ble_of (by simp)) (endB2 rfl hcx rfl (closed_flO _) rfl rfl))⟩
theorem hpop {own:Bool} {n:Nat} {p t:List Ob} {x:Ob} (hp:p.length=n+1) (hb:n≤90000) (hx:(popL ltO p)[n]? =some x):BodySem Tryz.prog opts0.glob 104 [hpI] [(0,some (.cells [.rsl own 1 0 (n+1) 37])),(1,some (.cells (flO (p++t))))] 2 (.iface 33 (obA x)) [(0,some (.cells [.rsl own 1 0 n 37])),(1,some (.cells (flO (popL ltO p++t))))] 60:=by
 have hsw:swp (p++t) 0 n=swp p 0 n++t:=by
  rw[swp_set (a:=p[0]) (b:=p[n]) (by rw[List.getElem?_append_left (by omega),List.getElem?_eq_getElem (by omega)]) (by rw[List.getElem?_append_left (by omega),List.getElem?_eq_getElem (by omega)]),swp_set (List.getElem?_eq_getElem (show 0<p.length by omega)) (List.getElem?_eq_getElem (show n<p.length by omega)),List.set_append_left _ _ (by omega),List.set_append_left _ _ (by rw[List.length_set];omega)]
 have b1:=sw_at (own:=own) (n:=n+1) (l:=p++t) (i:=0) (j:=n) (k:=14) (k':=15) (by omega) (by omega) (by simp;omega) (by omega)
 rw[hsw] at b1
 have hpop:popL ltO p=dnL ltO (n+1) (swp p 0 n) 0 n:=by unfold popL;rw[hp,Nat.add_sub_cancel]
 have hd:=dn_body (own:=own) (n:=n+1) (m:=n) (l:=swp p 0 n++t) (by omega) (by omega) (by omega) (f:=n+1) (by omega) (by rw[List.length_append,swp_len];omega)
 rw[dn_appO _ _ _ _ _ (by rw[swp_len];omega) (by rw[swp_len];omega),←hpop] at hd
 have b2:=ren2 (Z:=0) (K:=1) (m:=18) (m':=19) (args2:=[hpI,I 0,I (.ofNat n)]) (H2:=[(1,some (.cells (flO (swp p 0 n++t)))),(0,some (.cells [.rsl own 1 0 (n+1) 37]))]) (v2:= .bool (ltInt 0 (.ofNat (dnX (n+1) (swp p 0 n++t) 0 n)))) (c2:=[.rsl own 1 0 (n+1) 37]) (c2':=[.rsl own 1 0 (n+1) 37]) hd (by decide) rfl rfl ⟨.iface _ (.ptr _ _ _ rfl),.same _ rfl,.same _ rfl,trivial⟩ ⟨.rsl _ _ _ _ _ _ rfl,trivial⟩ ⟨.rsl _ _ _ _ _ _ rfl,trivial⟩ (.same _ rfl) (closed_flO _) (closed_flO _) (by omega)
 have hlen:(popL ltO p).length=n+1:=by rw[hpop,dn_len,swp_len,hp]
 have b3:=ren2 (Z:=0) (K:=1) (m:=22) (m':=23) (args2:=[.ptr 0 0]) (H2:=[(1,some (.cells (flO (popL ltO p++t)))),(0,some (.cells [.rsl own 1 0 (n+1) 37]))]) (v2:= .iface 33 (obA x)) (c2:=[.rsl own 1 0 (n+1) 37]) (c2':=[.rsl own 1 0 n 37]) (fq_body (own:=own) (l:=popL ltO p++t) (by omega) (by rw[List.getElem?_append_left (by omega)];exact hx)) (by decide) rfl rfl ⟨.ptr _ _ _ rfl,trivial⟩ ⟨.rsl _ _ _ _ _ _ rfl,trivial⟩ ⟨.rsl _ _ _ _ _ _ rfl,trivial⟩ (.same _ (clO x)) (closed_flO _) (closed_flO _) (by omega)
 have hcx:=clO x
 refine fnK_bodyX (k:=20) (A:=aidJ [] [] (poT own (ltInt 0 (.ofNat (dnX (n+1) (swp p 0 n++t) 0 n))) n (flO (swp p 0 n++t)) (flO (popL ltO p++t)) (obC x)) [] []) base0 aidJ_ok (fnLs_of (LsOk.no rfl)) ?_
 unfold obA at b3 hcx⊢
 unfold obC at b3 hcx⊢
 rw[po_fn,wr1 (by omega)]
 exact ⟨b1,b2,b3,(endB2 rfl hcx rfl (closed_flO _) rfl rfl)⟩
end Go.Proofs.YtjhggnebkfpgcaaGreatDoor
namespace Go.Proofs.YtjhggnebkfpgcaaGreatDoor
open Go Go.RowKit
open Go.Proofs.Abs
noncomputable section
def fdV0 (i n most:Int) (Cs Os:List AV):View:=⟨[(1,.fsl false Cs),(2,I most),(11,.fsl false Os),(12,I n),(13,I i)],[(7,.ptr 0 0)],[(0,.cells [.nilsl],.whole)],1,46⟩
def fdV1 (i n most:Int) (Cs Os:List AV) (k:Nat) (es:List AV):View:=⟨[(1,.fsl false Cs),(2,I most),(11,.fsl false Os),(12,I n),(13,I i)],[(7,.ptr 0 0)],[(0,.cells [.rsl true 1 0 k 37],.each),(1,.cells es,.whole)],2,46⟩
def fdT (b:Bool) (z:Bool) (k:Nat) (es':List AV):SemT:=fun f _ _ _=>match Nat.beq f 52 with
 |true=>some (.val (.bool b))
 | false=>match Nat.beq f 102 with
  |true=>match z with
   |true=>some (.part [0] (.tuple []) [(0,some (.cells [.rsl true 20 0 1 37])),(20,some (.cells es'))] 30)
   |false=>some (.part [0,1] (.tuple []) [(0,some (.cells [.rsl true 20 0 (k+1) 37])),(20,some (.cells es'))] 30)
  |false=>none
def fdA (x:List AV) (b z:Bool) (k:Nat) (es':List AV):Aid:=aidJ [(4,0,.res (.fptr x 0))] [] (fdT b z k es') [] []
@[simp] abbrev yh4 (most:Int):=(I most=I most∧closedA (I most)=true)
@[simp] abbrev yh7 (Cs:List AV):=(AV.fsl false Cs=AV.fsl false Cs∧closedA (AV.fsl false Cs)=true)
@[simp] abbrev yh8 (Os:List AV):=(AV.fsl false Os=AV.fsl false Os∧closedA (AV.fsl false Os)=true)
@[simp] abbrev yh14 (n:Int):=(I n=I n∧closedA (I n)=true)
@[simp] abbrev yh2 (Cs Os:List AV) (i most n:Int):=((yh7 Cs)∧(yh4 most)∧(yh8 Os)∧(yh14 n)∧(I i=I i∧closedA (I i)=true)∧True)
@[simp] abbrev yh5:=(some 0=some 0∧0=0)
@[simp] abbrev yh10:=([AV.nilsl]=[AV.nilsl]∧true=true)
abbrev yh19 (C L M N:AV) (o:Ob):=(fitsT Tryz.prog 33 (AV.agg (obF o M N L C)) 37)
theorem fd_00 (i j n most:Int) (Cs Os:List AV) (o:Ob) (M N L C:AV) (Nx:Prop) (Q:AExit→St→Prop):wpK Tryz.prog opts0 40 (fdA (obF o M N L C) false true 0 []) (lpCode Tryz.prog 53 4) (fdV0 i n most Cs Os).st (roundP 0 [(0,0)] (fdV0 j n most Cs Os) Nx [(0,0)] (fdV0 i n most Cs Os) Q)=
  (mtB (ltInt i n) (indexAddrA Tryz.prog 72 (AV.fsl false Os) (I i)=some (AV.fptr (obF o M N L C) 0)∧oblB (yh19 C L M N o) (SC 52 [AV.agg (obF o M N L C),AV.fsl false Cs] (AV.bool false)∧(((yh7 Cs)∧(yh4 most)∧(yh8 Os)∧(yh14 n)∧(I (wrapA IntKind.i64 (i+1))=I j∧closedA (I j)=true)∧True)∧(yh5∧True)∧yh10∧True)∧Nx)) (((yh2 Cs Os i most n)∧(yh5∧True)∧yh10∧True)∧Q (AExit.exit 0) (fdV0 i n most Cs Os).st)):=by kernel_rfl
@[simp] abbrev yh20 (es':List AV):=(es'=es'∧closedAll es'=true)
theorem fd_01 (i j n most:Int) (Cs Os es':List AV) (o:Ob) (M N L C:AV) (Nx:Prop) (Q:AExit→St→Prop):wpK Tryz.prog opts0 40 (fdA (obF o M N L C) true true 0 es') (lpCode Tryz.prog 53 4) (fdV0 i n most Cs Os).st (roundP 0 [(0,0),(1,20)] (fdV1 j n most Cs Os 1 es') Nx [(0,0)] (fdV0 i n most Cs Os) Q)=
  (mtB (ltInt i n) (indexAddrA Tryz.prog 72 (AV.fsl false Os) (I i)=some (AV.fptr (obF o M N L C) 0)∧oblB (yh19 C L M N o) (SC 52 [AV.agg (obF o M N L C),AV.fsl false Cs] (AV.bool true)∧BodySem Tryz.prog opts0.glob 102 [AV.iface 149 (AV.ptr 0 0),AV.iface 33 (AV.agg (obF o M N L C))] [(0,some (Blk.cells [AV.nilsl]))] 13 (AV.tuple []) [(0,some (Blk.cells [AV.rsl true 20 0 1 37])),(20,some (Blk.cells es'))] 43∧(((yh7 Cs)∧(yh4 most)∧(yh8 Os)∧(yh14 n)∧(I (wrapA IntKind.i64 (i+1))=I j∧closedA (I j)=true)∧True)∧(yh5∧True)∧((true=true∧some 20=some 20∧0=0∧1=1∧37=37)∧True)∧(yh20 es')∧True)∧Nx)) (((yh2 Cs Os i most n)∧(yh5∧True)∧yh10∧True)∧Q (AExit.exit 0) (fdV0 i n most Cs Os).st)):=by kernel_rfl
@[simp] abbrev yh3 (k:Nat):=((true=true∧some 1=some 1∧0=0∧k=k∧37=37)∧True)
@[simp] abbrev yh12 (es:List AV):=(es=es∧closedAll es=true)
theorem fd_10 (i j n most:Int) (k:Nat) (Cs Os es:List AV) (o:Ob) (M N L C:AV) (Nx:Prop) (Q:AExit→St→Prop):wpK Tryz.prog opts0 40 (fdA (obF o M N L C) false false 0 []) (lpCode Tryz.prog 53 4) (fdV1 i n most Cs Os k es).st (roundP 0 [(0,0),(1,1)] (fdV1 j n most Cs Os k es) Nx [(0,0),(1,1)] (fdV1 i n most Cs Os k es) Q)=
  (mtB (ltInt i n) (indexAddrA Tryz.prog 72 (AV.fsl false Os) (I i)=some (AV.fptr (obF o M N L C) 0)∧oblB (yh19 C L M N o) (SC 52 [AV.agg (obF o M N L C),AV.fsl false Cs] (AV.bool false)∧(((yh7 Cs)∧(yh4 most)∧(yh8 Os)∧(yh14 n)∧(I (wrapA IntKind.i64 (i+1))=I j∧closedA (I j)=true)∧True)∧(yh5∧True)∧(yh3 k)∧(yh12 es)∧True)∧Nx)) (((yh2 Cs Os i most n)∧(yh5∧True)∧(yh3 k)∧(yh12 es)∧True)∧Q (AExit.exit 0) (fdV1 i n most Cs Os k es).st)):=by kernel_rfl
abbrev yh15 (k:Nat):=(0,some (Blk.cells [AV.rsl true 1 0 k 37]))
theorem fd_11 (i j n most:Int) (k:Nat) (Cs Os es es':List AV) (o:Ob) (M N L C:AV) (Nx:Prop) (Q:AExit→St→Prop):wpK Tryz.prog opts0 40 (fdA (obF o M N L C) true false k es') (lpCode Tryz.prog 53 4) (fdV1 i n most Cs Os k es).st (roundP 0 [(0,0),(1,20)] (fdV1 j n most Cs Os (k+1) es') Nx [(0,0),(1,1)] (fdV1 i n most Cs Os k es) Q)=
  (mtB (ltInt i n) (indexAddrA Tryz.prog 72 (AV.fsl false Os) (I i)=some (AV.fptr (obF o M N L C) 0)∧oblB (yh19 C L M N o) (SC 52 [AV.agg (obF o M N L C),AV.fsl false Cs] (AV.bool true)∧BodySem Tryz.prog opts0.glob 102 [AV.iface 149 (AV.ptr 0 0),AV.iface 33 (AV.agg (obF o M N L C))] [(1,some (Blk.cells es)),(yh15 k)] 14 (AV.tuple []) [(0,some (Blk.cells [AV.rsl true 20 0 (k+1) 37])),(20,some (Blk.cells es'))] 44∧(((yh7 Cs)∧(yh4 most)∧(yh8 Os)∧(yh14 n)∧(I (wrapA IntKind.i64 (i+1))=I j∧closedA (I j)=true)∧True)∧(yh5∧True)∧((true=true∧some 20=some 20∧0=0∧k+1=k+1∧37=37)∧True)∧(yh20 es')∧True)∧Nx)) (((yh2 Cs Os i most n)∧(yh5∧True)∧(yh3 k)∧(yh12 es)∧True)∧Q (AExit.exit 0) (fdV1 i n most Cs Os k es).st)):=by kernel_rfl
def fdX0 (most:Int):View:=⟨[(2,I most),(10,.nilsl)],[(7,.ptr 0 0)],[(0,.cells [.nilsl],.whole)],1,46⟩
def fdY0 (most:Int) (k:Nat) (es:List AV):View:=⟨[(2,I most),(10,.nilsl)],[(7,.ptr 0 0)],[(0,.cells [.rsl true 1 0 k 37],.each),(1,.cells es,.whole)],2,46⟩
def fdY1 (most:Int) (k:Nat) (es:List AV) (z:Nat) (os:List AV):View:=⟨[(2,I most)],[(7,.ptr 0 0),(10,.rsl true 2 0 z 1)],[(0,.cells [.rsl true 1 0 k 37],.each),(1,.cells es,.whole),(2,.cells os,.whole)],3,46⟩
def foT (k:Nat) (es' x:List AV):SemT:=fun f _ _ _=>match Nat.beq f 104 with
 |true=>some (.part [0,1] (.iface 33 (.agg x)) [(0,some (.cells [.rsl true 1 0 k 37])),(1,some (.cells es'))] 30)
 |false=>none
def foA (k:Nat) (es' x:List AV):Aid:=aidJ [] [] (foT k es' x) [] [103]
@[simp] abbrev yh9 (most:Int):=((yh4 most)∧(AV.nilsl=AV.nilsl∧true=true)∧True)
theorem fo_x (most:Int) (Nx:Prop) (Q:AExit→St→Prop):wpK Tryz.prog opts0 40 (foA 0 [] []) (lpCode Tryz.prog 53 10) (fdX0 most).st (roundP 0 [(0,0)] (fdX0 most) Nx [(0,0)] (fdX0 most) Q)=
  (((yh9 most)∧(yh5∧True)∧yh10∧True)∧Q (AExit.exit 2) (fdX0 most).st):=by kernel_rfl
abbrev yh13 (es:List AV) (k:Nat):=[(1,some (Blk.cells es)),(0,some (Blk.cells [AV.rsl true 1 0 (k+1) 37]))]
@[simp] abbrev yh6 (C L M N:AV) (Nx:Prop) (es es' os:List AV) (k:Nat) (most:Int) (o:Ob):=(BodySem Tryz.prog opts0.glob 104 [AV.iface 149 (AV.ptr 0 0)] (yh13 es k) 27 (AV.iface 33 (AV.agg (obF o M N L C))) [(yh15 k),(1,some (Blk.cells es'))] 57∧(((yh4 most)∧True)∧(yh5∧(true=true∧some 25=some 25∧0=0∧1=lenN [AV.str o.1]∧1=1)∧True)∧(yh3 k)∧(yh20 es')∧(flat [AV.str o.1]=os∧closedAll os=true)∧True)∧Nx)
@[simp] abbrev yh17 (k:Nat):=((true=true∧some 1=some 1∧0=0∧k+1=k+1∧37=37)∧True)
theorem fo_01 (most:Int) (k:Nat) (es es' os:List AV) (o:Ob) (M N L C:AV) (Nx:Prop) (Q:AExit→St→Prop):wpK Tryz.prog opts0 40 (foA k es' (obF o M N L C)) (lpCode Tryz.prog 53 10) (fdY0 most (k+1) es).st (roundP 0 [(0,0),(1,1),(2,25)] (fdY1 most k es' 1 os) Nx [(0,0),(1,1)] (fdY0 most (k+1) es) Q)=
  (mtB (ltInt most 0) (yh6 C L M N Nx es es' os k most o) (mtB (ltInt 0 most) (yh6 C L M N Nx es es' os k most o) (((yh9 most)∧(yh5∧True)∧(yh17 k)∧(yh12 es)∧True)∧Q (AExit.exit 2) (fdY0 most (k+1) es).st))):=by kernel_rfl
@[simp] abbrev yh11 (es' os os':List AV) (k z:Nat) (most:Int) (o:Ob):=(((yh4 most)∧True)∧(yh5∧(true=true∧some 26=some 26∧0=0∧z+1=z+lenN [AV.str o.1]∧1=1)∧True)∧(yh3 k)∧(yh20 es')∧(os++flat [AV.str o.1]=os'∧closedAll os'=true)∧True)
abbrev yh16 (o:Ob) (z:Nat):=(allSize 1 [AV.str o.1]&&(((z+lenN [AV.str o.1])*16).ble 140737488355328&&(allOne (flat [AV.str o.1])&&true)))
@[simp] abbrev yh18 (z:Nat):=(yh5∧(true=true∧some 2=some 2∧0=0∧z=z∧1=1)∧True)
theorem fo_11 (most:Int) (k z:Nat) (es es' os os':List AV) (o:Ob) (M N L C:AV) (Nx:Prop) (Q:AExit→St→Prop):wpK Tryz.prog opts0 40 (foA k es' (obF o M N L C)) (lpCode Tryz.prog 53 10) (fdY1 most (k+1) es z os).st (roundP 0 [(0,0),(1,1),(2,26)] (fdY1 most k es' (z+1) os') Nx [(0,0),(1,1),(2,2)] (fdY1 most (k+1) es z os) Q)=
  (mtB (ltInt most 0) (BodySem Tryz.prog opts0.glob 104 [AV.iface 149 (AV.ptr 0 0)] (yh13 es k) 28 (AV.iface 33 (AV.agg (obF o M N L C))) [(yh15 k),(1,some (Blk.cells es'))] 58∧oblB (yh16 o z) (oblB ((lenN os).beq (z*1)) ((yh11 es' os os' k z most o)∧Nx))) (mtB (ltInt (Int.ofNat z) most) (BodySem Tryz.prog opts0.glob 104 [AV.iface 149 (AV.ptr 0 0)] (yh13 es k) 28 (AV.iface 33 (AV.agg (obF o M N L C))) [(yh15 k),(1,some (Blk.cells es'))] 58∧oblB (yh16 o z) (oblB ((lenN os).beq (z*1)) ((yh11 es' os os' k z most o)∧Nx))) ((((yh4 most)∧True)∧(yh18 z)∧(yh17 k)∧(yh12 es)∧(os=os∧closedAll os=true)∧True)∧Q (AExit.exit 2) (fdY1 most (k+1) es z os).st))):=by kernel_rfl
theorem fo_1e (most:Int) (z:Nat) (es os:List AV) (Nx:Prop) (Q:AExit→St→Prop):wpK Tryz.prog opts0 40 (foA 0 [] []) (lpCode Tryz.prog 53 10) (fdY1 most 0 es z os).st (roundP 0 [(0,0),(1,1),(2,2)] (fdY1 most 0 es z os) Nx [(0,0),(1,1),(2,2)] (fdY1 most 0 es z os) Q)=
  ((((yh4 most)∧True)∧(yh18 z)∧((true=true∧some 1=some 1∧0=0∧0=0∧37=37)∧True)∧(yh12 es)∧(os=os∧closedAll os=true)∧True)∧Q (AExit.exit 2) (fdY1 most 0 es z os).st):=by kernel_rfl
def fdL0 (n most:Int) (Cs Os:List AV):LoopS:=fun st Q=>seesK 0 [(0,1)] (fdV0 0 n most Cs Os) st∧Q (.exit 0) (fdV0 n n most Cs Os).st
def fdL1 (n most:Int) (Cs Os:List AV) (k:Nat) (es:List AV):LoopS:=fun st Q=>seesK 0 [(0,1)] (fdV0 0 n most Cs Os) st∧Q (.exit 0) (fdV1 n n most Cs Os k es).st
def foL (lk:List (Nat × Nat)) (V W:View):LoopS:=fun st Q=>seesK 0 lk V st∧Q (.exit 2) W.st
@[simp] abbrev yh1 (Cs Os:List AV) (most:Int):=(((yh7 Cs)∧(yh4 most)∧(yh8 Os)∧(I (Int.ofNat (lenN Os))=I (Int.ofNat (lenN Os))∧closedA (I (Int.ofNat (lenN Os)))=true)∧(I 0=I 0∧true=true)∧True)∧((some 1=some 1∧0=0)∧True)∧yh10∧True)
theorem fd_fnx (most:Int) (Cs Os:List AV) (Q:AV→Heap→Prop):fnK Tryz.prog opts0 40 (aidJ [] [(4,fdL0 (.ofNat (lenN Os)) most Cs Os),(10,foL [(0,0)] (fdX0 most) (fdX0 most))] noSem [] []) 53 [.fsl false Os,.fsl false Cs,I most] [] 0 (fun v H _=>Q v H)=
  ((yh1 Cs Os most)∧((yh9 most)∧(yh5∧True)∧yh10∧True)∧Q AV.nilsl [(0,some (Blk.cells [AV.nilsl]))]):=by kernel_rfl
theorem fd_fn0 (most:Int) (Cs Os:List AV) (k k':Nat) (es es':List AV) (Q:AV→Heap→Prop):fnK Tryz.prog opts0 40 (aidJ [] [(4,fdL1 (.ofNat (lenN Os)) most Cs Os k es),(10,foL [(0,0),(1,1)] (fdY0 most k es) (fdY0 most k' es'))] noSem [] []) 53 [.fsl false Os,.fsl false Cs,I most] [] 0 (fun v H _=>Q v H)=
  ((yh1 Cs Os most)∧((yh9 most)∧(yh5∧True)∧(yh3 k)∧(yh12 es)∧True)∧Q AV.nilsl [(0,some (Blk.cells [AV.rsl true 1 0 k' 37])),(1,some (Blk.cells es'))]):=by kernel_rfl
theorem fd_fn1 (most:Int) (Cs Os:List AV) (k k':Nat) (es es':List AV) (z:Nat) (os:List AV) (Q:AV→Heap→Prop):fnK Tryz.prog opts0 40 (aidJ [] [(4,fdL1 (.ofNat (lenN Os)) most Cs Os k es),(10,foL [(0,0),(1,1)] (fdY0 most k es) (fdY1 most k' es' z os))] noSem [] []) 53 [.fsl false Os,.fsl false Cs,I most] [] 0 (fun v H _=>Q v H)=
  ((yh1 Cs Os most)∧((yh9 most)∧(yh5∧True)∧(yh3 k)∧(yh12 es)∧True)∧Q (AV.rsl true 2 0 z 1) [(0,some (Blk.cells [AV.rsl true 1 0 k' 37])),(1,some (Blk.cells es')),(2,some (Blk.cells os))]):=by kernel_rfl
end
abbrev big:Nat:=1099511627776
def itF (t y n:Int) (D K:List AV):List AV:=[I t,I y,I n,.fsl false D,.fsl false K]
theorem its_length (l:List It):(itAs l).length=l.length:=by simp[itAs_map]
theorem itA_F (t y n:Int) (d:List UInt8) (ks:List It):itA (.mk t y n d ks)= .agg (itF t y n (toBytes d) (itAs ks)):=rfl
theorem idxI {f:Bool} {ks:List It} {i:Nat} {t y n:Int} {d:List UInt8} {l:List It} (hx:ks[i]? =some (.mk t y n d l)):indexAddrA Tryz.prog 35 (.fsl f (itAs ks)) (.int .i64 (.ofNat i))=some (.fptr (itF t y n (toBytes d) (itAs l)) 0):=
 fsl_index (v:=itA (.mk t y n d l)) (e:=37) (sz:=5) (by kernel_rfl) (by kernel_rfl) (by rw[itAs_map,List.getElem?_map,hx];rfl) rfl
def isI:It→Int→Int→Bool
 | .mk t y n d k,tag,kind=>beqInt t tag&&(beqInt y kind&&((beqInt kind 1||beqInt (.ofNat k.length) 0)&&((beqInt kind 7||beqInt (.ofNat d.length) 0)&&((!beqInt kind 7&& !beqInt kind 1)||beqInt n 0))))
theorem goodEl_it (x:It):goodEl 5 (itA x):=by cases x;exact ⟨rfl,rfl⟩
theorem goodEl_its {ks:List It}:∀e∈itAs ks,goodEl 5 e:=fun e he=>by
 rw[itAs_map] at he
 obtain ⟨x,_,rfl⟩:=List.mem_map.1 he
 exact goodEl_it x
theorem flat_len5:∀l:List It,(flat (itAs l)).length=l.length*5
 |[]=>rfl
 | .mk _ _ _ _ _::r=>by simp only[itAs,flat,itA,AV.cells,List.length_append,flat_len5 r,List.length_cons,List.length_nil];omega
theorem closed_flat:∀ {l:List AV},closedAll l=true→(∀e∈l,closedAll e.cells=true)→closedAll (flat l)=true
  |[],_,_=>rfl
  | a::t,h,h2=>by
    simp only[closedAll,Bool.and_eq_true] at h
    have:=closed_flat h.2 fun e he=>h2 e (by simp[he])
    have h1:=h2 a (by simp)
    simp only[flat]
    exact closed_app h1 this
 where
  closed_app:∀ {a b:List AV},closedAll a=true→closedAll b=true→closedAll (a++b)=true
    |[],_,_,h=>h
    | x::r,_,h,h'=>by
      simp only[closedAll,Bool.and_eq_true] at h
      simp only[List.cons_append,closedAll,h.1,closed_app h.2 h',Bool.and_self]
end Go.Proofs.YtjhggnebkfpgcaaGreatDoor
