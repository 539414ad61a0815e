import Derived.Test.YtmnlofhodbnenaaGreatDoorQ5
import Derived.KernelRfl
import Derived.Test.YtmnlofhodbnenaaGreatDoorQ4
namespace Go.Proofs.YtmnlofhodbnenaaGreatDoor
open Go Go.RowKit
open Go.Proofs.Abs
noncomputable section
def nC:List AV:=[.str [],I 0,I 0,I 0,I 0,.nilsl,I 0,.bool false,I 0,.bool false,I 0,.bool false,I 0,.bool false,I 0,.bool false,I 0,.bool false,I 0,.bool false,I 0,.bool false,I 0,.bool false,I 0,.bool false,I 0,I 0,.str [],.nilsl,.nilsl,.nilsl,.bool false,I 0,I 0,I 0,.bool false]
def gv (c i:Int) (_m:Nat) (O es R A T:List AV):View:=⟨[(8,I c),(9,I i)],[(3,.ptr 0 0),(4,.ptr 2 0),(5,.ptr 3 0),(6,.ptr 5 0),(7,.ptr 4 0)],[(0,.cells O,.rel),(1,.cells es,.whole),(2,.cells R,.whole),(3,.cells A,.whole),(4,.cells T,.whole),(5,.cells nC,.whole)],6,179⟩
def lR (c i:Int) (O R A T:List AV):View:=⟨[(8,I c),(9,I i)],[(3,.ptr 0 0),(4,.ptr 1 0),(5,.ptr 2 0),(6,.ptr 4 0),(7,.ptr 3 0)],[(0,.cells O,.rel),(1,.cells R,.whole),(2,.cells A,.whole),(3,.cells T,.whole),(4,.cells nC,.whole)],5,179⟩
abbrev sr (s:List UInt8):=[AV.str s,I 7,AV.bool true,AV.bool true,AV.str [65,77,68],AV.str [],I (Int.negSucc 0)]
abbrev ss (D K:List AV) (ix n t y:Int) (s':List UInt8):=[AV.str s',I ix,I t,I y,I n,AV.fsl false D,AV.fsl false K]
@[simp] abbrev pD (D K:List AV) (ix n t y:Int) (s':List UInt8):=((ss D K ix n t y s')=(ss D K ix n t y s')∧ac (ss D K ix n t y s')=true)
abbrev su (D K:List AV) (n t y:Int):=[I t,I y,I n,AV.fsl false D,AV.fsl false K]
@[simp] abbrev pE (D K:List AV) (n t y:Int):=((su D K n t y)=(su D K n t y)∧ac (su D K n t y)=true)
@[simp] abbrev Ao:=((some 0=some 0∧0=0)∧(some 2=some 2∧0=0)∧(some 3=some 3∧0=0)∧(some 5=some 5∧0=0)∧(some 4=some 4∧0=0)∧True)
@[simp] abbrev pF (s:List UInt8):=((sr s)=(sr s)∧ac (sr s)=true)
@[simp] abbrev Hu (D K es:List AV) (L M N:AV) (Q:AExit→St→Prop) (c i ix n t y:Int) (m:Nat) (o:Ob) (s s':List UInt8):=((((I c=I c∧ah (I c)=true)∧(I i=I i∧ah (I i)=true)∧True)∧Ao∧df [(0,0),(1,1),(2,2),(3,3),(4,4),(5,5)] (ae o M N L (AV.rsl true 1 0 m 2)) (ae o M N L (AV.rsl true 1 0 m 2))∧(es=es∧ac es=true)∧(pF s)∧(pD D K ix n t y s')∧(pE D K n t y)∧(zL=zL∧true=true)∧True)∧Q (AExit.exit 1) (gv c i m (ae o M N L (AV.rsl true 1 0 m 2)) es (bx (Kd.cus s)) (AV.str s'::I ix::ag t y n D K) (ag t y n D K)).st)
abbrev vC (D K es:List AV) (L M N:AV) (c i ix n t y:Int) (m:Nat) (o:Ob) (s s':List UInt8):=(gv c i m (ae o M N L (AV.rsl true 1 0 m 2)) es (bx (.cus s)) (AV.str s'::I ix::ag t y n D K) (ag t y n D K))
theorem Hv (o:Ob) (M N L:AV) (s s' x:List UInt8) (ix t y n c _c' i j:Int) (D K es O:List AV) (m:Nat) (Nx:Prop) (Q:AExit→St→Prop):aI Tryz.prog opts0 40 (cA [(7,5,.ld (.str x)),(7,8,.res (.bool false))]) (aD Tryz.prog 69 6) (vC D K es L M N c i ix n t y m o s s').st (bf 0 [(0,0),(1,1),(2,2),(3,3),(4,4),(5,5)] (gv c j m O es (bx (.cus s)) (.str s'::I ix::ag t y n D K) (ag t y n D K)) Nx [(0,0),(1,1),(2,2),(3,3),(4,4),(5,5)] (vC D K es L M N c i ix n t y m o s s') Q)=
  (ab (aq i (Int.ofNat m)) (au (gG i&&(i.toNat.blt m&&true)) (b8 Tryz.prog 9 es (0+i.toNat*2+0)=some (AV.str x)∧aM Tryz.prog BinOp.eql 9 (Operand.tmp 29) (Operand.tmp 31) (AV.str x) (AV.str s)=some (AV.bool false)∧(((I c=I c∧ah (I c)=true)∧(I (ar IntKind.i64 (i+1))=I j∧ah (I j)=true)∧True)∧Ao∧df [(0,0),(1,1),(2,2),(3,3),(4,4),(5,5)] O (ae o M N L (AV.rsl true 1 0 m 2))∧(es=es∧ac es=true)∧(pF s)∧(pD D K ix n t y s')∧(pE D K n t y)∧(zL=zL∧true=true)∧True)∧Nx)) (Hu D K es L M N Q c i ix n t y m o s s')):=by kernel_rfl
theorem Ti (o:Ob) (M N L:AV) (s s' x:List UInt8) (ix t y n c c' i j:Int) (D K es O:List AV) (m:Nat) (Nx:Prop) (Q:AExit→St→Prop):aI Tryz.prog opts0 40 (cA [(7,5,.ld (.str x)),(7,8,.res (.bool true)),(8,3,.res (.bool false))]) (aD Tryz.prog 69 6) (vC D K es L M N c i ix n t y m o s s').st (bf 0 [(0,0),(1,1),(2,2),(3,3),(4,4),(5,5)] (gv c' j m O es (bx (.cus s)) (.str s'::I ix::ag t y n D K) (ag t y n D K)) Nx [(0,0),(1,1),(2,2),(3,3),(4,4),(5,5)] (vC D K es L M N c i ix n t y m o s s') Q)=
  (ab (aq i (Int.ofNat m)) (au (gG i&&(i.toNat.blt m&&true)) (b8 Tryz.prog 9 es (0+i.toNat*2+0)=some (AV.str x)∧aM Tryz.prog BinOp.eql 9 (Operand.tmp 29) (Operand.tmp 31) (AV.str x) (AV.str s)=some (AV.bool true)∧aM Tryz.prog BinOp.eql 3 (Operand.tmp 33) (Operand.tmp 35) (I c) (I ix)=some (AV.bool false)∧(((I (ar IntKind.i64 (c+1))=I c'∧ah (I c')=true)∧(I (ar IntKind.i64 (i+1))=I j∧ah (I j)=true)∧True)∧Ao∧df [(0,0),(1,1),(2,2),(3,3),(4,4),(5,5)] O (ae o M N L (AV.rsl true 1 0 m 2))∧(es=es∧ac es=true)∧(pF s)∧(pD D K ix n t y s')∧(pE D K n t y)∧(zL=zL∧true=true)∧True)∧Nx)) (Hu D K es L M N Q c i ix n t y m o s s')):=by kernel_rfl
@[simp] abbrev sv:=(I 0=I 0∧true=true)
theorem Tj (o:Ob) (M N L:AV) (s s':List UInt8) (ix t y n c i:Int) (D K:List AV) (Nx:Prop) (Q:AExit→St→Prop):aI Tryz.prog opts0 40 (cA []) (aD Tryz.prog 69 6) (lR c 0 (ae o M N L (.fsl true [])) (bx (.cus s)) (.str s'::I ix::ag t y n D K) (ag t y n D K)).st (bf 0 [] (lR c i (ae o M N L (.fsl true [])) (bx (.cus s)) (.str s'::I ix::ag t y n D K) (ag t y n D K)) Nx [(0,0),(1,1),(2,2),(3,3),(4,4)] (lR c 0 (ae o M N L (.fsl true [])) (bx (.cus s)) (.str s'::I ix::ag t y n D K) (ag t y n D K)) Q)=
  ((((I c=I c∧ah (I c)=true)∧sv∧True)∧((some 0=some 0∧0=0)∧(some 1=some 1∧0=0)∧(some 2=some 2∧0=0)∧(some 4=some 4∧0=0)∧(some 3=some 3∧0=0)∧True)∧df [(0,0),(1,1),(2,2),(3,3),(4,4)] (ae o M N L (AV.fsl true [])) (ae o M N L (AV.fsl true []))∧(pF s)∧(pD D K ix n t y s')∧(pE D K n t y)∧(zL=zL∧true=true)∧True)∧Q (AExit.exit 1) (lR c 0 (ae o M N L (AV.fsl true [])) (bx (Kd.cus s)) (AV.str s'::I ix::ag t y n D K) (ag t y n D K)).st):=by kernel_rfl
def Hw (c:Int) (m:Nat) (O es R A T:List AV):bq:=fun st Q=>ck 0 [(0,0),(1,39),(2,1),(3,2),(4,6),(5,3)] (gv 0 0 m O es R A T) st∧Q (.exit 1) (gv c (.ofNat m) m O es R A T).st
def Ap (O R A T:List AV):bq:=fun st Q=>ck 0 [(0,0),(1,1),(2,2),(3,6),(4,3)] (lR 0 0 O R A T) st∧Q (.exit 1) (lR 0 0 O R A T).st
abbrev jB (s x:List UInt8):=[AV.agg [AV.str s,AV.str x]]
@[simp] abbrev Hx:=((some 0=some 0∧0=0)∧(some 1=some 1∧0=0)∧(some 2=some 2∧0=0)∧(some 3=some 3∧0=0)∧(some 6=some 6∧0=0)∧True)
abbrev Hy:=(AV.str [67,114,121,112,116,111,103,114,97,112,104,105,99,32,85,115,97,103,101,32,77,97,115,107])
abbrev Hz:=(AV.str [67,114,121,112,116,111,103,114,97,112,104,105,99,32,65,108,103,111,114,105,116,104,109])
abbrev HA:=(AV.str [67,114,121,112,116,111,103,114,97,112,104,105,99,32,76,101,110,103,116,104])
abbrev vE (s x:List UInt8):=(AV.rsl true 14 0 (0+aa (jB s x)) 2)
abbrev HB:=(AV.str [85,115,97,103,101,32,76,105,109,105,116,115])
theorem Tk (o:Ob) (M N L:AV) (s s' x:List UInt8) (ix t y n _c:Int) (D K:List AV) (Q:AV→af→Prop):ax Tryz.prog opts0 40 (ap [(13,2,.res (.bool false)),(18,2,.res (.bool false)),(20,2,.res (.bool false)),(22,2,.res (.bool false)),(24,2,.res (.bool false)),(29,2,.res (.bool false)),(12,6,.res (.str x))] [(6,Ap (ae o M N L (.fsl true [])) (bx (.cus s)) (.str s'::I ix::ag t y n D K) (ag t y n D K))] aH [] []) 69 [.agg (ae o M N L (.fsl false [])),aN (.cus s),.agg (.str s'::I ix::ag t y n D K)] [] 0 (fun v H _=>Q v H)=
  (aM Tryz.prog BinOp.eql 9 (Operand.tmp 61) (Operand.const (Value.string {data:={toList:=[78,97,109,101]}})) (AV.str s) (AV.str [78,97,109,101])=some (AV.bool false)∧aM Tryz.prog BinOp.eql 9 (Operand.tmp 89) (Operand.const (Value.string {data:={toList:=[67,114,121,112,116,111,103,114,97,112,104,105,99,32,65,108,103,111,114,105,116,104,109]}})) (AV.str s) Hz=some (AV.bool false)∧aM Tryz.prog BinOp.eql 9 (Operand.tmp 96) (Operand.const (Value.string {data:={toList:=[67,114,121,112,116,111,103,114,97,112,104,105,99,32,76,101,110,103,116,104]}})) (AV.str s) HA=some (AV.bool false)∧aM Tryz.prog BinOp.eql 9 (Operand.tmp 103) (Operand.const (Value.string {data:={toList:=[67,114,121,112,116,111,103,114,97,112,104,105,99,32,85,115,97,103,101,32,77,97,115,107]}})) (AV.str s) Hy=some (AV.bool false)∧aM Tryz.prog BinOp.eql 9 (Operand.tmp 110) (Operand.const (Value.string {data:={toList:=[76,105,110,107]}})) (AV.str s) (AV.str [76,105,110,107])=some (AV.bool false)∧aM Tryz.prog BinOp.eql 9 (Operand.tmp 148) (Operand.const (Value.string {data:={toList:=[85,115,97,103,101,32,76,105,109,105,116,115]}})) (AV.str s) HB=some (AV.bool false)∧((sv∧sv∧True)∧Hx∧df [(0,0),(1,1),(2,2),(3,6),(4,3)] (ae o M N L (AV.fsl true [])) (ae o M N L (AV.fsl true []))∧(pF s)∧(pD D K ix n t y s')∧(pE D K n t y)∧(zL=zL∧true=true)∧True)∧cR Tryz.prog 23 9 (AV.fsl false D)=some (Eff.val (AV.str x))∧au (bM Tryz.prog 38 (AV.agg (ae o M N L (vE s x))) 37) (Q (AV.agg (ae o M N L (vE s x))) [(14,some (Blk.cells (flat (jB s x)))),(4,some (Blk.cells (ae o M N L (vE s x)))),(0,some (Blk.cells (ae o M N L (vE s x)))),(1,some (Blk.cells (sr s))),(2,some (Blk.cells (ss D K ix n t y s'))),(3,some (Blk.cells (su D K n t y))),(4,some (Blk.cells zL))])):=by kernel_rfl
theorem Tl (o:Ob) (M N L a:AV) (Us:List AV) (m:Nat) (s s' x:List UInt8) (ix t y n c:Int) (D K:List AV) (Q:AV→af→Prop):ax Tryz.prog opts0 40 (ap [(13,2,.res (.bool false)),(18,2,.res (.bool false)),(20,2,.res (.bool false)),(22,2,.res (.bool false)),(24,2,.res (.bool false)),(29,2,.res (.bool false)),(12,6,.res (.str x))] [(6,Hw c m (ae o M N L (.rsl true 1 0 m 2)) (flat (a::Us)) (bx (.cus s)) (.str s'::I ix::ag t y n D K) (ag t y n D K))] aH [] []) 69 [.agg (ae o M N L (.fsl false (a::Us))),aN (.cus s),.agg (.str s'::I ix::ag t y n D K)] [] 0 (fun v H _=>Q v H)=
  (aM Tryz.prog BinOp.eql 9 (Operand.tmp 61) (Operand.const (Value.string {data:={toList:=[78,97,109,101]}})) (AV.str s) (AV.str [78,97,109,101])=some (AV.bool false)∧aM Tryz.prog BinOp.eql 9 (Operand.tmp 89) (Operand.const (Value.string {data:={toList:=[67,114,121,112,116,111,103,114,97,112,104,105,99,32,65,108,103,111,114,105,116,104,109]}})) (AV.str s) Hz=some (AV.bool false)∧aM Tryz.prog BinOp.eql 9 (Operand.tmp 96) (Operand.const (Value.string {data:={toList:=[67,114,121,112,116,111,103,114,97,112,104,105,99,32,76,101,110,103,116,104]}})) (AV.str s) HA=some (AV.bool false)∧aM Tryz.prog BinOp.eql 9 (Operand.tmp 103) (Operand.const (Value.string {data:={toList:=[67,114,121,112,116,111,103,114,97,112,104,105,99,32,85,115,97,103,101,32,77,97,115,107]}})) (AV.str s) Hy=some (AV.bool false)∧aM Tryz.prog BinOp.eql 9 (Operand.tmp 110) (Operand.const (Value.string {data:={toList:=[76,105,110,107]}})) (AV.str s) (AV.str [76,105,110,107])=some (AV.bool false)∧aM Tryz.prog BinOp.eql 9 (Operand.tmp 148) (Operand.const (Value.string {data:={toList:=[85,115,97,103,101,32,76,105,109,105,116,115]}})) (AV.str s) HB=some (AV.bool false)∧au (a8 2 (a::Us)&&(((0+aa (a::Us))*32).ble 140737488355328&&true)) (((sv∧sv∧True)∧Hx∧df [(0,0),(1,39),(2,1),(3,2),(4,6),(5,3)] (ae o M N L (AV.rsl true 1 0 m 2)) (ae o M N L (AV.rsl true 39 0 (0+aa (a::Us)) 2))∧(flat (a::Us)=flat (a::Us)∧ac (flat (a::Us))=true)∧(pF s)∧(pD D K ix n t y s')∧(pE D K n t y)∧(zL=zL∧true=true)∧True)∧cR Tryz.prog 23 9 (AV.fsl false D)=some (Eff.val (AV.str x))∧au (a8 2 (jB s x)&&(((m+aa (jB s x))*32).ble 140737488355328&&(bc (flat (jB s x))&&true))) (au ((aa (flat (a::Us))).beq (m*2)) (au (bM Tryz.prog 38 (AV.agg (ae o M N L (AV.rsl true 15 0 (m+aa (jB s x)) 2))) 37) (Q (AV.agg (ae o M N L (AV.rsl true 15 0 (m+aa (jB s x)) 2))) [(15,some (Blk.cells (flat (a::Us)++flat (jB s x)))),(5,some (Blk.cells (ae o M N L (AV.rsl true 15 0 (m+aa (jB s x)) 2)))),(1,none),(0,some (Blk.cells (ae o M N L (AV.rsl true 15 0 (m+aa (jB s x)) 2)))),(1,some (Blk.cells (flat (a::Us)))),(2,some (Blk.cells (sr s))),(3,some (Blk.cells (ss D K ix n t y s'))),(4,some (Blk.cells (su D K n t y))),(5,some (Blk.cells zL))]))))):=by kernel_rfl
end
end Go.Proofs.YtmnlofhodbnenaaGreatDoor
namespace Go.Proofs.YtmnlofhodbnenaaGreatDoor
set_option maxRecDepth 20000
open Go Go.RowKit
open Go.Proofs.Abs
theorem pG (d:List UInt8):cR Tryz.prog 23 9 (.fsl false (ai d))=some (Eff.val (.str d)):=y4 (e:=5) (by kernel_rfl) (by kernel_rfl) (by kernel_rfl)
theorem HC (p q:Operand) (x y:List UInt8):aM Tryz.prog .eql 9 p q (.str x) (.str y)=some (.bool (aA x y)):=by kernel_rfl
theorem sw (p q:Operand) (x y:Int):aM Tryz.prog .eql 3 p q (I x) (I y)=some (.bool (ak x y)):=by kernel_rfl
theorem gw (o:Ob) {ms ns ls cs:List AV} (hM:ac ms=true) (hN:ac ns=true) (hL:ac ls=true) (hC:ac cs=true) (k:Kd) (a:At):ac [.agg (ae o (.fsl false ms) (.fsl false ns) (.fsl false ls) (.fsl false cs)),aN k,aB a]=true:=by
 have h1:=dY o (M:= .fsl false ms) (N:= .fsl false ns) (L:= .fsl false ls) (C:= .fsl false cs) hM hN hL hC
 have h2:=eR a
 simp only[ac,ah,h1,h2,aN,bx,Bool.and_self]
theorem lS (o:Ob) (ms ns ls cs:List AV):bM Tryz.prog 38 (.agg (ae o (.fsl false ms) (.fsl false ns) (.fsl false ls) (.fsl false cs))) 37=true:=by kernel_rfl
theorem HD (o:Ob) (ms ls cs:List AV) (i n:Nat):bM Tryz.prog 38 (.agg (ae o (.fsl false ms) (.rsl true i 0 n 1) (.fsl false ls) (.fsl false cs))) 37=true:=by kernel_rfl
theorem HE (o:Ob) (ms ns cs:List AV) (i n:Nat):bM Tryz.prog 38 (.agg (ae o (.fsl false ms) (.fsl false ns) (.rsl true i 0 n 2) (.fsl false cs))) 37=true:=by kernel_rfl
theorem HF (o:Ob) (ms ns ls:List AV) (i n:Nat):bM Tryz.prog 38 (.agg (ae o (.fsl false ms) (.fsl false ns) (.fsl false ls) (.rsl true i 0 n 2))) 37=true:=by kernel_rfl
section
variable {o:Ob} {ms ns ls cs:List AV} {s:List UInt8} {t y n:Int} {d:List UInt8} {ks:List It}
theorem Tm (hM:ac ms=true) (hN:ac ns=true) (hL:ac ls=true) (hC:ac cs=true) (i:Int):SC 69 [.agg (ae o (.fsl false ms) (.fsl false ns) (.fsl false ls) (.fsl false cs)),aN .alg,aB ⟨s,i,.mk t y n d ks⟩] (.agg (ae {o with alg:=n} (.fsl false ms) (.fsl false ns) (.fsl false ls) (.fsl false cs))):=by
 refine bh (A:=cA []) base0 ao (aw (LsOk.no rfl)) (gw o hM hN hL hC _ _) ?_
 rw[cM,S8]
 exact aF (lS {o with alg:=n} _ _ _ _) (dM (dY {o with alg:=n} (M:= .fsl false ms) (N:= .fsl false ns) (L:= .fsl false ls) (C:= .fsl false cs) hM hN hL hC))
theorem Tn (hM:ac ms=true) (hN:ac ns=true) (hL:ac ls=true) (hC:ac cs=true) (i:Int):SC 69 [.agg (ae o (.fsl false ms) (.fsl false ns) (.fsl false ls) (.fsl false cs)),aN .len,aB ⟨s,i,.mk t y n d ks⟩] (.agg (ae {o with len:=n} (.fsl false ms) (.fsl false ns) (.fsl false ls) (.fsl false cs))):=by
 refine bh (A:=cA []) base0 ao (aw (LsOk.no rfl)) (gw o hM hN hL hC _ _) ?_
 rw[cM,S9]
 exact aF (lS {o with len:=n} _ _ _ _) (dM (dY {o with len:=n} (M:= .fsl false ms) (N:= .fsl false ns) (L:= .fsl false ls) (C:= .fsl false cs) hM hN hL hC))
theorem To (hM:ac ms=true) (hN:ac ns=true) (hL:ac ls=true) (hC:ac cs=true) (i:Int):SC 69 [.agg (ae o (.fsl false ms) (.fsl false ns) (.fsl false ls) (.fsl false cs)),aN .mask,aB ⟨s,i,.mk t y n d ks⟩] (.agg (ae {o with mask:=n} (.fsl false ms) (.fsl false ns) (.fsl false ls) (.fsl false cs))):=by
 refine bh (A:=cA []) base0 ao (aw (LsOk.no rfl)) (gw o hM hN hL hC _ _) ?_
 rw[cM,Ta]
 exact aF (lS {o with mask:=n} _ _ _ _) (dM (dY {o with mask:=n} (M:= .fsl false ms) (N:= .fsl false ns) (L:= .fsl false ls) (C:= .fsl false cs) hM hN hL hC))
theorem Tp (hM:ac ms=true) (hN:ac ns=true) (hL:ac ls=true) (hC:ac cs=true) (i:Int):SC 69 [.agg (ae o (.fsl false ms) (.fsl false ns) (.fsl false ls) (.fsl false cs)),aN (.dat 1),aB ⟨s,i,.mk t y n d ks⟩] (.agg (ae {o with d1:=⟨true,n⟩} (.fsl false ms) (.fsl false ns) (.fsl false ls) (.fsl false cs))):=by
 refine bh (A:=cA []) base0 ao (aw (LsOk.no rfl)) (gw o hM hN hL hC _ _) ?_
 rw[cM,Tb]
 exact aF (lS {o with d1:=⟨true,n⟩} _ _ _ _) (dM (dY {o with d1:=⟨true,n⟩} (M:= .fsl false ms) (N:= .fsl false ns) (L:= .fsl false ls) (C:= .fsl false cs) hM hN hL hC))
theorem Tq (hM:ac ms=true) (hN:ac ns=true) (hL:ac ls=true) (hC:ac cs=true) (i:Int):SC 69 [.agg (ae o (.fsl false ms) (.fsl false ns) (.fsl false ls) (.fsl false cs)),aN (.dat 2),aB ⟨s,i,.mk t y n d ks⟩] (.agg (ae {o with d2:=⟨true,n⟩} (.fsl false ms) (.fsl false ns) (.fsl false ls) (.fsl false cs))):=by
 refine bh (A:=cA []) base0 ao (aw (LsOk.no rfl)) (gw o hM hN hL hC _ _) ?_
 rw[cM,Tc]
 exact aF (lS {o with d2:=⟨true,n⟩} _ _ _ _) (dM (dY {o with d2:=⟨true,n⟩} (M:= .fsl false ms) (N:= .fsl false ns) (L:= .fsl false ls) (C:= .fsl false cs) hM hN hL hC))
theorem Ts (hM:ac ms=true) (hN:ac ns=true) (hL:ac ls=true) (hC:ac cs=true) (i:Int):SC 69 [.agg (ae o (.fsl false ms) (.fsl false ns) (.fsl false ls) (.fsl false cs)),aN (.dat 3),aB ⟨s,i,.mk t y n d ks⟩] (.agg (ae {o with d3:=⟨true,n⟩} (.fsl false ms) (.fsl false ns) (.fsl false ls) (.fsl false cs))):=by
 refine bh (A:=cA []) base0 ao (aw (LsOk.no rfl)) (gw o hM hN hL hC _ _) ?_
 rw[cM,Td]
 exact aF (lS {o with d3:=⟨true,n⟩} _ _ _ _) (dM (dY {o with d3:=⟨true,n⟩} (M:= .fsl false ms) (N:= .fsl false ns) (L:= .fsl false ls) (C:= .fsl false cs) hM hN hL hC))
theorem Tt (hM:ac ms=true) (hN:ac ns=true) (hL:ac ls=true) (hC:ac cs=true) (i:Int):SC 69 [.agg (ae o (.fsl false ms) (.fsl false ns) (.fsl false ls) (.fsl false cs)),aN (.dat 4),aB ⟨s,i,.mk t y n d ks⟩] (.agg (ae {o with d4:=⟨true,n⟩} (.fsl false ms) (.fsl false ns) (.fsl false ls) (.fsl false cs))):=by
 refine bh (A:=cA []) base0 ao (aw (LsOk.no rfl)) (gw o hM hN hL hC _ _) ?_
 rw[cM,Te]
 exact aF (lS {o with d4:=⟨true,n⟩} _ _ _ _) (dM (dY {o with d4:=⟨true,n⟩} (M:= .fsl false ms) (N:= .fsl false ns) (L:= .fsl false ls) (C:= .fsl false cs) hM hN hL hC))
theorem Tu (hM:ac ms=true) (hN:ac ns=true) (hL:ac ls=true) (hC:ac cs=true) (i t0 y0 n0 t1 y1 n1 t2 y2 n2:Int) (d0 d1 d2:List UInt8) (k0 k1 k2:List It):SC 69 [.agg (ae o (.fsl false ms) (.fsl false ns) (.fsl false ls) (.fsl false cs)),aN .lim,aB ⟨s,i,.mk t y n d [.mk t0 y0 n0 d0 k0,.mk t1 y1 n1 d1 k1,.mk t2 y2 n2 d2 k2]⟩] (.agg (ae {o with lh:=true,lt:=n0,lc:=n1,lu:=n2} (.fsl false ms) (.fsl false ns) (.fsl false ls) (.fsl false cs))):=by
 have g0:=bB (f:=false) (ks:=[.mk t0 y0 n0 d0 k0,.mk t1 y1 n1 d1 k1,.mk t2 y2 n2 d2 k2]) (i:=0) rfl
 have g1:=bB (f:=false) (ks:=[.mk t0 y0 n0 d0 k0,.mk t1 y1 n1 d1 k1,.mk t2 y2 n2 d2 k2]) (i:=1) rfl
 have g2:=bB (f:=false) (ks:=[.mk t0 y0 n0 d0 k0,.mk t1 y1 n1 d1 k1,.mk t2 y2 n2 d2 k2]) (i:=2) rfl
 refine bh (A:=cA [(30,2,.res (.fptr (ag t0 y0 n0 (ai d0) (ad k0)) 0)),(30,7,.res (.fptr (ag t1 y1 n1 (ai d1) (ad k1)) 0)),(30,12,.res (.fptr (ag t2 y2 n2 (ai d2) (ad k2)) 0))]) base0 ao (aw (LsOk.no rfl)) (gw o hM hN hL hC _ _) ?_
 rw[cM,Tf]
 exact ⟨g0,g1,g2,aF (lS {o with lh:=true,lt:=n0,lc:=n1,lu:=n2} _ _ _ _) (dM (dY {o with lh:=true,lt:=n0,lc:=n1,lu:=n2} (M:= .fsl false ms) (N:= .fsl false ns) (L:= .fsl false ls) (C:= .fsl false cs) hM hN hL hC))⟩
theorem pH {o:Ob} {H:af} {M N L C N' L' C':AV} (hM:ah M=true) (hN:Frz 0 H N N') (hL:Frz 0 H L L') (hC:Frz 0 H C C') (h:ah (.agg (ae o M N' L' C'))=true):jV (.agg (ae o M N' L' C')) (.agg (ae o M N L C)) H:=⟨_,(RK hM hN hL hC).out,h,.refl _⟩
theorem Tv (hM:ac ms=true) (hL:ac ls=true) (hC:ac cs=true) (x:List UInt8):SC 69 [.agg (ae o (.fsl false ms) (.fsl false []) (.fsl false ls) (.fsl false cs)),aN .nam,aB ⟨s,.ofNat 0,.mk t y n x ks⟩] (.agg (ae o (.fsl false ms) (.fsl false [.str x]) (.fsl false ls) (.fsl false cs))):=by
 refine dp (A:=cA [(17,6,.res (.str x))]) base0 ao (aw (LsOk.no rfl)) (gw o hM rfl hL hC _ _) ?_
 rw[cM]
 show ax _ _ _ _ _ [_,_,.agg (.str s::I 0::ag t y n (ai x) (ad ks))] _ _ _
 rw[Tg]
 refine ⟨pG x,aF (HD o _ _ _ _ _) (pH hM (Frz.row (es:=[.str x]) rfl rfl rfl rfl (fun e he=> ?_) rfl) (.closed _ hL) (.closed _ hC) (dY o (M:= .fsl false ms) (N:= .fsl false _) (L:= .fsl false ls) (C:= .fsl false cs) hM rfl hL hC))⟩
 simp only[List.mem_cons,List.not_mem_nil,or_false] at he
 subst he;exact ⟨rfl,rfl⟩
theorem Tw (hM:ac ms=true) (hN:ac ns=true) (hC:ac cs=true) (x:List UInt8) (t0 y0 n0 t1 y1 n1:Int) (d0:List UInt8) (k0 k1:List It):SC 69 [.agg (ae o (.fsl false ms) (.fsl false ns) (.fsl false []) (.fsl false cs)),aN .lnk,aB ⟨s,.ofNat 0,.mk t y n d [.mk t0 y0 n0 d0 k0,.mk t1 y1 n1 x k1]⟩] (.agg (ae o (.fsl false ms) (.fsl false ns) (.fsl false [bi ⟨n0,x⟩]) (.fsl false cs))):=by
 have g0:=bB (f:=false) (ks:=[.mk t0 y0 n0 d0 k0,.mk t1 y1 n1 x k1]) (i:=0) rfl
 have g1:=bB (f:=false) (ks:=[.mk t0 y0 n0 d0 k0,.mk t1 y1 n1 x k1]) (i:=1) rfl
 refine dp (A:=cA [(28,6,.res (.fptr (ag t0 y0 n0 (ai d0) (ad k0)) 0)),(28,11,.res (.fptr (ag t1 y1 n1 (ai x) (ad k1)) 0)),(28,14,.res (.str x))]) base0 ao (aw (LsOk.no rfl)) (gw o hM hN rfl hC _ _) ?_
 rw[cM]
 show ax _ _ _ _ _ [_,_,.agg (.str s::I 0::ag t y n (ai d) (ad [.mk t0 y0 n0 d0 k0,.mk t1 y1 n1 x k1]))] _ _ _
 rw[Th]
 refine ⟨g0,g1,pG x,aF (HE o _ _ _ _ _) (pH hM (.closed _ hN) (Frz.row (es:=[bi ⟨n0,x⟩]) rfl rfl rfl rfl (fun e he=> ?_) rfl) (.closed _ hC) (dY o (M:= .fsl false ms) (N:= .fsl false ns) (L:= .fsl false _) (C:= .fsl false cs) hM hN rfl hC))⟩
 simp only[List.mem_cons,List.not_mem_nil,or_false] at he
 subst he;exact ⟨rfl,rfl⟩
end
theorem Tx (s:List UInt8) (l:List Cu) (i:Nat):b7 s (l.take i)≤b7 s l:=((List.take_sublist i l).filter _).length_le
theorem Ty {l:List Cu} {j:Nat} {x:Cu} (h:l[j]? =some x):b8 Tryz.prog 9 (flat (l.map aQ)) (0+j*2+0)=some (.str x.name):=by
  simp only[b8,Nw,Nat.zero_add,Nat.add_zero]
  exact get l j x h
 where
  get :∀ (l:List Cu) (j:Nat) (x:Cu),l[j]? =some x→cC (flat (l.map aQ)) (j*2)=some (.str x.name)
    |[],_,_,h=>by simp at h
    | a::r,0,x,h=>by
      simp at h;subst h
      rfl
    | a::r,j+1,x,h=>by
      have ih:=get r j x (by simpa using h)
      rw[show (j+1)*2=j*2+1+1 by omega]
      exact ih
section
variable {o:Ob} {ms ns ls:List AV} {s s':List UInt8} {t y n:Int} {d:List UInt8} {ks:List It} {Q:AExit→St→Prop}
theorem pI (s:List UInt8):ac (bx (.cus s))=true:=rfl
theorem Tz {C:List Cu} (hb:C.length≤1000) (hM:ac ms=true) (hN:ac ns=true) (hL:ac ls=true)
  (hq:Q (.exit 1) (gv (.ofNat (b7 s C)) (.ofNat C.length) C.length (ae o (.fsl false ms) (.fsl false ns) (.fsl false ls) (.rsl true 1 0 C.length 2)) (flat (C.map aQ)) (bx (.cus s)) (.str s'::I (.ofNat (b7 s C))::ag t y n (ai d) (ad ks)) (ag t y n (ai d) (ad ks))).st):
  ∀m i:Nat,i+m=C.length→ALp Tryz.prog opts0.glob 0 (aD Tryz.prog 69 6) (gv (.ofNat (b7 s (C.take i))) (.ofNat i) C.length (ae o (.fsl false ms) (.fsl false ns) (.fsl false ls) (.rsl true 1 0 C.length 2)) (flat (C.map aQ)) (bx (.cus s)) (.str s'::I (.ofNat (b7 s C))::ag t y n (ai d) (ad ks)) (ag t y n (ai d) (ad ks))).st Q:=by
 have hes:=zb C
 have hA:ac (.str s'::I (.ofNat (b7 s C))::ag t y n (ai d) (ad ks))=true:=by
  have:=eR ⟨s',.ofNat (b7 s C),.mk t y n d ks⟩
  exact this
 have hT:ac (ag t y n (ai d) (ad ks))=true:=by
  have:=bG (.mk t y n d ks)
  exact this
 have hR:df [(0,0),(1,1),(2,2),(3,3),(4,4),(5,5)] (ae o (.fsl false ms) (.fsl false ns) (.fsl false ls) (.rsl true 1 0 C.length 2)) (ae o (.fsl false ms) (.fsl false ns) (.fsl false ls) (.rsl true 1 0 C.length 2)):=uv (o:=o) hM (.same _ hN) (.same _ hL) (.rsl _ _ _ _ _ _ rfl)
 intro m
 induction m with
 |zero=>
  intro i hi
  rw[Nat.add_zero] at hi
  subst hi
  rw[List.take_of_length_le (Nat.le_refl _)]
  refine ALp.round (A:=cA [(7,5,.ld (.str [])),(7,8,.res (.bool false))]) (V2:=gv (.ofNat (b7 s C)) 0 C.length [] (flat (C.map aQ)) (bx (.cus s)) (.str s'::I (.ofNat (b7 s C))::ag t y n (ai d) (ad ks)) (ag t y n (ai d) (ad ks))) (F:=gv (.ofNat (b7 s C)) (.ofNat C.length) C.length (ae o (.fsl false ms) (.fsl false ns) (.fsl false ls) (.rsl true 1 0 C.length 2)) (flat (C.map aQ)) (bx (.cus s)) (.str s'::I (.ofNat (b7 s C))::ag t y n (ai d) (ad ks)) (ag t y n (ai d) (ad ks))) (lk:=[(0,0),(1,1),(2,2),(3,3),(4,4),(5,5)]) (lk':=[(0,0),(1,1),(2,2),(3,3),(4,4),(5,5)]) base0 ao (LsOk.no rfl) .refl ?_
  rw[Hv (_c':=0)]
  exact aj (fun e=>(nu e).elim) fun _=>⟨⟨⟨⟨rfl,rfl⟩,⟨rfl,rfl⟩,trivial⟩,⟨⟨rfl,rfl⟩,⟨rfl,rfl⟩,⟨rfl,rfl⟩,⟨rfl,rfl⟩,⟨rfl,rfl⟩,trivial⟩,hR,⟨rfl,hes⟩,⟨rfl,pI s⟩,⟨rfl,hA⟩,⟨rfl,hT⟩,⟨rfl,rfl⟩,trivial⟩,hq⟩
 | succ m ih=>
  intro i hi
  have hlt:i<C.length:=by omega
  have g:=List.getElem?_eq_getElem hlt
  have ih:=ih (i+1) (by omega)
  have hle:=Tx s C (i+1)
  have hcl:=GU s (C.take i)
  have htl:(C.take i).length≤C.length:=List.length_take_le' i C
  rw[lw g,z2] at ih hle
  revert g ih hle
  generalize C[i]=x
  revert hcl
  generalize b7 s (C.take i)=c
  intro hcl g ih hle
  have hp:=Ty g
  have hob:(gG (Int.ofNat i)&&((Int.ofNat i).toNat.blt C.length&&true))=true:=by
   simp only[gG,Bool.true_and,Bool.and_true]
   exact blt_iff.2 hlt
  have he:=HC (.tmp 29) (.tmp 31) x.name s
  cases hx:aA x.name s with
  |false=>
   rw[hx] at ih he
   rw[Nat.add_zero] at ih
   refine ALp.round (A:=cA [(7,5,.ld (.str x.name)),(7,8,.res (.bool false))]) (V2:=gv (.ofNat c) (.ofNat (i+1)) C.length (ae o (.fsl false ms) (.fsl false ns) (.fsl false ls) (.rsl true 1 0 C.length 2)) (flat (C.map aQ)) (bx (.cus s)) (.str s'::I (.ofNat (b7 s C))::ag t y n (ai d) (ad ks)) (ag t y n (ai d) (ad ks))) (F:=gv (.ofNat c) (.ofNat i) C.length (ae o (.fsl false ms) (.fsl false ns) (.fsl false ls) (.rsl true 1 0 C.length 2)) (flat (C.map aQ)) (bx (.cus s)) (.str s'::I (.ofNat (b7 s C))::ag t y n (ai d) (ad ks)) (ag t y n (ai d) (ad ks))) (lk:=[(0,0),(1,1),(2,2),(3,3),(4,4),(5,5)]) (lk':=[(0,0),(1,1),(2,2),(3,3),(4,4),(5,5)]) base0 ao (LsOk.no rfl) .refl ?_
   rw[Hv (_c':=0),dG (by omega)]
   exact aj (fun _=>aF hob ⟨hp,he,⟨⟨⟨rfl,rfl⟩,⟨rfl,rfl⟩,trivial⟩,⟨⟨rfl,rfl⟩,⟨rfl,rfl⟩,⟨rfl,rfl⟩,⟨rfl,rfl⟩,⟨rfl,rfl⟩,trivial⟩,hR,⟨rfl,hes⟩,⟨rfl,pI s⟩,⟨rfl,hA⟩,⟨rfl,hT⟩,⟨rfl,rfl⟩,trivial⟩,ih⟩) fun e=>absurd e (gR hlt)
  |true=>
   rw[hx] at ih he hle
   have hle:c+1≤b7 s C:=hle
   have hi2:=sw (.tmp 33) (.tmp 35) (.ofNat c) (.ofNat (b7 s C))
   rw[beqInt_false.2 (by simp only[Int.ofNat_eq_natCast];omega)] at hi2
   refine ALp.round (A:=cA [(7,5,.ld (.str x.name)),(7,8,.res (.bool true)),(8,3,.res (.bool false))]) (V2:=gv (.ofNat (c+1)) (.ofNat (i+1)) C.length (ae o (.fsl false ms) (.fsl false ns) (.fsl false ls) (.rsl true 1 0 C.length 2)) (flat (C.map aQ)) (bx (.cus s)) (.str s'::I (.ofNat (b7 s C))::ag t y n (ai d) (ad ks)) (ag t y n (ai d) (ad ks))) (F:=gv (.ofNat c) (.ofNat i) C.length (ae o (.fsl false ms) (.fsl false ns) (.fsl false ls) (.rsl true 1 0 C.length 2)) (flat (C.map aQ)) (bx (.cus s)) (.str s'::I (.ofNat (b7 s C))::ag t y n (ai d) (ad ks)) (ag t y n (ai d) (ad ks))) (lk:=[(0,0),(1,1),(2,2),(3,3),(4,4),(5,5)]) (lk':=[(0,0),(1,1),(2,2),(3,3),(4,4),(5,5)]) base0 ao (LsOk.no rfl) .refl ?_
   rw[Ti,dG (p:=i) (by omega),dG (p:=c) (by omega)]
   exact aj (fun _=>aF hob ⟨hp,he,hi2,⟨⟨⟨rfl,rfl⟩,⟨rfl,rfl⟩,trivial⟩,⟨⟨rfl,rfl⟩,⟨rfl,rfl⟩,⟨rfl,rfl⟩,⟨rfl,rfl⟩,⟨rfl,rfl⟩,trivial⟩,hR,⟨rfl,hes⟩,⟨rfl,pI s⟩,⟨rfl,hA⟩,⟨rfl,hT⟩,⟨rfl,rfl⟩,trivial⟩,ih⟩) fun e=>absurd e (gR hlt)
end
noncomputable section
abbrev vF (Ns:List AV) (a:AV):=(AV.rsl true 27 0 (0+aa (a::Ns)+1) 1)
theorem TA (o:Ob) (M L C a:AV) (Ns:List AV) (i:Nat) (s x:List UInt8) (t y n:Int) (D K:List AV) (Q:AV→af→Prop):ax Tryz.prog opts0 40 (cA [(15,5,.res (.bool true)),(17,6,.res (.str x))]) 69 [.agg (ae o M (.fsl false (a::Ns)) L C),aN .nam,.agg (.str s::I (.ofNat i)::ag t y n D K)] [] 0 (fun v H _=>Q v H)=
  (au (a8 1 (a::Ns)&&(((0+aa (a::Ns))*16).ble 140737488355328&&true)) (aM Tryz.prog BinOp.eql 3 (Operand.tmp 69) (Operand.tmp 72) (I (Int.ofNat i)) (I (Int.ofNat (0+aa (a::Ns))))=some (AV.bool true)∧au (((0+aa (a::Ns)+1)*16).ble 140737488355328&&true) (au ((aa (flat (a::Ns))).beq ((0+aa (a::Ns))*1)) (cR Tryz.prog 23 9 (AV.fsl false D)=some (Eff.val (AV.str x))∧au (gG (Int.ofNat i)&&((Int.ofNat i).toNat.blt (0+aa (a::Ns)+1)&&true)) (au ((0+(Int.ofNat i).toNat*1+1).ble (aa (flat (a::Ns)++[AV.str []]))) (au (bM Tryz.prog 38 (AV.agg (ae o M (vF Ns a) L C)) 37) (Q (AV.agg (ae o M (vF Ns a) L C)) [(27,some (Blk.cells (List.take (0+(Int.ofNat i).toNat*1) (flat (a::Ns)++[AV.str []])++AV.str x::List.drop (0+(Int.ofNat i).toNat*1+aa [AV.str x]) (flat (a::Ns)++[AV.str []])))),(15,none),(6,some (Blk.cells [I t,I y,I n,AV.fsl false D,AV.fsl false K])),(3,some (Blk.cells (ae o M (vF Ns a) L C))),(2,some (Blk.cells [AV.str s,I (Int.ofNat i),I t,I y,I n,AV.fsl false D,AV.fsl false K])),(1,some (Blk.cells [AV.str [78,97,109,101],I 7,AV.bool true,AV.bool true,AV.str [65,77,68],AV.str [],I (Int.negSucc 0)])),(0,some (Blk.cells (ae o M (vF Ns a) L C)))]))))))):=by kernel_rfl
abbrev vG (Ls:List AV) (a:AV):=(AV.rsl true 44 0 (0+aa (a::Ls)+1) 2)
theorem TB (o:Ob) (M N C a:AV) (Ls:List AV) (i:Nat) (s x:List UInt8) (t y n t0 y0 n0 t1 y1 n1:Int) (D K D0 K0 D1 K1:List AV) (Q:AV→af→Prop):ax Tryz.prog opts0 40 (cA [(26,5,.res (.bool true)),(28,6,.res (.fptr (ag t0 y0 n0 D0 K0) 0)),(28,11,.res (.fptr (ag t1 y1 n1 D1 K1) 0)),(28,14,.res (.str x))]) 69 [.agg (ae o M N (.fsl false (a::Ls)) C),aN .lnk,.agg (.str s::I (.ofNat i)::ag t y n D K)] [] 0 (fun v H _=>Q v H)=
  (au (a8 2 (a::Ls)&&(((0+aa (a::Ls))*24).ble 140737488355328&&true)) (aM Tryz.prog BinOp.eql 3 (Operand.tmp 118) (Operand.tmp 121) (I (Int.ofNat i)) (I (Int.ofNat (0+aa (a::Ls))))=some (AV.bool true)∧au (((0+aa (a::Ls)+1)*24).ble 140737488355328&&true) (au ((aa (flat (a::Ls))).beq ((0+aa (a::Ls))*2)) (aC Tryz.prog 24 (AV.fsl false K) (I 0)=some (AV.fptr [I t0,I y0,I n0,AV.fsl false D0,AV.fsl false K0] 0)∧aC Tryz.prog 24 (AV.fsl false K) (I 1)=some (AV.fptr [I t1,I y1,I n1,AV.fsl false D1,AV.fsl false K1] 0)∧cR Tryz.prog 23 9 (AV.fsl false D1)=some (Eff.val (AV.str x))∧au (gG (Int.ofNat i)&&((Int.ofNat i).toNat.blt (0+aa (a::Ls)+1)&&true)) (au ((0+(Int.ofNat i).toNat*2+2).ble (aa (flat (a::Ls)++[I 0,AV.str []]))) (au (bM Tryz.prog 38 (AV.agg (ae o M N (vG Ls a) C)) 37) (Q (AV.agg (ae o M N (vG Ls a) C)) [(44,some (Blk.cells (List.take (0+(Int.ofNat i).toNat*2) (flat (a::Ls)++[I 0,AV.str []])++I n0::AV.str x::List.drop (0+(Int.ofNat i).toNat*2+aa [I n0,AV.str x]) (flat (a::Ls)++[I 0,AV.str []])))),(31,none),(6,some (Blk.cells [I t,I y,I n,AV.fsl false D,AV.fsl false K])),(3,some (Blk.cells (ae o M N (vG Ls a) C))),(2,some (Blk.cells [AV.str s,I (Int.ofNat i),I t,I y,I n,AV.fsl false D,AV.fsl false K])),(1,some (Blk.cells [AV.str [76,105,110,107],I 1,AV.bool true,AV.bool true,AV.str [65,77,68],AV.str [],I (Int.negSucc 0)])),(0,some (Blk.cells (ae o M N (vG Ls a) C)))]))))))):=by kernel_rfl
theorem je {sz:Nat}:∀ {E:List AV},(∀e∈E,e.cells.length=sz)→(flat E).length=E.length*sz
 |[],_=>(Nat.zero_mul sz).symm
 |e::r,h=>by
  have ih:=je (E:=r) fun x hx=>h x (by simp[hx])
  rw[flat,List.length_append,h e (by simp),ih,List.length_cons,Nat.add_mul,Nat.one_mul,Nat.add_comm]
theorem HG {sz i:Nat} {E:List AV} (h:∀e∈E,e.cells.length=sz) (hi:i<E.length) {x:AV} (hx:x.cells.length=sz):(flat E).take (0+(Int.ofNat i).toNat*sz)++(x.cells++(flat E).drop (0+(Int.ofNat i).toNat*sz+aa x.cells))=flat (dA E i x):=by
 have e:E=E.take i++(E[i]::E.drop (i+1)):=by rw[←List.drop_eq_getElem_cons hi,List.take_append_drop]
 have h1:(flat (E.take i)).length=i*sz:=by
  rw[je fun x hx=>h x (List.mem_of_mem_take hx),List.length_take,Nat.min_eq_left (by omega)]
 have h2:(E[i]).cells.length=sz:=h _ (List.getElem_mem hi)
 have e2:flat E=flat (E.take i)++((E[i]).cells++flat (E.drop (i+1))):=by
  conv=>lhs;rw[e]
  rw[ej]
  rfl
 unfold dA
 rw[ej,e2]
 simp only[Nat.zero_add,Int.toNat_natCast,Int.ofNat_eq_natCast,aE,hx]
 rw[←h1,List.take_append_of_le_length (Nat.le_refl _),List.take_length,List.drop_append,List.drop_of_length_le (by omega),List.nil_append,Nat.add_sub_cancel_left,List.drop_append,List.drop_of_length_le (by omega),h2,Nat.sub_self,List.drop_zero,List.nil_append]
 rfl
theorem HH {sz i:Nat} {E:List AV} (h:∀e∈E,e.cells.length=sz) (hi:i<E.length):Nat.ble (0+(Int.ofNat i).toNat*sz+sz) (aa (flat E))=true:=Nat.ble_eq_true_of_le (by
 rw[aE,je h]
 simp only[Nat.zero_add,Int.toNat_natCast,Int.ofNat_eq_natCast]
 have:=Nat.mul_le_mul_right sz (show i+1≤E.length from hi)
 rw[Nat.add_mul,Nat.one_mul] at this
 exact this)
theorem Aq {i n:Nat} (h:i<n):(gG (Int.ofNat i)&&(Nat.blt (Int.ofNat i).toNat n&&true))=true:=by
 have h1:Nat.blt (Int.ofNat i).toNat n=true:=blt_iff.2 (by simpa using h)
 rw[h1];rfl
section
variable {o:Ob} {ms ns ls cs:List AV} {s:List UInt8} {t y n:Int} {d:List UInt8} {ks:List It}
theorem HI {α:Type} (l:List α) (z x:α):dA (l++[z]) l.length x=l++[x]:=by
 unfold dA
 simp
theorem TC (hM:ac ms=true) (hL:ac ls=true) (hC:ac cs=true) (x:List UInt8):∀l:List (List UInt8),l.length<6→SC 69 [.agg (ae o (.fsl false ms) (.fsl false (l.map .str)) (.fsl false ls) (.fsl false cs)),aN .nam,aB ⟨s,.ofNat l.length,.mk t y n x ks⟩] (.agg (ae o (.fsl false ms) (.fsl false ((l++[x]).map .str)) (.fsl false ls) (.fsl false cs)))
 |[],_=>Tv hM hL hC x
 | a::r,hl=>by
  have hN:=oN (a::r)
  have hN2:=oN ((a::r)++[x])
  have hg:∀e∈(a::r).map AV.str,e.cells.length=1:=fun e he=>by obtain ⟨_,_,rfl⟩:=List.mem_map.1 he;rfl
  have hg2:∀e∈(a::r).map AV.str++[.str []],e.cells.length=1:=fun e he=>by
   rcases List.mem_append.1 he with he|he
   ·exact hg e he
   ·rw[List.mem_singleton] at he;subst he;rfl
  have hlen:(0+aa (AV.str a::r.map .str))=r.length+1:=by rw[aE,Nat.zero_add,List.length_cons,List.length_map]
  simp only[List.length_cons] at hl⊢
  have hask:(a8 1 (AV.str a::r.map .str)&&(Nat.ble ((0+aa (AV.str a::r.map .str))*16) 140737488355328&&true))=true:=by
   have h1:a8 1 (AV.str a::r.map .str)=true:=ob hg
   have h2:Nat.ble ((0+aa (AV.str a::r.map .str))*16) 140737488355328=true:=Nat.ble_eq_true_of_le (by rw[hlen];omega)
   rw[h1,h2];rfl
  have heq:=sw (.tmp 69) (.tmp 72) (.ofNat (r.length+1)) (.ofNat (0+aa (AV.str a::r.map .str)))
  rw[beqInt_iff.2 (by rw[hlen])] at heq
  have hput:=HG (E:=(a::r).map AV.str++[.str []]) (i:=r.length+1) (x:= .str x) hg2 (by simp) rfl
  have hble:=HH (E:=(a::r).map AV.str++[.str []]) (i:=r.length+1) hg2 (by simp)
  have em:dA ((a::r).map AV.str++[.str []]) (r.length+1) (.str x)=((a::r)++[x]).map .str:=by
   have:=HI ((a::r).map AV.str) (.str []) (.str x)
   rw[List.length_map,List.length_cons] at this
   rw[this,List.map_append]
   rfl
  rw[em,ej] at hput
  rw[ej] at hble
  have hidx:=Aq (i:=r.length+1) (n:=0+aa (AV.str a::r.map .str)+1) (by rw[hlen];omega)
  have hask2:(Nat.ble ((0+aa (AV.str a::r.map .str)+1)*16) 140737488355328&&true)=true:=by
   rw[hlen,Nat.ble_eq_true_of_le (by omega)];rfl
  have hbeq:Nat.beq (aa (flat (AV.str a::r.map .str))) ((0+aa (AV.str a::r.map .str))*1)=true:=by
   have h1:=je hg
   rw[List.length_map,List.length_cons] at h1
   rw[beq_iff,hlen,aE]
   exact h1
  refine dp (A:=cA [(15,5,.res (.bool true)),(17,6,.res (.str x))]) base0 ao (aw (LsOk.no rfl)) (gw o hM hN hL hC _ _) ?_
  rw[cM,List.map_cons]
  rw[TA]
  refine aF hask ⟨heq,aF hask2 (aF hbeq ⟨pG x,aF hidx (aF hble (aF (HD o _ _ _ _ _) (pH hM (Frz.row (es:=((a::r)++[x]).map .str) rfl rfl hput ?_ (fun e he=>by obtain ⟨_,_,rfl⟩:=List.mem_map.1 he;exact ⟨rfl,rfl⟩) hN2) (.closed _ hL) (.closed _ hC) (dY o (M:= .fsl false ms) (N:= .fsl false _) (L:= .fsl false ls) (C:= .fsl false cs) hM hN2 hL hC))))⟩)⟩
  rw[hlen]
  simp
theorem TD (hM:ac ms=true) (hN:ac ns=true) (hC:ac cs=true) (x:List UInt8) (t0 y0 n0 t1 y1 n1:Int) (d0:List UInt8) (k0 k1:List It):∀l:List Lk,l.length<8→SC 69 [.agg (ae o (.fsl false ms) (.fsl false ns) (.fsl false (l.map bi)) (.fsl false cs)),aN .lnk,aB ⟨s,.ofNat l.length,.mk t y n d [.mk t0 y0 n0 d0 k0,.mk t1 y1 n1 x k1]⟩] (.agg (ae o (.fsl false ms) (.fsl false ns) (.fsl false ((l++[(⟨n0,x⟩:Lk)]).map bi)) (.fsl false cs)))
 |[],_=>Tw hM hN hC x t0 y0 n0 t1 y1 n1 d0 k0 k1
 | a::r,hl=>by
  have hL:=oO (a::r)
  have hL2:=oO ((a::r)++[(⟨n0,x⟩:Lk)])
  have hg:∀e∈(a::r).map bi,e.cells.length=2:=fun e he=>by obtain ⟨_,_,rfl⟩:=List.mem_map.1 he;rfl
  have hlen:(0+aa (bi a::r.map bi))=r.length+1:=by rw[aE,Nat.zero_add,List.length_cons,List.length_map]
  have g0:=bB (f:=false) (ks:=[.mk t0 y0 n0 d0 k0,.mk t1 y1 n1 x k1]) (i:=0) rfl
  have g1:=bB (f:=false) (ks:=[.mk t0 y0 n0 d0 k0,.mk t1 y1 n1 x k1]) (i:=1) rfl
  simp only[List.length_cons] at hl⊢
  have hask:(a8 2 (bi a::r.map bi)&&(Nat.ble ((0+aa (bi a::r.map bi))*24) 140737488355328&&true))=true:=by
   have h1:a8 2 (bi a::r.map bi)=true:=ob hg
   have h2:Nat.ble ((0+aa (bi a::r.map bi))*24) 140737488355328=true:=Nat.ble_eq_true_of_le (by rw[hlen];omega)
   rw[h1,h2];rfl
  have hg2:∀e∈(a::r).map bi++[bi ⟨0,[]⟩],e.cells.length=2:=fun e he=>by
   rcases List.mem_append.1 he with he|he
   ·exact hg e he
   ·rw[List.mem_singleton] at he;subst he;rfl
  have heq:=sw (.tmp 118) (.tmp 121) (.ofNat (r.length+1)) (.ofNat (0+aa (bi a::r.map bi)))
  rw[beqInt_iff.2 (by rw[hlen])] at heq
  have hput:=HG (E:=(a::r).map bi++[bi ⟨0,[]⟩]) (i:=r.length+1) (x:=bi ⟨n0,x⟩) hg2 (by simp) rfl
  have hble:=HH (E:=(a::r).map bi++[bi ⟨0,[]⟩]) (i:=r.length+1) hg2 (by simp)
  have em:dA ((a::r).map bi++[bi ⟨0,[]⟩]) (r.length+1) (bi ⟨n0,x⟩)=((a::r)++[(⟨n0,x⟩:Lk)]).map bi:=by
   have:=HI ((a::r).map bi) (bi ⟨0,[]⟩) (bi ⟨n0,x⟩)
   rw[List.length_map,List.length_cons] at this
   rw[this,List.map_append]
   rfl
  rw[em,ej] at hput
  rw[ej] at hble
  have hidx:=Aq (i:=r.length+1) (n:=0+aa (bi a::r.map bi)+1) (by rw[hlen];omega)
  have hask2:(Nat.ble ((0+aa (bi a::r.map bi)+1)*24) 140737488355328&&true)=true:=by
   rw[hlen,Nat.ble_eq_true_of_le (by omega)];rfl
  have hbeq:Nat.beq (aa (flat (bi a::r.map bi))) ((0+aa (bi a::r.map bi))*2)=true:=by
   have h1:=je hg
   rw[List.length_map,List.length_cons] at h1
   rw[beq_iff,hlen,aE]
   exact h1
  refine dp (A:=cA [(26,5,.res (.bool true)),(28,6,.res (.fptr (ag t0 y0 n0 (ai d0) (ad k0)) 0)),(28,11,.res (.fptr (ag t1 y1 n1 (ai x) (ad k1)) 0)),(28,14,.res (.str x))]) base0 ao (aw (LsOk.no rfl)) (gw o hM hN hL hC _ _) ?_
  rw[cM,List.map_cons]
  rw[TB]
  refine aF hask ⟨heq,aF hask2 (aF hbeq ⟨g0,g1,pG x,aF hidx (aF hble (aF (HE o _ _ _ _ _) (pH hM (.closed _ hN) (Frz.row (es:=((a::r)++[(⟨n0,x⟩:Lk)]).map bi) rfl rfl hput ?_ (fun e he=>by obtain ⟨_,_,rfl⟩:=List.mem_map.1 he;exact ⟨rfl,rfl⟩) hL2) (.closed _ hC) (dY o (M:= .fsl false ms) (N:= .fsl false ns) (L:= .fsl false _) (C:= .fsl false cs) hM hN hL2 hC))))⟩)⟩
  rw[hlen]
  simp
end
end
end Go.Proofs.YtmnlofhodbnenaaGreatDoor
namespace Go.Proofs.YtmnlofhodbnenaaGreatDoor
open Go Go.RowKit
open Go.Proofs.Abs
theorem Ar {α:Type} (l:List α) (x:α):dA l l.length x=l++[x]:=by
 simp[dA]
theorem TE (o:Ob) (s:List UInt8):ij o s (b6 s o.cust 0).length=o.cust.length:=by
 simp[ij]
theorem TF {o:Ob} {k:Kd} (h:ce k=true):cL o k=(aK o k).length:=by
 rw[cL,h]
 match aK o k with
 |[]=>rfl
 |[_]=>rfl
 |_::_::_=>rfl
end Go.Proofs.YtmnlofhodbnenaaGreatDoor
namespace Go.Proofs.YtmnlofhodbnenaaGreatDoor
set_option maxRecDepth 20000
open Go Go.RowKit
open Go.Proofs.Abs
section
variable {o:Ob} {ms ns ls:List AV} {s s':List UInt8} {t y n:Int} {d:List UInt8} {ks:List It}
theorem HJ:bu (cy Tryz.prog 69) 6=[aD Tryz.prog 69 6]:=by kernel_rfl
theorem TG {c:Int} {_R _A _T:List AV} {Q:AExit→St→Prop} {st:St} (hM:ac ms=true) (hN:ac ns=true) (hL:ac ls=true) (h:Ap (ae o (.fsl false ms) (.fsl false ns) (.fsl false ls) (.fsl true [])) (bx (.cus s)) (.str s'::I c::ag t y n (ai d) (ad ks)) (ag t y n (ai d) (ad ks)) st Q):AWp Tryz.prog opts0.glob 0 (.loop (aD Tryz.prog 69 6)) st Q:=by
 have hA:ac (.str s'::I c::ag t y n (ai d) (ad ks))=true:=by
  have:=eR ⟨s',c,.mk t y n d ks⟩
  exact this
 have hT:ac (ag t y n (ai d) (ad ks))=true:=by
  have:=bG (.mk t y n d ks)
  exact this
 have hR:df [(0,0),(1,1),(2,2),(3,3),(4,4)] (ae o (.fsl false ms) (.fsl false ns) (.fsl false ls) (.fsl true [])) (ae o (.fsl false ms) (.fsl false ns) (.fsl false ls) (.fsl true [])):=uv (o:=o) hM (.same _ hN) (.same _ hL) (.same _ rfl)
 refine .seen base0.glob h.1 ?_
 refine ALp.round (A:=cA []) (V2:=lR 0 0 (ae o (.fsl false ms) (.fsl false ns) (.fsl false ls) (.fsl true [])) (bx (.cus s)) (.str s'::I c::ag t y n (ai d) (ad ks)) (ag t y n (ai d) (ad ks))) (F:=lR 0 0 (ae o (.fsl false ms) (.fsl false ns) (.fsl false ls) (.fsl true [])) (bx (.cus s)) (.str s'::I c::ag t y n (ai d) (ad ks)) (ag t y n (ai d) (ad ks))) (lk:=[]) (lk':=[(0,0),(1,1),(2,2),(3,3),(4,4)]) base0 ao (LsOk.no rfl) .refl ?_
 rw[Tj]
 exact ⟨⟨⟨⟨rfl,rfl⟩,⟨rfl,rfl⟩,trivial⟩,⟨⟨rfl,rfl⟩,⟨rfl,rfl⟩,⟨rfl,rfl⟩,⟨rfl,rfl⟩,⟨rfl,rfl⟩,trivial⟩,hR,⟨rfl,pI s⟩,⟨rfl,hA⟩,⟨rfl,hT⟩,⟨rfl,rfl⟩,trivial⟩,h.2⟩
theorem ir {s:List UInt8} (h:iX (.cus s)) {j:Kd} (hj:j∈kinds) (p q:Operand):aM Tryz.prog .eql 9 p q (.str s) (.str (aJ j))=some (.bool false):=by
 rw[HC,kv h hj]
-- CASES
theorem TH (hn:iX (.cus s)) (hM:ac ms=true) (hN:ac ns=true) (hL:ac ls=true) (x:List UInt8):SC 69 [.agg (ae o (.fsl false ms) (.fsl false ns) (.fsl false ls) (.fsl false [])),aN (.cus s),aB ⟨s',.ofNat (b7 s []),.mk t y n x ks⟩] (.agg (ae o (.fsl false ms) (.fsl false ns) (.fsl false ls) (.fsl false [aQ ⟨s,x⟩]))):=by
 have hA:ac (.str s'::I 0::ag t y n (ai x) (ad ks))=true:=by
  have:=eR ⟨s',0,.mk t y n x ks⟩
  exact this
 have hT:ac (ag t y n (ai x) (ad ks))=true:=by
  have:=bG (.mk t y n x ks)
  exact this
 refine dp (A:=ap [(13,2,.res (.bool false)),(18,2,.res (.bool false)),(20,2,.res (.bool false)),(22,2,.res (.bool false)),(24,2,.res (.bool false)),(29,2,.res (.bool false)),(12,6,.res (.str x))] [(6,Ap (ae o (.fsl false ms) (.fsl false ns) (.fsl false ls) (.fsl true [])) (bx (.cus s)) (.str s'::I 0::ag t y n (ai x) (ad ks)) (ag t y n (ai x) (ad ks)))] aH [] []) base0 ao
  (aw (LsOk.at1 rfl HJ fun st Q hs=>TG (s:=s) (s':=s') (_R:=[]) (_A:=[]) (_T:=[]) hM hN hL hs)) (gw o hM hN hL rfl _ _) ?_
 rw[cM]
 show ax _ _ _ _ _ [_,_,.agg (.str s'::I 0::ag t y n (ai x) (ad ks))] _ _ _
 rw[Tk (_c:=0)]
 refine ⟨ir hn (j:= .nam) (by simp[kinds]) _ _,ir hn (j:= .alg) (by simp[kinds]) _ _,ir hn (j:= .len) (by simp[kinds]) _ _,ir hn (j:= .mask) (by simp[kinds]) _ _,ir hn (j:= .lnk) (by simp[kinds]) _ _,ir hn (j:= .lim) (by simp[kinds]) _ _,⟨⟨⟨rfl,rfl⟩,⟨rfl,rfl⟩,trivial⟩,⟨⟨rfl,rfl⟩,⟨rfl,rfl⟩,⟨rfl,rfl⟩,⟨rfl,rfl⟩,⟨rfl,rfl⟩,trivial⟩,uv (o:=o) hM (.same _ hN) (.same _ hL) (.same _ rfl),⟨rfl,pI s⟩,⟨rfl,hA⟩,⟨rfl,hT⟩,⟨rfl,rfl⟩,trivial⟩,pG x,aF (HF o _ _ _ _ _) (pH hM (.closed _ hN) (.closed _ hL) (Frz.row (es:=[aQ ⟨s,x⟩]) rfl rfl rfl rfl (fun e he=> ?_) rfl) (dY o (M:= .fsl false ms) (N:= .fsl false ns) (L:= .fsl false ls) (C:= .fsl false _) hM hN hL rfl))⟩
 simp only[List.mem_cons,List.not_mem_nil,or_false] at he
 subst he;exact ⟨rfl,rfl⟩
theorem TI (hn:iX (.cus s)) (hM:ac ms=true) (hN:ac ns=true) (hL:ac ls=true) (x:List UInt8):∀l:List Cu,l.length<6→SC 69 [.agg (ae o (.fsl false ms) (.fsl false ns) (.fsl false ls) (.fsl false (l.map aQ))),aN (.cus s),aB ⟨s',.ofNat (b7 s l),.mk t y n x ks⟩] (.agg (ae o (.fsl false ms) (.fsl false ns) (.fsl false ls) (.fsl false ((l++[(⟨s,x⟩:Cu)]).map aQ))))
 |[],_=>TH hn hM hN hL x
 | a::r,hb=>by
  have hC:=m4 (a::r)
  have hC2:=m4 (a::r++[(⟨s,x⟩:Cu)])
  have hes:=zb (a::r)
  have hes2:flat ((a::r).map aQ)++flat [aQ ⟨s,x⟩]=flat ((a::r++[(⟨s,x⟩:Cu)]).map aQ):=by rw[List.map_append,ej];rfl
  have hl1:aa [aQ ⟨s,x⟩]=1:=rfl
  have hl2:(a::r).length+aa [aQ ⟨s,x⟩]=((a::r++[(⟨s,x⟩:Cu)]).map aQ).length:=by rw[hl1,List.length_map,List.length_append];rfl
  have hask2:(a8 2 [aQ ⟨s,x⟩]&&(Nat.ble (((a::r).length+aa [aQ ⟨s,x⟩])*32) 140737488355328&&(bc (flat [aQ ⟨s,x⟩])&&true)))=true:=by
   have h2:Nat.ble (((a::r).length+aa [aQ ⟨s,x⟩])*32) 140737488355328=true:=Nat.ble_eq_true_of_le (by rw[hl1];omega)
   rw[h2];rfl
  have hg:∀e∈(a::r).map aQ,e.cells.length=2:=fun e he=>by obtain ⟨_,_,rfl⟩:=List.mem_map.1 he;rfl
  have hlen:(0+aa (aQ a::r.map aQ))=(a::r).length:=by rw[aE,Nat.zero_add,List.length_cons,List.length_map,List.length_cons]
  have hA:ac (.str s'::I (.ofNat (b7 s (a::r)))::ag t y n (ai x) (ad ks))=true:=by
   have:=eR ⟨s',(.ofNat (b7 s (a::r))),.mk t y n x ks⟩
   exact this
  have hT:ac (ag t y n (ai x) (ad ks))=true:=by
   have:=bG (.mk t y n x ks)
   exact this
  have hbeq:Nat.beq (aa (flat ((a::r).map aQ))) ((a::r).length*2)=true:=by
   have h1:=je hg
   rw[List.length_map] at h1
   rw[beq_iff,aE]
   exact h1
  have hask:(a8 2 (aQ a::r.map aQ)&&(Nat.ble ((0+aa (aQ a::r.map aQ))*32) 140737488355328&&true))=true:=by
   have h1:a8 2 (aQ a::r.map aQ)=true:=ob hg
   have h2:Nat.ble ((0+aa (aQ a::r.map aQ))*32) 140737488355328=true:=Nat.ble_eq_true_of_le (by rw[hlen];omega)
   rw[h1,h2];rfl
  refine dp (A:=ap [(13,2,.res (.bool false)),(18,2,.res (.bool false)),(20,2,.res (.bool false)),(22,2,.res (.bool false)),(24,2,.res (.bool false)),(29,2,.res (.bool false)),(12,6,.res (.str x))] [(6,Hw (.ofNat (b7 s (a::r))) (a::r).length (ae o (.fsl false ms) (.fsl false ns) (.fsl false ls) (.rsl true 1 0 (a::r).length 2)) (flat ((a::r).map aQ)) (bx (.cus s)) (.str s'::I (.ofNat (b7 s (a::r)))::ag t y n (ai x) (ad ks)) (ag t y n (ai x) (ad ks)))] aH [] []) base0 ao
   (aw (LsOk.at1 rfl HJ fun st Q hs=> .seen base0.glob hs.1 (Tz (C:=a::r) (by omega) hM hN hL hs.2 (a::r).length 0 (Nat.zero_add _)))) (gw o hM hN hL hC _ _) ?_
  rw[cM,List.map_cons]
  rw[Tl,hlen]
  rw[hlen] at hask
  refine ⟨ir hn (j:= .nam) (by simp[kinds]) _ _,ir hn (j:= .alg) (by simp[kinds]) _ _,ir hn (j:= .len) (by simp[kinds]) _ _,ir hn (j:= .mask) (by simp[kinds]) _ _,ir hn (j:= .lnk) (by simp[kinds]) _ _,ir hn (j:= .lim) (by simp[kinds]) _ _,aF hask ⟨⟨⟨⟨rfl,rfl⟩,⟨rfl,rfl⟩,trivial⟩,⟨⟨rfl,rfl⟩,⟨rfl,rfl⟩,⟨rfl,rfl⟩,⟨rfl,rfl⟩,⟨rfl,rfl⟩,trivial⟩,uv (o:=o) hM (.same _ hN) (.same _ hL) (.rsl _ _ _ _ _ _ rfl),⟨rfl,hes⟩,⟨rfl,pI s⟩,⟨rfl,hA⟩,⟨rfl,hT⟩,⟨rfl,rfl⟩,trivial⟩,pG x,aF hask2 (aF hbeq (aF (HF o _ _ _ _ _) (pH hM (.closed _ hN) (.closed _ hL) (Frz.row (es:=(a::r++[(⟨s,x⟩:Cu)]).map aQ) rfl rfl hes2 hl2 (fun e he=>by obtain ⟨_,_,rfl⟩:=List.mem_map.1 he;exact ⟨rfl,rfl⟩) hC2) (dY o (M:= .fsl false ms) (N:= .fsl false ns) (L:= .fsl false ls) (C:= .fsl false _) hM hN hL hC2))))⟩⟩
end
theorem HK {k:Kd} (hk:dg k=true) (hn:iX k) {o:Ob} (hr:jq o k=true) {v:It} (hv:eY v k=true) (s:List UInt8) {i:Int} (hi:ce k=true→i= .ofNat (aK o k).length):
  SC 69 [az o,aN k,aB ⟨s,i,v⟩] (az (cn o (aK o k).length v k)):=by
 have hM:=m5 o
 have hN:=oP o
 have hL:=oQ o
 have hC:=m6 o
 unfold az am
 cases k with
 |alg=>
  obtain ⟨t,y,n,d,ks⟩:=v
  exact Tm hM hN hL hC i
 |len=>
  obtain ⟨t,y,n,d,ks⟩:=v
  exact Tn hM hN hL hC i
 |mask=>
  obtain ⟨t,y,n,d,ks⟩:=v
  exact To hM hN hL hC i
 | dat j=>
  obtain ⟨t,y,n,d,ks⟩:=v
  have hk4:j=1∨j=2∨j=3∨j=4:=by
   simp only[dg,lq,Bool.and_eq_true,Nat.ble_eq] at hk
   omega
  rcases hk4 with rfl|rfl|rfl|rfl
  ·exact Tp hM hN hL hC i
  ·exact Tq hM hN hL hC i
  ·exact Ts hM hN hL hC i
  ·exact Tt hM hN hL hC i
 |lim=>
  simp only[eY,Bool.and_eq_true] at hv
  obtain ⟨t,y,n,d,ks⟩:=v
  have hl:=hv.2
  simp only[aV] at hl
  match ks,hl with
  |[⟨t0,y0,n0,d0,k0⟩,⟨t1,y1,n1,d1,k1⟩,⟨t2,y2,n2,d2,k2⟩],_=>exact Tu hM hN hL hC i t0 y0 n0 t1 y1 n1 t2 y2 n2 d0 d1 d2 k0 k1 k2
 |nam=>
  obtain ⟨t,y,n,d,ks⟩:=v
  have hlen:(aK o .nam).length=o.names.length:=by simp[aK]
  rw[hi rfl,hlen]
  have h6:o.names.length<6:=blt_iff.1 hr
  have:=TC (o:=o) (s:=s) (t:=t) (y:=y) (n:=n) (ks:=ks) hM hL hC d o.names h6
  simp only[cn,Ar,dr]
  exact this
 | lnk=>
  simp only[eY,gn,Bool.and_eq_true] at hv
  obtain ⟨t,y,n,d,ks⟩:=v
  have hl:=hv.2
  simp only[aV] at hl
  have hlen:(aK o .lnk).length=o.links.length:=by simp[aK]
  rw[hi rfl,hlen]
  have h8:o.links.length<8:=blt_iff.1 hr
  match ks,hl with
  |[⟨t0,y0,n0,d0,k0⟩,⟨t1,y1,n1,d1,k1⟩],_=>
   have:=TD (o:=o) (s:=s) (t:=t) (y:=y) (n:=n) (d:=d) hM hN hC d1 t0 y0 n0 t1 y1 n1 d0 k0 k1 o.links h8
   simp only[cn,Ar]
   exact this
 |cus c=>
  obtain ⟨t,y,n,d,ks⟩:=v
  have hlen:(aK o (.cus c)).length=b7 c o.cust:=by simp only[aK,List.length_map];rfl
  have hpl:=FN o c
  have h6:o.cust.length<6:=blt_iff.1 hr
  rw[hi rfl,hlen]
  have:=TI (o:=o) (s:=c) (s':=s) (t:=t) (y:=y) (n:=n) (ks:=ks) hn hM hN hL d o.cust h6
  rw[←hlen,hpl]
  rw[←hlen,hpl] at this
  simp only[cn,TE,Ar,dr]
  exact this
 |_=>cases hk
end Go.Proofs.YtmnlofhodbnenaaGreatDoor
namespace Go.Proofs.YtmnlofhodbnenaaGreatDoor
open Go Go.RowKit
open Go.Proofs.Abs
noncomputable section
def pJ (c0 c1:List AV) (Ls O':List AV) (th pl fu tw so:Bool):aX:=ap [(8,13,.res (.fptr c0 0)),(8,19,.res (.fptr c1 0))] [] (dW [(64,fun _=>some (.fsl false Ls)),(65,fun _=>some (.bool th)),(66,fun _=>some (.bool pl)),(67,fun _=>some (.bool fu)),(68,fun _=>some (.bool tw)),(69,fun _=>some (.agg O')),(70,fun _=>some (.bool so))]) [40] []
abbrev kw (C' L' M' N':AV) (p:Ob):=(bM Tryz.prog 38 (AV.agg (ae p M' N' L' C')) 37)
abbrev jC:=(AV.tuple [AV.agg zL,I 7])
abbrev nD (D K:List AV) (i n t y:Int) (s:List UInt8):=[AV.str s,I i,I t,I y,I n,AV.fsl false D,AV.fsl false K]
theorem TJ (nm ch st:List UInt8) (ty da:Int) (se:Bool) (s:List UInt8) (i t y n t0 y0 n0 t1 y1 n1:Int) (D K D0 K0 D1 K1 Ls:List AV) (o p:Ob) (M N L C M' N' L' C':AV) (th pl fu tw so:Bool) (Q:AV→Prop):ax Tryz.prog opts0 40 (pJ (ag t0 y0 n0 D0 K0) (ag t1 y1 n1 D1 K1) Ls (ae p M' N' L' C') th pl fu tw so) 41 [.agg (ae o M N L C),.agg [.str nm,I ty,.bool true,.bool se,.str ch,.str st,I da],.agg (.str s::I i::ag t y n D K)] [] 0 (fun v _ _=>Q v)=
  (SC 64 [AV.agg (ae o M N L C),AV.str s] (AV.fsl false Ls)∧ab (!ak i (Int.ofNat (aa Ls))) (Q (AV.tuple [AV.agg zL,I 14])) (SC 66 [AV.agg [AV.str nm,I ty,AV.bool true,AV.bool se,AV.str ch,AV.str st,I da],AV.agg [I t,I y,I n,AV.fsl false D,AV.fsl false K]] (AV.bool pl)∧ab (!pl) (Q jC) (ab (aA nm [85,115,97,103,101,32,76,105,109,105,116,115]) (aC Tryz.prog 24 (AV.fsl false K) (I 0)=some (AV.fptr [I t0,I y0,I n0,AV.fsl false D0,AV.fsl false K0] 0)∧aC Tryz.prog 24 (AV.fsl false K) (I 1)=some (AV.fptr [I t1,I y1,I n1,AV.fsl false D1,AV.fsl false K1] 0)∧ab (!ak n0 n1) (Q jC) (SC 67 [AV.agg (ae o M N L C),AV.str s] (AV.bool fu)∧ab fu (Q (AV.tuple [AV.agg zL,I 12])) (SC 68 [AV.agg (ae o M N L C),AV.agg (nD D K i n t y s),I (Int.negSucc 0)] (AV.bool tw)∧ab tw (Q (AV.tuple [AV.agg zL,I 11])) (SC 69 [AV.agg (ae o M N L C),AV.agg [AV.str nm,I ty,AV.bool true,AV.bool se,AV.str ch,AV.str st,I da],AV.agg (nD D K i n t y s)] (AV.agg (ae p M' N' L' C'))∧au (kw C' L' M' N' p) (SC 70 [AV.agg (ae p M' N' L' C')] (AV.bool so)∧ab (!so) (Q jC) (au (kw C' L' M' N' p) (Q (AV.tuple [AV.agg (ae p M' N' L' C'),I 0])))))))) (SC 67 [AV.agg (ae o M N L C),AV.str s] (AV.bool fu)∧ab fu (Q (AV.tuple [AV.agg zL,I 12])) (SC 68 [AV.agg (ae o M N L C),AV.agg (nD D K i n t y s),I (Int.negSucc 0)] (AV.bool tw)∧ab tw (Q (AV.tuple [AV.agg zL,I 11])) (SC 69 [AV.agg (ae o M N L C),AV.agg [AV.str nm,I ty,AV.bool true,AV.bool se,AV.str ch,AV.str st,I da],AV.agg (nD D K i n t y s)] (AV.agg (ae p M' N' L' C'))∧au (kw C' L' M' N' p) (SC 70 [AV.agg (ae p M' N' L' C')] (AV.bool so)∧ab (!so) (Q jC) (au (kw C' L' M' N' p) (Q (AV.tuple [AV.agg (ae p M' N' L' C'),I 0])))))))))):=by kernel_rfl
theorem Au (nm ch st:List UInt8) (ty da:Int) (se:Bool) (s:List UInt8) (i t y n t0 y0 n0 t1 y1 n1:Int) (D K D0 K0 D1 K1 Ls:List AV) (o p:Ob) (M N L C M' N' L' C':AV) (th pl fu tw so:Bool) (Q:AV→Prop):ax Tryz.prog opts0 40 (pJ (ag t0 y0 n0 D0 K0) (ag t1 y1 n1 D1 K1) Ls (ae p M' N' L' C') th pl fu tw so) 41 [.agg (ae o M N L C),.agg [.str nm,I ty,.bool false,.bool se,.str ch,.str st,I da],.agg (.str s::I i::ag t y n D K)] [] 0 (fun v _ _=>Q v)=
  (SC 64 [AV.agg (ae o M N L C),AV.str s] (AV.fsl false Ls)∧ab (!ak i 0) (Q (AV.tuple [AV.agg zL,I 14])) (SC 65 [AV.agg (ae o M N L C),AV.str s] (AV.bool th)∧ab th (Q (AV.tuple [AV.agg zL,I 11])) (SC 66 [AV.agg [AV.str nm,I ty,AV.bool false,AV.bool se,AV.str ch,AV.str st,I da],AV.agg [I t,I y,I n,AV.fsl false D,AV.fsl false K]] (AV.bool pl)∧ab (!pl) (Q jC) (ab (aA nm [85,115,97,103,101,32,76,105,109,105,116,115]) (aC Tryz.prog 24 (AV.fsl false K) (I 0)=some (AV.fptr [I t0,I y0,I n0,AV.fsl false D0,AV.fsl false K0] 0)∧aC Tryz.prog 24 (AV.fsl false K) (I 1)=some (AV.fptr [I t1,I y1,I n1,AV.fsl false D1,AV.fsl false K1] 0)∧ab (!ak n0 n1) (Q jC) (SC 69 [AV.agg (ae o M N L C),AV.agg [AV.str nm,I ty,AV.bool false,AV.bool se,AV.str ch,AV.str st,I da],AV.agg (nD D K i n t y s)] (AV.agg (ae p M' N' L' C'))∧au (kw C' L' M' N' p) (SC 70 [AV.agg (ae p M' N' L' C')] (AV.bool so)∧ab (!so) (Q jC) (au (kw C' L' M' N' p) (Q (AV.tuple [AV.agg (ae p M' N' L' C'),I 0])))))) (SC 69 [AV.agg (ae o M N L C),AV.agg [AV.str nm,I ty,AV.bool false,AV.bool se,AV.str ch,AV.str st,I da],AV.agg (nD D K i n t y s)] (AV.agg (ae p M' N' L' C'))∧au (kw C' L' M' N' p) (SC 70 [AV.agg (ae p M' N' L' C')] (AV.bool so)∧ab (!so) (Q jC) (au (kw C' L' M' N' p) (Q (AV.tuple [AV.agg (ae p M' N' L' C'),I 0]))))))))):=by kernel_rfl
def Av (row:AV) (f:Bool) (O':List AV) (e:Int):aX:=ap [] [] (dW [(39,fun _=>some (.tuple [row,.bool f])),(41,fun _=>some (.tuple [.agg O',I e]))]) [40] []
theorem HL (nm ch st:List UInt8) (ty da e:Int) (ma se f:Bool) (s:List UInt8) (i t y n:Int) (D K:List AV) (o p:Ob) (M N L C M' N' L' C':AV) (Q:AV→Prop):ax Tryz.prog opts0 40 (Av (.agg [.str nm,I ty,.bool ma,.bool se,.str ch,.str st,I da]) f (ae p M' N' L' C') e) 22 [.agg (ae o M N L C),.agg (.str s::I i::ag t y n D K)] [] 0 (fun v _ _=>Q v)=
  (SC 39 [AV.str s] (AV.tuple [AV.agg [AV.str nm,I ty,AV.bool ma,AV.bool se,AV.str ch,AV.str st,I da],AV.bool f])∧ab (!f) (Q jC) (ab (!se) (Q jC) (SC 41 [AV.agg (ae o M N L C),AV.agg [AV.str nm,I ty,AV.bool ma,AV.bool se,AV.str ch,AV.str st,I da],AV.agg (nD D K i n t y s)] (AV.tuple [AV.agg (ae p M' N' L' C'),I e])∧au (kw C' L' M' N' p) (Q (AV.tuple [AV.agg (ae p M' N' L' C'),I e]))))):=by kernel_rfl
end
end Go.Proofs.YtmnlofhodbnenaaGreatDoor
namespace Go.Proofs.YtmnlofhodbnenaaGreatDoor
set_option maxRecDepth 20000
open Go Go.RowKit
open Go.Proofs.Abs
def TK:Option Kd→AV
 |some k=> .tuple [aN k,.bool true]
 |none=> .tuple [zN,.bool false]
def sx (c:Bool) (s:List UInt8):Option Kd:=match fP s kinds with
 |some k=>some k
 |none=>match c with
  |true=>some (.cus s)
  |false=>none
theorem TL {c:Bool} {s:List UInt8} (h:c=true→∀k∈kinds,aJ k≠s):sx c s=fQ c s:=by
 cases c with
 |true=>rw[sx,zZ (h rfl)];rfl
 |false=>
  rw[sx]
  show _=fP s kinds
  cases fP s kinds<;>rfl
theorem TM {c:Bool} {s:List UInt8} (hc:SC 63 [.str s] (.bool c)):SC 39 [.str s] (TK (sx c s)):=by
 refine bh (A:=Gz c) base0 ao (aw (LsOk.no rfl)) rfl ?_
 rw[R7]
 refine And.intro rX ?_
 simp only[sx]
 repeat' first|refine And.intro hc ?_|refine aj (fun _=> ?_) (fun _=> ?_)
 all_goals
  simp only[kinds,fP,aJ,zc, *]
  exact rz rfl rfl
theorem TN {o:Ob} {k:Kd} {v:It} (h:ce k=true):gn o v k=eY v k:=by cases k<;>first|rfl|cases h
theorem TO {o:Ob} {k:Kd} {v:It} (h:k≠ .lim):gn o v k=eY v k:=by cases k<;>first|rfl|exact absurd rfl h
theorem TP {o:Ob} {k:Kd} (h:ce k=false) (i j:Nat) (v:It):cn o i v k=cn o j v k:=by cases k<;>first|rfl|cases h
theorem TQ {o:Ob} {k:Kd} {v:It} {b:Int} (h:ce k=true):nj o k v b=gp v b (aK o k) 0:=by rw[nj,h,Bool.true_and]
theorem TR {k:Kd} (h:ce k=true) (hn:iX k):aA (aJ k) (aJ .lim)=false:=by
 cases k with
 |nam=>rfl
 |lnk=>rfl
 |cus s=>exact kv hn (by simp[kinds])
 |_=>cases h
theorem HM {o:Ob} {k:Kd} {v:It} {j:Nat} {so:Bool} (h:im (cn o j v k)=so):(so=false→fU o k j v=(zO,7))∧(so=true→fU o k j v=(cn o j v k,0)):=by
 subst h
 unfold fU
 exact ⟨fun e=>by rw[e],fun e=>by rw[e]⟩
section
variable {o:Ob} {k:Kd} {s:List UInt8}
theorem TS (hof:SC 64 [az o,.str s] (.fsl false ((bX s (aK o k) 0).map aB))) (hs:s=aJ k) (hm:ce k=true) (hk:dg k=true) (hn:iX k) (hg:lE o k) (hcu:∀c,k= .cus c→SC 63 [.str c] (.bool true)) (i:Int) (v:It) (hv:cV v):
  SC 41 [az o,aN k,aB ⟨s,i,v⟩] (du (eI o k ⟨s,i,v⟩)):=by
 have hcl:ac [az o,aN k,aB ⟨s,i,v⟩]=true:=dj o (by simp[ac,eR,Hh])
 have hpl:=Hj hk hn v hv
 have hfu:=S7 (o:=o) hn hm hcu
 have htw:=S5 hof hg i v (-1)
 have hwi:=fun hr hv' hi=>HK hk hn (o:=o) hr (v:=v) hv' s (i:=i) hi
 have hso:=FO (cn o (aK o k).length v k)
 have hle:=HM (o:=o) (k:=k) (v:=v) (j:=(aK o k).length) rfl
 have hlm:=TR hm hn
 have hlen:aa ((bX s (aK o k) 0).map aB)=(aK o k).length:=by rw[aE,List.length_map,rU]
 have hfp:=lD (cn o (aK o k).length v k)
 subst hs
 unfold eI
 simp only[hm,TF hm,TN hm,TQ hm,Bool.not_true,Bool.false_and]
 generalize cn o (aK o k).length v k=p at hwi hso hle hfp⊢
 obtain ⟨t,y,n,d,ks⟩:=v
 refine bh (A:=pJ (ag 0 0 0 [] []) (ag 0 0 0 [] []) ((bX (aJ k) (aK o k) 0).map aB) (am p) false (eY (.mk t y n d ks) k) (!jq o k) (gp (.mk t y n d ks) (-1) (aK o k) 0) (im p)) base0 ao (aw (LsOk.no rfl)) hcl ?_
 rw[aU] at hpl
 rw[cM] at htw hwi⊢
 unfold az at*
 unfold am aN bx at*
 rw[hm] at hpl hwi⊢
 rw[TJ,hlen]
 refine ⟨hof,aj (fun e=> ?_) fun e=>⟨hpl,aj (fun e2=> ?_) fun e2=>mF hlm ⟨hfu,aj (fun e3=> ?_) fun e3=>⟨htw,aj (fun e4=> ?_) fun e4=>⟨hwi ?_ ?_ ?_,aF hfp ⟨hso,aj (fun e5=> ?_) fun e5=>aF hfp ?_⟩⟩⟩⟩⟩⟩
 ·rw[Bool.not_eq_true'] at e;rw[e];exact co 14
 ·rw[Bool.not_eq_false'] at e;rw[Bool.not_eq_true'] at e2;rw[e,e2];exact co 7
 ·rw[Bool.not_eq_false'] at e e2;rw[Bool.not_eq_true'] at e3;rw[e,e2,e3];exact co 12
 ·rw[Bool.not_eq_false'] at e e2 e3;rw[e,e2,e3,e4];exact co 11
 ·rw[Bool.not_eq_false'] at e3;exact e3
 ·rw[Bool.not_eq_false'] at e2;exact e2
 ·rw[Bool.not_eq_false'] at e;exact fun _=>beqInt_iff.1 e
 ·rw[Bool.not_eq_false'] at e e2 e3;rw[Bool.not_eq_true'] at e5;rw[e,e2,e3,e4];dsimp only;rw[hle.1 e5];exact co 7
 ·rw[Bool.not_eq_false'] at e e2 e3 e5;rw[e,e2,e3,e4];dsimp only;rw[hle.2 e5];exact jp p 0
theorem TT (hof:SC 64 [az o,.str s] (.fsl false ((bX s (aK o k) 0).map aB))) (hs:s=aJ k) (hm:ce k=false) (hk:dg k=true) (hn:iX k) (i:Int) (v:It) (hv:cV v):
  SC 41 [az o,aN k,aB ⟨s,i,v⟩] (du (eI o k ⟨s,i,v⟩)):=by
 have hcl:ac [az o,aN k,aB ⟨s,i,v⟩]=true:=dj o (by simp[ac,eR,Hh])
 have hpl:=Hj hk hn v hv
 have hth:=S6 hof hs hm hk
 have hroom:jq o k=true:=by cases k<;>first|rfl|cases hm
 have hwi:=fun hv'=>HK hk hn (o:=o) hroom (v:=v) hv' s (i:=i) (fun e=>by rw[hm] at e;cases e)
 rw[TP hm (aK o k).length 0] at hwi
 have hso:=FO (cn o 0 v k)
 have hle:=HM (o:=o) (k:=k) (v:=v) (j:=0) rfl
 have hfp:=lD (cn o 0 v k)
 unfold eI
 simp only[hm,hroom,nj,Bool.not_false,Bool.true_and,Bool.false_and]
 by_cases hk2:k= .lim
 ·subst hk2
  subst hs
  have hth0:aq 0 (.ofNat (cL o .lim))=false→o.lh=false:=fun e=>by
   cases hl:o.lh with
   |false=>rfl
   | true=>
    have:cL o .lim=1:=by
     show ni false 1 (cd o.lh (rI o))=1
     rw[hl];rfl
    rw[this] at e;cases e
  generalize cn o 0 v .lim=p at hwi hso hle hfp⊢
  simp only[gn]
  simp only[eY] at hpl hwi
  obtain ⟨t,y,n,d,ks⟩:=v
  simp only[aV] at hpl hwi⊢
  have hbad:di ks=false→SC 41 [az o,aN .lim,aB ⟨aJ .lim,i,.mk t y n d ks⟩] (du (match ak i 0 with|false=>(zO,14)|true=>match aq 0 (.ofNat (cL o .lim)) with|true=>(zO,11)|false=>match bp (.mk t y n d ks) 4325387 1&&(di ks&&(o.lh||rM ks)) with|false=>(zO,7)|true=>fU o .lim 0 (.mk t y n d ks))):=fun hl=>by
   rw[hl] at hpl⊢
   rw[Bool.and_false] at hpl
   rw[Bool.false_and,Bool.and_false]
   refine bh (A:=pJ (ag 0 0 0 [] []) (ag 0 0 0 [] []) ((bX (aJ .lim) (aK o .lim) 0).map aB) (am p) (aq 0 (.ofNat (cL o .lim))) false false false (im p)) base0 ao (aw (LsOk.no rfl)) hcl ?_
   rw[aU] at hpl
   rw[cM]
   unfold az at*
   unfold am aN bx at*
   rw[show ce .lim=false from rfl] at hpl⊢
   rw[Au]
   refine ⟨hof,aj (fun e=> ?_) fun e=>⟨hth,aj (fun e1=> ?_) fun e1=>⟨hpl,mT rfl ?_⟩⟩⟩
   ·rw[Bool.not_eq_true'] at e;rw[e];exact co 14
   ·rw[Bool.not_eq_false'] at e;rw[e,e1];exact co 11
   ·rw[Bool.not_eq_false'] at e;rw[e,e1];exact co 7
  match ks,hbad,hcl,hpl,hwi with
  | [⟨t0,y0,n0,d0,k0⟩,⟨t1,y1,n1,d1,k1⟩,⟨t2,y2,n2,d2,k2⟩],_,hcl,hpl,hwi=>
   have g0:=bB (f:=false) (ks:=[.mk t0 y0 n0 d0 k0,.mk t1 y1 n1 d1 k1,.mk t2 y2 n2 d2 k2]) (i:=0) rfl
   have g1:=bB (f:=false) (ks:=[.mk t0 y0 n0 d0 k0,.mk t1 y1 n1 d1 k1,.mk t2 y2 n2 d2 k2]) (i:=1) rfl
   have hfull:rM [.mk t0 y0 n0 d0 k0,.mk t1 y1 n1 d1 k1,.mk t2 y2 n2 d2 k2]=ak n1 n0:=rfl
   rw[hfull]
   revert hpl hwi
   generalize (bp (.mk t y n d [.mk t0 y0 n0 d0 k0,.mk t1 y1 n1 d1 k1,.mk t2 y2 n2 d2 k2]) 4325387 1)=sh
   generalize di [.mk t0 y0 n0 d0 k0,.mk t1 y1 n1 d1 k1,.mk t2 y2 n2 d2 k2]=li
   intro hpl hwi
   have hcomm:ak n0 n1=ak n1 n0:=by
    cases h1:ak n1 n0 with
    |true=>rw[beqInt_iff.1 h1];exact beqInt_iff.2 rfl
    |false=>exact beqInt_false.2 fun e=>beqInt_false.1 h1 e.symm
   refine bh (A:=pJ (ag t0 y0 n0 (ai d0) (ad k0)) (ag t1 y1 n1 (ai d1) (ad k1)) ((bX (aJ .lim) (aK o .lim) 0).map aB) (am p) (aq 0 (.ofNat (cL o .lim))) (sh&&li) false false (im p)) base0 ao (aw (LsOk.no rfl)) hcl ?_
   rw[aU] at hpl
   rw[cM] at hwi⊢
   unfold az at*
   unfold am aN bx at*
   rw[show ce .lim=false from rfl] at hpl hwi⊢
   rw[Au]
   refine ⟨hof,aj (fun e=> ?_) fun e=>⟨hth,aj (fun e1=> ?_) fun e1=>⟨hpl,aj (fun e2=> ?_) fun e2=>mT rfl ⟨g0,g1,aj (fun e3=> ?_) fun e3=>⟨hwi ?_,aF hfp ⟨hso,aj (fun e5=> ?_) fun e5=>aF hfp ?_⟩⟩⟩⟩⟩⟩
   ·rw[Bool.not_eq_true'] at e;rw[e];exact co 14
   ·rw[Bool.not_eq_false'] at e;rw[e,e1];exact co 11
   ·rw[Bool.not_eq_false'] at e;rw[Bool.not_eq_true'] at e2;rw[e,e1,hth0 e1,←Bool.and_assoc,e2];exact co 7
   ·rw[Bool.not_eq_false'] at e e2;rw[Bool.not_eq_true'] at e3;rw[e,e1,hth0 e1,←Bool.and_assoc,e2,←hcomm,e3];exact co 7
   ·rw[Bool.not_eq_false'] at e2;exact e2
   ·rw[Bool.not_eq_false'] at e e2 e3;rw[Bool.not_eq_true'] at e5;rw[e,e1,hth0 e1,←Bool.and_assoc,e2,←hcomm,e3];dsimp only[Bool.false_or,Bool.true_and];rw[hle.1 e5];exact co 7
   ·rw[Bool.not_eq_false'] at e e2 e3 e5;rw[e,e1,hth0 e1,←Bool.and_assoc,e2,←hcomm,e3];dsimp only[Bool.false_or,Bool.true_and];rw[hle.2 e5];exact jp p 0
  |[],hbad,_,_,_=>exact hbad rfl
  |[_],hbad,_,_,_=>exact hbad rfl
  |[_,_],hbad,_,_,_=>exact hbad rfl
  |_::_::_::_::_,hbad,_,_,_=>exact hbad rfl
 ·have hlm:aA (aJ k) (aJ .lim)=false:=by
   cases k with
   |lim=>exact absurd rfl hk2
   |alg=>rfl
   |len=>rfl
   |mask=>rfl
   | dat j=>
    have hk4:j=1∨j=2∨j=3∨j=4:=by
     simp only[dg,lq,Bool.and_eq_true,Nat.ble_eq] at hk
     omega
    rcases hk4 with rfl|rfl|rfl|rfl<;>rfl
   |nam=>cases hm
   |lnk=>cases hm
   |cus c=>cases hm
   |_=>cases hk
  subst hs
  rw[TO hk2]
  generalize cn o 0 v k=p at hwi hso hle hfp⊢
  obtain ⟨t,y,n,d,ks⟩:=v
  refine bh (A:=pJ (ag 0 0 0 [] []) (ag 0 0 0 [] []) ((bX (aJ k) (aK o k) 0).map aB) (am p) (aq 0 (.ofNat (cL o k))) (eY (.mk t y n d ks) k) false false (im p)) base0 ao (aw (LsOk.no rfl)) hcl ?_
  rw[aU] at hpl
  rw[cM] at hwi⊢
  unfold az at*
  unfold am aN bx at*
  rw[hm] at hpl hwi⊢
  rw[Au]
  refine ⟨hof,aj (fun e=> ?_) fun e=>⟨hth,aj (fun e1=> ?_) fun e1=>⟨hpl,aj (fun e2=> ?_) fun e2=>mF hlm ⟨hwi ?_,aF hfp ⟨hso,aj (fun e5=> ?_) fun e5=>aF hfp ?_⟩⟩⟩⟩⟩
  ·rw[Bool.not_eq_true'] at e;rw[e];exact co 14
  ·rw[Bool.not_eq_false'] at e;rw[e,e1];exact co 11
  ·rw[Bool.not_eq_false'] at e;rw[Bool.not_eq_true'] at e2;rw[e,e1,e2];exact co 7
  ·rw[Bool.not_eq_false'] at e2;exact e2
  ·rw[Bool.not_eq_false'] at e e2;rw[Bool.not_eq_true'] at e5;rw[e,e1,e2];dsimp only;rw[hle.1 e5];exact co 7
  ·rw[Bool.not_eq_false'] at e e2 e5;rw[e,e1,e2];dsimp only;rw[hle.2 e5];exact jp p 0
end
theorem TU {c:Bool} {s:List UInt8} {k:Kd} (h:c=true→∀j∈kinds,aJ j≠s) (hk:fQ c s=some k):iX k:=by
 intro c' e
 subst e
 cases c with
 |true=>
  have e:=Option.some.inj hk
  cases e
  exact h rfl
 |false=>
  have:=(u9 (show fP s kinds=some (.cus c') from hk)).1
  simp[kinds] at this
theorem HN {c:Bool} {s c':List UInt8} (hk:fQ c s=some (.cus c')):c=true∧s=c':=by
 cases c with
 |true=>
  have e:=Option.some.inj hk
  cases e
  exact ⟨rfl,rfl⟩
 |false=>
  have:=(u9 (show fP s kinds=some (.cus c') from hk)).1
  simp[kinds] at this
theorem TV {c:Bool} {o:Ob} (ho:dO o) (hb:(gq o).length≤90000) {a:At} (hc:SC 63 [.str a.name] (.bool c)) (hcu:vj c a.name o) (hg:∀k,lE o k) (ha:cV a.v):SC 22 [az o,aB a] (du (dP c o a)):=by
 have hf:=TM hc
 rw[TL hcu.t] at hf
 have hcl:=FX o a (c:=[]) rfl
 have hof:=SI ho hb a.name
 rw[Sd hcu] at hof
 unfold dP
 unfold zJ at hof
 cases hk:fQ c a.name with
 |none=>
  rw[hk] at hf
  obtain ⟨s,i,⟨t,y,n,d,ks⟩⟩:=a
  rw[cM] at hcl⊢
  refine bh (A:=Av zN false (am o) 0) base0 ao (aw (LsOk.no rfl)) hcl ?_
  unfold az am zN
  rw[HL]
  exact ⟨hf,mT rfl (co 7)⟩
 | some k=>
  rw[hk] at hf hof
  dsimp only at hof⊢
  have hn:=TU hcu.t hk
  have hnm:=(RT hk).2
  obtain ⟨s,i,v⟩:=a
  simp only at hof hk hnm hc ha
  have hlay:dg k=true→SC 41 [az o,aN k,aB ⟨s,i,v⟩] (du (eI o k ⟨s,i,v⟩)):=fun hs=>by
   cases hm:ce k with
   | true=>exact TS hof hnm.symm hm hs hn (hg k) (fun c' e=>by
     subst e
     obtain ⟨e1,e2⟩:=HN hk
     rw[e1,e2] at hc
     exact hc) i v ha
   |false=>exact TT hof hnm.symm hm hs hn i v ha
  generalize eI o k ⟨s,i,v⟩=la at hlay⊢
  obtain ⟨p,e'⟩:=la
  have hfp:=lD p
  obtain ⟨t,y,n,d,ks⟩:=v
  rw[cM] at hcl hlay⊢
  refine bh (A:=Av (aN k) true (am p) e') base0 ao (aw (LsOk.no rfl)) hcl ?_
  unfold du az at hlay
  unfold az
  unfold am aN bx at*
  rw[HL]
  refine ⟨hf,mF rfl (aj (fun e=> ?_) fun e=>⟨hlay (by simpa using e),aF hfp ?_⟩)⟩
  ·rw[Bool.not_eq_true'] at e;rw[e];exact co 7
  ·rw[Bool.not_eq_false'] at e;rw[e];exact jp p e'
end Go.Proofs.YtmnlofhodbnenaaGreatDoor
namespace Go.Proofs.YtmnlofhodbnenaaGreatDoor
open Go Go.RowKit
open Go.Proofs.Abs
theorem lT (o:Ob):bM Tryz.prog 38 (.agg (am o)) 37=true:=by kernel_rfl
structure SetI (o:Ob):Prop where
 ok:Okay o
 c:∀x∈o.cust,x.name∈iP∧dN x.name=true
theorem SetI.cus {o:Ob} (h:SetI o) {s:List UInt8} (hs:s∈iP):vj (dN s) s o:=
 ⟨fun hc=>(by decide:∀s∈iP,dN s=true→∀k∈kinds,aJ k≠s) s hs hc,fun hc x hx e=>by
  have:=(h.c x hx).2
  rw[e,hc] at this
  cases this⟩
theorem SetI.len {o:Ob} (h:SetI o):(gq o).length≤90000:=by
 have h1:=GR h.ok.g kinds
 have h2:=z3 o.cust []
 have h4:=(z6 o.cust []).len
 have h5:=h.ok.fit.c
 rw[h2,List.length_map] at h4
 rw[show kinds.length=20 from rfl] at h1
 rw[gq,List.length_append]
 omega
def vH (o p:Ob) (c:Bool) (s:List UInt8):Prop:=∀x∈p.cust,x∈o.cust∨(x.name=s∧c=true)
theorem TW {o:Ob} {k:Kd} {j:Nat} {v:It} {c:Bool} {s:List UInt8} (hk:fQ c s=some k):vH o (cn o j v k) c s:=by
 have same:∀p:Ob,p.cust=o.cust→vH o p c s:=fun p e x hx=> .inl (by rw[e] at hx;exact hx)
 cases k with
 |cus c'=>
  obtain ⟨e1,e2⟩:=HN hk
  intro x hx
  rcases u6 hx with hx|rfl
  ·exact .inl hx
  ·exact .inr ⟨e2.symm,e1⟩
 |dat k=>
  refine same _ ?_
  simp only[cn]
  unfold uQ
  split<;>rfl
 |_=>exact same _ rfl
theorem TX {o:Ob} {k:Kd} {a:At} {c:Bool} (hk:fQ c a.name=some k):(eI o k a).2=0→vH o (eI o k a).1 c a.name:=by
 unfold eI
 split
 ·intro h;cases h
 split
 ·intro h;cases h
 split
 ·intro h;cases h
 split
 ·intro h;cases h
 split
 ·intro h;cases h
 ·unfold fU
  split
  ·exact fun _=>TW hk
  ·intro h;cases h
theorem TY {c:Bool} {o:Ob} {a:At}:(dP c o a).2=0→vH o (dP c o a).1 c a.name:=by
 unfold dP
 cases hk:fQ c a.name with
 |none=>intro h;cases h
 |some k=>
  dsimp only
  split
  ·intro h;cases h
  ·exact TX hk
theorem HO:dO zO:=⟨by simp[zO],by simp[zO],by simp[zO],by simp[zO,bd]⟩
theorem TZ {p:Ob × Int} (h:p.2=0→Okay p.1) (hz:p.2≠0→p.1=zO):dO p.1:=by
 by_cases e:p.2=0
 ·exact (h e).fit
 ·rw[hz e];exact HO
theorem T0 {o:Ob} {k:Kd} {j:Nat} {v:It}:(fU o k j v).2≠0→(fU o k j v).1=zO:=by
 unfold fU
 split
 ·intro h;exact absurd rfl h
 ·exact fun _=>rfl
theorem T2 {o:Ob} {k:Kd} {a:At}:(eI o k a).2≠0→(eI o k a).1=zO:=by
 unfold eI
 split
 ·exact fun _=>rfl
 split
 ·exact fun _=>rfl
 split
 ·exact fun _=>rfl
 split
 ·exact fun _=>rfl
 split
 ·exact fun _=>rfl
 ·exact T0
theorem T3 {c:Bool} {o:Ob} {a:At}:(dP c o a).2≠0→(dP c o a).1=zO:=by
 unfold dP
 split
 ·exact fun _=>rfl
 split
 ·exact fun _=>rfl
 ·exact T2
theorem T4:∀s∈cF,SC 55 [.str s] (.bool (dN s)):=by
 simp only[cF,List.forall_mem_cons]
 refine ⟨?_, ?_, ?_, ?_, ?_, ?_, ?_, ?_, ?_, ?_, ?_, ?_, ?_, ?_, ?_, ?_, ?_, ?_,fun _ h=>by cases h⟩<;>exact aO rfl (by kernel_rfl) rfl
theorem T5:∀s∈cF,SC 63 [.str s] (.bool (dN s)):=by
 simp only[cF,List.forall_mem_cons]
 refine ⟨?_, ?_, ?_, ?_, ?_, ?_, ?_, ?_, ?_, ?_, ?_, ?_, ?_, ?_, ?_, ?_, ?_, ?_,fun _ h=>by cases h⟩<;>exact aO rfl (by kernel_rfl) rfl
def vI (s:List UInt8):Prop:=s∈iP∨s∈cF
theorem T6 {s:List UInt8} (h:vI s):SC 55 [.str s] (.bool (dN s)):=h.elim (Pb s) (T4 s)
theorem T7 {s:List UInt8} (h:vI s):SC 63 [.str s] (.bool (dN s)):=h.elim (Pc s) (T5 s)
theorem HP:∀s∈cF,dN s=false:=by decide
theorem SetI.nm {o:Ob} (h:SetI o) {s:List UInt8} (hs:vI s):vj (dN s) s o:=by
 rcases hs with hs|hs
 ·exact h.cus hs
 ·have hc:=HP s hs
  refine ⟨fun e=> ?_,fun _ x hx e=> ?_⟩
  ·rw[hc] at e;cases e
  ·have:=(h.c x hx).2
   rw[e,hc] at this
   cases this
structure kx (a:At):Prop where
 n:vI a.name
 v:cV a.v
theorem Aw {o:Ob} (h:SetI o) {a:At} (ha:kx a) (h0:(dP (dN a.name) o a).2=0):SetI (dP (dN a.name) o a).1:=by
 refine ⟨(RP h.ok ha.v h0).1,fun x hx=> ?_⟩
 rcases TY h0 x hx with hx|⟨e1,e2⟩
 ·exact h.c x hx
 ·rcases ha.n with hs|hs
  ·rw[e1];exact ⟨hs,e2⟩
  ·rw[HP _ hs] at e2;cases e2
def eZ:Ob→List At→Ob × Int
 |o,[]=>(o,0)
 |o,a::r=>match ak (dP (dN a.name) o a).2 0 with
  |true=>eZ (dP (dN a.name) o a).1 r
  |false=>(zO,(dP (dN a.name) o a).2)
theorem HQ:∀ (l:List At) {o:Ob},SetI o→(∀a∈l,kx a)→(eZ o l).2=0→SetI (eZ o l).1
 |[],_,h,_,_=>h
 | a::r,o,h,ha,h0=>by
  unfold eZ at h0⊢
  cases hb:ak (dP (dN a.name) o a).2 0 with
  |true=>
   rw[hb] at h0
   exact HQ r (Aw h (ha a (by simp)) (beqInt_iff.1 hb)) (fun x hx=>ha x (by simp[hx])) h0
  |false=>
   rw[hb] at h0
   exact absurd h0 (beqInt_false.1 hb)
theorem vJ:∀ (l:List At) {o:Ob},(eZ o l).2≠0→(eZ o l).1=zO
 |[],_,h=>absurd rfl h
 |a::r,o,h=>by
  unfold eZ at h⊢
  cases hb:ak (dP (dN a.name) o a).2 0 with
  |true=>rw[hb] at h;exact vJ r h
  |false=>rfl
theorem HR {l:List At} {o:Ob} (h:SetI o) (ha:∀a∈l,kx a):dO (eZ o l).1:=TZ (p:=eZ o l) (fun e=>(HQ l h ha e).ok) (vJ l)
def ed:List It→Option (List At)
 |[]=>some []
 | x::r=>match bI x with
  |some a=>match ed r with
   |some l=>some (a::l)
   |none=>none
  |none=>none
structure TiOk (x:It):Prop where
 k:bO bd x
 a:∀a,bI x=some a→kx a
theorem HS {x:It} (h:cV x) {y:It} (hy:y∈aV x):cV y:=by
 obtain ⟨t,y0,n,d,ks⟩:=x
 have h2:o6 ks:=h.2
 simp only[aV] at hy
 clear h
 induction ks with
 |nil=>cases hy
 |cons k r ih=>
  rcases List.mem_cons.1 hy with rfl|hy
  ·exact h2.1
  ·exact ih hy h2.2
theorem T8 {x:It} {a:At} (h:bI x=some a):(∃y∈aV x,a.name=dr y)∧a.v∈aV x:=by
 unfold bI at h
 split at h
 ·revert h
  generalize aV x=ks
  intro h
  match ks,h with
  |[k0,v],h=>
   simp only[ec] at h
   split at h
   ·cases h;exact ⟨⟨k0,by simp,rfl⟩,by simp⟩
   ·cases h
  |[k0,k1,v],h=>
   simp only[ec] at h
   split at h
   ·cases h;exact ⟨⟨k0,by simp,rfl⟩,by simp⟩
   ·cases h
  |[],h=>cases h
  |[_],h=>cases h
  |_::_::_::_::_,h=>cases h
 ·cases h
theorem TiOk.of_it {x:It} (h:jz x):TiOk x:=⟨h.2,fun a ha=>by
 obtain ⟨⟨y,hy,e⟩,hv⟩:=T8 ha
 exact ⟨.inr (by rw[e];exact jn (HS h.1 hy)),HS h.1 hv⟩⟩
theorem Ax:∀ {l:List It},(∀x∈l,TiOk x)→∀ {L:List At},ed l=some L→∀a∈L,kx a
 |[],_,_,h,a,ha=>by cases h;cases ha
 | x::r,hl,_,h,a,ha=>by
  unfold ed at h
  cases hx:bI x with
  |none=>rw[hx] at h;cases h
  | some b=>
   rw[hx] at h
   cases hr:ed r with
   |none=>rw[hr] at h;cases h
   |some l=>
    rw[hr] at h
    cases h
    rcases List.mem_cons.1 ha with rfl|ha
    ·exact (hl x (by simp)).a _ hx
    ·exact Ax (fun y hy=>hl y (by simp[hy])) hr a ha
def cB (s:List UInt8) (v:It):It:= .mk 4325384 1 0 [] [.mk 4325386 7 0 s [],v]
theorem TiOk.of_set {s:List UInt8} (hs:s∈iP) {v:It} (hv:cV v) (hk:bO bd v) (hl:s.length≤1000):TiOk (cB s v):=⟨⟨by simp[bd],by simp[bd],⟨⟨Nat.le_trans hl (by simp[bd]),by simp[bd],trivial⟩,hk,trivial⟩⟩,fun a ha=>by
 unfold bI cB at ha
 split at ha
 ·simp only[aV,ec] at ha
  split at ha
  ·cases ha;exact ⟨.inl hs,hv⟩
  ·cases ha
 ·cases ha⟩
noncomputable section
def e9 (tag ty:Int):AV:= .agg [I tag,I ty,.bool false,.bool true]
def HU (tag ty:Int) (K:List AV) (i:Nat):List (Nat × AV):=[(1,.fsl true [e9 tag ty]),(7,I 0),(19,.fsl false K),(20,I (.ofNat (aa K))),(21,I (.ofNat i))]
def dR (tag ty:Int) (K:List AV) (i:Nat):View:=⟨HU tag ty K i,[(6,.rsl true 0 0 1 1)],[(0,.cells [.nilsl],.whole)],2,90⟩
def fa (tag ty:Int) (K:List AV) (i k:Nat) (es:List AV):View:=⟨HU tag ty K i,[(6,.rsl true 0 0 1 1)],[(0,.cells [.rsl true 1 0 k 5],.rel),(1,.cells es,.whole)],2,90⟩
def eD (r:Int):View:=⟨[(4,.nilsl),(5,I r)],[],[],2,90⟩
def lU (t y n:Int) (D L:List AV) (r:Int):aX:=ap [(7,0,.res (.fptr (ag t y n D L) 0))] [] (dW [(51,fun _=>some (I r)),(52,fun _=>some (.agg (ag t y n D L)))]) [] []
theorem HV (tag ty t:Int) (Q:AV→Prop):ax Tryz.prog opts0 40 bm 51 [.fsl true [e9 tag ty],I 0,I t] [] 0 (fun v _ _=>Q v)=
  (ab (ak tag t) (Q (I 0)) (Q (I (Int.negSucc 0)))):=by kernel_rfl
abbrev sy (D K:List AV) (n t y:Int):=[I t,I y,I n,AV.fsl false D,AV.fsl false K]
theorem T9 (t y n:Int) (D K:List AV) (Q:AV→Prop):ax Tryz.prog opts0 40 (ap [] [] (bg [(98,.tuple [.agg (ag t y n D K),.bool true])]) [] []) 52 [.agg (ag t y n D K)] [] 0 (fun v _ _=>Q v)=
  (SC 98 [AV.agg [I 0,I 0,I 0,AV.nilsl,AV.fsl true [AV.agg (sy D K n t y)]],I t] (AV.tuple [AV.agg (sy D K n t y),AV.bool true])∧Q (AV.agg (sy D K n t y))):=by kernel_rfl
abbrev ky (tag ty:Int):=[I tag,I ty,AV.bool false,AV.bool true]
abbrev kz (D L:List AV) (n t y:Int):=[I t,I y,I n,AV.fsl false D,AV.fsl false L]
@[simp] abbrev HW (D K L:List AV) (Q:AExit→St→Prop) (i:Nat) (n t tag ty y:Int):=(aC Tryz.prog 24 (AV.fsl false K) (I (Int.ofNat i))=some (AV.fptr (kz D L n t y) 0)∧SC 51 [AV.fsl true [AV.agg (ky tag ty)],I 0,I t] (I (Int.negSucc 0))∧(((AV.nilsl=AV.nilsl∧true=true)∧(I 4=I 4∧true=true)∧True)∧True∧True)∧Q AExit.ret (eD 4).st)
theorem Ua (tag ty:Int) (K:List AV) (i:Nat) (t y n:Int) (D L:List AV) (Nx:Prop) (Q:AExit→St→Prop):aI Tryz.prog opts0 40 (lU t y n D L (-1)) (aD Tryz.prog 30 7) (dR tag ty K i).st (bf 0 [(0,0)] (dR tag ty K i) Nx [] (eD 4) Q)=
  (ab (aq (Int.ofNat i) (Int.ofNat (aa K))) (HW D K L Q i n t tag ty y) (((False∧False∧True)∧True∧True)∧Q (AExit.exit 0) (eD 4).st)):=by kernel_rfl
theorem Ub (tag ty:Int) (K:List AV) (i k:Nat) (es:List AV) (t y n:Int) (D L:List AV) (Nx:Prop) (Q:AExit→St→Prop):aI Tryz.prog opts0 40 (lU t y n D L (-1)) (aD Tryz.prog 30 7) (fa tag ty K i (k+1) es).st (bf 0 [(0,0)] (dR tag ty K i) Nx [] (eD 4) Q)=
  (ab (aq (Int.ofNat i) (Int.ofNat (aa K))) (HW D K L Q i n t tag ty y) (((False∧False∧True)∧True∧True)∧Q (AExit.exit 0) (eD 4).st)):=by kernel_rfl
@[simp] abbrev vK (tag ty:Int):=(AV.fsl true [AV.agg (ky tag ty)]=AV.fsl true [AV.agg (ky tag ty)]∧ah (AV.fsl true [AV.agg (ky tag ty)])=true)
@[simp] abbrev vM (K:List AV):=(I (Int.ofNat (aa K))=I (Int.ofNat (aa K))∧ah (I (Int.ofNat (aa K)))=true)
@[simp] abbrev vN (K:List AV):=(AV.fsl false K=AV.fsl false K∧ah (AV.fsl false K)=true)
@[simp] abbrev vO:=((true=true∧some 0=some 0∧0=0∧1=1∧1=1)∧True)
@[simp] abbrev sA:=(I 0=I 0∧true=true)
@[simp] abbrev HX:=(((AV.nilsl=AV.nilsl∧true=true)∧(I 7=I 7∧true=true)∧True)∧True∧True)
theorem Uc (tag ty:Int) (K:List AV) (i j:Nat) (es:List AV) (t y n:Int) (D L:List AV) (Nx:Prop) (Q:AExit→St→Prop):aI Tryz.prog opts0 40 (lU t y n D L 0) (aD Tryz.prog 30 7) (dR tag ty K i).st (bf 0 [(0,0),(1,50)] (fa tag ty K j 1 es) Nx [] (eD 7) Q)=
  (ab (aq (Int.ofNat i) (Int.ofNat (aa K))) (aC Tryz.prog 24 (AV.fsl false K) (I (Int.ofNat i))=some (AV.fptr (kz D L n t y) 0)∧SC 51 [AV.fsl true [AV.agg (ky tag ty)],I 0,I t] (I 0)∧ab (!ak y ty) (HX∧Q AExit.ret (eD 7).st) (SC 52 [AV.agg (kz D L n t y)] (AV.agg (kz D L n t y))∧(((vK tag ty)∧sA∧(vN K)∧(vM K)∧(I (ar IntKind.i64 (Int.ofNat i+1))=I (Int.ofNat j)∧ah (I (Int.ofNat j))=true)∧True)∧vO∧df [(0,0),(1,50)] [AV.rsl true 1 0 1 5] [AV.rsl true 50 0 1 5]∧((kz D L n t y)=es∧ac es=true)∧True)∧Nx)) (((False∧False∧True)∧True∧True)∧Q (AExit.exit 0) (eD 7).st)):=by kernel_rfl
abbrev Ay:=[I 0,I 0,I 0,AV.nilsl,AV.nilsl]
theorem Ud (tag ty:Int) (K:List AV) (i j k k':Nat) (es es':List AV) (t y n:Int) (D L:List AV) (Nx:Prop) (Q:AExit→St→Prop):aI Tryz.prog opts0 40 (lU t y n D L 0) (aD Tryz.prog 30 7) (fa tag ty K i (k+1) es).st (bf 0 [(0,0),(1,50)] (fa tag ty K j k' es') Nx [] (eD 7) Q)=
  (ab (aq (Int.ofNat i) (Int.ofNat (aa K))) (aC Tryz.prog 24 (AV.fsl false K) (I (Int.ofNat i))=some (AV.fptr (kz D L n t y) 0)∧SC 51 [AV.fsl true [AV.agg (ky tag ty)],I 0,I t] (I 0)∧ab (!ak y ty) (HX∧Q AExit.ret (eD 7).st) (SC 52 [AV.agg (kz D L n t y)] (AV.agg (kz D L n t y))∧au (((k+1+1)*72).ble 140737488355328&&true) (au ((aa es).beq ((k+1)*5)) (au (gG (Int.ofNat (k+1))&&((Int.ofNat (k+1)).toNat.blt (k+1+1)&&true)) (au ((0+(Int.ofNat (k+1)).toNat*5+5).ble (aa (es++Ay))) ((((vK tag ty)∧sA∧(vN K)∧(vM K)∧(I (ar IntKind.i64 (Int.ofNat i+1))=I (Int.ofNat j)∧ah (I (Int.ofNat j))=true)∧True)∧vO∧df [(0,0),(1,50)] [AV.rsl true 1 0 k' 5] [AV.rsl true 50 0 (k+1+1) 5]∧(List.take (0+(Int.ofNat (k+1)).toNat*5) (es++Ay)++I t::I y::I n::AV.fsl false D::AV.fsl false L::List.drop (0+(Int.ofNat (k+1)).toNat*5+aa (kz D L n t y)) (es++Ay)=es'∧ac es'=true)∧True)∧Nx)))))) (((False∧False∧True)∧True∧True)∧Q (AExit.exit 0) (eD 7).st)):=by kernel_rfl
@[simp] abbrev HY (K:List AV) (i:Nat) (tag ty:Int):=((vK tag ty)∧sA∧(vN K)∧(vM K)∧(I (Int.ofNat i)=I (Int.ofNat i)∧ah (I (Int.ofNat i))=true)∧True)
theorem Ue (tag ty:Int) (K:List AV) (i:Nat) (Nx:Prop) (Q:AExit→St→Prop):aI Tryz.prog opts0 40 (ap [(6,0,.res (.bool false))] [] aH [] []) (aD Tryz.prog 30 7) (dR tag ty K i).st (bf 0 [(0,0)] (dR tag ty K i) Nx [(0,0)] (dR tag ty K i) Q)=
  (aM Tryz.prog BinOp.lss 3 (Operand.tmp 21) (Operand.tmp 20) (I (Int.ofNat i)) (I (Int.ofNat (aa K)))=some (AV.bool false)∧((HY K i tag ty)∧vO∧([AV.nilsl]=[AV.nilsl]∧true=true)∧True)∧Q (AExit.exit 0) (dR tag ty K i).st):=by kernel_rfl
theorem Uf (tag ty:Int) (K:List AV) (i k:Nat) (es:List AV) (Nx:Prop) (Q:AExit→St→Prop):aI Tryz.prog opts0 40 (ap [(6,0,.res (.bool false))] [] aH [] []) (aD Tryz.prog 30 7) (fa tag ty K i k es).st (bf 0 [(0,0)] (dR tag ty K i) Nx [(0,0),(1,1)] (fa tag ty K i k es) Q)=
  (aM Tryz.prog BinOp.lss 3 (Operand.tmp 21) (Operand.tmp 20) (I (Int.ofNat i)) (I (Int.ofNat (aa K)))=some (AV.bool false)∧((HY K i tag ty)∧vO∧df [(0,0),(1,1)] [AV.rsl true 1 0 k 5] [AV.rsl true 1 0 k 5]∧(es=es∧ac es=true)∧True)∧Q (AExit.exit 0) (fa tag ty K i k es).st):=by kernel_rfl
def pK (tag ty:Int) (K:List AV) (e:AExit) (F:View):bq:=fun st Q=>ck 0 [(0,8)] (dR tag ty K 0) st∧Q e F.st
abbrev vP:=(AV.tuple [AV.nilsl,I 4])
theorem Ug (tag ty:Int) (t y n:Int) (D K:List AV) (Q:AV→Prop):ax Tryz.prog opts0 40 (ap [] [(7,fun _ _=>False)] aH [] []) 30 [.agg (ag t y n D K),.fsl true [e9 tag ty]] [] 0 (fun v _ _=>Q v)=
  (au (!ak y 1) (Q vP)):=by kernel_rfl
@[simp] abbrev Az (K:List AV) (tag ty:Int):=(((vK tag ty)∧sA∧(vN K)∧(vM K)∧sA∧True)∧((true=true∧some 8=some 8∧0=0∧1=(Int.ofNat (aa [AV.agg (ky tag ty)])).toNat∧1=1)∧True)∧([AV.nilsl]=[AV.nilsl]∧true=true)∧True)
theorem Uh (tag ty:Int) (t y n r:Int) (D K:List AV) (Q:AV→Prop):ax Tryz.prog opts0 40 (ap [] [(7,pK tag ty K .ret (eD r))] aH [] []) 30 [.agg (ag t y n D K),.fsl true [e9 tag ty]] [] 0 (fun v _ _=>Q v)=
  (ab (!ak y 1) (Q vP) ((Az K tag ty)∧Q (AV.tuple [AV.nilsl,I r]))):=by kernel_rfl
theorem Ui (tag ty:Int) (t y n:Int) (D K:List AV) (i:Nat) (Q:AV→af→Prop):ax Tryz.prog opts0 40 (ap [] [(7,pK tag ty K (.exit 0) (dR tag ty K i))] aH [] []) 30 [.agg (ag t y n D K),.fsl true [e9 tag ty]] [] 0 (fun v H _=>Q v H)=
  (ab (!ak y 1) (Q vP [(0,some (Blk.cells (sy D K n t y)))]) ((Az K tag ty)∧Q (AV.tuple [AV.rsl true 0 0 1 1,I 0]) [(9,some (Blk.cells (ky tag ty))),(0,some (Blk.cells [AV.nilsl]))])):=by kernel_rfl
theorem Uj (tag ty:Int) (t y n:Int) (D K:List AV) (i k:Nat) (es:List AV) (Q:AV→af→Prop):ax Tryz.prog opts0 40 (ap [] [(7,pK tag ty K (.exit 0) (fa tag ty K i k es))] aH [] []) 30 [.agg (ag t y n D K),.fsl true [e9 tag ty]] [] 0 (fun v H _=>Q v H)=
  (ab (!ak y 1) (Q vP [(0,some (Blk.cells (sy D K n t y)))]) ((Az K tag ty)∧Q (AV.tuple [AV.rsl true 0 0 1 1,I 0]) [(9,some (Blk.cells (ky tag ty))),(0,some (Blk.cells [AV.rsl true 1 0 k 5])),(1,some (Blk.cells es))])):=by kernel_rfl
end
noncomputable section
def AA (tag ty:Int) (i:Nat):List (Nat × AV):=[(1,.fsl true [e9 tag ty]),(7,I 0),(8,I (.ofNat i))]
def ef (tag ty:Int) (X:List AV) (i:Nat):View:=⟨AA tag ty i,[(2,.ptr 0 0),(6,.rsl true 1 0 1 1)],[(0,.cells X,.whole),(1,.cells [.nilsl],.whole)],3,105⟩
def dl (tag ty:Int) (X:List AV) (i k:Nat) (es:List AV):View:=⟨AA tag ty i,[(2,.ptr 0 0),(6,.rsl true 1 0 1 1)],[(0,.cells X,.whole),(1,.cells [.rsl true 2 0 k 5],.rel),(2,.cells es,.whole)],3,105⟩
def eE (r:Int):View:=⟨[(4,.nilsl),(5,I r)],[],[],3,105⟩
def lV (t y n:Int) (D L:List AV) (b:Bool):aX:=ap [(8,3,.res (.fptr (ag t y n D L) 0)),(9,12,.res (.bool b))] [] aH [] []
abbrev jD (D L:List AV) (n t y:Int):=[I t,I y,I n,AV.fsl false D,AV.fsl false L]
@[simp] abbrev HZ (D K L:List AV) (Q:AExit→St→Prop) (i:Nat) (n t tag y:Int):=(aC Tryz.prog 24 (AV.fsl false K) (I (Int.ofNat i))=some (AV.fptr (jD D L n t y) 0)∧aM Tryz.prog BinOp.neq 3 (Operand.tmp 38) (Operand.tmp 40) (I tag) (I t)=some (AV.bool true)∧(((AV.nilsl=AV.nilsl∧true=true)∧(I 4=I 4∧true=true)∧True)∧True∧True)∧Q AExit.ret (eE 4).st)
theorem Uk (tag ty:Int) (X0 X1 X2:Int) (XD K:List AV) (i:Nat) (t y n:Int) (D L:List AV) (Nx:Prop) (Q:AExit→St→Prop):aI Tryz.prog opts0 40 (lV t y n D L true) (aD Tryz.prog 19 7) (ef tag ty (ag X0 X1 X2 XD K) i).st (bf 0 [(0,0)] (ef tag ty [] i) Nx [] (eE 4) Q)=
  (ab (aq (Int.ofNat i) (Int.ofNat (aa K))) (HZ D K L Q i n t tag y) (((False∧False∧True)∧True∧True)∧Q (AExit.exit 0) (eE 4).st)):=by kernel_rfl
theorem Ul (tag ty:Int) (X0 X1 X2:Int) (XD K:List AV) (i k:Nat) (es:List AV) (t y n:Int) (D L:List AV) (Nx:Prop) (Q:AExit→St→Prop):aI Tryz.prog opts0 40 (lV t y n D L true) (aD Tryz.prog 19 7) (dl tag ty (ag X0 X1 X2 XD K) i (k+1) es).st (bf 0 [(0,0)] (ef tag ty [] i) Nx [] (eE 4) Q)=
  (ab (aq (Int.ofNat i) (Int.ofNat (aa K))) (HZ D K L Q i n t tag y) (((False∧False∧True)∧True∧True)∧Q (AExit.exit 0) (eE 4).st)):=by kernel_rfl
abbrev pL (tag ty:Int):=[AV.agg [I tag,I ty,AV.bool false,AV.bool true]]
@[simp] abbrev vQ (tag ty:Int):=(AV.fsl true (pL tag ty)=AV.fsl true (pL tag ty)∧ah (AV.fsl true (pL tag ty))=true)
abbrev sB (K XD:List AV) (X0 X1 X2:Int):=[I X0,I X1,I X2,AV.fsl false XD,AV.fsl false K]
@[simp] abbrev vR (K XD:List AV) (X0 X1 X2:Int):=((sB K XD X0 X1 X2)=(sB K XD X0 X1 X2)∧ac (sB K XD X0 X1 X2)=true)
@[simp] abbrev vS:=((some 0=some 0∧0=0)∧(true=true∧some 1=some 1∧0=0∧1=1∧1=1)∧True)
@[simp] abbrev sC:=(I 0=I 0∧true=true)
@[simp] abbrev H3:=(((AV.nilsl=AV.nilsl∧true=true)∧(I 7=I 7∧true=true)∧True)∧True∧True)
theorem Um (tag ty:Int) (X0 X1 X2:Int) (XD K:List AV) (i j:Nat) (es:List AV) (t y n:Int) (D L:List AV) (Nx:Prop) (Q:AExit→St→Prop):aI Tryz.prog opts0 40 (lV t y n D L false) (aD Tryz.prog 19 7) (ef tag ty (ag X0 X1 X2 XD K) i).st (bf 0 [(0,0),(1,1),(2,67)] (dl tag ty (ag X0 X1 X2 XD K) j 1 es) Nx [] (eE 7) Q)=
  (ab (aq (Int.ofNat i) (Int.ofNat (aa K))) (aC Tryz.prog 24 (AV.fsl false K) (I (Int.ofNat i))=some (AV.fptr (jD D L n t y) 0)∧aM Tryz.prog BinOp.neq 3 (Operand.tmp 38) (Operand.tmp 40) (I tag) (I t)=some (AV.bool false)∧ab (!ak y ty) (H3∧Q AExit.ret (eE 7).st) ((((vQ tag ty)∧sC∧(I (ar IntKind.i64 (Int.ofNat i+1))=I (Int.ofNat j)∧ah (I (Int.ofNat j))=true)∧True)∧vS∧(vR K XD X0 X1 X2)∧df [(0,0),(1,1),(2,67)] [AV.rsl true 2 0 1 5] [AV.rsl true 67 0 (0+aa [AV.agg (jD D L n t y)]) 5]∧(flat [AV.agg (jD D L n t y)]=es∧ac es=true)∧True)∧Nx)) (((False∧False∧True)∧True∧True)∧Q (AExit.exit 0) (eE 7).st)):=by kernel_rfl
def H4 (tag ty:Int) (X:List AV) (i:Nat) (E:List AV):View:=⟨AA tag ty i,[(2,.ptr 0 0),(6,.rsl true 1 0 1 1)],[(0,.cells X,.whole),(1,.cells [.fsl false E],.whole)],3,105⟩
theorem Un (tag ty:Int) (X0 X1 X2:Int) (XD K:List AV) (i j k k':Nat) (a:AV) (E es es':List AV) (t y n:Int) (D L:List AV) (Nx:Prop) (Q:AExit→St→Prop):aI Tryz.prog opts0 40 (mZ (lV t y n D L false) 6 2 (H4 tag ty (ag X0 X1 X2 XD K) i (a::E))) (aD Tryz.prog 19 7) (dl tag ty (ag X0 X1 X2 XD K) i k es).st (bf 0 [(0,0),(1,1),(2,67)] (dl tag ty (ag X0 X1 X2 XD K) j k' es') Nx [] (eE 7) Q)=
  (((Frz 2 (dl tag ty (ag X0 X1 X2 XD K) i k es).st.heap (AV.fsl true (pL tag ty)) (AV.fsl true (pL tag ty))∧Frz 2 (dl tag ty (ag X0 X1 X2 XD K) i k es).st.heap (I 0) (I 0)∧Frz 2 (dl tag ty (ag X0 X1 X2 XD K) i k es).st.heap (I (Int.ofNat i)) (I (Int.ofNat i))∧Frz 2 (dl tag ty (ag X0 X1 X2 XD K) i k es).st.heap (AV.ptr 0 0) (AV.ptr 0 0)∧Frz 2 (dl tag ty (ag X0 X1 X2 XD K) i k es).st.heap (AV.rsl true 1 0 1 1) (AV.rsl true 1 0 1 1)∧True)∧FrzL 2 (dl tag ty (ag X0 X1 X2 XD K) i k es).st.heap (sB K XD X0 X1 X2) (sB K XD X0 X1 X2)∧FrzL 2 (dl tag ty (ag X0 X1 X2 XD K) i k es).st.heap [AV.rsl true 2 0 k 5] [AV.fsl false (a::E)]∧True)∧ab (aq (Int.ofNat i) (Int.ofNat (aa K))) (aC Tryz.prog 24 (AV.fsl false K) (I (Int.ofNat i))=some (AV.fptr (jD D L n t y) 0)∧aM Tryz.prog BinOp.neq 3 (Operand.tmp 38) (Operand.tmp 40) (I tag) (I t)=some (AV.bool false)∧ab (!ak y ty) (H3∧Q AExit.ret (eE 7).st) (au (a8 5 (a::E)&&(((0+aa (a::E))*72).ble 140737488355328&&true)) (au (a8 5 [AV.agg (jD D L n t y)]&&(((0+aa (a::E)+aa [AV.agg (jD D L n t y)])*72).ble 140737488355328&&(bc (flat [AV.agg (jD D L n t y)])&&true))) (au ((aa (flat (a::E))).beq ((0+aa (a::E))*5)) ((((vQ tag ty)∧sC∧(I (ar IntKind.i64 (Int.ofNat i+1))=I (Int.ofNat j)∧ah (I (Int.ofNat j))=true)∧True)∧vS∧(vR K XD X0 X1 X2)∧df [(0,0),(1,1),(2,67)] [AV.rsl true 2 0 k' 5] [AV.rsl true 67 0 (0+aa (a::E)+aa [AV.agg (jD D L n t y)]) 5]∧(flat (a::E)++flat [AV.agg (jD D L n t y)]=es'∧ac es'=true)∧True)∧Nx))))) (((False∧False∧True)∧True∧True)∧Q (AExit.exit 0) (eE 7).st)):=by kernel_rfl
@[simp] abbrev H5 (i:Nat) (tag ty:Int):=((vQ tag ty)∧sC∧(I (Int.ofNat i)=I (Int.ofNat i)∧ah (I (Int.ofNat i))=true)∧True)
theorem Uo (tag ty:Int) (X0 X1 X2:Int) (XD K:List AV) (i:Nat) (Nx:Prop) (Q:AExit→St→Prop):aI Tryz.prog opts0 40 (ap [(6,4,.res (.bool false))] [] aH [] []) (aD Tryz.prog 19 7) (ef tag ty (ag X0 X1 X2 XD K) i).st (bf 0 [(0,0)] (ef tag ty [] i) Nx [(0,0),(1,1)] (ef tag ty (ag X0 X1 X2 XD K) i) Q)=
  (aM Tryz.prog BinOp.lss 3 (Operand.tmp 17) (Operand.tmp 20) (I (Int.ofNat i)) (I (Int.ofNat (aa K)))=some (AV.bool false)∧((H5 i tag ty)∧vS∧(vR K XD X0 X1 X2)∧([AV.nilsl]=[AV.nilsl]∧true=true)∧True)∧Q (AExit.exit 0) (ef tag ty (ag X0 X1 X2 XD K) i).st):=by kernel_rfl
theorem Up (tag ty:Int) (X0 X1 X2:Int) (XD K:List AV) (i k:Nat) (es:List AV) (Nx:Prop) (Q:AExit→St→Prop):aI Tryz.prog opts0 40 (ap [(6,4,.res (.bool false))] [] aH [] []) (aD Tryz.prog 19 7) (dl tag ty (ag X0 X1 X2 XD K) i k es).st (bf 0 [(0,0)] (ef tag ty [] i) Nx [(0,0),(1,1),(2,2)] (dl tag ty (ag X0 X1 X2 XD K) i k es) Q)=
  (aM Tryz.prog BinOp.lss 3 (Operand.tmp 17) (Operand.tmp 20) (I (Int.ofNat i)) (I (Int.ofNat (aa K)))=some (AV.bool false)∧((H5 i tag ty)∧vS∧(vR K XD X0 X1 X2)∧df [(0,0),(1,1),(2,2)] [AV.rsl true 2 0 k 5] [AV.rsl true 2 0 k 5]∧(es=es∧ac es=true)∧True)∧Q (AExit.exit 0) (dl tag ty (ag X0 X1 X2 XD K) i k es).st):=by kernel_rfl
def pM (tag ty:Int) (X:List AV) (e:AExit) (F:View):bq:=fun st Q=>ck 0 [(0,0),(1,8)] (ef tag ty X 0) st∧Q e F.st
abbrev vT:=(AV.tuple [AV.nilsl,I 4])
theorem Uq (tag ty:Int) (t y n:Int) (D K:List AV) (Q:AV→Prop):ax Tryz.prog opts0 40 (ap [] [(7,fun _ _=>False)] aH [] []) 19 [.agg (ag t y n D K),.fsl true [e9 tag ty]] [] 0 (fun v _ _=>Q v)=
  (au (!ak y 1) (Q vT)):=by kernel_rfl
abbrev nE (D K:List AV) (n t y:Int):=[I t,I y,I n,AV.fsl false D,AV.fsl false K]
@[simp] abbrev AB (D K:List AV) (n t tag ty y:Int):=(((vQ tag ty)∧sC∧sC∧True)∧((some 0=some 0∧0=0)∧(true=true∧some 8=some 8∧0=0∧1=(Int.ofNat (aa (pL tag ty))).toNat∧1=1)∧True)∧((nE D K n t y)=(nE D K n t y)∧ac (nE D K n t y)=true)∧([AV.nilsl]=[AV.nilsl]∧true=true)∧True)
theorem Ur (tag ty:Int) (t y n r:Int) (D K:List AV) (Q:AV→Prop):ax Tryz.prog opts0 40 (ap [] [(7,pM tag ty (ag t y n D K) .ret (eE r))] aH [] []) 19 [.agg (ag t y n D K),.fsl true [e9 tag ty]] [] 0 (fun v _ _=>Q v)=
  (ab (!ak y 1) (Q vT) ((AB D K n t tag ty y)∧Q (AV.tuple [AV.nilsl,I r]))):=by kernel_rfl
theorem Ut (tag ty:Int) (t y n:Int) (D K:List AV) (i:Nat) (Q:AV→af→Prop):ax Tryz.prog opts0 40 (ap [] [(7,pM tag ty (ag t y n D K) (.exit 0) (ef tag ty (ag t y n D K) i))] aH [] []) 19 [.agg (ag t y n D K),.fsl true [e9 tag ty]] [] 0 (fun v H _=>Q v H)=
  (ab (!ak y 1) (Q vT [(0,some (Blk.cells (nE D K n t y)))]) ((AB D K n t tag ty y)∧Q (AV.tuple [AV.rsl true 1 0 1 1,I 0]) [(0,some (Blk.cells (nE D K n t y))),(1,some (Blk.cells [AV.nilsl]))])):=by kernel_rfl
theorem Uu (tag ty:Int) (t y n:Int) (D K:List AV) (i k:Nat) (es:List AV) (Q:AV→af→Prop):ax Tryz.prog opts0 40 (ap [] [(7,pM tag ty (ag t y n D K) (.exit 0) (dl tag ty (ag t y n D K) i k es))] aH [] []) 19 [.agg (ag t y n D K),.fsl true [e9 tag ty]] [] 0 (fun v H _=>Q v H)=
  (ab (!ak y 1) (Q vT [(0,some (Blk.cells (nE D K n t y)))]) ((AB D K n t tag ty y)∧Q (AV.tuple [AV.rsl true 1 0 1 1,I 0]) [(0,some (Blk.cells (nE D K n t y))),(1,some (Blk.cells [AV.rsl true 2 0 k 5])),(2,some (Blk.cells es))])):=by kernel_rfl
end
end Go.Proofs.YtmnlofhodbnenaaGreatDoor
