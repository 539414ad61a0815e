/- RAllW, Obj3, Obj4, Bytes, Obj5, Obj6, Okay, AllS, AllW, AllP, RAllK. -/
import Derived.Test.YtjhggnebkfpgcaaGreatDoorQ4
import Derived.KernelRfl
import Derived.Test.YtjhggnebkfpgcaaGreatDoorG5
import Derived.Test.YtjhggnebkfpgcaaGreatDoorQ1
namespace Go.Proofs.YtjhggnebkfpgcaaGreatDoor
open Go Go.RowKit
open Go.Proofs.Abs
noncomputable section
def raV (s:List (Nat × AV)) (k:Nat) (O es:List AV):View:=⟨s,[(1,.ptr 0 0),(3,.ptr 1 0)],[(0,.cells O,.whole),(1,.cells [.rsl true 2 0 k 7],.each),(2,.cells es,.whole)],3,221⟩
def raI:List Nat:=[86,87]
def raJ:List Nat:=[94]
def raAn (x:List UInt8):Aid:=aidJ [(6,5,.res (.fptr [.str x] 0))] [] noSem raI raJ
@[simp] abbrev yz7:=((some 0=some 0∧0=0)∧(some 1=some 1∧0=0)∧True)
@[simp] abbrev yz18 (k:Nat):=((true=true∧some 2=some 2∧0=0∧k=k∧7=7)∧True)
abbrev yz21 (i:Int) (x:List UInt8):=[AV.agg [AV.str [78,97,109,101],I i,I 4325387,I 7,I 0,AV.fsl false (toBytes x),AV.nilsl]]
@[simp] abbrev yz46 (i:Int):=(I i=I i∧closedA (I i)=true)
@[simp] abbrev yz49 (es:List AV):=(es=es∧closedAll es=true)
theorem ra_n (x:List UInt8) (k k':Nat) (i j:Int) (Ns O es es':List AV) (o:Ob) (M L C:AV) (Nx:Prop) (Q:AExit→St→Prop):wpK Tryz.prog opts0 40 (raAn x) (lpCode Tryz.prog 45 5) (raV [(4,I i)] k (obF o M (.fsl false Ns) L C) es).st (roundP 0 [(0,0),(1,1),(2,34)] (raV [(4,I j)] k' O es') Nx [(0,0),(1,1),(2,2)] (raV [(4,I i)] k (obF o M (.fsl false Ns) L C) es) Q)=
  (mtB (ltInt i (Int.ofNat (lenN Ns))) (indexAddrA Tryz.prog 27 (AV.fsl false Ns) (I i)=some (AV.fptr [AV.str x] 0)∧oblB (allSize 7 (yz21 i x)&&(((k+lenN (yz21 i x))*96).ble 140737488355328&&(allOne (flat (yz21 i x))&&true))) (oblB ((lenN es).beq (k*7)) ((((I (wrapA IntKind.i64 (i+1))=I j∧closedA (I j)=true)∧True)∧yz7∧((obF o M (AV.fsl false Ns) L C)=O∧closedAll O=true)∧((true=true∧some 34=some 34∧0=0∧k'=k+lenN (yz21 i x)∧7=7)∧True)∧(es++flat (yz21 i x)=es'∧closedAll es'=true)∧True)∧Nx))) ((((yz46 i)∧True)∧yz7∧((obF o M (AV.fsl false Ns) L C)=(obF o M (AV.fsl false Ns) L C)∧closedAll (obF o M (AV.fsl false Ns) L C)=true)∧(yz18 k)∧(yz49 es)∧True)∧Q (AExit.exit 0) (raV [(4,I i)] k (obF o M (AV.fsl false Ns) L C) es).st)):=by kernel_rfl
def rrD (nm ch st:List UInt8) (se:Bool) (d:Int):List AV:=[.str nm,I 9,.bool false,.bool se,.str ch,.str st,I d]
def raAd (c:List AV) (b:Bool):Aid:=aidJ [(18,2,.res (.fptr c 0)),(18,9,.res (.fptr c 0)),(18,15,.ld (.bool b)),(19,3,.res (.fptr c 0)),(19,8,.res (.fptr c 0))] [] noSem raI raJ
@[simp] abbrev yz11 (T:List AV):=(AV.fsl true T=AV.fsl true T∧closedA (AV.fsl true T)=true)
@[simp] abbrev yz1 (C L M N:AV) (Q:AExit→St→Prop) (T es:List AV) (i:Int) (k:Nat) (o:Ob):=((((yz11 T)∧(yz46 i)∧True)∧yz7∧((obF o M N L C)=(obF o M N L C)∧closedAll (obF o M N L C)=true)∧(yz18 k)∧(yz49 es)∧True)∧Q (AExit.exit 2) (raV [(5,AV.fsl true T),(6,I i)] k (obF o M N L C) es).st)
abbrev yz13 (C L M N:AV) (T es:List AV) (i:Int) (k:Nat) (o:Ob):=(raV [(5,.fsl true T),(6,I i)] k (obF o M N L C) es)
@[simp] abbrev yz17 (C L M N:AV) (O:List AV) (o:Ob):=((obF o M N L C)=O∧closedAll O=true)
abbrev yz19 (O T es':List AV) (j:Int) (k':Nat):=(raV [(5,.fsl true T),(6,I j)] k' O es')
abbrev yz22 (ch nm st:List UInt8) (se:Bool):=(AV.fptr [AV.str nm,I 9,AV.bool false,AV.bool se,AV.str ch,AV.str st,I 0] 0)
abbrev yz34 (nm:List UInt8) (o:Ob):=[AV.agg [AV.str nm,I 0,I 4325387,I 9,I o.d0.2,AV.nilsl,AV.nilsl]]
theorem ra_d0t (nm ch st:List UInt8) (se:Bool) (k k':Nat) (i j:Int) (T O es es':List AV) (o:Ob) (M N L C:AV) (Nx:Prop) (Q:AExit→St→Prop):wpK Tryz.prog opts0 40 (raAd (rrD nm ch st se 0) true) (lpCode Tryz.prog 45 17) (yz13 C L M N T es i k o).st (roundP 0 [(0,0),(1,1),(2,58)] (yz19 O T es' j k') Nx [(0,0),(1,1),(2,2)] (yz13 C L M N T es i k o) Q)=
  (mtB (ltInt i (Int.ofNat (lenN T))) (indexAddrA Tryz.prog 140 (AV.fsl true T) (I i)=some (yz22 ch nm st se)∧indexAddrA Tryz.prog 140 (AV.fsl true T) (I i)=some (yz22 ch nm st se)∧partA Tryz.prog 4 (obF o M N L C) 7=some (AV.bool true)∧indexAddrA Tryz.prog 140 (AV.fsl true T) (I i)=some (yz22 ch nm st se)∧indexAddrA Tryz.prog 140 (AV.fsl true T) (I i)=some (yz22 ch nm st se)∧oblB (allSize 7 (yz34 nm o)&&(((k+lenN (yz34 nm o))*96).ble 140737488355328&&(allOne (flat (yz34 nm o))&&true))) (oblB ((lenN es).beq (k*7)) ((((yz11 T)∧(I (wrapA IntKind.i64 (i+1))=I j∧closedA (I j)=true)∧True)∧yz7∧(yz17 C L M N O o)∧((true=true∧some 58=some 58∧0=0∧k'=k+lenN (yz34 nm o)∧7=7)∧True)∧(es++flat (yz34 nm o)=es'∧closedAll es'=true)∧True)∧Nx))) (yz1 C L M N Q T es i k o)):=by kernel_rfl
@[simp] abbrev yz16 (k k':Nat):=((true=true∧some 2=some 2∧0=0∧k'=k∧7=7)∧True)
@[simp] abbrev yz45 (es es':List AV):=(es=es'∧closedAll es'=true)
theorem ra_d0f (nm ch st:List UInt8) (se:Bool) (k k':Nat) (i j:Int) (T O es es':List AV) (o:Ob) (M N L C:AV) (Nx:Prop) (Q:AExit→St→Prop):wpK Tryz.prog opts0 40 (raAd (rrD nm ch st se 0) false) (lpCode Tryz.prog 45 17) (yz13 C L M N T es i k o).st (roundP 0 [(0,0),(1,1),(2,2)] (yz19 O T es' j k') Nx [(0,0),(1,1),(2,2)] (yz13 C L M N T es i k o) Q)=
  (mtB (ltInt i (Int.ofNat (lenN T))) (indexAddrA Tryz.prog 140 (AV.fsl true T) (I i)=some (yz22 ch nm st se)∧indexAddrA Tryz.prog 140 (AV.fsl true T) (I i)=some (yz22 ch nm st se)∧partA Tryz.prog 4 (obF o M N L C) 7=some (AV.bool false)∧(((yz11 T)∧(I (wrapA IntKind.i64 (i+1))=I j∧closedA (I j)=true)∧True)∧yz7∧(yz17 C L M N O o)∧(yz16 k k')∧(yz45 es es')∧True)∧Nx) (yz1 C L M N Q T es i k o)):=by kernel_rfl
abbrev yz23 (ch nm st:List UInt8) (se:Bool):=(AV.fptr [AV.str nm,I 9,AV.bool false,AV.bool se,AV.str ch,AV.str st,I 1] 0)
abbrev yz35 (nm:List UInt8) (o:Ob):=[AV.agg [AV.str nm,I 0,I 4325387,I 9,I o.d1.2,AV.nilsl,AV.nilsl]]
theorem ra_d1t (nm ch st:List UInt8) (se:Bool) (k k':Nat) (i j:Int) (T O es es':List AV) (o:Ob) (M N L C:AV) (Nx:Prop) (Q:AExit→St→Prop):wpK Tryz.prog opts0 40 (raAd (rrD nm ch st se 1) true) (lpCode Tryz.prog 45 17) (yz13 C L M N T es i k o).st (roundP 0 [(0,0),(1,1),(2,58)] (yz19 O T es' j k') Nx [(0,0),(1,1),(2,2)] (yz13 C L M N T es i k o) Q)=
  (mtB (ltInt i (Int.ofNat (lenN T))) (indexAddrA Tryz.prog 140 (AV.fsl true T) (I i)=some (yz23 ch nm st se)∧indexAddrA Tryz.prog 140 (AV.fsl true T) (I i)=some (yz23 ch nm st se)∧partA Tryz.prog 4 (obF o M N L C) 9=some (AV.bool true)∧indexAddrA Tryz.prog 140 (AV.fsl true T) (I i)=some (yz23 ch nm st se)∧indexAddrA Tryz.prog 140 (AV.fsl true T) (I i)=some (yz23 ch nm st se)∧oblB (allSize 7 (yz35 nm o)&&(((k+lenN (yz35 nm o))*96).ble 140737488355328&&(allOne (flat (yz35 nm o))&&true))) (oblB ((lenN es).beq (k*7)) ((((yz11 T)∧(I (wrapA IntKind.i64 (i+1))=I j∧closedA (I j)=true)∧True)∧yz7∧(yz17 C L M N O o)∧((true=true∧some 58=some 58∧0=0∧k'=k+lenN (yz35 nm o)∧7=7)∧True)∧(es++flat (yz35 nm o)=es'∧closedAll es'=true)∧True)∧Nx))) (yz1 C L M N Q T es i k o)):=by kernel_rfl
theorem ra_d1f (nm ch st:List UInt8) (se:Bool) (k k':Nat) (i j:Int) (T O es es':List AV) (o:Ob) (M N L C:AV) (Nx:Prop) (Q:AExit→St→Prop):wpK Tryz.prog opts0 40 (raAd (rrD nm ch st se 1) false) (lpCode Tryz.prog 45 17) (yz13 C L M N T es i k o).st (roundP 0 [(0,0),(1,1),(2,2)] (yz19 O T es' j k') Nx [(0,0),(1,1),(2,2)] (yz13 C L M N T es i k o) Q)=
  (mtB (ltInt i (Int.ofNat (lenN T))) (indexAddrA Tryz.prog 140 (AV.fsl true T) (I i)=some (yz23 ch nm st se)∧indexAddrA Tryz.prog 140 (AV.fsl true T) (I i)=some (yz23 ch nm st se)∧partA Tryz.prog 4 (obF o M N L C) 9=some (AV.bool false)∧(((yz11 T)∧(I (wrapA IntKind.i64 (i+1))=I j∧closedA (I j)=true)∧True)∧yz7∧(yz17 C L M N O o)∧(yz16 k k')∧(yz45 es es')∧True)∧Nx) (yz1 C L M N Q T es i k o)):=by kernel_rfl
abbrev yz24 (ch nm st:List UInt8) (se:Bool):=(AV.fptr [AV.str nm,I 9,AV.bool false,AV.bool se,AV.str ch,AV.str st,I 2] 0)
abbrev yz36 (nm:List UInt8) (o:Ob):=[AV.agg [AV.str nm,I 0,I 4325387,I 9,I o.d2.2,AV.nilsl,AV.nilsl]]
theorem ra_d2t (nm ch st:List UInt8) (se:Bool) (k k':Nat) (i j:Int) (T O es es':List AV) (o:Ob) (M N L C:AV) (Nx:Prop) (Q:AExit→St→Prop):wpK Tryz.prog opts0 40 (raAd (rrD nm ch st se 2) true) (lpCode Tryz.prog 45 17) (yz13 C L M N T es i k o).st (roundP 0 [(0,0),(1,1),(2,58)] (yz19 O T es' j k') Nx [(0,0),(1,1),(2,2)] (yz13 C L M N T es i k o) Q)=
  (mtB (ltInt i (Int.ofNat (lenN T))) (indexAddrA Tryz.prog 140 (AV.fsl true T) (I i)=some (yz24 ch nm st se)∧indexAddrA Tryz.prog 140 (AV.fsl true T) (I i)=some (yz24 ch nm st se)∧partA Tryz.prog 4 (obF o M N L C) 11=some (AV.bool true)∧indexAddrA Tryz.prog 140 (AV.fsl true T) (I i)=some (yz24 ch nm st se)∧indexAddrA Tryz.prog 140 (AV.fsl true T) (I i)=some (yz24 ch nm st se)∧oblB (allSize 7 (yz36 nm o)&&(((k+lenN (yz36 nm o))*96).ble 140737488355328&&(allOne (flat (yz36 nm o))&&true))) (oblB ((lenN es).beq (k*7)) ((((yz11 T)∧(I (wrapA IntKind.i64 (i+1))=I j∧closedA (I j)=true)∧True)∧yz7∧(yz17 C L M N O o)∧((true=true∧some 58=some 58∧0=0∧k'=k+lenN (yz36 nm o)∧7=7)∧True)∧(es++flat (yz36 nm o)=es'∧closedAll es'=true)∧True)∧Nx))) (yz1 C L M N Q T es i k o)):=by kernel_rfl
theorem ra_d2f (nm ch st:List UInt8) (se:Bool) (k k':Nat) (i j:Int) (T O es es':List AV) (o:Ob) (M N L C:AV) (Nx:Prop) (Q:AExit→St→Prop):wpK Tryz.prog opts0 40 (raAd (rrD nm ch st se 2) false) (lpCode Tryz.prog 45 17) (yz13 C L M N T es i k o).st (roundP 0 [(0,0),(1,1),(2,2)] (yz19 O T es' j k') Nx [(0,0),(1,1),(2,2)] (yz13 C L M N T es i k o) Q)=
  (mtB (ltInt i (Int.ofNat (lenN T))) (indexAddrA Tryz.prog 140 (AV.fsl true T) (I i)=some (yz24 ch nm st se)∧indexAddrA Tryz.prog 140 (AV.fsl true T) (I i)=some (yz24 ch nm st se)∧partA Tryz.prog 4 (obF o M N L C) 11=some (AV.bool false)∧(((yz11 T)∧(I (wrapA IntKind.i64 (i+1))=I j∧closedA (I j)=true)∧True)∧yz7∧(yz17 C L M N O o)∧(yz16 k k')∧(yz45 es es')∧True)∧Nx) (yz1 C L M N Q T es i k o)):=by kernel_rfl
abbrev yz25 (ch nm st:List UInt8) (se:Bool):=(AV.fptr [AV.str nm,I 9,AV.bool false,AV.bool se,AV.str ch,AV.str st,I 3] 0)
abbrev yz37 (nm:List UInt8) (o:Ob):=[AV.agg [AV.str nm,I 0,I 4325387,I 9,I o.d3.2,AV.nilsl,AV.nilsl]]
theorem ra_d3t (nm ch st:List UInt8) (se:Bool) (k k':Nat) (i j:Int) (T O es es':List AV) (o:Ob) (M N L C:AV) (Nx:Prop) (Q:AExit→St→Prop):wpK Tryz.prog opts0 40 (raAd (rrD nm ch st se 3) true) (lpCode Tryz.prog 45 17) (yz13 C L M N T es i k o).st (roundP 0 [(0,0),(1,1),(2,58)] (yz19 O T es' j k') Nx [(0,0),(1,1),(2,2)] (yz13 C L M N T es i k o) Q)=
  (mtB (ltInt i (Int.ofNat (lenN T))) (indexAddrA Tryz.prog 140 (AV.fsl true T) (I i)=some (yz25 ch nm st se)∧indexAddrA Tryz.prog 140 (AV.fsl true T) (I i)=some (yz25 ch nm st se)∧partA Tryz.prog 4 (obF o M N L C) 13=some (AV.bool true)∧indexAddrA Tryz.prog 140 (AV.fsl true T) (I i)=some (yz25 ch nm st se)∧indexAddrA Tryz.prog 140 (AV.fsl true T) (I i)=some (yz25 ch nm st se)∧oblB (allSize 7 (yz37 nm o)&&(((k+lenN (yz37 nm o))*96).ble 140737488355328&&(allOne (flat (yz37 nm o))&&true))) (oblB ((lenN es).beq (k*7)) ((((yz11 T)∧(I (wrapA IntKind.i64 (i+1))=I j∧closedA (I j)=true)∧True)∧yz7∧(yz17 C L M N O o)∧((true=true∧some 58=some 58∧0=0∧k'=k+lenN (yz37 nm o)∧7=7)∧True)∧(es++flat (yz37 nm o)=es'∧closedAll es'=true)∧True)∧Nx))) (yz1 C L M N Q T es i k o)):=by kernel_rfl
theorem ra_d3f (nm ch st:List UInt8) (se:Bool) (k k':Nat) (i j:Int) (T O es es':List AV) (o:Ob) (M N L C:AV) (Nx:Prop) (Q:AExit→St→Prop):wpK Tryz.prog opts0 40 (raAd (rrD nm ch st se 3) false) (lpCode Tryz.prog 45 17) (yz13 C L M N T es i k o).st (roundP 0 [(0,0),(1,1),(2,2)] (yz19 O T es' j k') Nx [(0,0),(1,1),(2,2)] (yz13 C L M N T es i k o) Q)=
  (mtB (ltInt i (Int.ofNat (lenN T))) (indexAddrA Tryz.prog 140 (AV.fsl true T) (I i)=some (yz25 ch nm st se)∧indexAddrA Tryz.prog 140 (AV.fsl true T) (I i)=some (yz25 ch nm st se)∧partA Tryz.prog 4 (obF o M N L C) 13=some (AV.bool false)∧(((yz11 T)∧(I (wrapA IntKind.i64 (i+1))=I j∧closedA (I j)=true)∧True)∧yz7∧(yz17 C L M N O o)∧(yz16 k k')∧(yz45 es es')∧True)∧Nx) (yz1 C L M N Q T es i k o)):=by kernel_rfl
abbrev yz26 (ch nm st:List UInt8) (se:Bool):=(AV.fptr [AV.str nm,I 9,AV.bool false,AV.bool se,AV.str ch,AV.str st,I 4] 0)
abbrev yz38 (nm:List UInt8) (o:Ob):=[AV.agg [AV.str nm,I 0,I 4325387,I 9,I o.d4.2,AV.nilsl,AV.nilsl]]
theorem ra_d4t (nm ch st:List UInt8) (se:Bool) (k k':Nat) (i j:Int) (T O es es':List AV) (o:Ob) (M N L C:AV) (Nx:Prop) (Q:AExit→St→Prop):wpK Tryz.prog opts0 40 (raAd (rrD nm ch st se 4) true) (lpCode Tryz.prog 45 17) (yz13 C L M N T es i k o).st (roundP 0 [(0,0),(1,1),(2,58)] (yz19 O T es' j k') Nx [(0,0),(1,1),(2,2)] (yz13 C L M N T es i k o) Q)=
  (mtB (ltInt i (Int.ofNat (lenN T))) (indexAddrA Tryz.prog 140 (AV.fsl true T) (I i)=some (yz26 ch nm st se)∧indexAddrA Tryz.prog 140 (AV.fsl true T) (I i)=some (yz26 ch nm st se)∧partA Tryz.prog 4 (obF o M N L C) 15=some (AV.bool true)∧indexAddrA Tryz.prog 140 (AV.fsl true T) (I i)=some (yz26 ch nm st se)∧indexAddrA Tryz.prog 140 (AV.fsl true T) (I i)=some (yz26 ch nm st se)∧oblB (allSize 7 (yz38 nm o)&&(((k+lenN (yz38 nm o))*96).ble 140737488355328&&(allOne (flat (yz38 nm o))&&true))) (oblB ((lenN es).beq (k*7)) ((((yz11 T)∧(I (wrapA IntKind.i64 (i+1))=I j∧closedA (I j)=true)∧True)∧yz7∧(yz17 C L M N O o)∧((true=true∧some 58=some 58∧0=0∧k'=k+lenN (yz38 nm o)∧7=7)∧True)∧(es++flat (yz38 nm o)=es'∧closedAll es'=true)∧True)∧Nx))) (yz1 C L M N Q T es i k o)):=by kernel_rfl
theorem ra_d4f (nm ch st:List UInt8) (se:Bool) (k k':Nat) (i j:Int) (T O es es':List AV) (o:Ob) (M N L C:AV) (Nx:Prop) (Q:AExit→St→Prop):wpK Tryz.prog opts0 40 (raAd (rrD nm ch st se 4) false) (lpCode Tryz.prog 45 17) (yz13 C L M N T es i k o).st (roundP 0 [(0,0),(1,1),(2,2)] (yz19 O T es' j k') Nx [(0,0),(1,1),(2,2)] (yz13 C L M N T es i k o) Q)=
  (mtB (ltInt i (Int.ofNat (lenN T))) (indexAddrA Tryz.prog 140 (AV.fsl true T) (I i)=some (yz26 ch nm st se)∧indexAddrA Tryz.prog 140 (AV.fsl true T) (I i)=some (yz26 ch nm st se)∧partA Tryz.prog 4 (obF o M N L C) 15=some (AV.bool false)∧(((yz11 T)∧(I (wrapA IntKind.i64 (i+1))=I j∧closedA (I j)=true)∧True)∧yz7∧(yz17 C L M N O o)∧(yz16 k k')∧(yz45 es es')∧True)∧Nx) (yz1 C L M N Q T es i k o)):=by kernel_rfl
abbrev yz27 (ch nm st:List UInt8) (se:Bool):=(AV.fptr [AV.str nm,I 9,AV.bool false,AV.bool se,AV.str ch,AV.str st,I 5] 0)
abbrev yz39 (nm:List UInt8) (o:Ob):=[AV.agg [AV.str nm,I 0,I 4325387,I 9,I o.d5.2,AV.nilsl,AV.nilsl]]
theorem ra_d5t (nm ch st:List UInt8) (se:Bool) (k k':Nat) (i j:Int) (T O es es':List AV) (o:Ob) (M N L C:AV) (Nx:Prop) (Q:AExit→St→Prop):wpK Tryz.prog opts0 40 (raAd (rrD nm ch st se 5) true) (lpCode Tryz.prog 45 17) (yz13 C L M N T es i k o).st (roundP 0 [(0,0),(1,1),(2,58)] (yz19 O T es' j k') Nx [(0,0),(1,1),(2,2)] (yz13 C L M N T es i k o) Q)=
  (mtB (ltInt i (Int.ofNat (lenN T))) (indexAddrA Tryz.prog 140 (AV.fsl true T) (I i)=some (yz27 ch nm st se)∧indexAddrA Tryz.prog 140 (AV.fsl true T) (I i)=some (yz27 ch nm st se)∧partA Tryz.prog 4 (obF o M N L C) 17=some (AV.bool true)∧indexAddrA Tryz.prog 140 (AV.fsl true T) (I i)=some (yz27 ch nm st se)∧indexAddrA Tryz.prog 140 (AV.fsl true T) (I i)=some (yz27 ch nm st se)∧oblB (allSize 7 (yz39 nm o)&&(((k+lenN (yz39 nm o))*96).ble 140737488355328&&(allOne (flat (yz39 nm o))&&true))) (oblB ((lenN es).beq (k*7)) ((((yz11 T)∧(I (wrapA IntKind.i64 (i+1))=I j∧closedA (I j)=true)∧True)∧yz7∧(yz17 C L M N O o)∧((true=true∧some 58=some 58∧0=0∧k'=k+lenN (yz39 nm o)∧7=7)∧True)∧(es++flat (yz39 nm o)=es'∧closedAll es'=true)∧True)∧Nx))) (yz1 C L M N Q T es i k o)):=by kernel_rfl
theorem ra_d5f (nm ch st:List UInt8) (se:Bool) (k k':Nat) (i j:Int) (T O es es':List AV) (o:Ob) (M N L C:AV) (Nx:Prop) (Q:AExit→St→Prop):wpK Tryz.prog opts0 40 (raAd (rrD nm ch st se 5) false) (lpCode Tryz.prog 45 17) (yz13 C L M N T es i k o).st (roundP 0 [(0,0),(1,1),(2,2)] (yz19 O T es' j k') Nx [(0,0),(1,1),(2,2)] (yz13 C L M N T es i k o) Q)=
  (mtB (ltInt i (Int.ofNat (lenN T))) (indexAddrA Tryz.prog 140 (AV.fsl true T) (I i)=some (yz27 ch nm st se)∧indexAddrA Tryz.prog 140 (AV.fsl true T) (I i)=some (yz27 ch nm st se)∧partA Tryz.prog 4 (obF o M N L C) 17=some (AV.bool false)∧(((yz11 T)∧(I (wrapA IntKind.i64 (i+1))=I j∧closedA (I j)=true)∧True)∧yz7∧(yz17 C L M N O o)∧(yz16 k k')∧(yz45 es es')∧True)∧Nx) (yz1 C L M N Q T es i k o)):=by kernel_rfl
abbrev yz28 (ch nm st:List UInt8) (se:Bool):=(AV.fptr [AV.str nm,I 9,AV.bool false,AV.bool se,AV.str ch,AV.str st,I 6] 0)
abbrev yz40 (nm:List UInt8) (o:Ob):=[AV.agg [AV.str nm,I 0,I 4325387,I 9,I o.d6.2,AV.nilsl,AV.nilsl]]
theorem ra_d6t (nm ch st:List UInt8) (se:Bool) (k k':Nat) (i j:Int) (T O es es':List AV) (o:Ob) (M N L C:AV) (Nx:Prop) (Q:AExit→St→Prop):wpK Tryz.prog opts0 40 (raAd (rrD nm ch st se 6) true) (lpCode Tryz.prog 45 17) (yz13 C L M N T es i k o).st (roundP 0 [(0,0),(1,1),(2,58)] (yz19 O T es' j k') Nx [(0,0),(1,1),(2,2)] (yz13 C L M N T es i k o) Q)=
  (mtB (ltInt i (Int.ofNat (lenN T))) (indexAddrA Tryz.prog 140 (AV.fsl true T) (I i)=some (yz28 ch nm st se)∧indexAddrA Tryz.prog 140 (AV.fsl true T) (I i)=some (yz28 ch nm st se)∧partA Tryz.prog 4 (obF o M N L C) 19=some (AV.bool true)∧indexAddrA Tryz.prog 140 (AV.fsl true T) (I i)=some (yz28 ch nm st se)∧indexAddrA Tryz.prog 140 (AV.fsl true T) (I i)=some (yz28 ch nm st se)∧oblB (allSize 7 (yz40 nm o)&&(((k+lenN (yz40 nm o))*96).ble 140737488355328&&(allOne (flat (yz40 nm o))&&true))) (oblB ((lenN es).beq (k*7)) ((((yz11 T)∧(I (wrapA IntKind.i64 (i+1))=I j∧closedA (I j)=true)∧True)∧yz7∧(yz17 C L M N O o)∧((true=true∧some 58=some 58∧0=0∧k'=k+lenN (yz40 nm o)∧7=7)∧True)∧(es++flat (yz40 nm o)=es'∧closedAll es'=true)∧True)∧Nx))) (yz1 C L M N Q T es i k o)):=by kernel_rfl
theorem ra_d6f (nm ch st:List UInt8) (se:Bool) (k k':Nat) (i j:Int) (T O es es':List AV) (o:Ob) (M N L C:AV) (Nx:Prop) (Q:AExit→St→Prop):wpK Tryz.prog opts0 40 (raAd (rrD nm ch st se 6) false) (lpCode Tryz.prog 45 17) (yz13 C L M N T es i k o).st (roundP 0 [(0,0),(1,1),(2,2)] (yz19 O T es' j k') Nx [(0,0),(1,1),(2,2)] (yz13 C L M N T es i k o) Q)=
  (mtB (ltInt i (Int.ofNat (lenN T))) (indexAddrA Tryz.prog 140 (AV.fsl true T) (I i)=some (yz28 ch nm st se)∧indexAddrA Tryz.prog 140 (AV.fsl true T) (I i)=some (yz28 ch nm st se)∧partA Tryz.prog 4 (obF o M N L C) 19=some (AV.bool false)∧(((yz11 T)∧(I (wrapA IntKind.i64 (i+1))=I j∧closedA (I j)=true)∧True)∧yz7∧(yz17 C L M N O o)∧(yz16 k k')∧(yz45 es es')∧True)∧Nx) (yz1 C L M N Q T es i k o)):=by kernel_rfl
abbrev yz29 (ch nm st:List UInt8) (se:Bool):=(AV.fptr [AV.str nm,I 9,AV.bool false,AV.bool se,AV.str ch,AV.str st,I 7] 0)
abbrev yz41 (nm:List UInt8) (o:Ob):=[AV.agg [AV.str nm,I 0,I 4325387,I 9,I o.d7.2,AV.nilsl,AV.nilsl]]
theorem ra_d7t (nm ch st:List UInt8) (se:Bool) (k k':Nat) (i j:Int) (T O es es':List AV) (o:Ob) (M N L C:AV) (Nx:Prop) (Q:AExit→St→Prop):wpK Tryz.prog opts0 40 (raAd (rrD nm ch st se 7) true) (lpCode Tryz.prog 45 17) (yz13 C L M N T es i k o).st (roundP 0 [(0,0),(1,1),(2,58)] (yz19 O T es' j k') Nx [(0,0),(1,1),(2,2)] (yz13 C L M N T es i k o) Q)=
  (mtB (ltInt i (Int.ofNat (lenN T))) (indexAddrA Tryz.prog 140 (AV.fsl true T) (I i)=some (yz29 ch nm st se)∧indexAddrA Tryz.prog 140 (AV.fsl true T) (I i)=some (yz29 ch nm st se)∧partA Tryz.prog 4 (obF o M N L C) 21=some (AV.bool true)∧indexAddrA Tryz.prog 140 (AV.fsl true T) (I i)=some (yz29 ch nm st se)∧indexAddrA Tryz.prog 140 (AV.fsl true T) (I i)=some (yz29 ch nm st se)∧oblB (allSize 7 (yz41 nm o)&&(((k+lenN (yz41 nm o))*96).ble 140737488355328&&(allOne (flat (yz41 nm o))&&true))) (oblB ((lenN es).beq (k*7)) ((((yz11 T)∧(I (wrapA IntKind.i64 (i+1))=I j∧closedA (I j)=true)∧True)∧yz7∧(yz17 C L M N O o)∧((true=true∧some 58=some 58∧0=0∧k'=k+lenN (yz41 nm o)∧7=7)∧True)∧(es++flat (yz41 nm o)=es'∧closedAll es'=true)∧True)∧Nx))) (yz1 C L M N Q T es i k o)):=by kernel_rfl
theorem ra_d7f (nm ch st:List UInt8) (se:Bool) (k k':Nat) (i j:Int) (T O es es':List AV) (o:Ob) (M N L C:AV) (Nx:Prop) (Q:AExit→St→Prop):wpK Tryz.prog opts0 40 (raAd (rrD nm ch st se 7) false) (lpCode Tryz.prog 45 17) (yz13 C L M N T es i k o).st (roundP 0 [(0,0),(1,1),(2,2)] (yz19 O T es' j k') Nx [(0,0),(1,1),(2,2)] (yz13 C L M N T es i k o) Q)=
  (mtB (ltInt i (Int.ofNat (lenN T))) (indexAddrA Tryz.prog 140 (AV.fsl true T) (I i)=some (yz29 ch nm st se)∧indexAddrA Tryz.prog 140 (AV.fsl true T) (I i)=some (yz29 ch nm st se)∧partA Tryz.prog 4 (obF o M N L C) 21=some (AV.bool false)∧(((yz11 T)∧(I (wrapA IntKind.i64 (i+1))=I j∧closedA (I j)=true)∧True)∧yz7∧(yz17 C L M N O o)∧(yz16 k k')∧(yz45 es es')∧True)∧Nx) (yz1 C L M N Q T es i k o)):=by kernel_rfl
abbrev yz30 (ch nm st:List UInt8) (se:Bool):=(AV.fptr [AV.str nm,I 9,AV.bool false,AV.bool se,AV.str ch,AV.str st,I 8] 0)
abbrev yz42 (nm:List UInt8) (o:Ob):=[AV.agg [AV.str nm,I 0,I 4325387,I 9,I o.d8.2,AV.nilsl,AV.nilsl]]
theorem ra_d8t (nm ch st:List UInt8) (se:Bool) (k k':Nat) (i j:Int) (T O es es':List AV) (o:Ob) (M N L C:AV) (Nx:Prop) (Q:AExit→St→Prop):wpK Tryz.prog opts0 40 (raAd (rrD nm ch st se 8) true) (lpCode Tryz.prog 45 17) (yz13 C L M N T es i k o).st (roundP 0 [(0,0),(1,1),(2,58)] (yz19 O T es' j k') Nx [(0,0),(1,1),(2,2)] (yz13 C L M N T es i k o) Q)=
  (mtB (ltInt i (Int.ofNat (lenN T))) (indexAddrA Tryz.prog 140 (AV.fsl true T) (I i)=some (yz30 ch nm st se)∧indexAddrA Tryz.prog 140 (AV.fsl true T) (I i)=some (yz30 ch nm st se)∧partA Tryz.prog 4 (obF o M N L C) 23=some (AV.bool true)∧indexAddrA Tryz.prog 140 (AV.fsl true T) (I i)=some (yz30 ch nm st se)∧indexAddrA Tryz.prog 140 (AV.fsl true T) (I i)=some (yz30 ch nm st se)∧oblB (allSize 7 (yz42 nm o)&&(((k+lenN (yz42 nm o))*96).ble 140737488355328&&(allOne (flat (yz42 nm o))&&true))) (oblB ((lenN es).beq (k*7)) ((((yz11 T)∧(I (wrapA IntKind.i64 (i+1))=I j∧closedA (I j)=true)∧True)∧yz7∧(yz17 C L M N O o)∧((true=true∧some 58=some 58∧0=0∧k'=k+lenN (yz42 nm o)∧7=7)∧True)∧(es++flat (yz42 nm o)=es'∧closedAll es'=true)∧True)∧Nx))) (yz1 C L M N Q T es i k o)):=by kernel_rfl
theorem ra_d8f (nm ch st:List UInt8) (se:Bool) (k k':Nat) (i j:Int) (T O es es':List AV) (o:Ob) (M N L C:AV) (Nx:Prop) (Q:AExit→St→Prop):wpK Tryz.prog opts0 40 (raAd (rrD nm ch st se 8) false) (lpCode Tryz.prog 45 17) (yz13 C L M N T es i k o).st (roundP 0 [(0,0),(1,1),(2,2)] (yz19 O T es' j k') Nx [(0,0),(1,1),(2,2)] (yz13 C L M N T es i k o) Q)=
  (mtB (ltInt i (Int.ofNat (lenN T))) (indexAddrA Tryz.prog 140 (AV.fsl true T) (I i)=some (yz30 ch nm st se)∧indexAddrA Tryz.prog 140 (AV.fsl true T) (I i)=some (yz30 ch nm st se)∧partA Tryz.prog 4 (obF o M N L C) 23=some (AV.bool false)∧(((yz11 T)∧(I (wrapA IntKind.i64 (i+1))=I j∧closedA (I j)=true)∧True)∧yz7∧(yz17 C L M N O o)∧(yz16 k k')∧(yz45 es es')∧True)∧Nx) (yz1 C L M N Q T es i k o)):=by kernel_rfl
abbrev yz31 (ch nm st:List UInt8) (se:Bool):=(AV.fptr [AV.str nm,I 9,AV.bool false,AV.bool se,AV.str ch,AV.str st,I 9] 0)
abbrev yz43 (nm:List UInt8) (o:Ob):=[AV.agg [AV.str nm,I 0,I 4325387,I 9,I o.d9.2,AV.nilsl,AV.nilsl]]
theorem ra_d9t (nm ch st:List UInt8) (se:Bool) (k k':Nat) (i j:Int) (T O es es':List AV) (o:Ob) (M N L C:AV) (Nx:Prop) (Q:AExit→St→Prop):wpK Tryz.prog opts0 40 (raAd (rrD nm ch st se 9) true) (lpCode Tryz.prog 45 17) (yz13 C L M N T es i k o).st (roundP 0 [(0,0),(1,1),(2,58)] (yz19 O T es' j k') Nx [(0,0),(1,1),(2,2)] (yz13 C L M N T es i k o) Q)=
  (mtB (ltInt i (Int.ofNat (lenN T))) (indexAddrA Tryz.prog 140 (AV.fsl true T) (I i)=some (yz31 ch nm st se)∧indexAddrA Tryz.prog 140 (AV.fsl true T) (I i)=some (yz31 ch nm st se)∧partA Tryz.prog 4 (obF o M N L C) 25=some (AV.bool true)∧indexAddrA Tryz.prog 140 (AV.fsl true T) (I i)=some (yz31 ch nm st se)∧indexAddrA Tryz.prog 140 (AV.fsl true T) (I i)=some (yz31 ch nm st se)∧oblB (allSize 7 (yz43 nm o)&&(((k+lenN (yz43 nm o))*96).ble 140737488355328&&(allOne (flat (yz43 nm o))&&true))) (oblB ((lenN es).beq (k*7)) ((((yz11 T)∧(I (wrapA IntKind.i64 (i+1))=I j∧closedA (I j)=true)∧True)∧yz7∧(yz17 C L M N O o)∧((true=true∧some 58=some 58∧0=0∧k'=k+lenN (yz43 nm o)∧7=7)∧True)∧(es++flat (yz43 nm o)=es'∧closedAll es'=true)∧True)∧Nx))) (yz1 C L M N Q T es i k o)):=by kernel_rfl
theorem ra_d9f (nm ch st:List UInt8) (se:Bool) (k k':Nat) (i j:Int) (T O es es':List AV) (o:Ob) (M N L C:AV) (Nx:Prop) (Q:AExit→St→Prop):wpK Tryz.prog opts0 40 (raAd (rrD nm ch st se 9) false) (lpCode Tryz.prog 45 17) (yz13 C L M N T es i k o).st (roundP 0 [(0,0),(1,1),(2,2)] (yz19 O T es' j k') Nx [(0,0),(1,1),(2,2)] (yz13 C L M N T es i k o) Q)=
  (mtB (ltInt i (Int.ofNat (lenN T))) (indexAddrA Tryz.prog 140 (AV.fsl true T) (I i)=some (yz31 ch nm st se)∧indexAddrA Tryz.prog 140 (AV.fsl true T) (I i)=some (yz31 ch nm st se)∧partA Tryz.prog 4 (obF o M N L C) 25=some (AV.bool false)∧(((yz11 T)∧(I (wrapA IntKind.i64 (i+1))=I j∧closedA (I j)=true)∧True)∧yz7∧(yz17 C L M N O o)∧(yz16 k k')∧(yz45 es es')∧True)∧Nx) (yz1 C L M N Q T es i k o)):=by kernel_rfl
theorem ra_dn (nm ch st:List UInt8) (ty:Int) (ma se:Bool) (k k':Nat) (i j:Int) (T O es es':List AV) (o:Ob) (M N L C:AV) (Nx:Prop) (Q:AExit→St→Prop):wpK Tryz.prog opts0 40 (raAd [.str nm,I ty,.bool ma,.bool se,.str ch,.str st,I (-1)] false) (lpCode Tryz.prog 45 17) (yz13 C L M N T es i k o).st (roundP 0 [(0,0),(1,1),(2,2)] (yz19 O T es' j k') Nx [(0,0),(1,1),(2,2)] (yz13 C L M N T es i k o) Q)=
  (mtB (ltInt i (Int.ofNat (lenN T))) (indexAddrA Tryz.prog 140 (AV.fsl true T) (I i)=some (AV.fptr [AV.str nm,I ty,AV.bool ma,AV.bool se,AV.str ch,AV.str st,I (Int.negSucc 0)] 0)∧(((yz11 T)∧(I (wrapA IntKind.i64 (i+1))=I j∧closedA (I j)=true)∧True)∧yz7∧(yz17 C L M N O o)∧(yz16 k k')∧(yz45 es es')∧True)∧Nx) (yz1 C L M N Q T es i k o)):=by kernel_rfl
def raAl (ty:Int) (id:List UInt8):Aid:=aidJ [(28,5,.res (.fptr [I ty,.str id] 0)),(28,12,.res (.fptr [I ty,.str id] 0))] [] noSem raI raJ
abbrev yz15 (i ty:Int) (id:List UInt8):=[AV.agg [AV.str [76,105,110,107],I i,I 4325387,I 1,I 0,AV.nilsl,AV.fsl true [AV.agg [I 4325451,I 5,I ty,AV.nilsl,AV.nilsl],AV.agg [I 4325452,I 7,I 0,AV.fsl false (toBytes id),AV.nilsl]]]]
theorem ra_l (ty:Int) (id:List UInt8) (k k':Nat) (i j:Int) (Ls O es es':List AV) (o:Ob) (M N C:AV) (Nx:Prop) (Q:AExit→St→Prop):wpK Tryz.prog opts0 40 (raAl ty id) (lpCode Tryz.prog 45 27) (raV [(8,I i)] k (obF o M N (.fsl false Ls) C) es).st (roundP 0 [(0,0),(1,1),(2,50)] (raV [(8,I j)] k' O es') Nx [(0,0),(1,1),(2,2)] (raV [(8,I i)] k (obF o M N (.fsl false Ls) C) es) Q)=
  (mtB (ltInt i (Int.ofNat (lenN Ls))) (indexAddrA Tryz.prog 28 (AV.fsl false Ls) (I i)=some (AV.fptr [I ty,AV.str id] 0)∧indexAddrA Tryz.prog 28 (AV.fsl false Ls) (I i)=some (AV.fptr [I ty,AV.str id] 0)∧oblB (allSize 7 (yz15 i ty id)&&(((k+lenN (yz15 i ty id))*96).ble 140737488355328&&(allOne (flat (yz15 i ty id))&&true))) (oblB ((lenN es).beq (k*7)) ((((I (wrapA IntKind.i64 (i+1))=I j∧closedA (I j)=true)∧True)∧yz7∧((obF o M N (AV.fsl false Ls) C)=O∧closedAll O=true)∧((true=true∧some 50=some 50∧0=0∧k'=k+lenN (yz15 i ty id)∧7=7)∧True)∧(es++flat (yz15 i ty id)=es'∧closedAll es'=true)∧True)∧Nx))) ((((yz46 i)∧True)∧yz7∧((obF o M N (AV.fsl false Ls) C)=(obF o M N (AV.fsl false Ls) C)∧closedAll (obF o M N (AV.fsl false Ls) C)=true)∧(yz18 k)∧(yz49 es)∧True)∧Q (AExit.exit 4) (raV [(8,I i)] k (obF o M N (AV.fsl false Ls) C) es).st)):=by kernel_rfl
def raAm (n t n' t':List UInt8):Aid:=aidJ [(38,3,.res (.fptr [.str n,.str t] 0)),(38,9,.res (.fptr [.str n',.str t'] 0))] [] noSem raI raJ
@[simp] abbrev yz47 (Cs:List AV) (L M N:AV) (o:Ob):=((obF o M N L (AV.fsl false Cs))=(obF o M N L (AV.fsl false Cs))∧closedAll (obF o M N L (AV.fsl false Cs))=true)
theorem ra_m (n t n' t':List UInt8) (c c':Int) (k:Nat) (i j j':Int) (Cs O es:List AV) (o:Ob) (M N L:AV) (Nx:Prop) (Q:AExit→St→Prop):wpK Tryz.prog opts0 40 (raAm n t n' t') (lpCode Tryz.prog 45 37) (raV [(9,I i),(10,I c),(11,I j)] k (obF o M N L (.fsl false Cs)) es).st (roundP 0 [(0,0),(1,1),(2,2)] (raV [(9,I i),(10,I c'),(11,I j')] k O es) Nx [(0,0),(1,1),(2,2)] (raV [(9,I i),(10,I c),(11,I j)] k (obF o M N L (.fsl false Cs)) es) Q)=
  (mtB (ltInt j i) (indexAddrA Tryz.prog 29 (AV.fsl false Cs) (I j)=some (AV.fptr [AV.str n,AV.str t] 0)∧indexAddrA Tryz.prog 29 (AV.fsl false Cs) (I i)=some (AV.fptr [AV.str n',AV.str t'] 0)∧mtB (beqBytes n n') ((((yz46 i)∧(I (wrapA IntKind.i64 (c+1))=I c'∧closedA (I c')=true)∧(I (wrapA IntKind.i64 (j+1))=I j'∧closedA (I j')=true)∧True)∧yz7∧((obF o M N L (AV.fsl false Cs))=O∧closedAll O=true)∧(yz18 k)∧(yz49 es)∧True)∧Nx) ((((yz46 i)∧(I c=I c'∧closedA (I c')=true)∧(I (wrapA IntKind.i64 (j+1))=I j'∧closedA (I j')=true)∧True)∧yz7∧((obF o M N L (AV.fsl false Cs))=O∧closedAll O=true)∧(yz18 k)∧(yz49 es)∧True)∧Nx)) ((((yz46 i)∧(I c=I c∧closedA (I c)=true)∧(I j=I j∧closedA (I j)=true)∧True)∧yz7∧(yz47 Cs L M N o)∧(yz18 k)∧(yz49 es)∧True)∧Q (AExit.exit 8) (raV [(9,I i),(10,I c),(11,I j)] k (obF o M N L (AV.fsl false Cs)) es).st)):=by kernel_rfl
def raLm (p:Prop) (i c:Int) (k:Nat) (O es:List AV):LoopS:=fun st Q=>p∧seesK 0 [(0,0),(1,1),(2,2)] (raV [(9,I i),(10,I 0),(11,I 0)] k O es) st∧Q (.exit 8) (raV [(9,I i),(10,I c),(11,I i)] k O es).st
def raAc (p:Prop) (n t:List UInt8) (i c:Int) (k:Nat) (O es:List AV):Aid:=aidJ [(40,4,.res (.fptr [.str n,.str t] 0)),(40,11,.res (.fptr [.str n,.str t] 0))] [(37,raLm p i c k O es)] noSem raI raJ
@[simp] abbrev yz32:=(I 0=I 0∧true=true)
abbrev yz33 (c:Int) (n t:List UInt8):=[AV.agg [AV.str n,I c,I 4325387,I 7,I 0,AV.fsl false (toBytes t),AV.nilsl]]
theorem ra_c (p:Prop) (n t:List UInt8) (c:Int) (k k':Nat) (i j:Int) (Cs O es es':List AV) (o:Ob) (M N L:AV) (Nx:Prop) (Q:AExit→St→Prop):wpK Tryz.prog opts0 40 (raAc p n t i c k (obF o M N L (.fsl false Cs)) es) (lpCode Tryz.prog 45 33) (raV [(9,I i)] k (obF o M N L (.fsl false Cs)) es).st (roundP 0 [(0,0),(1,1),(2,36)] (raV [(9,I j)] k' O es') Nx [(0,0),(1,1),(2,2)] (raV [(9,I i)] k (obF o M N L (.fsl false Cs)) es) Q)=
  (mtB (ltInt i (Int.ofNat (lenN Cs))) (p∧(((yz46 i)∧yz32∧yz32∧True)∧yz7∧(yz47 Cs L M N o)∧(yz18 k)∧(yz49 es)∧True)∧indexAddrA Tryz.prog 29 (AV.fsl false Cs) (I i)=some (AV.fptr [AV.str n,AV.str t] 0)∧indexAddrA Tryz.prog 29 (AV.fsl false Cs) (I i)=some (AV.fptr [AV.str n,AV.str t] 0)∧oblB (allSize 7 (yz33 c n t)&&(((k+lenN (yz33 c n t))*96).ble 140737488355328&&(allOne (flat (yz33 c n t))&&true))) (oblB ((lenN es).beq (k*7)) ((((I (wrapA IntKind.i64 (i+1))=I j∧closedA (I j)=true)∧True)∧yz7∧((obF o M N L (AV.fsl false Cs))=O∧closedAll O=true)∧((true=true∧some 36=some 36∧0=0∧k'=k+lenN (yz33 c n t)∧7=7)∧True)∧(es++flat (yz33 c n t)=es'∧closedAll es'=true)∧True)∧Nx))) ((((yz46 i)∧True)∧yz7∧(yz47 Cs L M N o)∧(yz18 k)∧(yz49 es)∧True)∧Q (AExit.exit 6) (raV [(9,I i)] k (obF o M N L (AV.fsl false Cs)) es).st)):=by kernel_rfl
def rowId (h:Heap) (b:Nat):Nat:=match hget h b with
 |some (.cells (.rsl _ id _ _ _::_))=>id
 |_=>0
def raLn (e:Int) (k k':Nat) (O es es':List AV):LoopS:=fun st Q=>seesK 0 [(0,0),(1,3),(2,rowId st.heap 3)] (raV [(4,I 0)] k O es) st∧Q (.exit 0) (raV [(4,I e)] k' O es').st
def raLd (T:List AV) (k k':Nat) (O es es':List AV):LoopS:=fun st Q=>seesK 0 [(0,0),(1,1),(2,rowId st.heap 1)] (raV [(5,.fsl true T),(6,I 0)] k O es) st∧Q (.exit 2) (raV [(5,.fsl true T),(6,I 20)] k' O es').st
def raLl (e:Int) (k k':Nat) (O es es':List AV):LoopS:=fun st Q=>seesK 0 [(0,0),(1,1),(2,rowId st.heap 1)] (raV [(8,I 0)] k O es) st∧Q (.exit 4) (raV [(8,I e)] k' O es').st
def raLc (e:Int) (k k':Nat) (O es es':List AV):LoopS:=fun st Q=>seesK 0 [(0,0),(1,1),(2,rowId st.heap 1)] (raV [(9,I 0)] k O es) st∧Q (.exit 6) (raV [(9,I e)] k' O es').st
def raVw (k:Nat) (O es:List AV) (kk:AV):View:=⟨[],[(1,.ptr 0 0),(3,.ptr 1 0),(7,.ptr 11 0)],[(0,.cells O,.whole),(1,.cells [.rsl true 2 0 k 7],.each),(2,.cells es,.whole),(11,.cells [I 4325387,I 1,I 0,.nilsl,kk],.whole)],60,221⟩
abbrev yz2 (o:Ob):=[AV.agg [AV.str [67,114,121,112,116,111,103,114,97,112,104,105,99,32,85,115,97,103,101,32,77,97,115,107],I 0,I 4325387,I 2,I o.5,AV.nilsl,AV.nilsl]]
abbrev yz3 (o:Ob):=[AV.agg [AV.str [79,98,106,101,99,116,32,84,121,112,101],I 0,I 4325387,I 5,I o.2,AV.nilsl,AV.nilsl]]
abbrev yz20 (Cs Ls Ns:List AV) (M:AV) (o:Ob):=(obF o M (AV.fsl false Ns) (AV.fsl false Ls) (AV.fsl false Cs))
abbrev yz44 (o:Ob):=[I 4325506,I 5,I o.18,AV.nilsl,AV.nilsl]
abbrev yz50 (o:Ob):=[I 4325504,I 7,I 0,AV.fsl false (toBytes o.19),AV.nilsl]
abbrev yz53 (o:Ob):=[I 4325387,I 1,I 0,AV.nilsl,AV.rsl true 28 0 (lenN [AV.agg (yz44 o)]+lenN [AV.agg (yz50 o)]) 5]
abbrev yz4 (Cs E3 Ls Ns:List AV) (K3:Nat) (M:AV) (o:Ob):=[(31,some (Blk.cells (yz50 o))),(28,some (Blk.cells (flat [AV.agg (yz44 o)]++flat [AV.agg (yz50 o)]))),(13,some (Blk.cells (yz44 o))),(11,some (Blk.cells (yz53 o))),(0,some (Blk.cells (yz20 Cs Ls Ns M o))),(1,some (Blk.cells [AV.rsl true 2 0 K3 7])),(2,some (Blk.cells E3))]
abbrev yz5 (o:Ob):=[AV.agg [AV.str [67,114,121,112,116,111,103,114,97,112,104,105,99,32,65,108,103,111,114,105,116,104,109],I 0,I 4325387,I 5,I o.3,AV.nilsl,AV.nilsl]]
abbrev yz6 (o:Ob):=[AV.agg [AV.str [67,114,121,112,116,111,103,114,97,112,104,105,99,32,76,101,110,103,116,104],I 0,I 4325387,I 2,I o.4,AV.nilsl,AV.nilsl]]
abbrev yz8 (Cs E3 Ls Ns:List AV) (K3:Nat) (M:AV) (o:Ob):=[(13,some (Blk.cells (yz44 o))),(11,some (Blk.cells [I 4325387,I 1,I 0,AV.nilsl,AV.fsl true [AV.agg (yz44 o)]])),(0,some (Blk.cells (yz20 Cs Ls Ns M o))),(1,some (Blk.cells [AV.rsl true 2 0 K3 7])),(2,some (Blk.cells E3))]
@[simp] abbrev yz9 (Cs Ls Ns:List AV) (M:AV) (o:Ob):=((yz20 Cs Ls Ns M o)=(yz20 Cs Ls Ns M o)∧closedAll (yz20 Cs Ls Ns M o)=true)
abbrev yz10 (o:Ob):=[AV.agg [AV.str [83,116,97,116,101],I 0,I 4325387,I 5,I o.7,AV.nilsl,AV.nilsl]]
abbrev yz12 (kk:AV):=[AV.agg [AV.str [82,101,118,111,99,97,116,105,111,110,32,82,101,97,115,111,110],I 0,I 4325387,I 1,I 0,AV.nilsl,kk]]
abbrev yz14 (o:Ob):=[AV.agg [AV.str [85,115,97,103,101,32,76,105,109,105,116,115],I 0,I 4325387,I 1,I 0,AV.nilsl,AV.fsl true [AV.agg [I 4325527,I 3,I o.24,AV.nilsl,AV.nilsl],AV.agg [I 4325526,I 3,I o.25,AV.nilsl,AV.nilsl],AV.agg [I 4325528,I 5,I o.26,AV.nilsl,AV.nilsl]]]]
abbrev yz48 (o:Ob):=[AV.agg [AV.str [85,110,105,113,117,101,32,73,100,101,110,116,105,102,105,101,114],I 0,I 4325387,I 7,I 0,AV.fsl false (toBytes o.1),AV.nilsl]]
abbrev yz51 (Cs Ls Ns:List AV) (M:AV) (o:Ob):=(obF o M (.fsl false Ns) (.fsl false Ls) (.fsl false Cs))
@[simp] abbrev yz52 (Cs E3 E4 Ls Ns:List AV) (K3 K4:Nat) (M kk:AV) (o:Ob):=((yz32∧True)∧yz7∧(yz9 Cs Ls Ns M o)∧((true=true∧some 74=some 74∧0=0∧K4=K3+lenN (yz12 kk)∧7=7)∧True)∧(E3++flat (yz12 kk)=E4∧closedAll E4=true)∧True)
abbrev yz54 (kk:AV):=[I 4325387,I 1,I 0,AV.nilsl,kk]
theorem ra_fn (kk:AV) (T Ns Ls Cs E0 E1 E2 E3 E4 E5 E6 E7:List AV) (K0 K1 K2 K3 K4 K5 K6 K7:Nat) (a b c:Int) (o:Ob) (M:AV) (Q:AV→Heap→Prop):fnK Tryz.prog opts0 40 (aidC (aidJ [] [(5,raLn a K0 K1 (yz51 Cs Ls Ns M o) E0 E1),(17,raLd T K2 K3 (yz51 Cs Ls Ns M o) E2 E3),(27,raLl b K4 K5 (yz51 Cs Ls Ns M o) E4 E5),(33,raLc c K6 K7 (yz51 Cs Ls Ns M o) E6 E7)] (manyS [(95,.fsl true T)]) raI raJ) 24 20 (raVw K3 (yz51 Cs Ls Ns M o) E3 kk)) 45 [.agg (yz51 Cs Ls Ns M o)] [] 0 (fun v H _=>Q v H)=
  (let R1:Prop:=mtB o.23 (oblB (allSize 7 (yz14 o)&&(((K5+lenN (yz14 o))*96).ble 140737488355328&&(allOne (flat (yz14 o))&&true))) (oblB ((lenN E5).beq (K5*7)) (((yz32∧True)∧yz7∧(yz9 Cs Ls Ns M o)∧((true=true∧some 51=some 51∧0=0∧K6=K5+lenN (yz14 o)∧7=7)∧True)∧(E5++flat (yz14 o)=E6∧closedAll E6=true)∧True)∧Q (AV.rsl true 2 0 K7 7) [(0,some (Blk.cells (yz20 Cs Ls Ns M o))),(1,some (Blk.cells [AV.rsl true 2 0 K7 7])),(2,some (Blk.cells E7))]))) (((yz32∧True)∧yz7∧(yz9 Cs Ls Ns M o)∧((true=true∧some 2=some 2∧0=0∧K6=K5∧7=7)∧True)∧(E5=E6∧closedAll E6=true)∧True)∧Q (AV.rsl true 2 0 K7 7) [(0,some (Blk.cells (yz20 Cs Ls Ns M o))),(1,some (Blk.cells [AV.rsl true 2 0 K7 7])),(2,some (Blk.cells E7))]);let R2:Prop:=mtB (!beqBytes o.19 []) (((Frz 20 (yz4 Cs E3 Ls Ns K3 M o) (AV.ptr 0 0) (AV.ptr 0 0)∧Frz 20 (yz4 Cs E3 Ls Ns K3 M o) (AV.ptr 1 0) (AV.ptr 1 0)∧Frz 20 (yz4 Cs E3 Ls Ns K3 M o) (AV.ptr 11 0) (AV.ptr 11 0)∧True)∧FrzL 20 (yz4 Cs E3 Ls Ns K3 M o) (yz20 Cs Ls Ns M o) (yz20 Cs Ls Ns M o)∧FrzL 20 (yz4 Cs E3 Ls Ns K3 M o) [AV.rsl true 2 0 K3 7] [AV.rsl true 2 0 K3 7]∧FrzL 20 (yz4 Cs E3 Ls Ns K3 M o) E3 E3∧FrzL 20 (yz4 Cs E3 Ls Ns K3 M o) (yz53 o) (yz54 kk)∧True)∧oblB (fitsT Tryz.prog 37 (AV.agg (yz54 kk)) 5&&true) (oblB (allSize 7 (yz12 kk)&&(((K3+lenN (yz12 kk))*96).ble 140737488355328&&(allOne (flat (yz12 kk))&&true))) (oblB ((lenN E3).beq (K3*7)) ((yz52 Cs E3 E4 Ls Ns K3 K4 M kk o)∧R1)))) (((Frz 20 (yz8 Cs E3 Ls Ns K3 M o) (AV.ptr 0 0) (AV.ptr 0 0)∧Frz 20 (yz8 Cs E3 Ls Ns K3 M o) (AV.ptr 1 0) (AV.ptr 1 0)∧Frz 20 (yz8 Cs E3 Ls Ns K3 M o) (AV.ptr 11 0) (AV.ptr 11 0)∧True)∧FrzL 20 (yz8 Cs E3 Ls Ns K3 M o) (yz20 Cs Ls Ns M o) (yz20 Cs Ls Ns M o)∧FrzL 20 (yz8 Cs E3 Ls Ns K3 M o) [AV.rsl true 2 0 K3 7] [AV.rsl true 2 0 K3 7]∧FrzL 20 (yz8 Cs E3 Ls Ns K3 M o) E3 E3∧FrzL 20 (yz8 Cs E3 Ls Ns K3 M o) [I 4325387,I 1,I 0,AV.nilsl,AV.fsl true [AV.agg (yz44 o)]] (yz54 kk)∧True)∧oblB (fitsT Tryz.prog 37 (AV.agg (yz54 kk)) 5&&true) (oblB (allSize 7 (yz12 kk)&&(((K3+lenN (yz12 kk))*96).ble 140737488355328&&(allOne (flat (yz12 kk))&&true))) (oblB ((lenN E3).beq (K3*7)) ((yz52 Cs E3 E4 Ls Ns K3 K4 M kk o)∧R1))));let R3:Prop:=mtB (!beqInt o.18 0) (R2) (((yz32∧True)∧yz7∧(yz9 Cs Ls Ns M o)∧((true=true∧some 2=some 2∧0=0∧K4=K3∧7=7)∧True)∧(E3=E4∧closedAll E4=true)∧True)∧R1);(((yz32∧True)∧((some 0=some 0∧0=0)∧(some 3=some 3∧0=0)∧True)∧(yz9 Cs Ls Ns M o)∧((true=true∧some 27=some 27∧0=0∧K0=lenN (yz48 o)∧7=7)∧True)∧(flat (yz48 o)=E0∧closedAll E0=true)∧True)∧oblB (allSize 7 (yz3 o)&&(((K1+lenN (yz3 o))*96).ble 140737488355328&&(allOne (flat (yz3 o))&&true))) (oblB ((lenN E1).beq (K1*7)) (mtB (!beqInt o.3 0) (oblB (allSize 7 (yz5 o)&&(((K1+lenN (yz3 o)+lenN (yz5 o))*96).ble 140737488355328&&(allOne (flat (yz5 o))&&true))) (oblB ((lenN (E1++flat (yz3 o))).beq ((K1+lenN (yz3 o))*7)) (mtB (!beqInt o.4 0) (oblB (allSize 7 (yz6 o)&&(((K1+lenN (yz3 o)+lenN (yz5 o)+lenN (yz6 o))*96).ble 140737488355328&&(allOne (flat (yz6 o))&&true))) (oblB ((lenN (E1++flat (yz3 o)++flat (yz5 o))).beq ((K1+lenN (yz3 o)+lenN (yz5 o))*7)) (oblB (allSize 7 (yz2 o)&&(((K1+lenN (yz3 o)+lenN (yz5 o)+lenN (yz6 o)+lenN (yz2 o))*96).ble 140737488355328&&(allOne (flat (yz2 o))&&true))) (oblB ((lenN (E1++flat (yz3 o)++flat (yz5 o)++flat (yz6 o))).beq ((K1+lenN (yz3 o)+lenN (yz5 o)+lenN (yz6 o))*7)) (oblB (allSize 7 (yz10 o)&&(((K1+lenN (yz3 o)+lenN (yz5 o)+lenN (yz6 o)+lenN (yz2 o)+lenN (yz10 o))*96).ble 140737488355328&&(allOne (flat (yz10 o))&&true))) (oblB ((lenN (E1++flat (yz3 o)++flat (yz5 o)++flat (yz6 o)++flat (yz2 o))).beq ((K1+lenN (yz3 o)+lenN (yz5 o)+lenN (yz6 o)+lenN (yz2 o))*7)) (SC 95 [] (AV.fsl true T)∧(((yz11 T)∧yz32∧True)∧yz7∧(yz9 Cs Ls Ns M o)∧((true=true∧some 135=some 135∧0=0∧K2=K1+lenN (yz3 o)+lenN (yz5 o)+lenN (yz6 o)+lenN (yz2 o)+lenN (yz10 o)∧7=7)∧True)∧(E1++flat (yz3 o)++flat (yz5 o)++flat (yz6 o)++flat (yz2 o)++flat (yz10 o)=E2∧closedAll E2=true)∧True)∧R3))))))) (oblB (allSize 7 (yz2 o)&&(((K1+lenN (yz3 o)+lenN (yz5 o)+lenN (yz2 o))*96).ble 140737488355328&&(allOne (flat (yz2 o))&&true))) (oblB ((lenN (E1++flat (yz3 o)++flat (yz5 o))).beq ((K1+lenN (yz3 o)+lenN (yz5 o))*7)) (oblB (allSize 7 (yz10 o)&&(((K1+lenN (yz3 o)+lenN (yz5 o)+lenN (yz2 o)+lenN (yz10 o))*96).ble 140737488355328&&(allOne (flat (yz10 o))&&true))) (oblB ((lenN (E1++flat (yz3 o)++flat (yz5 o)++flat (yz2 o))).beq ((K1+lenN (yz3 o)+lenN (yz5 o)+lenN (yz2 o))*7)) (SC 95 [] (AV.fsl true T)∧(((yz11 T)∧yz32∧True)∧yz7∧(yz9 Cs Ls Ns M o)∧((true=true∧some 109=some 109∧0=0∧K2=K1+lenN (yz3 o)+lenN (yz5 o)+lenN (yz2 o)+lenN (yz10 o)∧7=7)∧True)∧(E1++flat (yz3 o)++flat (yz5 o)++flat (yz2 o)++flat (yz10 o)=E2∧closedAll E2=true)∧True)∧R3)))))))) (mtB (!beqInt o.4 0) (oblB (allSize 7 (yz6 o)&&(((K1+lenN (yz3 o)+lenN (yz6 o))*96).ble 140737488355328&&(allOne (flat (yz6 o))&&true))) (oblB ((lenN (E1++flat (yz3 o))).beq ((K1+lenN (yz3 o))*7)) (oblB (allSize 7 (yz2 o)&&(((K1+lenN (yz3 o)+lenN (yz6 o)+lenN (yz2 o))*96).ble 140737488355328&&(allOne (flat (yz2 o))&&true))) (oblB ((lenN (E1++flat (yz3 o)++flat (yz6 o))).beq ((K1+lenN (yz3 o)+lenN (yz6 o))*7)) (oblB (allSize 7 (yz10 o)&&(((K1+lenN (yz3 o)+lenN (yz6 o)+lenN (yz2 o)+lenN (yz10 o))*96).ble 140737488355328&&(allOne (flat (yz10 o))&&true))) (oblB ((lenN (E1++flat (yz3 o)++flat (yz6 o)++flat (yz2 o))).beq ((K1+lenN (yz3 o)+lenN (yz6 o)+lenN (yz2 o))*7)) (SC 95 [] (AV.fsl true T)∧(((yz11 T)∧yz32∧True)∧yz7∧(yz9 Cs Ls Ns M o)∧((true=true∧some 109=some 109∧0=0∧K2=K1+lenN (yz3 o)+lenN (yz6 o)+lenN (yz2 o)+lenN (yz10 o)∧7=7)∧True)∧(E1++flat (yz3 o)++flat (yz6 o)++flat (yz2 o)++flat (yz10 o)=E2∧closedAll E2=true)∧True)∧R3))))))) (oblB (allSize 7 (yz2 o)&&(((K1+lenN (yz3 o)+lenN (yz2 o))*96).ble 140737488355328&&(allOne (flat (yz2 o))&&true))) (oblB ((lenN (E1++flat (yz3 o))).beq ((K1+lenN (yz3 o))*7)) (oblB (allSize 7 (yz10 o)&&(((K1+lenN (yz3 o)+lenN (yz2 o)+lenN (yz10 o))*96).ble 140737488355328&&(allOne (flat (yz10 o))&&true))) (oblB ((lenN (E1++flat (yz3 o)++flat (yz2 o))).beq ((K1+lenN (yz3 o)+lenN (yz2 o))*7)) (SC 95 [] (AV.fsl true T)∧(((yz11 T)∧yz32∧True)∧yz7∧(yz9 Cs Ls Ns M o)∧((true=true∧some 83=some 83∧0=0∧K2=K1+lenN (yz3 o)+lenN (yz2 o)+lenN (yz10 o)∧7=7)∧True)∧(E1++flat (yz3 o)++flat (yz2 o)++flat (yz10 o)=E2∧closedAll E2=true)∧True)∧R3)))))))))):=by kernel_rfl
end
theorem lss_eq (x y:Operand) (a b:Int):binA Tryz.prog .lss 3 x y (I a) (I b)=some (.bool (ltInt a b)):=by kernel_rfl
theorem lss_t {x y:Operand} {a b:Int} (h:a<b):binA Tryz.prog .lss 3 x y (I a) (I b)=some (.bool true):=by rw[lss_eq,ltInt_iff.2 h]
theorem lss_f {x y:Operand} {a b:Int} (h:b≤a):binA Tryz.prog .lss 3 x y (I a) (I b)=some (.bool false):=by rw[lss_eq,ltInt_false.2 h]
theorem closed_rws:∀l:List Rw,closedAll (l.map rwA)=true
 |[]=>rfl
 |_::r=>closed_rws r
def msL:List (List UInt8):=[[],[109],[108,111,115,116]]
def nmL:List (List UInt8):=[[111,110,101],[116,119,111],[116,104,114,101,101],[102,111,117,114],[102,105,118,101]]
def cnL:List (List UInt8):=[[120,45,97],[120,45,98]]
def ctL:List (List UInt8):=[[111,110,101],[116,119,111],[116,104,114,101,101],[102,111,117,114]]
structure OxZ (o:Ob):Prop where
 d:∀k,(dateAt o k).has=false→(dateAt o k).t=0
 l:o.lh=false→o.lt=0∧o.lc=0∧o.lu=0
theorem date_or (o:Ob) (x:Dt) (d k:Nat):dateAt (setDate o x d) k=x∨dateAt (setDate o x d) k=dateAt o k:=by
 unfold setDate dateAt
 split<;>split<;>simp
theorem OxZ.date {o:Ob} (h:OxZ o) (t:Int) (d:Nat):OxZ (setDate o ⟨true,t⟩ d):=⟨fun k hk=>by
 rcases date_or o ⟨true,t⟩ d k with e|e
 ·rw[e] at hk;cases hk
 ·rw[e] at hk⊢;exact h.d k hk,by
 unfold setDate
 split<;>exact h.l⟩
theorem OxZ.of {o p:Ob} (h:OxZ o) (hd:∀k,dateAt p k=dateAt o k) (hl:p.lh=false→p.lt=0∧p.lc=0∧p.lu=0):OxZ p:=⟨fun k=>by rw[hd];exact h.d k,hl⟩
structure OxI (n:Nat) (o:Ob) (N:List (List UInt8)) (L:List Lk) (C:List Cu):Prop where
 n1:∀s∈N,s∈nmL
 n2:N.Nodup
 l1:L.length≤n
 l2:L.Nodup
 l3:∀x∈L,x.id∈idL
 c1:C.length≤6
 c2:C.Nodup
 c3:∀x∈C,x.name∈cnL∧x.text∈ctL
 id:o.id∈idL
 msg:o.msg∈msL
 dat:o.d0.has=true
 z:OxZ o
theorem nodup_le {α:Type} [DecidableEq α]:∀ (l m:List α),l.Nodup→(∀x∈l,x∈m)→l.length≤m.length
 |[],_,_,_=>Nat.zero_le _
 |a::t,m,h,hs=>by
  have h:=List.nodup_cons.1 h
  have ha:=hs a (by simp)
  have:=nodup_le t (m.erase a) h.2 fun x hx=>(List.mem_erase_of_ne (fun e=>by subst e;exact h.1 hx)).2 (hs x (by simp[hx]))
  rw[List.length_erase_of_mem ha] at this
  have:=List.length_pos_of_mem ha
  simp only[List.length_cons]
  omega
theorem OxI.names {n:Nat} {o:Ob} {N:List (List UInt8)} {L:List Lk} {C:List Cu} (h:OxI n o N L C):N.length≤5:=nodup_le N nmL h.n2 h.n1
theorem OxI.more {n:Nat} {o:Ob} {N:List (List UInt8)} {L:List Lk} {C:List Cu} (h:OxI n o N L C):OxI (n+1) o N L C:=⟨h.n1,h.n2,Nat.le_succ_of_le h.l1,h.l2,h.l3,h.c1,h.c2,h.c3,h.id,h.msg,h.dat,h.z⟩
theorem OxI.date {n:Nat} {o:Ob} {N:List (List UInt8)} {L:List Lk} {C:List Cu} (h:OxI n o N L C) (t:Int):∀d,OxI (n+1) (setDate o ⟨true,t⟩ d) N L C
 |0=>⟨h.n1,h.n2,Nat.le_succ_of_le h.l1,h.l2,h.l3,h.c1,h.c2,h.c3,h.id,h.msg,rfl,h.z.date t 0⟩
 |1=>⟨h.n1,h.n2,Nat.le_succ_of_le h.l1,h.l2,h.l3,h.c1,h.c2,h.c3,h.id,h.msg,h.dat,h.z.date t 1⟩
 |2=>⟨h.n1,h.n2,Nat.le_succ_of_le h.l1,h.l2,h.l3,h.c1,h.c2,h.c3,h.id,h.msg,h.dat,h.z.date t 2⟩
 |3=>⟨h.n1,h.n2,Nat.le_succ_of_le h.l1,h.l2,h.l3,h.c1,h.c2,h.c3,h.id,h.msg,h.dat,h.z.date t 3⟩
 |4=>⟨h.n1,h.n2,Nat.le_succ_of_le h.l1,h.l2,h.l3,h.c1,h.c2,h.c3,h.id,h.msg,h.dat,h.z.date t 4⟩
 |5=>⟨h.n1,h.n2,Nat.le_succ_of_le h.l1,h.l2,h.l3,h.c1,h.c2,h.c3,h.id,h.msg,h.dat,h.z.date t 5⟩
 |6=>⟨h.n1,h.n2,Nat.le_succ_of_le h.l1,h.l2,h.l3,h.c1,h.c2,h.c3,h.id,h.msg,h.dat,h.z.date t 6⟩
 |7=>⟨h.n1,h.n2,Nat.le_succ_of_le h.l1,h.l2,h.l3,h.c1,h.c2,h.c3,h.id,h.msg,h.dat,h.z.date t 7⟩
 |8=>⟨h.n1,h.n2,Nat.le_succ_of_le h.l1,h.l2,h.l3,h.c1,h.c2,h.c3,h.id,h.msg,h.dat,h.z.date t 8⟩
 |9=>⟨h.n1,h.n2,Nat.le_succ_of_le h.l1,h.l2,h.l3,h.c1,h.c2,h.c3,h.id,h.msg,h.dat,h.z.date t 9⟩
 |_+10=>⟨h.n1,h.n2,Nat.le_succ_of_le h.l1,h.l2,h.l3,h.c1,h.c2,h.c3,h.id,h.msg,h.dat,h.z.date t _⟩
def fr (l:List AV):AV:=match l with
 |[]=> .nilsl
 |a::t=> .fsl false (a::t)
theorem frz_ob {H:Heap} {o:Ob} {M N L C N' L' C':AV} (hM:closedA M=true) (hN:Frz 0 H N N') (hL:Frz 0 H L L') (hC:Frz 0 H C C'):Frz 0 H (.agg (obF o M N L C)) (.agg (obF o M N' L' C')):=by
 refine .agg ?_
 simp only[obF]
 repeat (first|exact FrzL.nil|refine FrzL.cons hN ?_|refine FrzL.cons hL ?_|refine FrzL.cons hC ?_|refine FrzL.cons (.closed _ hM) ?_|refine FrzL.cons (.closed _ rfl) ?_)
structure Okay (o:Ob):Prop where
 fit:FitO o
 n:∀s∈o.names,s∈texts
 l:∀x∈o.links,x.id∈texts
 c:∀x∈o.cust,x.text∈texts
 i:o.id∈texts
 m:o.msg.length≤8
theorem texts_short:∀s∈texts,s.length≤8:=by decide
theorem ok_txt {s:List UInt8} (h:s.length≤8):okI big (txt s):=⟨Nat.le_trans h (by decide),by simp[big],trivial⟩
theorem ok_num (y n:Int):okI big (numI y n):=⟨by simp[big],by simp[big],trivial⟩
theorem one_len {b:Bool} {x:It}:(oneL b x).length≤1:=by cases b<;>simp[oneL]
theorem one_mem {b:Bool} {x y:It} (h:y∈oneL b x):y=x:=by
 cases b with
 |true=>simpa [oneL] using h
 |false=>cases h
theorem ok_kids {s:List UInt8} (h:s.length≤8) (a b c n:Int) (l:List It) (hl:l=[prt a b n,.mk c 7 0 s []]):okI big (whl l):=by
 subst hl
 simp[whl,vlV,okI,okIs,prt,big]
 omega
theorem Okay.g {o:Ob} (h:Okay o):∀k,OkG o k:=by
 intro k
 have t:=texts_short
 cases k with
 | uid=>exact ⟨by simp[getK],fun x hx=>by
   simp only[getK,List.mem_singleton] at hx;subst hx;exact ok_txt (t _ h.i)⟩
 | nam=>exact ⟨by have:=h.fit.n;simp only[getK,List.length_map];omega,fun x hx=>by
   obtain ⟨s,hs,rfl⟩:=List.mem_map.1 hx;exact ok_txt (t _ (h.n s hs))⟩
 | typ=>exact ⟨by simp[getK],fun x hx=>by
   simp only[getK,List.mem_singleton] at hx;subst hx;exact ok_num _ _⟩
 |alg=>exact ⟨Nat.le_trans one_len (by decide),fun x hx=>by rw[one_mem hx];exact ok_num _ _⟩
 |len=>exact ⟨Nat.le_trans one_len (by decide),fun x hx=>by rw[one_mem hx];exact ok_num _ _⟩
 | mask=>exact ⟨by simp[getK],fun x hx=>by
   simp only[getK,List.mem_singleton] at hx;subst hx;exact ok_num _ _⟩
 | sta=>exact ⟨by simp[getK],fun x hx=>by
   simp only[getK,List.mem_singleton] at hx;subst hx;exact ok_num _ _⟩
 |dat k=>exact ⟨Nat.le_trans one_len (by decide),fun x hx=>by rw[one_mem hx];exact ok_num _ _⟩
 | why=>exact ⟨Nat.le_trans one_len (by decide),fun x hx=>by
   rw[one_mem hx]
   have hm:=h.m
   simp only[whyI]
   match o.msg,hm with
   |[],_=>simp[whl,vlV,okI,okIs,prt,msgI,big]
   |a::r,hm=>
    simp only[List.length_cons] at hm
    simp[whl,vlV,okI,okIs,prt,msgI,big]
    omega⟩
 | lnk=>exact ⟨by have:=h.fit.l;simp only[getK,List.length_map];omega,fun x hx=>by
   obtain ⟨s,hs,rfl⟩:=List.mem_map.1 hx
   exact ok_kids (t _ (h.l s hs)) _ _ _ _ _ rfl⟩
 | lim=>exact ⟨Nat.le_trans one_len (by decide),fun x hx=>by
   rw[one_mem hx]
   simp[limI,whl,vlV,okI,okIs,prt,big]⟩
 | cus s=>exact ⟨by
   have:=h.fit.c
   simp only[getK,List.length_map]
   exact Nat.le_trans (List.length_filter_le _ _) (by omega),fun x hx=>by
   obtain ⟨c,hc,rfl⟩:=List.mem_map.1 hx
   exact ok_txt (t _ (h.c c (List.mem_filter.1 hc).1))⟩
theorem mem_put {α:Type} {l:List α} {i:Nat} {x y:α} (h:y∈putL l i x):y∈l∨y=x:=by
 simp only[putL,List.mem_append,List.mem_cons] at h
 rcases h with h|h|h
 ·exact .inl (List.mem_of_mem_take h)
 ·exact .inr h
 ·exact .inl (List.mem_of_mem_drop h)
theorem len_put {α:Type} {l:List α} {i n:Nat} {x:α} (h:i≤l.length) (h1:l.length≤n) (h2:i<n):(putL l i x).length≤n:=by
 simp only[putL,List.length_append,List.length_cons,List.length_take,List.length_drop]
 omega
theorem txI_kid {v:It} (h:txI v) (i:Nat):itD (kid v i)∈texts:=by
 unfold kid
 cases hk:(itK v)[i]? with
 |none=>exact txI_d h
 | some k=>
  have:∀ (l:List It),txIs l→∀ (i:Nat) (k:It),l[i]? =some k→txI k:=by
   intro l
   induction l with
   |nil=>intro _ i k h;simp at h
   |cons a r ih=>
    intro hl i k h
    cases i with
    |zero=>simp at h;subst h;exact hl.1
    |succ i=>exact ih hl.2 i k (by simpa using h)
  refine txI_d (this (itK v) ?_ i k hk)
  cases v
  exact h.2
theorem Okay.date {o:Ob} (h:Okay o) (d:Dt) (k:Nat):Okay (setDate o d k):=by
 have e:∀p:Ob,p.names=o.names→p.links=o.links→p.cust=o.cust→p.mat=o.mat→p.id=o.id→p.msg=o.msg→Okay p:=fun p h1 h2 h3 h4 h5 h6=>
  ⟨⟨by rw[h1];exact h.fit.n,by rw[h2];exact h.fit.l,by rw[h3];exact h.fit.c,by rw[h4];exact h.fit.m⟩,by rw[h1];exact h.n,by rw[h2];exact h.l,by rw[h3];exact h.c,by rw[h5];exact h.i,by rw[h6];exact h.m⟩
 unfold setDate
 split<;>exact e _ rfl rfl rfl rfl rfl rfl
theorem Okay.put {o:Ob} (h:Okay o) {k:Kd} {j:Nat} (hj:idxOk o j k) {v:It} (hv:txI v):Okay (putK o j v k):=by
 cases k with
 | nam=>exact ⟨⟨len_put hj.1 h.fit.n hj.2,h.fit.l,h.fit.c,h.fit.m⟩,fun s hs=>by
   rcases mem_put hs with hs|rfl
   ·exact h.n s hs
   ·exact txI_d hv,h.l,h.c,h.i,h.m⟩
 |alg=>exact ⟨⟨h.fit.n,h.fit.l,h.fit.c,h.fit.m⟩,h.n,h.l,h.c,h.i,h.m⟩
 |len=>exact ⟨⟨h.fit.n,h.fit.l,h.fit.c,h.fit.m⟩,h.n,h.l,h.c,h.i,h.m⟩
 |mask=>exact ⟨⟨h.fit.n,h.fit.l,h.fit.c,h.fit.m⟩,h.n,h.l,h.c,h.i,h.m⟩
 |dat k=>exact h.date _ k
 | lnk=>exact ⟨⟨h.fit.n,len_put hj.1 h.fit.l hj.2,h.fit.c,h.fit.m⟩,h.n,fun s hs=>by
   rcases mem_put hs with hs|rfl
   ·exact h.l s hs
   ·exact txI_kid hv 1,h.c,h.i,h.m⟩
 |lim=>exact ⟨⟨h.fit.n,h.fit.l,h.fit.c,h.fit.m⟩,h.n,h.l,h.c,h.i,h.m⟩
 | cus s=>
  have hp:=place_le (o:=o) (s:=s) (j:=j) (by rcases hj with hj|hj<;>omega)
  have h6:placeAt o s j<6:=by
   have:=h.fit.c
   rcases hj with hj|hj
   ·have:=hp.2.2 hj;omega
   ·have:=hp.2.1;omega
  exact ⟨⟨h.fit.n,h.fit.l,len_put hp.2.1 h.fit.c h6,h.fit.m⟩,h.n,h.l,fun c hc=>by
   rcases mem_put hc with hc|rfl
   ·exact h.c c hc
   ·exact txI_d hv,h.i,h.m⟩
 |_=>exact h
def AnsOk (p:Ob × Int):Prop:=p.2=0→Okay p.1∧soundB p.1=true
theorem ans_no {o:Ob} {e:Int} (h:e≠0):AnsOk (o,e):=fun h0=>absurd h0 h
theorem laid_ok {o:Ob} (h:Okay o) {k:Kd} {j:Nat} (hj:idxOk o j k) {v:It} (hv:txI v):AnsOk (laidK o k j v):=by
 unfold laidK
 split
 ·rename_i hs
  exact fun _=>⟨h.put hj hv,hs⟩
 ·exact ans_no (by decide)
theorem more_ok {o:Ob} (h:Okay o) {k:Kd} {a:At} (ha:txI a.v):AnsOk (moreK o k a):=by
 unfold moreK
 split
 ·exact ans_no (by decide)
 split
 ·exact ans_no (by decide)
 split
 ·exact ans_no (by decide)
 split
 ·exact ans_no (by decide)
 ·rename_i hr
  split
  ·exact ans_no (by decide)
  ·cases hm:manyK k with
   |true=>exact laid_ok h (idx_more hm hr) ha
   |false=>exact laid_ok h (idx_one hm 0) ha
theorem set_ok {c:Bool} {o:Ob} (h:Okay o) {a:At} (ha:txI a.v):AnsOk (setS c o a):=by
 unfold setS
 split
 ·exact ans_no (by decide)
 split
 ·exact ans_no (by decide)
 ·exact more_ok h ha
theorem value_tx (s:List UInt8) (r:Rw):txI (valueI s r):=by
 have hid:ofL idL [] r.b∈texts:=(by decide:∀s∈idL,s∈texts) _ (ofL_mem idL [] r.b (by simp[idL]))
 have htx:ofL txL [] r.a∈texts:=(by decide:∀s∈txL,s∈texts) _ (ofL_mem txL [] r.a (by simp[txL]))
 have h0:([]:List UInt8)∈texts:=by decide
 unfold valueI
 repeat' split
 all_goals
  simp only[vlV,vlP,txI,txIs]
  simp only[hid,htx,h0,and_self]
def cntC (s:List UInt8) (l:List Cu):Nat:=(l.filter fun c=>beqBytes c.name s).length
def cusTl:List Cu→List Cu→List At
 |_,[]=>[]
 |pre,c::r=>⟨c.name,.ofNat (cntC c.name pre),txt c.text⟩::cusTl (pre++[c]) r
def stdT (o:Ob):List Kd→List At
 |[]=>[]
 |k::r=>tellL (nameK k) (getK o k) 0++stdT o r
def allS (o:Ob):List At:=stdT o kinds++cusTl [] o.cust
def ofN (s:List UInt8) (l:List At):List At:=l.filter fun a=>beqBytes a.name s
theorem ofN_app (s:List UInt8) (l r:List At):ofN s (l++r)=ofN s l++ofN s r:=List.filter_append ..
theorem beqBytes_no {a b:List UInt8} (h:a≠b):beqBytes a b=false:=by
 cases hb:beqBytes a b with
 |false=>rfl
 |true=>exact absurd (beqBytes_iff.1 hb) h
theorem ofN_tell_same (s:List UInt8):∀ (l:List It) (i:Nat),ofN s (tellL s l i)=tellL s l i
 |[],_=>rfl
 |v::r,i=>by
  have ih:=ofN_tell_same s r (i+1)
  unfold ofN at ih⊢
  rw[tellL,List.filter_cons,ih,if_pos (beqBytes_iff.2 rfl)]
theorem ofN_tell_no {s n:List UInt8} (h:n≠s):∀ (l:List It) (i:Nat),ofN s (tellL n l i)=[]
 |[],_=>rfl
 |v::r,i=>by
  have ih:=ofN_tell_no h r (i+1)
  unfold ofN at ih⊢
  rw[tellL,List.filter_cons,ih,beqBytes_no h]
  rfl
theorem findL_none {s:List UInt8}:∀ {l:List Kd},(∀k∈l,nameK k≠s)→findL s l=none
 |[],_=>rfl
 |a::r,h=>by rw[findL,beqBytes_no (h a (by simp)),findL_none fun k hk=>h k (by simp[hk])]
theorem ofN_std_no (o:Ob) {s:List UInt8}:∀ {l:List Kd},(∀k∈l,nameK k≠s)→ofN s (stdT o l)=[]
 |[],_=>rfl
 |a::r,h=>by rw[stdT,ofN_app,ofN_tell_no (h a (by simp)),ofN_std_no o fun k hk=>h k (by simp[hk])];rfl
theorem ofN_std (o:Ob) (s:List UInt8):∀ {l:List Kd},(l.map nameK).Nodup→ofN s (stdT o l)=match findL s l with
  |none=>[]
  |some k=>tellL s (getK o k) 0
 |[],_=>rfl
 | a::r,h=>by
  rw[List.map_cons,List.nodup_cons] at h
  rw[stdT,ofN_app,findL]
  cases hb:beqBytes (nameK a) s with
  |true=>
   have e:=beqBytes_iff.1 hb
   subst e
   rw[ofN_tell_same,ofN_std_no o fun k hk e=>h.1 (List.mem_map.2 ⟨k,hk,e⟩),List.append_nil]
  |false=>
   have e:nameK a≠s:=fun e=>by rw[beqBytes_iff.2 e] at hb;cases hb
   rw[ofN_tell_no e,ofN_std o s h.2,List.nil_append]
theorem cntC_snoc (s:List UInt8) (pre:List Cu) (c:Cu):cntC s (pre++[c])=cntC s pre+(match beqBytes c.name s with|true=>1|false=>0):=by
 unfold cntC
 rw[List.filter_append,List.length_append,List.filter_cons]
 cases beqBytes c.name s<;>rfl
theorem ofN_cus (s:List UInt8):∀ (l pre:List Cu),ofN s (cusTl pre l)=tellL s ((l.filter fun c=>beqBytes c.name s).map fun c=>txt c.text) (cntC s pre)
 |[],_=>rfl
 | c::r,pre=>by
  have ih:=ofN_cus s r (pre++[c])
  rw[cntC_snoc] at ih
  unfold ofN at ih⊢
  rw[cusTl,List.filter_cons,ih,List.filter_cons]
  cases hb:beqBytes c.name s with
  |true=>
   have e:=beqBytes_iff.1 hb
   subst e
   rfl
  |false=>rfl
structure CusOk (c:Bool) (s:List UInt8) (o:Ob):Prop where
 t:c=true→∀k∈kinds,nameK k≠s
 f:c=false→∀x∈o.cust,x.name≠s
theorem kinds_nodup:(kinds.map nameK).Nodup:=by decide
theorem of_all {c:Bool} {s:List UInt8} {o:Ob} (h:CusOk c s o):ofN s (allS o)=ofS c o s:=by
 rw[allS,ofN_app,ofN_std o s kinds_nodup,ofN_cus,ofS]
 cases c with
 |true=>
  rw[findL_none (h.t rfl)]
  rfl
 |false=>
  have hf:(o.cust.filter fun c=>beqBytes c.name s)=[]:=List.filter_eq_nil_iff.2 fun x hx=>by rw[beqBytes_no (h.f rfl x hx)];simp
  rw[hf]
  rw[show ([]:List Cu).map (fun c=>txt c.text)=[] from rfl,show ∀n,tellL s [] n=[] from fun _=>rfl,List.append_nil]
  rfl
theorem tell_get {s:List UInt8} {v:It}:∀ {l:List It} {i k:Nat},l[k]? =some v→(tellL s l i)[k]? =some ⟨s,.ofNat (i+k),v⟩
 |[],_,_,h=>by simp at h
 |a::r,i,0,h=>by
  simp at h;subst h;rfl
 |a::r,i,k+1,h=>by
  have ih:=tell_get (s:=s) (i:=i+1) (k:=k) (l:=r) (by simpa using h)
  rw[show i+1+k=i+(k+1) by omega] at ih
  simpa [tellL] using ih
theorem stdT_len {o:Ob} (hg:∀k,OkG o k):∀l:List Kd,(stdT o l).length≤1000*l.length
 |[]=>Nat.le_refl _
 |a::t=>by
  have:=stdT_len hg t
  have h:=(hg a).n
  rw[stdT,List.length_append,tell_length,List.length_cons]
  omega
def rawC (c:Cu) (n:Nat):AV:= .agg [.str c.name,I (.ofNat n),I 4325387,I 7,I 0,.fsl false (toBytes c.text),.nilsl]
def cusR:List Cu→List Cu→List AV
 |_,[]=>[]
 |pre,c::r=>rawC c (cntC c.name pre)::cusR (pre++[c]) r
theorem cusR_snoc (c:Cu):∀ (l q:List Cu),cusR q (l++[c])=cusR q l++[rawC c (cntC c.name (q++l))]
 |[],q=>by rw[List.append_nil];rfl
 |a::r,q=>by
  have ih:=cusR_snoc c r (q++[a])
  rw[List.append_assoc,List.singleton_append] at ih
  rw[List.cons_append,cusR,cusR,ih,List.cons_append]
theorem cusR_len:∀ (l q:List Cu),(cusR q l).length=l.length
 |[],_=>rfl
 |a::r,q=>by rw[cusR,List.length_cons,List.length_cons,cusR_len r]
theorem closed_fcusR:∀ (l q:List Cu),closedAll (flat (cusR q l))=true
 |[],_=>rfl
 |a::r,q=>by
  rw[cusR,flat,closedAll_append,closed_fcusR r]
  simp[rawC,AV.cells,closedA,closedAll]
theorem len_fcusR:∀ (l q:List Cu),(flat (cusR q l)).length=l.length*7
 |[],_=>rfl
 |a::r,q=>by
  rw[cusR,flat,List.length_append,len_fcusR r,List.length_cons]
  simp[rawC,AV.cells]
  omega
theorem wk_cusR:∀ (l q:List Cu),WkE (cusR q l) ((cusTl q l).map atA)
 |[],_=> .nil
 |a::r,q=>by
  rw[cusR,cusTl,List.map_cons]
  refine WkE.consA ?_ (wk_cusR r _)
  simp only[txt,vlV]
  (repeat (first|exact Wk.refl _|exact WkL.refl _|exact Wk.nil|exact Wk.row|exact WkE.refl _|exact WkL.nil|exact WkE.nil|apply Wk.agg|apply Wk.tuple|apply WkL.cons|apply Wk.rows|apply WkE.consA))
inductive MpOk (pre:List Cu):Blk→Prop
 |m (hp:cntC [120,45,97] pre=0) (hq:cntC [120,45,98] pre=0):MpOk pre (.mapb 0 [] [])
 |ma (p:Nat) (hp:cntC [120,45,97] pre=p) (hq:cntC [120,45,98] pre=0):MpOk pre (.mapb 1 [0] [(.str [120,45,97],I (.ofNat p))])
 |mb (p:Nat) (hp:cntC [120,45,98] pre=p) (hq:cntC [120,45,97] pre=0):MpOk pre (.mapb 1 [0] [(.str [120,45,98],I (.ofNat p))])
 |mab (p q:Nat) (hp:cntC [120,45,97] pre=p) (hq:cntC [120,45,98] pre=q):MpOk pre (.mapb 2 [0,1] [(.str [120,45,97],I (.ofNat p)),(.str [120,45,98],I (.ofNat q))])
 |mba (p q:Nat) (hp:cntC [120,45,98] pre=p) (hq:cntC [120,45,97] pre=q):MpOk pre (.mapb 2 [0,1] [(.str [120,45,98],I (.ofNat p)),(.str [120,45,97],I (.ofNat q))])
theorem idxCu {C:List Cu} {i:Nat} {c:Cu} (h:C[i]? =some c):indexAddrA Tryz.prog 29 (.fsl false (C.map cuA)) (.int .i64 (.ofNat i))=some (.fptr [.str c.name,.str c.text] 0):=
 fsl_index (v:=cuA c) (e:=101) (sz:=2) (by kernel_rfl) (by kernel_rfl) (by rw[List.getElem?_map,h];rfl) rfl
theorem closed_es {es:List AV} {c:Cu} {n:Nat} (h:closedAll es=true):closedAll (es++flat [rawC c n])=true:=by
 rw[closedAll_append,h]
 simp[rawC,flat,AV.cells,closedA,closedAll]
theorem lt_no {i n:Nat} (h:i<n):¬ltInt (Int.ofNat i) (Int.ofNat n)=false:=fun e=>by
 have e:=ltInt_false.1 e
 simp only[Int.ofNat_eq_natCast] at e
 omega
section
variable {o:Ob} {C:List Cu} {i k:Nat} {t:List UInt8} {es:List AV} {Q:AExit→St→Prop}
end
theorem cnt_le (s:List UInt8) (l:List Cu):cntC s l≤l.length:=List.length_filter_le _ _
def rTx (nm:List UInt8) (i:Int) (s:List UInt8):AV:= .agg [.str nm,I i,I 4325387,I 7,I 0,.fsl false (toBytes s),.nilsl]
def rNu (nm:List UInt8) (ty n:Int):AV:= .agg [.str nm,I 0,I 4325387,I ty,I n,.nilsl,.nilsl]
def rKd (nm:List UInt8) (i:Int) (kk:AV):AV:= .agg [.str nm,I i,I 4325387,I 1,I 0,.nilsl,kk]
def lkk (l:Lk):AV:= .fsl true [.agg [I 4325451,I 5,I l.ty,.nilsl,.nilsl],.agg [I 4325452,I 7,I 0,.fsl false (toBytes l.id),.nilsl]]
def whyk (o:Ob):AV:=match beqBytes o.msg [] with
 |true=> .fsl true [.agg [I 4325506,I 5,I o.why,.nilsl,.nilsl]]
 |false=> .fsl false [.agg [I 4325506,I 5,I o.why,.nilsl,.nilsl],.agg [I 4325504,I 7,I 0,.fsl false (toBytes o.msg),.nilsl]]
def limk (o:Ob):AV:= .fsl true [.agg [I 4325527,I 3,I o.lt,.nilsl,.nilsl],.agg [I 4325526,I 3,I o.lc,.nilsl,.nilsl],.agg [I 4325528,I 5,I o.lu,.nilsl,.nilsl]]
def rTxs (nm:List UInt8):List (List UInt8)→Nat→List AV
 |[],_=>[]
 |s::r,i=>rTx nm (.ofNat i) s::rTxs nm r (i+1)
def rLks:List Lk→Nat→List AV
 |[],_=>[]
 |l::r,i=>rKd (nameK .lnk) (.ofNat i) (lkk l)::rLks r (i+1)
def oneR (b:Bool) (x:AV):List AV:=match b with
 |true=>[x]
 |false=>[]
def rawK (o:Ob):Kd→List AV
 | .uid=>[rTx (nameK .uid) 0 o.id]
 | .nam=>rTxs (nameK .nam) o.names 0
 | .typ=>[rNu (nameK .typ) 5 o.ty]
 | .alg=>oneR (!beqInt o.alg 0) (rNu (nameK .alg) 5 o.alg)
 | .len=>oneR (!beqInt o.len 0) (rNu (nameK .len) 2 o.len)
 | .mask=>[rNu (nameK .mask) 2 o.mask]
 | .sta=>[rNu (nameK .sta) 5 o.st]
 | .dat k=>oneR (dateAt o k).has (rNu (nameK (.dat k)) 9 (dateAt o k).t)
 | .why=>oneR (!beqInt o.why 0) (rKd (nameK .why) 0 (whyk o))
 | .lnk=>rLks o.links 0
 | .lim=>oneR o.lh (rKd (nameK .lim) 0 (limk o))
 | .cus _=>[]
theorem rTxs_snoc (nm x:List UInt8):∀ (l:List (List UInt8)) (i:Nat),rTxs nm (l++[x]) i=rTxs nm l i++[rTx nm (.ofNat (i+l.length)) x]
 |[],_=>rfl
 |a::r,i=>by rw[List.cons_append,rTxs,rTxs,rTxs_snoc nm x r (i+1),List.cons_append,List.length_cons,show i+1+r.length=i+(r.length+1) by omega]
theorem rLks_snoc (x:Lk):∀ (l:List Lk) (i:Nat),rLks (l++[x]) i=rLks l i++[rKd (nameK .lnk) (.ofNat (i+l.length)) (lkk x)]
 |[],_=>rfl
 |a::r,i=>by rw[List.cons_append,rLks,rLks,rLks_snoc x r (i+1),List.cons_append,List.length_cons,show i+1+r.length=i+(r.length+1) by omega]
theorem rTxs_len (nm:List UInt8):∀ (l:List (List UInt8)) (i:Nat),(rTxs nm l i).length=l.length
 |[],_=>rfl
 |a::r,i=>by rw[rTxs,List.length_cons,List.length_cons,rTxs_len nm r]
theorem rLks_len:∀ (l:List Lk) (i:Nat),(rLks l i).length=l.length
 |[],_=>rfl
 |a::r,i=>by rw[rLks,List.length_cons,List.length_cons,rLks_len r]
structure RawOk (e:AV):Prop where
 c:closedA e=true
 f:closedAll e.cells=true
 l:e.cells.length=7
 g:goodEl 7 e
theorem raw_tx (nm:List UInt8) (i:Int) (s:List UInt8):RawOk (rTx nm i s):=⟨by simp[rTx,closedA,closedAll],by simp[rTx,AV.cells,closedA,closedAll],rfl,⟨rfl,rfl⟩⟩
theorem raw_nu (nm:List UInt8) (ty n:Int):RawOk (rNu nm ty n):=⟨rfl,rfl,rfl,⟨rfl,rfl⟩⟩
theorem raw_kd (nm:List UInt8) (i:Int) {f:Bool} {l:List AV} (h:closedAll l=true):RawOk (rKd nm i (.fsl f l)):=⟨by simp[rKd,closedA,closedAll,h],by simp[rKd,AV.cells,closedA,closedAll,h],rfl,⟨rfl,rfl⟩⟩
theorem raw_lnk (i:Int) (l:Lk):RawOk (rKd (nameK .lnk) i (lkk l)):=raw_kd _ _ (by simp[closedA,closedAll])
theorem raw_why (o:Ob):RawOk (rKd (nameK .why) 0 (whyk o)):=by
 unfold whyk
 split<;>exact raw_kd _ _ (by simp[closedA,closedAll])
theorem raw_lim (o:Ob):RawOk (rKd (nameK .lim) 0 (limk o)):=raw_kd _ _ rfl
theorem raw_txs (nm:List UInt8):∀ (l:List (List UInt8)) (i:Nat),∀e∈rTxs nm l i,RawOk e
 |[],_,_,h=>by cases h
 |a::r,i,e,h=>by
  rcases List.mem_cons.1 h with h|h
  ·subst h;exact raw_tx _ _ _
  ·exact raw_txs nm r _ e h
theorem raw_lks:∀ (l:List Lk) (i:Nat),∀e∈rLks l i,RawOk e
 |[],_,_,h=>by cases h
 |a::r,i,e,h=>by
  rcases List.mem_cons.1 h with h|h
  ·subst h;exact raw_lnk _ _
  ·exact raw_lks r _ e h
theorem raw_one {b:Bool} {x:AV} (h:RawOk x):∀e∈oneR b x,RawOk e:=fun e he=>by
 cases b with
 |true=>rw[List.mem_singleton.1 he];exact h
 |false=>cases he
theorem raw_K (o:Ob) (k:Kd):∀e∈rawK o k,RawOk e:=by
 cases k with
 |uid=>exact fun e he=>by rw[List.mem_singleton.1 he];exact raw_tx _ _ _
 |nam=>exact raw_txs _ _ _
 |typ=>exact fun e he=>by rw[List.mem_singleton.1 he];exact raw_nu _ _ _
 |alg=>exact raw_one (raw_nu _ _ _)
 |len=>exact raw_one (raw_nu _ _ _)
 |mask=>exact fun e he=>by rw[List.mem_singleton.1 he];exact raw_nu _ _ _
 |sta=>exact fun e he=>by rw[List.mem_singleton.1 he];exact raw_nu _ _ _
 |dat k=>exact raw_one (raw_nu _ _ _)
 |why=>exact raw_one (raw_why o)
 |lnk=>exact raw_lks _ _
 |lim=>exact raw_one (raw_lim o)
 |cus s=>exact fun e he=>by cases he
theorem raw_cus:∀ (l q:List Cu),∀e∈cusR q l,RawOk e
 |[],_,_,h=>by cases h
 |a::r,q,e,h=>by
  rcases List.mem_cons.1 h with h|h
  ·subst h;exact ⟨by simp[rawC,closedA,closedAll],by simp[rawC,AV.cells,closedA,closedAll],rfl,⟨rfl,rfl⟩⟩
  ·exact raw_cus r _ e h
theorem raws_closed:∀ {l:List AV},(∀e∈l,RawOk e)→closedAll l=true
 |[],_=>rfl
 |a::r,h=>by rw[closedAll,(h a (by simp)).c,raws_closed fun e he=>h e (by simp[he])];rfl
theorem raws_flat:∀ {l:List AV},(∀e∈l,RawOk e)→closedAll (flat l)=true
 |[],_=>rfl
 |a::r,h=>by rw[flat,closedAll_append,(h a (by simp)).f,raws_flat fun e he=>h e (by simp[he])];rfl
theorem raws_len:∀ {l:List AV},(∀e∈l,RawOk e)→(flat l).length=l.length*7
 |[],_=>rfl
 |a::r,h=>by
  rw[flat,List.length_append,(h a (by simp)).l,raws_len fun e he=>h e (by simp[he]),List.length_cons]
  omega
theorem wk_txs (nm:List UInt8):∀ (l:List (List UInt8)) (i:Nat),WkE (rTxs nm l i) ((tellL nm (l.map txt) i).map atA)
 |[],_=> .nil
 |a::r,i=>by
  rw[rTxs,List.map_cons,tellL,List.map_cons]
  refine WkE.consA ?_ (wk_txs nm r _)
  simp only[txt,vlV,atC,itC,itAs]
  (repeat (first|exact Wk.refl _|exact WkL.refl _|exact Wk.nil|exact Wk.row|exact WkE.refl _|exact WkL.nil|exact WkE.nil|apply Wk.agg|apply Wk.tuple|apply WkL.cons|apply Wk.rows|apply WkE.consA))
theorem wk_lks:∀ (l:List Lk) (i:Nat),WkE (rLks l i) ((tellL (nameK .lnk) (l.map lkI) i).map atA)
 |[],_=> .nil
 |a::r,i=>by
  rw[rLks,List.map_cons,tellL,List.map_cons]
  refine WkE.consA ?_ (wk_lks r _)
  simp only[lkI,whl,vlV,prt,lkk,atC,itC,itAs,itA,toBytes]
  (repeat (first|exact Wk.refl _|exact WkL.refl _|exact Wk.nil|exact Wk.row|exact WkE.refl _|exact WkL.nil|exact WkE.nil|apply Wk.agg|apply Wk.tuple|apply WkL.cons|apply Wk.rows|apply WkE.consA))
theorem wk_one {b:Bool} {x:AV} {nm:List UInt8} {v:It} (h:WkE [x] [atA ⟨nm,0,v⟩]):WkE (oneR b x) ((tellL nm (oneL b v) 0).map atA):=by
 cases b with
 |true=>exact h
 |false=>exact .nil
theorem wk_nu (nm:List UInt8) (ty n:Int):WkE [rNu nm ty n] [atA ⟨nm,0,numI ty n⟩]:=by
 refine WkE.consA ?_ .nil
 simp only[numI,vlV,atC,itC,itAs,toBytes]
 (repeat (first|exact Wk.refl _|exact WkL.refl _|exact Wk.nil|exact Wk.row|exact WkE.refl _|exact WkL.nil|exact WkE.nil|apply Wk.agg|apply Wk.tuple|apply WkL.cons|apply Wk.rows|apply WkE.consA))
theorem wk_rawK (o:Ob) (k:Kd) (hk:kdB k=true) (hc:∀s,k≠ .cus s):WkE (rawK o k) ((tellL (nameK k) (getK o k) 0).map atA):=by
 cases k with
 |uid=>
  refine WkE.consA ?_ .nil
  simp only[txt,vlV,atC,itC,itAs]
  (repeat (first|exact Wk.refl _|exact WkL.refl _|exact Wk.nil|exact Wk.row|exact WkE.refl _|exact WkL.nil|exact WkE.nil|apply Wk.agg|apply Wk.tuple|apply WkL.cons|apply Wk.rows|apply WkE.consA))
 |nam=>exact wk_txs _ _ _
 |typ=>exact wk_nu _ _ _
 |alg=>exact wk_one (wk_nu _ _ _)
 |len=>exact wk_one (wk_nu _ _ _)
 |mask=>exact wk_nu _ _ _
 |sta=>exact wk_nu _ _ _
 |dat k=>exact wk_one (wk_nu _ _ _)
 | why=>
  refine wk_one (WkE.consA ?_ .nil)
  have e:msgI o.msg=match beqBytes o.msg [] with|true=>[]|false=>[.mk 4325504 7 0 o.msg []]:=by
   cases o.msg<;>rfl
  simp only[whyI,whl,vlV,prt,whyk,atC,itC,e]
  split<;>(simp only[itAs,itA,toBytes];(repeat (first|exact Wk.refl _|exact WkL.refl _|exact Wk.nil|exact Wk.row|exact WkE.refl _|exact WkL.nil|exact WkE.nil|apply Wk.agg|apply Wk.tuple|apply WkL.cons|apply Wk.rows|apply WkE.consA)))
 |lnk=>exact wk_lks _ _
 |lim=>
  refine wk_one (WkE.consA ?_ .nil)
  simp only[limI,whl,vlV,prt,limk,atC,itC,itAs,itA,toBytes]
  (repeat (first|exact Wk.refl _|exact WkL.refl _|exact Wk.nil|exact Wk.row|exact WkE.refl _|exact WkL.nil|exact WkE.nil|apply Wk.agg|apply Wk.tuple|apply WkL.cons|apply Wk.rows|apply WkE.consA))
 |cus s=>exact absurd rfl (hc s)
end Go.Proofs.YtjhggnebkfpgcaaGreatDoor
