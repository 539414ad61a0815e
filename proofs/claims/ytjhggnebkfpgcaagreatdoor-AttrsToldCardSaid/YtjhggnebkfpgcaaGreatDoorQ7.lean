/- RAllW, RAllK. -/
import Derived.Test.YtjhggnebkfpgcaaGreatDoorQ6
import Derived.KernelRfl
namespace Go.Proofs.YtjhggnebkfpgcaaGreatDoor
open Go Go.RowKit
open Go.Proofs.Abs
noncomputable section
def raV (s:List (Nat × AV)) (k:Nat) (O es:List AV):View:=⟨s,[(1,.ptr 0 0),(3,.ptr 1 0)],[(0,.cells O,.whole),(1,.cells [.rsl true 2 0 k 7],.each),(2,.cells es,.whole)],3,221⟩
def raI:List Nat:=[86,87]
def raJ:List Nat:=[94]
def raAn (x:List UInt8):Aid:=aidJ [(6,5,.res (.fptr [.str x] 0))] [] noSem raI raJ
@[simp] abbrev zk7:=((some 0=some 0∧0=0)∧(some 1=some 1∧0=0)∧True)
@[simp] abbrev zk18 (k:Nat):=((true=true∧some 2=some 2∧0=0∧k=k∧7=7)∧True)
abbrev zk21 (i:Int) (x:List UInt8):=[AV.agg [AV.str [78,97,109,101],I i,I 4325387,I 7,I 0,AV.fsl false (toBytes x),AV.nilsl]]
@[simp] abbrev zk46 (i:Int):=(I i=I i∧closedA (I i)=true)
@[simp] abbrev zk49 (es:List AV):=(es=es∧closedAll es=true)
theorem ra_n (x:List UInt8) (k k':Nat) (i j:Int) (Ns O es es':List AV) (o:Ob) (M L C:AV) (Nx:Prop) (Q:AExit→St→Prop):wpK Tryz.prog opts0 40 (raAn x) (lpCode Tryz.prog 45 5) (raV [(4,I i)] k (obF o M (.fsl false Ns) L C) es).st (roundP 0 [(0,0),(1,1),(2,34)] (raV [(4,I j)] k' O es') Nx [(0,0),(1,1),(2,2)] (raV [(4,I i)] k (obF o M (.fsl false Ns) L C) es) Q)=
  (mtB (ltInt i (Int.ofNat (lenN Ns))) (indexAddrA Tryz.prog 27 (AV.fsl false Ns) (I i)=some (AV.fptr [AV.str x] 0)∧oblB (allSize 7 (zk21 i x)&&(((k+lenN (zk21 i x))*96).ble 140737488355328&&(allOne (flat (zk21 i x))&&true))) (oblB ((lenN es).beq (k*7)) ((((I (wrapA IntKind.i64 (i+1))=I j∧closedA (I j)=true)∧True)∧zk7∧((obF o M (AV.fsl false Ns) L C)=O∧closedAll O=true)∧((true=true∧some 34=some 34∧0=0∧k'=k+lenN (zk21 i x)∧7=7)∧True)∧(es++flat (zk21 i x)=es'∧closedAll es'=true)∧True)∧Nx))) ((((zk46 i)∧True)∧zk7∧((obF o M (AV.fsl false Ns) L C)=(obF o M (AV.fsl false Ns) L C)∧closedAll (obF o M (AV.fsl false Ns) L C)=true)∧(zk18 k)∧(zk49 es)∧True)∧Q (AExit.exit 0) (raV [(4,I i)] k (obF o M (AV.fsl false Ns) L C) es).st)):=by kernel_rfl
def rrD (nm ch st:List UInt8) (se:Bool) (d:Int):List AV:=[.str nm,I 9,.bool false,.bool se,.str ch,.str st,I d]
def raAd (c:List AV) (b:Bool):Aid:=aidJ [(18,2,.res (.fptr c 0)),(18,9,.res (.fptr c 0)),(18,15,.ld (.bool b)),(19,3,.res (.fptr c 0)),(19,8,.res (.fptr c 0))] [] noSem raI raJ
@[simp] abbrev zk11 (T:List AV):=(AV.fsl true T=AV.fsl true T∧closedA (AV.fsl true T)=true)
@[simp] abbrev zk1 (C L M N:AV) (Q:AExit→St→Prop) (T es:List AV) (i:Int) (k:Nat) (o:Ob):=((((zk11 T)∧(zk46 i)∧True)∧zk7∧((obF o M N L C)=(obF o M N L C)∧closedAll (obF o M N L C)=true)∧(zk18 k)∧(zk49 es)∧True)∧Q (AExit.exit 2) (raV [(5,AV.fsl true T),(6,I i)] k (obF o M N L C) es).st)
abbrev zk13 (C L M N:AV) (T es:List AV) (i:Int) (k:Nat) (o:Ob):=(raV [(5,AV.fsl true T),(6,I i)] k (obF o M N L C) es)
@[simp] abbrev zk17 (C L M N:AV) (O:List AV) (o:Ob):=((obF o M N L C)=O∧closedAll O=true)
abbrev zk19 (O T es':List AV) (j:Int) (k':Nat):=(raV [(5,AV.fsl true T),(6,I j)] k' O es')
abbrev zk22 (ch nm st:List UInt8) (se:Bool):=(AV.fptr [AV.str nm,I 9,AV.bool false,AV.bool se,AV.str ch,AV.str st,I 0] 0)
abbrev zk34 (nm:List UInt8) (o:Ob):=[AV.agg [AV.str nm,I 0,I 4325387,I 9,I o.d0.2,AV.nilsl,AV.nilsl]]
theorem ra_d0t (nm ch st:List UInt8) (se:Bool) (k k':Nat) (i j:Int) (T O es es':List AV) (o:Ob) (M N L C:AV) (Nx:Prop) (Q:AExit→St→Prop):wpK Tryz.prog opts0 40 (raAd (rrD nm ch st se 0) true) (lpCode Tryz.prog 45 17) (zk13 C L M N T es i k o).st (roundP 0 [(0,0),(1,1),(2,58)] (zk19 O T es' j k') Nx [(0,0),(1,1),(2,2)] (zk13 C L M N T es i k o) Q)=
  (mtB (ltInt i (Int.ofNat (lenN T))) (indexAddrA Tryz.prog 140 (AV.fsl true T) (I i)=some (zk22 ch nm st se)∧indexAddrA Tryz.prog 140 (AV.fsl true T) (I i)=some (zk22 ch nm st se)∧partA Tryz.prog 4 (obF o M N L C) 7=some (AV.bool true)∧indexAddrA Tryz.prog 140 (AV.fsl true T) (I i)=some (zk22 ch nm st se)∧indexAddrA Tryz.prog 140 (AV.fsl true T) (I i)=some (zk22 ch nm st se)∧oblB (allSize 7 (zk34 nm o)&&(((k+lenN (zk34 nm o))*96).ble 140737488355328&&(allOne (flat (zk34 nm o))&&true))) (oblB ((lenN es).beq (k*7)) ((((zk11 T)∧(I (wrapA IntKind.i64 (i+1))=I j∧closedA (I j)=true)∧True)∧zk7∧(zk17 C L M N O o)∧((true=true∧some 58=some 58∧0=0∧k'=k+lenN (zk34 nm o)∧7=7)∧True)∧(es++flat (zk34 nm o)=es'∧closedAll es'=true)∧True)∧Nx))) (zk1 C L M N Q T es i k o)):=by kernel_rfl
@[simp] abbrev zk16 (k k':Nat):=((true=true∧some 2=some 2∧0=0∧k'=k∧7=7)∧True)
@[simp] abbrev zk45 (es es':List AV):=(es=es'∧closedAll es'=true)
theorem ra_d0f (nm ch st:List UInt8) (se:Bool) (k k':Nat) (i j:Int) (T O es es':List AV) (o:Ob) (M N L C:AV) (Nx:Prop) (Q:AExit→St→Prop):wpK Tryz.prog opts0 40 (raAd (rrD nm ch st se 0) false) (lpCode Tryz.prog 45 17) (zk13 C L M N T es i k o).st (roundP 0 [(0,0),(1,1),(2,2)] (zk19 O T es' j k') Nx [(0,0),(1,1),(2,2)] (zk13 C L M N T es i k o) Q)=
  (mtB (ltInt i (Int.ofNat (lenN T))) (indexAddrA Tryz.prog 140 (AV.fsl true T) (I i)=some (zk22 ch nm st se)∧indexAddrA Tryz.prog 140 (AV.fsl true T) (I i)=some (zk22 ch nm st se)∧partA Tryz.prog 4 (obF o M N L C) 7=some (AV.bool false)∧(((zk11 T)∧(I (wrapA IntKind.i64 (i+1))=I j∧closedA (I j)=true)∧True)∧zk7∧(zk17 C L M N O o)∧(zk16 k k')∧(zk45 es es')∧True)∧Nx) (zk1 C L M N Q T es i k o)):=by kernel_rfl
abbrev zk23 (ch nm st:List UInt8) (se:Bool):=(AV.fptr [AV.str nm,I 9,AV.bool false,AV.bool se,AV.str ch,AV.str st,I 1] 0)
abbrev zk35 (nm:List UInt8) (o:Ob):=[AV.agg [AV.str nm,I 0,I 4325387,I 9,I o.d1.2,AV.nilsl,AV.nilsl]]
theorem ra_d1t (nm ch st:List UInt8) (se:Bool) (k k':Nat) (i j:Int) (T O es es':List AV) (o:Ob) (M N L C:AV) (Nx:Prop) (Q:AExit→St→Prop):wpK Tryz.prog opts0 40 (raAd (rrD nm ch st se 1) true) (lpCode Tryz.prog 45 17) (zk13 C L M N T es i k o).st (roundP 0 [(0,0),(1,1),(2,58)] (zk19 O T es' j k') Nx [(0,0),(1,1),(2,2)] (zk13 C L M N T es i k o) Q)=
  (mtB (ltInt i (Int.ofNat (lenN T))) (indexAddrA Tryz.prog 140 (AV.fsl true T) (I i)=some (zk23 ch nm st se)∧indexAddrA Tryz.prog 140 (AV.fsl true T) (I i)=some (zk23 ch nm st se)∧partA Tryz.prog 4 (obF o M N L C) 9=some (AV.bool true)∧indexAddrA Tryz.prog 140 (AV.fsl true T) (I i)=some (zk23 ch nm st se)∧indexAddrA Tryz.prog 140 (AV.fsl true T) (I i)=some (zk23 ch nm st se)∧oblB (allSize 7 (zk35 nm o)&&(((k+lenN (zk35 nm o))*96).ble 140737488355328&&(allOne (flat (zk35 nm o))&&true))) (oblB ((lenN es).beq (k*7)) ((((zk11 T)∧(I (wrapA IntKind.i64 (i+1))=I j∧closedA (I j)=true)∧True)∧zk7∧(zk17 C L M N O o)∧((true=true∧some 58=some 58∧0=0∧k'=k+lenN (zk35 nm o)∧7=7)∧True)∧(es++flat (zk35 nm o)=es'∧closedAll es'=true)∧True)∧Nx))) (zk1 C L M N Q T es i k o)):=by kernel_rfl
theorem ra_d1f (nm ch st:List UInt8) (se:Bool) (k k':Nat) (i j:Int) (T O es es':List AV) (o:Ob) (M N L C:AV) (Nx:Prop) (Q:AExit→St→Prop):wpK Tryz.prog opts0 40 (raAd (rrD nm ch st se 1) false) (lpCode Tryz.prog 45 17) (zk13 C L M N T es i k o).st (roundP 0 [(0,0),(1,1),(2,2)] (zk19 O T es' j k') Nx [(0,0),(1,1),(2,2)] (zk13 C L M N T es i k o) Q)=
  (mtB (ltInt i (Int.ofNat (lenN T))) (indexAddrA Tryz.prog 140 (AV.fsl true T) (I i)=some (zk23 ch nm st se)∧indexAddrA Tryz.prog 140 (AV.fsl true T) (I i)=some (zk23 ch nm st se)∧partA Tryz.prog 4 (obF o M N L C) 9=some (AV.bool false)∧(((zk11 T)∧(I (wrapA IntKind.i64 (i+1))=I j∧closedA (I j)=true)∧True)∧zk7∧(zk17 C L M N O o)∧(zk16 k k')∧(zk45 es es')∧True)∧Nx) (zk1 C L M N Q T es i k o)):=by kernel_rfl
abbrev zk24 (ch nm st:List UInt8) (se:Bool):=(AV.fptr [AV.str nm,I 9,AV.bool false,AV.bool se,AV.str ch,AV.str st,I 2] 0)
abbrev zk36 (nm:List UInt8) (o:Ob):=[AV.agg [AV.str nm,I 0,I 4325387,I 9,I o.d2.2,AV.nilsl,AV.nilsl]]
theorem ra_d2t (nm ch st:List UInt8) (se:Bool) (k k':Nat) (i j:Int) (T O es es':List AV) (o:Ob) (M N L C:AV) (Nx:Prop) (Q:AExit→St→Prop):wpK Tryz.prog opts0 40 (raAd (rrD nm ch st se 2) true) (lpCode Tryz.prog 45 17) (zk13 C L M N T es i k o).st (roundP 0 [(0,0),(1,1),(2,58)] (zk19 O T es' j k') Nx [(0,0),(1,1),(2,2)] (zk13 C L M N T es i k o) Q)=
  (mtB (ltInt i (Int.ofNat (lenN T))) (indexAddrA Tryz.prog 140 (AV.fsl true T) (I i)=some (zk24 ch nm st se)∧indexAddrA Tryz.prog 140 (AV.fsl true T) (I i)=some (zk24 ch nm st se)∧partA Tryz.prog 4 (obF o M N L C) 11=some (AV.bool true)∧indexAddrA Tryz.prog 140 (AV.fsl true T) (I i)=some (zk24 ch nm st se)∧indexAddrA Tryz.prog 140 (AV.fsl true T) (I i)=some (zk24 ch nm st se)∧oblB (allSize 7 (zk36 nm o)&&(((k+lenN (zk36 nm o))*96).ble 140737488355328&&(allOne (flat (zk36 nm o))&&true))) (oblB ((lenN es).beq (k*7)) ((((zk11 T)∧(I (wrapA IntKind.i64 (i+1))=I j∧closedA (I j)=true)∧True)∧zk7∧(zk17 C L M N O o)∧((true=true∧some 58=some 58∧0=0∧k'=k+lenN (zk36 nm o)∧7=7)∧True)∧(es++flat (zk36 nm o)=es'∧closedAll es'=true)∧True)∧Nx))) (zk1 C L M N Q T es i k o)):=by kernel_rfl
theorem ra_d2f (nm ch st:List UInt8) (se:Bool) (k k':Nat) (i j:Int) (T O es es':List AV) (o:Ob) (M N L C:AV) (Nx:Prop) (Q:AExit→St→Prop):wpK Tryz.prog opts0 40 (raAd (rrD nm ch st se 2) false) (lpCode Tryz.prog 45 17) (zk13 C L M N T es i k o).st (roundP 0 [(0,0),(1,1),(2,2)] (zk19 O T es' j k') Nx [(0,0),(1,1),(2,2)] (zk13 C L M N T es i k o) Q)=
  (mtB (ltInt i (Int.ofNat (lenN T))) (indexAddrA Tryz.prog 140 (AV.fsl true T) (I i)=some (zk24 ch nm st se)∧indexAddrA Tryz.prog 140 (AV.fsl true T) (I i)=some (zk24 ch nm st se)∧partA Tryz.prog 4 (obF o M N L C) 11=some (AV.bool false)∧(((zk11 T)∧(I (wrapA IntKind.i64 (i+1))=I j∧closedA (I j)=true)∧True)∧zk7∧(zk17 C L M N O o)∧(zk16 k k')∧(zk45 es es')∧True)∧Nx) (zk1 C L M N Q T es i k o)):=by kernel_rfl
abbrev zk25 (ch nm st:List UInt8) (se:Bool):=(AV.fptr [AV.str nm,I 9,AV.bool false,AV.bool se,AV.str ch,AV.str st,I 3] 0)
abbrev zk37 (nm:List UInt8) (o:Ob):=[AV.agg [AV.str nm,I 0,I 4325387,I 9,I o.d3.2,AV.nilsl,AV.nilsl]]
theorem ra_d3t (nm ch st:List UInt8) (se:Bool) (k k':Nat) (i j:Int) (T O es es':List AV) (o:Ob) (M N L C:AV) (Nx:Prop) (Q:AExit→St→Prop):wpK Tryz.prog opts0 40 (raAd (rrD nm ch st se 3) true) (lpCode Tryz.prog 45 17) (zk13 C L M N T es i k o).st (roundP 0 [(0,0),(1,1),(2,58)] (zk19 O T es' j k') Nx [(0,0),(1,1),(2,2)] (zk13 C L M N T es i k o) Q)=
  (mtB (ltInt i (Int.ofNat (lenN T))) (indexAddrA Tryz.prog 140 (AV.fsl true T) (I i)=some (zk25 ch nm st se)∧indexAddrA Tryz.prog 140 (AV.fsl true T) (I i)=some (zk25 ch nm st se)∧partA Tryz.prog 4 (obF o M N L C) 13=some (AV.bool true)∧indexAddrA Tryz.prog 140 (AV.fsl true T) (I i)=some (zk25 ch nm st se)∧indexAddrA Tryz.prog 140 (AV.fsl true T) (I i)=some (zk25 ch nm st se)∧oblB (allSize 7 (zk37 nm o)&&(((k+lenN (zk37 nm o))*96).ble 140737488355328&&(allOne (flat (zk37 nm o))&&true))) (oblB ((lenN es).beq (k*7)) ((((zk11 T)∧(I (wrapA IntKind.i64 (i+1))=I j∧closedA (I j)=true)∧True)∧zk7∧(zk17 C L M N O o)∧((true=true∧some 58=some 58∧0=0∧k'=k+lenN (zk37 nm o)∧7=7)∧True)∧(es++flat (zk37 nm o)=es'∧closedAll es'=true)∧True)∧Nx))) (zk1 C L M N Q T es i k o)):=by kernel_rfl
theorem ra_d3f (nm ch st:List UInt8) (se:Bool) (k k':Nat) (i j:Int) (T O es es':List AV) (o:Ob) (M N L C:AV) (Nx:Prop) (Q:AExit→St→Prop):wpK Tryz.prog opts0 40 (raAd (rrD nm ch st se 3) false) (lpCode Tryz.prog 45 17) (zk13 C L M N T es i k o).st (roundP 0 [(0,0),(1,1),(2,2)] (zk19 O T es' j k') Nx [(0,0),(1,1),(2,2)] (zk13 C L M N T es i k o) Q)=
  (mtB (ltInt i (Int.ofNat (lenN T))) (indexAddrA Tryz.prog 140 (AV.fsl true T) (I i)=some (zk25 ch nm st se)∧indexAddrA Tryz.prog 140 (AV.fsl true T) (I i)=some (zk25 ch nm st se)∧partA Tryz.prog 4 (obF o M N L C) 13=some (AV.bool false)∧(((zk11 T)∧(I (wrapA IntKind.i64 (i+1))=I j∧closedA (I j)=true)∧True)∧zk7∧(zk17 C L M N O o)∧(zk16 k k')∧(zk45 es es')∧True)∧Nx) (zk1 C L M N Q T es i k o)):=by kernel_rfl
abbrev zk26 (ch nm st:List UInt8) (se:Bool):=(AV.fptr [AV.str nm,I 9,AV.bool false,AV.bool se,AV.str ch,AV.str st,I 4] 0)
abbrev zk38 (nm:List UInt8) (o:Ob):=[AV.agg [AV.str nm,I 0,I 4325387,I 9,I o.d4.2,AV.nilsl,AV.nilsl]]
theorem ra_d4t (nm ch st:List UInt8) (se:Bool) (k k':Nat) (i j:Int) (T O es es':List AV) (o:Ob) (M N L C:AV) (Nx:Prop) (Q:AExit→St→Prop):wpK Tryz.prog opts0 40 (raAd (rrD nm ch st se 4) true) (lpCode Tryz.prog 45 17) (zk13 C L M N T es i k o).st (roundP 0 [(0,0),(1,1),(2,58)] (zk19 O T es' j k') Nx [(0,0),(1,1),(2,2)] (zk13 C L M N T es i k o) Q)=
  (mtB (ltInt i (Int.ofNat (lenN T))) (indexAddrA Tryz.prog 140 (AV.fsl true T) (I i)=some (zk26 ch nm st se)∧indexAddrA Tryz.prog 140 (AV.fsl true T) (I i)=some (zk26 ch nm st se)∧partA Tryz.prog 4 (obF o M N L C) 15=some (AV.bool true)∧indexAddrA Tryz.prog 140 (AV.fsl true T) (I i)=some (zk26 ch nm st se)∧indexAddrA Tryz.prog 140 (AV.fsl true T) (I i)=some (zk26 ch nm st se)∧oblB (allSize 7 (zk38 nm o)&&(((k+lenN (zk38 nm o))*96).ble 140737488355328&&(allOne (flat (zk38 nm o))&&true))) (oblB ((lenN es).beq (k*7)) ((((zk11 T)∧(I (wrapA IntKind.i64 (i+1))=I j∧closedA (I j)=true)∧True)∧zk7∧(zk17 C L M N O o)∧((true=true∧some 58=some 58∧0=0∧k'=k+lenN (zk38 nm o)∧7=7)∧True)∧(es++flat (zk38 nm o)=es'∧closedAll es'=true)∧True)∧Nx))) (zk1 C L M N Q T es i k o)):=by kernel_rfl
theorem ra_d4f (nm ch st:List UInt8) (se:Bool) (k k':Nat) (i j:Int) (T O es es':List AV) (o:Ob) (M N L C:AV) (Nx:Prop) (Q:AExit→St→Prop):wpK Tryz.prog opts0 40 (raAd (rrD nm ch st se 4) false) (lpCode Tryz.prog 45 17) (zk13 C L M N T es i k o).st (roundP 0 [(0,0),(1,1),(2,2)] (zk19 O T es' j k') Nx [(0,0),(1,1),(2,2)] (zk13 C L M N T es i k o) Q)=
  (mtB (ltInt i (Int.ofNat (lenN T))) (indexAddrA Tryz.prog 140 (AV.fsl true T) (I i)=some (zk26 ch nm st se)∧indexAddrA Tryz.prog 140 (AV.fsl true T) (I i)=some (zk26 ch nm st se)∧partA Tryz.prog 4 (obF o M N L C) 15=some (AV.bool false)∧(((zk11 T)∧(I (wrapA IntKind.i64 (i+1))=I j∧closedA (I j)=true)∧True)∧zk7∧(zk17 C L M N O o)∧(zk16 k k')∧(zk45 es es')∧True)∧Nx) (zk1 C L M N Q T es i k o)):=by kernel_rfl
abbrev zk27 (ch nm st:List UInt8) (se:Bool):=(AV.fptr [AV.str nm,I 9,AV.bool false,AV.bool se,AV.str ch,AV.str st,I 5] 0)
abbrev zk39 (nm:List UInt8) (o:Ob):=[AV.agg [AV.str nm,I 0,I 4325387,I 9,I o.d5.2,AV.nilsl,AV.nilsl]]
theorem ra_d5t (nm ch st:List UInt8) (se:Bool) (k k':Nat) (i j:Int) (T O es es':List AV) (o:Ob) (M N L C:AV) (Nx:Prop) (Q:AExit→St→Prop):wpK Tryz.prog opts0 40 (raAd (rrD nm ch st se 5) true) (lpCode Tryz.prog 45 17) (zk13 C L M N T es i k o).st (roundP 0 [(0,0),(1,1),(2,58)] (zk19 O T es' j k') Nx [(0,0),(1,1),(2,2)] (zk13 C L M N T es i k o) Q)=
  (mtB (ltInt i (Int.ofNat (lenN T))) (indexAddrA Tryz.prog 140 (AV.fsl true T) (I i)=some (zk27 ch nm st se)∧indexAddrA Tryz.prog 140 (AV.fsl true T) (I i)=some (zk27 ch nm st se)∧partA Tryz.prog 4 (obF o M N L C) 17=some (AV.bool true)∧indexAddrA Tryz.prog 140 (AV.fsl true T) (I i)=some (zk27 ch nm st se)∧indexAddrA Tryz.prog 140 (AV.fsl true T) (I i)=some (zk27 ch nm st se)∧oblB (allSize 7 (zk39 nm o)&&(((k+lenN (zk39 nm o))*96).ble 140737488355328&&(allOne (flat (zk39 nm o))&&true))) (oblB ((lenN es).beq (k*7)) ((((zk11 T)∧(I (wrapA IntKind.i64 (i+1))=I j∧closedA (I j)=true)∧True)∧zk7∧(zk17 C L M N O o)∧((true=true∧some 58=some 58∧0=0∧k'=k+lenN (zk39 nm o)∧7=7)∧True)∧(es++flat (zk39 nm o)=es'∧closedAll es'=true)∧True)∧Nx))) (zk1 C L M N Q T es i k o)):=by kernel_rfl
theorem ra_d5f (nm ch st:List UInt8) (se:Bool) (k k':Nat) (i j:Int) (T O es es':List AV) (o:Ob) (M N L C:AV) (Nx:Prop) (Q:AExit→St→Prop):wpK Tryz.prog opts0 40 (raAd (rrD nm ch st se 5) false) (lpCode Tryz.prog 45 17) (zk13 C L M N T es i k o).st (roundP 0 [(0,0),(1,1),(2,2)] (zk19 O T es' j k') Nx [(0,0),(1,1),(2,2)] (zk13 C L M N T es i k o) Q)=
  (mtB (ltInt i (Int.ofNat (lenN T))) (indexAddrA Tryz.prog 140 (AV.fsl true T) (I i)=some (zk27 ch nm st se)∧indexAddrA Tryz.prog 140 (AV.fsl true T) (I i)=some (zk27 ch nm st se)∧partA Tryz.prog 4 (obF o M N L C) 17=some (AV.bool false)∧(((zk11 T)∧(I (wrapA IntKind.i64 (i+1))=I j∧closedA (I j)=true)∧True)∧zk7∧(zk17 C L M N O o)∧(zk16 k k')∧(zk45 es es')∧True)∧Nx) (zk1 C L M N Q T es i k o)):=by kernel_rfl
abbrev zk28 (ch nm st:List UInt8) (se:Bool):=(AV.fptr [AV.str nm,I 9,AV.bool false,AV.bool se,AV.str ch,AV.str st,I 6] 0)
abbrev zk40 (nm:List UInt8) (o:Ob):=[AV.agg [AV.str nm,I 0,I 4325387,I 9,I o.d6.2,AV.nilsl,AV.nilsl]]
theorem ra_d6t (nm ch st:List UInt8) (se:Bool) (k k':Nat) (i j:Int) (T O es es':List AV) (o:Ob) (M N L C:AV) (Nx:Prop) (Q:AExit→St→Prop):wpK Tryz.prog opts0 40 (raAd (rrD nm ch st se 6) true) (lpCode Tryz.prog 45 17) (zk13 C L M N T es i k o).st (roundP 0 [(0,0),(1,1),(2,58)] (zk19 O T es' j k') Nx [(0,0),(1,1),(2,2)] (zk13 C L M N T es i k o) Q)=
  (mtB (ltInt i (Int.ofNat (lenN T))) (indexAddrA Tryz.prog 140 (AV.fsl true T) (I i)=some (zk28 ch nm st se)∧indexAddrA Tryz.prog 140 (AV.fsl true T) (I i)=some (zk28 ch nm st se)∧partA Tryz.prog 4 (obF o M N L C) 19=some (AV.bool true)∧indexAddrA Tryz.prog 140 (AV.fsl true T) (I i)=some (zk28 ch nm st se)∧indexAddrA Tryz.prog 140 (AV.fsl true T) (I i)=some (zk28 ch nm st se)∧oblB (allSize 7 (zk40 nm o)&&(((k+lenN (zk40 nm o))*96).ble 140737488355328&&(allOne (flat (zk40 nm o))&&true))) (oblB ((lenN es).beq (k*7)) ((((zk11 T)∧(I (wrapA IntKind.i64 (i+1))=I j∧closedA (I j)=true)∧True)∧zk7∧(zk17 C L M N O o)∧((true=true∧some 58=some 58∧0=0∧k'=k+lenN (zk40 nm o)∧7=7)∧True)∧(es++flat (zk40 nm o)=es'∧closedAll es'=true)∧True)∧Nx))) (zk1 C L M N Q T es i k o)):=by kernel_rfl
theorem ra_d6f (nm ch st:List UInt8) (se:Bool) (k k':Nat) (i j:Int) (T O es es':List AV) (o:Ob) (M N L C:AV) (Nx:Prop) (Q:AExit→St→Prop):wpK Tryz.prog opts0 40 (raAd (rrD nm ch st se 6) false) (lpCode Tryz.prog 45 17) (zk13 C L M N T es i k o).st (roundP 0 [(0,0),(1,1),(2,2)] (zk19 O T es' j k') Nx [(0,0),(1,1),(2,2)] (zk13 C L M N T es i k o) Q)=
  (mtB (ltInt i (Int.ofNat (lenN T))) (indexAddrA Tryz.prog 140 (AV.fsl true T) (I i)=some (zk28 ch nm st se)∧indexAddrA Tryz.prog 140 (AV.fsl true T) (I i)=some (zk28 ch nm st se)∧partA Tryz.prog 4 (obF o M N L C) 19=some (AV.bool false)∧(((zk11 T)∧(I (wrapA IntKind.i64 (i+1))=I j∧closedA (I j)=true)∧True)∧zk7∧(zk17 C L M N O o)∧(zk16 k k')∧(zk45 es es')∧True)∧Nx) (zk1 C L M N Q T es i k o)):=by kernel_rfl
abbrev zk29 (ch nm st:List UInt8) (se:Bool):=(AV.fptr [AV.str nm,I 9,AV.bool false,AV.bool se,AV.str ch,AV.str st,I 7] 0)
abbrev zk41 (nm:List UInt8) (o:Ob):=[AV.agg [AV.str nm,I 0,I 4325387,I 9,I o.d7.2,AV.nilsl,AV.nilsl]]
theorem ra_d7t (nm ch st:List UInt8) (se:Bool) (k k':Nat) (i j:Int) (T O es es':List AV) (o:Ob) (M N L C:AV) (Nx:Prop) (Q:AExit→St→Prop):wpK Tryz.prog opts0 40 (raAd (rrD nm ch st se 7) true) (lpCode Tryz.prog 45 17) (zk13 C L M N T es i k o).st (roundP 0 [(0,0),(1,1),(2,58)] (zk19 O T es' j k') Nx [(0,0),(1,1),(2,2)] (zk13 C L M N T es i k o) Q)=
  (mtB (ltInt i (Int.ofNat (lenN T))) (indexAddrA Tryz.prog 140 (AV.fsl true T) (I i)=some (zk29 ch nm st se)∧indexAddrA Tryz.prog 140 (AV.fsl true T) (I i)=some (zk29 ch nm st se)∧partA Tryz.prog 4 (obF o M N L C) 21=some (AV.bool true)∧indexAddrA Tryz.prog 140 (AV.fsl true T) (I i)=some (zk29 ch nm st se)∧indexAddrA Tryz.prog 140 (AV.fsl true T) (I i)=some (zk29 ch nm st se)∧oblB (allSize 7 (zk41 nm o)&&(((k+lenN (zk41 nm o))*96).ble 140737488355328&&(allOne (flat (zk41 nm o))&&true))) (oblB ((lenN es).beq (k*7)) ((((zk11 T)∧(I (wrapA IntKind.i64 (i+1))=I j∧closedA (I j)=true)∧True)∧zk7∧(zk17 C L M N O o)∧((true=true∧some 58=some 58∧0=0∧k'=k+lenN (zk41 nm o)∧7=7)∧True)∧(es++flat (zk41 nm o)=es'∧closedAll es'=true)∧True)∧Nx))) (zk1 C L M N Q T es i k o)):=by kernel_rfl
theorem ra_d7f (nm ch st:List UInt8) (se:Bool) (k k':Nat) (i j:Int) (T O es es':List AV) (o:Ob) (M N L C:AV) (Nx:Prop) (Q:AExit→St→Prop):wpK Tryz.prog opts0 40 (raAd (rrD nm ch st se 7) false) (lpCode Tryz.prog 45 17) (zk13 C L M N T es i k o).st (roundP 0 [(0,0),(1,1),(2,2)] (zk19 O T es' j k') Nx [(0,0),(1,1),(2,2)] (zk13 C L M N T es i k o) Q)=
  (mtB (ltInt i (Int.ofNat (lenN T))) (indexAddrA Tryz.prog 140 (AV.fsl true T) (I i)=some (zk29 ch nm st se)∧indexAddrA Tryz.prog 140 (AV.fsl true T) (I i)=some (zk29 ch nm st se)∧partA Tryz.prog 4 (obF o M N L C) 21=some (AV.bool false)∧(((zk11 T)∧(I (wrapA IntKind.i64 (i+1))=I j∧closedA (I j)=true)∧True)∧zk7∧(zk17 C L M N O o)∧(zk16 k k')∧(zk45 es es')∧True)∧Nx) (zk1 C L M N Q T es i k o)):=by kernel_rfl
abbrev zk30 (ch nm st:List UInt8) (se:Bool):=(AV.fptr [AV.str nm,I 9,AV.bool false,AV.bool se,AV.str ch,AV.str st,I 8] 0)
abbrev zk42 (nm:List UInt8) (o:Ob):=[AV.agg [AV.str nm,I 0,I 4325387,I 9,I o.d8.2,AV.nilsl,AV.nilsl]]
theorem ra_d8t (nm ch st:List UInt8) (se:Bool) (k k':Nat) (i j:Int) (T O es es':List AV) (o:Ob) (M N L C:AV) (Nx:Prop) (Q:AExit→St→Prop):wpK Tryz.prog opts0 40 (raAd (rrD nm ch st se 8) true) (lpCode Tryz.prog 45 17) (zk13 C L M N T es i k o).st (roundP 0 [(0,0),(1,1),(2,58)] (zk19 O T es' j k') Nx [(0,0),(1,1),(2,2)] (zk13 C L M N T es i k o) Q)=
  (mtB (ltInt i (Int.ofNat (lenN T))) (indexAddrA Tryz.prog 140 (AV.fsl true T) (I i)=some (zk30 ch nm st se)∧indexAddrA Tryz.prog 140 (AV.fsl true T) (I i)=some (zk30 ch nm st se)∧partA Tryz.prog 4 (obF o M N L C) 23=some (AV.bool true)∧indexAddrA Tryz.prog 140 (AV.fsl true T) (I i)=some (zk30 ch nm st se)∧indexAddrA Tryz.prog 140 (AV.fsl true T) (I i)=some (zk30 ch nm st se)∧oblB (allSize 7 (zk42 nm o)&&(((k+lenN (zk42 nm o))*96).ble 140737488355328&&(allOne (flat (zk42 nm o))&&true))) (oblB ((lenN es).beq (k*7)) ((((zk11 T)∧(I (wrapA IntKind.i64 (i+1))=I j∧closedA (I j)=true)∧True)∧zk7∧(zk17 C L M N O o)∧((true=true∧some 58=some 58∧0=0∧k'=k+lenN (zk42 nm o)∧7=7)∧True)∧(es++flat (zk42 nm o)=es'∧closedAll es'=true)∧True)∧Nx))) (zk1 C L M N Q T es i k o)):=by kernel_rfl
theorem ra_d8f (nm ch st:List UInt8) (se:Bool) (k k':Nat) (i j:Int) (T O es es':List AV) (o:Ob) (M N L C:AV) (Nx:Prop) (Q:AExit→St→Prop):wpK Tryz.prog opts0 40 (raAd (rrD nm ch st se 8) false) (lpCode Tryz.prog 45 17) (zk13 C L M N T es i k o).st (roundP 0 [(0,0),(1,1),(2,2)] (zk19 O T es' j k') Nx [(0,0),(1,1),(2,2)] (zk13 C L M N T es i k o) Q)=
  (mtB (ltInt i (Int.ofNat (lenN T))) (indexAddrA Tryz.prog 140 (AV.fsl true T) (I i)=some (zk30 ch nm st se)∧indexAddrA Tryz.prog 140 (AV.fsl true T) (I i)=some (zk30 ch nm st se)∧partA Tryz.prog 4 (obF o M N L C) 23=some (AV.bool false)∧(((zk11 T)∧(I (wrapA IntKind.i64 (i+1))=I j∧closedA (I j)=true)∧True)∧zk7∧(zk17 C L M N O o)∧(zk16 k k')∧(zk45 es es')∧True)∧Nx) (zk1 C L M N Q T es i k o)):=by kernel_rfl
abbrev zk31 (ch nm st:List UInt8) (se:Bool):=(AV.fptr [AV.str nm,I 9,AV.bool false,AV.bool se,AV.str ch,AV.str st,I 9] 0)
abbrev zk43 (nm:List UInt8) (o:Ob):=[AV.agg [AV.str nm,I 0,I 4325387,I 9,I o.d9.2,AV.nilsl,AV.nilsl]]
theorem ra_d9t (nm ch st:List UInt8) (se:Bool) (k k':Nat) (i j:Int) (T O es es':List AV) (o:Ob) (M N L C:AV) (Nx:Prop) (Q:AExit→St→Prop):wpK Tryz.prog opts0 40 (raAd (rrD nm ch st se 9) true) (lpCode Tryz.prog 45 17) (zk13 C L M N T es i k o).st (roundP 0 [(0,0),(1,1),(2,58)] (zk19 O T es' j k') Nx [(0,0),(1,1),(2,2)] (zk13 C L M N T es i k o) Q)=
  (mtB (ltInt i (Int.ofNat (lenN T))) (indexAddrA Tryz.prog 140 (AV.fsl true T) (I i)=some (zk31 ch nm st se)∧indexAddrA Tryz.prog 140 (AV.fsl true T) (I i)=some (zk31 ch nm st se)∧partA Tryz.prog 4 (obF o M N L C) 25=some (AV.bool true)∧indexAddrA Tryz.prog 140 (AV.fsl true T) (I i)=some (zk31 ch nm st se)∧indexAddrA Tryz.prog 140 (AV.fsl true T) (I i)=some (zk31 ch nm st se)∧oblB (allSize 7 (zk43 nm o)&&(((k+lenN (zk43 nm o))*96).ble 140737488355328&&(allOne (flat (zk43 nm o))&&true))) (oblB ((lenN es).beq (k*7)) ((((zk11 T)∧(I (wrapA IntKind.i64 (i+1))=I j∧closedA (I j)=true)∧True)∧zk7∧(zk17 C L M N O o)∧((true=true∧some 58=some 58∧0=0∧k'=k+lenN (zk43 nm o)∧7=7)∧True)∧(es++flat (zk43 nm o)=es'∧closedAll es'=true)∧True)∧Nx))) (zk1 C L M N Q T es i k o)):=by kernel_rfl
theorem ra_d9f (nm ch st:List UInt8) (se:Bool) (k k':Nat) (i j:Int) (T O es es':List AV) (o:Ob) (M N L C:AV) (Nx:Prop) (Q:AExit→St→Prop):wpK Tryz.prog opts0 40 (raAd (rrD nm ch st se 9) false) (lpCode Tryz.prog 45 17) (zk13 C L M N T es i k o).st (roundP 0 [(0,0),(1,1),(2,2)] (zk19 O T es' j k') Nx [(0,0),(1,1),(2,2)] (zk13 C L M N T es i k o) Q)=
  (mtB (ltInt i (Int.ofNat (lenN T))) (indexAddrA Tryz.prog 140 (AV.fsl true T) (I i)=some (zk31 ch nm st se)∧indexAddrA Tryz.prog 140 (AV.fsl true T) (I i)=some (zk31 ch nm st se)∧partA Tryz.prog 4 (obF o M N L C) 25=some (AV.bool false)∧(((zk11 T)∧(I (wrapA IntKind.i64 (i+1))=I j∧closedA (I j)=true)∧True)∧zk7∧(zk17 C L M N O o)∧(zk16 k k')∧(zk45 es es')∧True)∧Nx) (zk1 C L M N Q T es i k o)):=by kernel_rfl
theorem ra_dn (nm ch st:List UInt8) (ty:Int) (ma se:Bool) (k k':Nat) (i j:Int) (T O es es':List AV) (o:Ob) (M N L C:AV) (Nx:Prop) (Q:AExit→St→Prop):wpK Tryz.prog opts0 40 (raAd [.str nm,I ty,.bool ma,.bool se,.str ch,.str st,I (-1)] false) (lpCode Tryz.prog 45 17) (zk13 C L M N T es i k o).st (roundP 0 [(0,0),(1,1),(2,2)] (zk19 O T es' j k') Nx [(0,0),(1,1),(2,2)] (zk13 C L M N T es i k o) Q)=
  (mtB (ltInt i (Int.ofNat (lenN T))) (indexAddrA Tryz.prog 140 (AV.fsl true T) (I i)=some (AV.fptr [AV.str nm,I ty,AV.bool ma,AV.bool se,AV.str ch,AV.str st,I (Int.negSucc 0)] 0)∧(((zk11 T)∧(I (wrapA IntKind.i64 (i+1))=I j∧closedA (I j)=true)∧True)∧zk7∧(zk17 C L M N O o)∧(zk16 k k')∧(zk45 es es')∧True)∧Nx) (zk1 C L M N Q T es i k o)):=by kernel_rfl
def raAl (ty:Int) (id:List UInt8):Aid:=aidJ [(28,5,.res (.fptr [I ty,.str id] 0)),(28,12,.res (.fptr [I ty,.str id] 0))] [] noSem raI raJ
abbrev zk15 (i ty:Int) (id:List UInt8):=[AV.agg [AV.str [76,105,110,107],I i,I 4325387,I 1,I 0,AV.nilsl,AV.fsl true [AV.agg [I 4325451,I 5,I ty,AV.nilsl,AV.nilsl],AV.agg [I 4325452,I 7,I 0,AV.fsl false (toBytes id),AV.nilsl]]]]
theorem ra_l (ty:Int) (id:List UInt8) (k k':Nat) (i j:Int) (Ls O es es':List AV) (o:Ob) (M N C:AV) (Nx:Prop) (Q:AExit→St→Prop):wpK Tryz.prog opts0 40 (raAl ty id) (lpCode Tryz.prog 45 27) (raV [(8,I i)] k (obF o M N (.fsl false Ls) C) es).st (roundP 0 [(0,0),(1,1),(2,50)] (raV [(8,I j)] k' O es') Nx [(0,0),(1,1),(2,2)] (raV [(8,I i)] k (obF o M N (.fsl false Ls) C) es) Q)=
  (mtB (ltInt i (Int.ofNat (lenN Ls))) (indexAddrA Tryz.prog 28 (AV.fsl false Ls) (I i)=some (AV.fptr [I ty,AV.str id] 0)∧indexAddrA Tryz.prog 28 (AV.fsl false Ls) (I i)=some (AV.fptr [I ty,AV.str id] 0)∧oblB (allSize 7 (zk15 i ty id)&&(((k+lenN (zk15 i ty id))*96).ble 140737488355328&&(allOne (flat (zk15 i ty id))&&true))) (oblB ((lenN es).beq (k*7)) ((((I (wrapA IntKind.i64 (i+1))=I j∧closedA (I j)=true)∧True)∧zk7∧((obF o M N (AV.fsl false Ls) C)=O∧closedAll O=true)∧((true=true∧some 50=some 50∧0=0∧k'=k+lenN (zk15 i ty id)∧7=7)∧True)∧(es++flat (zk15 i ty id)=es'∧closedAll es'=true)∧True)∧Nx))) ((((zk46 i)∧True)∧zk7∧((obF o M N (AV.fsl false Ls) C)=(obF o M N (AV.fsl false Ls) C)∧closedAll (obF o M N (AV.fsl false Ls) C)=true)∧(zk18 k)∧(zk49 es)∧True)∧Q (AExit.exit 4) (raV [(8,I i)] k (obF o M N (AV.fsl false Ls) C) es).st)):=by kernel_rfl
def raAm (n t n' t':List UInt8):Aid:=aidJ [(38,3,.res (.fptr [.str n,.str t] 0)),(38,9,.res (.fptr [.str n',.str t'] 0))] [] noSem raI raJ
@[simp] abbrev zk47 (Cs:List AV) (L M N:AV) (o:Ob):=((obF o M N L (AV.fsl false Cs))=(obF o M N L (AV.fsl false Cs))∧closedAll (obF o M N L (AV.fsl false Cs))=true)
theorem ra_m (n t n' t':List UInt8) (c c':Int) (k:Nat) (i j j':Int) (Cs O es:List AV) (o:Ob) (M N L:AV) (Nx:Prop) (Q:AExit→St→Prop):wpK Tryz.prog opts0 40 (raAm n t n' t') (lpCode Tryz.prog 45 37) (raV [(9,I i),(10,I c),(11,I j)] k (obF o M N L (.fsl false Cs)) es).st (roundP 0 [(0,0),(1,1),(2,2)] (raV [(9,I i),(10,I c'),(11,I j')] k O es) Nx [(0,0),(1,1),(2,2)] (raV [(9,I i),(10,I c),(11,I j)] k (obF o M N L (.fsl false Cs)) es) Q)=
  (mtB (ltInt j i) (indexAddrA Tryz.prog 29 (AV.fsl false Cs) (I j)=some (AV.fptr [AV.str n,AV.str t] 0)∧indexAddrA Tryz.prog 29 (AV.fsl false Cs) (I i)=some (AV.fptr [AV.str n',AV.str t'] 0)∧mtB (beqBytes n n') ((((zk46 i)∧(I (wrapA IntKind.i64 (c+1))=I c'∧closedA (I c')=true)∧(I (wrapA IntKind.i64 (j+1))=I j'∧closedA (I j')=true)∧True)∧zk7∧((obF o M N L (AV.fsl false Cs))=O∧closedAll O=true)∧(zk18 k)∧(zk49 es)∧True)∧Nx) ((((zk46 i)∧(I c=I c'∧closedA (I c')=true)∧(I (wrapA IntKind.i64 (j+1))=I j'∧closedA (I j')=true)∧True)∧zk7∧((obF o M N L (AV.fsl false Cs))=O∧closedAll O=true)∧(zk18 k)∧(zk49 es)∧True)∧Nx)) ((((zk46 i)∧(I c=I c∧closedA (I c)=true)∧(I j=I j∧closedA (I j)=true)∧True)∧zk7∧(zk47 Cs L M N o)∧(zk18 k)∧(zk49 es)∧True)∧Q (AExit.exit 8) (raV [(9,I i),(10,I c),(11,I j)] k (obF o M N L (AV.fsl false Cs)) es).st)):=by kernel_rfl
def raLm (p:Prop) (i c:Int) (k:Nat) (O es:List AV):LoopS:=fun st Q=>p∧seesK 0 [(0,0),(1,1),(2,2)] (raV [(9,I i),(10,I 0),(11,I 0)] k O es) st∧Q (.exit 8) (raV [(9,I i),(10,I c),(11,I i)] k O es).st
def raAc (p:Prop) (n t:List UInt8) (i c:Int) (k:Nat) (O es:List AV):Aid:=aidJ [(40,4,.res (.fptr [.str n,.str t] 0)),(40,11,.res (.fptr [.str n,.str t] 0))] [(37,raLm p i c k O es)] noSem raI raJ
@[simp] abbrev zk32:=(I 0=I 0∧true=true)
abbrev zk33 (c:Int) (n t:List UInt8):=[AV.agg [AV.str n,I c,I 4325387,I 7,I 0,AV.fsl false (toBytes t),AV.nilsl]]
theorem ra_c (p:Prop) (n t:List UInt8) (c:Int) (k k':Nat) (i j:Int) (Cs O es es':List AV) (o:Ob) (M N L:AV) (Nx:Prop) (Q:AExit→St→Prop):wpK Tryz.prog opts0 40 (raAc p n t i c k (obF o M N L (.fsl false Cs)) es) (lpCode Tryz.prog 45 33) (raV [(9,I i)] k (obF o M N L (.fsl false Cs)) es).st (roundP 0 [(0,0),(1,1),(2,36)] (raV [(9,I j)] k' O es') Nx [(0,0),(1,1),(2,2)] (raV [(9,I i)] k (obF o M N L (.fsl false Cs)) es) Q)=
  (mtB (ltInt i (Int.ofNat (lenN Cs))) (p∧(((zk46 i)∧zk32∧zk32∧True)∧zk7∧(zk47 Cs L M N o)∧(zk18 k)∧(zk49 es)∧True)∧indexAddrA Tryz.prog 29 (AV.fsl false Cs) (I i)=some (AV.fptr [AV.str n,AV.str t] 0)∧indexAddrA Tryz.prog 29 (AV.fsl false Cs) (I i)=some (AV.fptr [AV.str n,AV.str t] 0)∧oblB (allSize 7 (zk33 c n t)&&(((k+lenN (zk33 c n t))*96).ble 140737488355328&&(allOne (flat (zk33 c n t))&&true))) (oblB ((lenN es).beq (k*7)) ((((I (wrapA IntKind.i64 (i+1))=I j∧closedA (I j)=true)∧True)∧zk7∧((obF o M N L (AV.fsl false Cs))=O∧closedAll O=true)∧((true=true∧some 36=some 36∧0=0∧k'=k+lenN (zk33 c n t)∧7=7)∧True)∧(es++flat (zk33 c n t)=es'∧closedAll es'=true)∧True)∧Nx))) ((((zk46 i)∧True)∧zk7∧(zk47 Cs L M N o)∧(zk18 k)∧(zk49 es)∧True)∧Q (AExit.exit 6) (raV [(9,I i)] k (obF o M N L (AV.fsl false Cs)) es).st)):=by kernel_rfl
def rowId (h:Heap) (b:Nat):Nat:=match hget h b with
 |some (.cells (.rsl _ id _ _ _::_))=>id
 |_=>0
def raLn (e:Int) (k k':Nat) (O es es':List AV):LoopS:=fun st Q=>seesK 0 [(0,0),(1,3),(2,rowId st.heap 3)] (raV [(4,I 0)] k O es) st∧Q (.exit 0) (raV [(4,I e)] k' O es').st
def raLd (T:List AV) (k k':Nat) (O es es':List AV):LoopS:=fun st Q=>seesK 0 [(0,0),(1,1),(2,rowId st.heap 1)] (raV [(5,.fsl true T),(6,I 0)] k O es) st∧Q (.exit 2) (raV [(5,.fsl true T),(6,I 20)] k' O es').st
def raLl (e:Int) (k k':Nat) (O es es':List AV):LoopS:=fun st Q=>seesK 0 [(0,0),(1,1),(2,rowId st.heap 1)] (raV [(8,I 0)] k O es) st∧Q (.exit 4) (raV [(8,I e)] k' O es').st
def raLc (e:Int) (k k':Nat) (O es es':List AV):LoopS:=fun st Q=>seesK 0 [(0,0),(1,1),(2,rowId st.heap 1)] (raV [(9,I 0)] k O es) st∧Q (.exit 6) (raV [(9,I e)] k' O es').st
def raVw (k:Nat) (O es:List AV) (kk:AV):View:=⟨[],[(1,.ptr 0 0),(3,.ptr 1 0),(7,.ptr 11 0)],[(0,.cells O,.whole),(1,.cells [.rsl true 2 0 k 7],.each),(2,.cells es,.whole),(11,.cells [I 4325387,I 1,I 0,.nilsl,kk],.whole)],60,221⟩
abbrev zk2 (o:Ob):=[AV.agg [AV.str [67,114,121,112,116,111,103,114,97,112,104,105,99,32,85,115,97,103,101,32,77,97,115,107],I 0,I 4325387,I 2,I o.5,AV.nilsl,AV.nilsl]]
abbrev zk3 (o:Ob):=[AV.agg [AV.str [79,98,106,101,99,116,32,84,121,112,101],I 0,I 4325387,I 5,I o.2,AV.nilsl,AV.nilsl]]
abbrev zk20 (Cs Ls Ns:List AV) (M:AV) (o:Ob):=(obF o M (AV.fsl false Ns) (AV.fsl false Ls) (AV.fsl false Cs))
abbrev zk44 (o:Ob):=[I 4325506,I 5,I o.18,AV.nilsl,AV.nilsl]
abbrev zk50 (o:Ob):=[I 4325504,I 7,I 0,AV.fsl false (toBytes o.19),AV.nilsl]
abbrev zk53 (o:Ob):=[I 4325387,I 1,I 0,AV.nilsl,AV.rsl true 28 0 (lenN [AV.agg (zk44 o)]+lenN [AV.agg (zk50 o)]) 5]
abbrev zk4 (Cs E3 Ls Ns:List AV) (K3:Nat) (M:AV) (o:Ob):=[(31,some (Blk.cells (zk50 o))),(28,some (Blk.cells (flat [AV.agg (zk44 o)]++flat [AV.agg (zk50 o)]))),(13,some (Blk.cells (zk44 o))),(11,some (Blk.cells (zk53 o))),(0,some (Blk.cells (zk20 Cs Ls Ns M o))),(1,some (Blk.cells [AV.rsl true 2 0 K3 7])),(2,some (Blk.cells E3))]
abbrev zk5 (o:Ob):=[AV.agg [AV.str [67,114,121,112,116,111,103,114,97,112,104,105,99,32,65,108,103,111,114,105,116,104,109],I 0,I 4325387,I 5,I o.3,AV.nilsl,AV.nilsl]]
abbrev zk6 (o:Ob):=[AV.agg [AV.str [67,114,121,112,116,111,103,114,97,112,104,105,99,32,76,101,110,103,116,104],I 0,I 4325387,I 2,I o.4,AV.nilsl,AV.nilsl]]
abbrev zk8 (Cs E3 Ls Ns:List AV) (K3:Nat) (M:AV) (o:Ob):=[(13,some (Blk.cells (zk44 o))),(11,some (Blk.cells [I 4325387,I 1,I 0,AV.nilsl,AV.fsl true [AV.agg (zk44 o)]])),(0,some (Blk.cells (zk20 Cs Ls Ns M o))),(1,some (Blk.cells [AV.rsl true 2 0 K3 7])),(2,some (Blk.cells E3))]
@[simp] abbrev zk9 (Cs Ls Ns:List AV) (M:AV) (o:Ob):=((zk20 Cs Ls Ns M o)=(zk20 Cs Ls Ns M o)∧closedAll (zk20 Cs Ls Ns M o)=true)
abbrev zk10 (o:Ob):=[AV.agg [AV.str [83,116,97,116,101],I 0,I 4325387,I 5,I o.7,AV.nilsl,AV.nilsl]]
abbrev zk12 (kk:AV):=[AV.agg [AV.str [82,101,118,111,99,97,116,105,111,110,32,82,101,97,115,111,110],I 0,I 4325387,I 1,I 0,AV.nilsl,kk]]
abbrev zk14 (o:Ob):=[AV.agg [AV.str [85,115,97,103,101,32,76,105,109,105,116,115],I 0,I 4325387,I 1,I 0,AV.nilsl,AV.fsl true [AV.agg [I 4325527,I 3,I o.24,AV.nilsl,AV.nilsl],AV.agg [I 4325526,I 3,I o.25,AV.nilsl,AV.nilsl],AV.agg [I 4325528,I 5,I o.26,AV.nilsl,AV.nilsl]]]]
abbrev zk48 (o:Ob):=[AV.agg [AV.str [85,110,105,113,117,101,32,73,100,101,110,116,105,102,105,101,114],I 0,I 4325387,I 7,I 0,AV.fsl false (toBytes o.1),AV.nilsl]]
abbrev zk51 (Cs Ls Ns:List AV) (M:AV) (o:Ob):=(obF o M (AV.fsl false Ns) (AV.fsl false Ls) (AV.fsl false Cs))
@[simp] abbrev zk52 (Cs E3 E4 Ls Ns:List AV) (K3 K4:Nat) (M kk:AV) (o:Ob):=((zk32∧True)∧zk7∧(zk9 Cs Ls Ns M o)∧((true=true∧some 74=some 74∧0=0∧K4=K3+lenN (zk12 kk)∧7=7)∧True)∧(E3++flat (zk12 kk)=E4∧closedAll E4=true)∧True)
abbrev zk54 (kk:AV):=[I 4325387,I 1,I 0,AV.nilsl,kk]
theorem ra_fn (kk:AV) (T Ns Ls Cs E0 E1 E2 E3 E4 E5 E6 E7:List AV) (K0 K1 K2 K3 K4 K5 K6 K7:Nat) (a b c:Int) (o:Ob) (M:AV) (Q:AV→Heap→Prop):fnK Tryz.prog opts0 40 (aidC (aidJ [] [(5,raLn a K0 K1 (zk51 Cs Ls Ns M o) E0 E1),(17,raLd T K2 K3 (zk51 Cs Ls Ns M o) E2 E3),(27,raLl b K4 K5 (zk51 Cs Ls Ns M o) E4 E5),(33,raLc c K6 K7 (zk51 Cs Ls Ns M o) E6 E7)] (manyS [(95,.fsl true T)]) raI raJ) 24 20 (raVw K3 (zk51 Cs Ls Ns M o) E3 kk)) 45 [.agg (zk51 Cs Ls Ns M o)] [] 0 (fun v H _=>Q v H)=
  (let R1:Prop:=mtB o.23 (oblB (allSize 7 (zk14 o)&&(((K5+lenN (zk14 o))*96).ble 140737488355328&&(allOne (flat (zk14 o))&&true))) (oblB ((lenN E5).beq (K5*7)) (((zk32∧True)∧zk7∧(zk9 Cs Ls Ns M o)∧((true=true∧some 51=some 51∧0=0∧K6=K5+lenN (zk14 o)∧7=7)∧True)∧(E5++flat (zk14 o)=E6∧closedAll E6=true)∧True)∧Q (AV.rsl true 2 0 K7 7) [(0,some (Blk.cells (zk20 Cs Ls Ns M o))),(1,some (Blk.cells [AV.rsl true 2 0 K7 7])),(2,some (Blk.cells E7))]))) (((zk32∧True)∧zk7∧(zk9 Cs Ls Ns M o)∧((true=true∧some 2=some 2∧0=0∧K6=K5∧7=7)∧True)∧(E5=E6∧closedAll E6=true)∧True)∧Q (AV.rsl true 2 0 K7 7) [(0,some (Blk.cells (zk20 Cs Ls Ns M o))),(1,some (Blk.cells [AV.rsl true 2 0 K7 7])),(2,some (Blk.cells E7))]);let R2:Prop:=mtB (!beqBytes o.19 []) (((Frz 20 (zk4 Cs E3 Ls Ns K3 M o) (AV.ptr 0 0) (AV.ptr 0 0)∧Frz 20 (zk4 Cs E3 Ls Ns K3 M o) (AV.ptr 1 0) (AV.ptr 1 0)∧Frz 20 (zk4 Cs E3 Ls Ns K3 M o) (AV.ptr 11 0) (AV.ptr 11 0)∧True)∧FrzL 20 (zk4 Cs E3 Ls Ns K3 M o) (zk20 Cs Ls Ns M o) (zk20 Cs Ls Ns M o)∧FrzL 20 (zk4 Cs E3 Ls Ns K3 M o) [AV.rsl true 2 0 K3 7] [AV.rsl true 2 0 K3 7]∧FrzL 20 (zk4 Cs E3 Ls Ns K3 M o) E3 E3∧FrzL 20 (zk4 Cs E3 Ls Ns K3 M o) (zk53 o) (zk54 kk)∧True)∧oblB (fitsT Tryz.prog 37 (AV.agg (zk54 kk)) 5&&true) (oblB (allSize 7 (zk12 kk)&&(((K3+lenN (zk12 kk))*96).ble 140737488355328&&(allOne (flat (zk12 kk))&&true))) (oblB ((lenN E3).beq (K3*7)) ((zk52 Cs E3 E4 Ls Ns K3 K4 M kk o)∧R1)))) (((Frz 20 (zk8 Cs E3 Ls Ns K3 M o) (AV.ptr 0 0) (AV.ptr 0 0)∧Frz 20 (zk8 Cs E3 Ls Ns K3 M o) (AV.ptr 1 0) (AV.ptr 1 0)∧Frz 20 (zk8 Cs E3 Ls Ns K3 M o) (AV.ptr 11 0) (AV.ptr 11 0)∧True)∧FrzL 20 (zk8 Cs E3 Ls Ns K3 M o) (zk20 Cs Ls Ns M o) (zk20 Cs Ls Ns M o)∧FrzL 20 (zk8 Cs E3 Ls Ns K3 M o) [AV.rsl true 2 0 K3 7] [AV.rsl true 2 0 K3 7]∧FrzL 20 (zk8 Cs E3 Ls Ns K3 M o) E3 E3∧FrzL 20 (zk8 Cs E3 Ls Ns K3 M o) [I 4325387,I 1,I 0,AV.nilsl,AV.fsl true [AV.agg (zk44 o)]] (zk54 kk)∧True)∧oblB (fitsT Tryz.prog 37 (AV.agg (zk54 kk)) 5&&true) (oblB (allSize 7 (zk12 kk)&&(((K3+lenN (zk12 kk))*96).ble 140737488355328&&(allOne (flat (zk12 kk))&&true))) (oblB ((lenN E3).beq (K3*7)) ((zk52 Cs E3 E4 Ls Ns K3 K4 M kk o)∧R1))));let R3:Prop:=mtB (!beqInt o.18 0) (R2) (((zk32∧True)∧zk7∧(zk9 Cs Ls Ns M o)∧((true=true∧some 2=some 2∧0=0∧K4=K3∧7=7)∧True)∧(E3=E4∧closedAll E4=true)∧True)∧R1);(((zk32∧True)∧((some 0=some 0∧0=0)∧(some 3=some 3∧0=0)∧True)∧(zk9 Cs Ls Ns M o)∧((true=true∧some 27=some 27∧0=0∧K0=lenN (zk48 o)∧7=7)∧True)∧(flat (zk48 o)=E0∧closedAll E0=true)∧True)∧oblB (allSize 7 (zk3 o)&&(((K1+lenN (zk3 o))*96).ble 140737488355328&&(allOne (flat (zk3 o))&&true))) (oblB ((lenN E1).beq (K1*7)) (mtB (!beqInt o.3 0) (oblB (allSize 7 (zk5 o)&&(((K1+lenN (zk3 o)+lenN (zk5 o))*96).ble 140737488355328&&(allOne (flat (zk5 o))&&true))) (oblB ((lenN (E1++flat (zk3 o))).beq ((K1+lenN (zk3 o))*7)) (mtB (!beqInt o.4 0) (oblB (allSize 7 (zk6 o)&&(((K1+lenN (zk3 o)+lenN (zk5 o)+lenN (zk6 o))*96).ble 140737488355328&&(allOne (flat (zk6 o))&&true))) (oblB ((lenN (E1++flat (zk3 o)++flat (zk5 o))).beq ((K1+lenN (zk3 o)+lenN (zk5 o))*7)) (oblB (allSize 7 (zk2 o)&&(((K1+lenN (zk3 o)+lenN (zk5 o)+lenN (zk6 o)+lenN (zk2 o))*96).ble 140737488355328&&(allOne (flat (zk2 o))&&true))) (oblB ((lenN (E1++flat (zk3 o)++flat (zk5 o)++flat (zk6 o))).beq ((K1+lenN (zk3 o)+lenN (zk5 o)+lenN (zk6 o))*7)) (oblB (allSize 7 (zk10 o)&&(((K1+lenN (zk3 o)+lenN (zk5 o)+lenN (zk6 o)+lenN (zk2 o)+lenN (zk10 o))*96).ble 140737488355328&&(allOne (flat (zk10 o))&&true))) (oblB ((lenN (E1++flat (zk3 o)++flat (zk5 o)++flat (zk6 o)++flat (zk2 o))).beq ((K1+lenN (zk3 o)+lenN (zk5 o)+lenN (zk6 o)+lenN (zk2 o))*7)) (SC 95 [] (AV.fsl true T)∧(((zk11 T)∧zk32∧True)∧zk7∧(zk9 Cs Ls Ns M o)∧((true=true∧some 135=some 135∧0=0∧K2=K1+lenN (zk3 o)+lenN (zk5 o)+lenN (zk6 o)+lenN (zk2 o)+lenN (zk10 o)∧7=7)∧True)∧(E1++flat (zk3 o)++flat (zk5 o)++flat (zk6 o)++flat (zk2 o)++flat (zk10 o)=E2∧closedAll E2=true)∧True)∧R3))))))) (oblB (allSize 7 (zk2 o)&&(((K1+lenN (zk3 o)+lenN (zk5 o)+lenN (zk2 o))*96).ble 140737488355328&&(allOne (flat (zk2 o))&&true))) (oblB ((lenN (E1++flat (zk3 o)++flat (zk5 o))).beq ((K1+lenN (zk3 o)+lenN (zk5 o))*7)) (oblB (allSize 7 (zk10 o)&&(((K1+lenN (zk3 o)+lenN (zk5 o)+lenN (zk2 o)+lenN (zk10 o))*96).ble 140737488355328&&(allOne (flat (zk10 o))&&true))) (oblB ((lenN (E1++flat (zk3 o)++flat (zk5 o)++flat (zk2 o))).beq ((K1+lenN (zk3 o)+lenN (zk5 o)+lenN (zk2 o))*7)) (SC 95 [] (AV.fsl true T)∧(((zk11 T)∧zk32∧True)∧zk7∧(zk9 Cs Ls Ns M o)∧((true=true∧some 109=some 109∧0=0∧K2=K1+lenN (zk3 o)+lenN (zk5 o)+lenN (zk2 o)+lenN (zk10 o)∧7=7)∧True)∧(E1++flat (zk3 o)++flat (zk5 o)++flat (zk2 o)++flat (zk10 o)=E2∧closedAll E2=true)∧True)∧R3)))))))) (mtB (!beqInt o.4 0) (oblB (allSize 7 (zk6 o)&&(((K1+lenN (zk3 o)+lenN (zk6 o))*96).ble 140737488355328&&(allOne (flat (zk6 o))&&true))) (oblB ((lenN (E1++flat (zk3 o))).beq ((K1+lenN (zk3 o))*7)) (oblB (allSize 7 (zk2 o)&&(((K1+lenN (zk3 o)+lenN (zk6 o)+lenN (zk2 o))*96).ble 140737488355328&&(allOne (flat (zk2 o))&&true))) (oblB ((lenN (E1++flat (zk3 o)++flat (zk6 o))).beq ((K1+lenN (zk3 o)+lenN (zk6 o))*7)) (oblB (allSize 7 (zk10 o)&&(((K1+lenN (zk3 o)+lenN (zk6 o)+lenN (zk2 o)+lenN (zk10 o))*96).ble 140737488355328&&(allOne (flat (zk10 o))&&true))) (oblB ((lenN (E1++flat (zk3 o)++flat (zk6 o)++flat (zk2 o))).beq ((K1+lenN (zk3 o)+lenN (zk6 o)+lenN (zk2 o))*7)) (SC 95 [] (AV.fsl true T)∧(((zk11 T)∧zk32∧True)∧zk7∧(zk9 Cs Ls Ns M o)∧((true=true∧some 109=some 109∧0=0∧K2=K1+lenN (zk3 o)+lenN (zk6 o)+lenN (zk2 o)+lenN (zk10 o)∧7=7)∧True)∧(E1++flat (zk3 o)++flat (zk6 o)++flat (zk2 o)++flat (zk10 o)=E2∧closedAll E2=true)∧True)∧R3))))))) (oblB (allSize 7 (zk2 o)&&(((K1+lenN (zk3 o)+lenN (zk2 o))*96).ble 140737488355328&&(allOne (flat (zk2 o))&&true))) (oblB ((lenN (E1++flat (zk3 o))).beq ((K1+lenN (zk3 o))*7)) (oblB (allSize 7 (zk10 o)&&(((K1+lenN (zk3 o)+lenN (zk2 o)+lenN (zk10 o))*96).ble 140737488355328&&(allOne (flat (zk10 o))&&true))) (oblB ((lenN (E1++flat (zk3 o)++flat (zk2 o))).beq ((K1+lenN (zk3 o)+lenN (zk2 o))*7)) (SC 95 [] (AV.fsl true T)∧(((zk11 T)∧zk32∧True)∧zk7∧(zk9 Cs Ls Ns M o)∧((true=true∧some 83=some 83∧0=0∧K2=K1+lenN (zk3 o)+lenN (zk2 o)+lenN (zk10 o)∧7=7)∧True)∧(E1++flat (zk3 o)++flat (zk2 o)++flat (zk10 o)=E2∧closedAll E2=true)∧True)∧R3)))))))))):=by kernel_rfl
end
def rTx (nm:List UInt8) (i:Int) (s:List UInt8):AV:= .agg [.str nm,I i,I 4325387,I 7,I 0,.fsl false (toBytes s),.nilsl]
def rNu (nm:List UInt8) (ty n:Int):AV:= .agg [.str nm,I 0,I 4325387,I ty,I n,.nilsl,.nilsl]
def rKd (nm:List UInt8) (i:Int) (kk:AV):AV:= .agg [.str nm,I i,I 4325387,I 1,I 0,.nilsl,kk]
def lkk (l:Lk):AV:= .fsl true [.agg [I 4325451,I 5,I l.ty,.nilsl,.nilsl],.agg [I 4325452,I 7,I 0,.fsl false (toBytes l.id),.nilsl]]
def whyk (o:Ob):AV:=match beqBytes o.msg [] with
 |true=> .fsl true [.agg [I 4325506,I 5,I o.why,.nilsl,.nilsl]]
 |false=> .fsl false [.agg [I 4325506,I 5,I o.why,.nilsl,.nilsl],.agg [I 4325504,I 7,I 0,.fsl false (toBytes o.msg),.nilsl]]
def limk (o:Ob):AV:= .fsl true [.agg [I 4325527,I 3,I o.lt,.nilsl,.nilsl],.agg [I 4325526,I 3,I o.lc,.nilsl,.nilsl],.agg [I 4325528,I 5,I o.lu,.nilsl,.nilsl]]
def rTxs (nm:List UInt8):List (List UInt8)→Nat→List AV
 |[],_=>[]
 |s::r,i=>rTx nm (.ofNat i) s::rTxs nm r (i+1)
def rLks:List Lk→Nat→List AV
 |[],_=>[]
 |l::r,i=>rKd (nameK .lnk) (.ofNat i) (lkk l)::rLks r (i+1)
def oneR (b:Bool) (x:AV):List AV:=match b with
 |true=>[x]
 |false=>[]
def rawK (o:Ob):Kd→List AV
 | .uid=>[rTx (nameK .uid) 0 o.id]
 | .nam=>rTxs (nameK .nam) o.names 0
 | .typ=>[rNu (nameK .typ) 5 o.ty]
 | .alg=>oneR (!beqInt o.alg 0) (rNu (nameK .alg) 5 o.alg)
 | .len=>oneR (!beqInt o.len 0) (rNu (nameK .len) 2 o.len)
 | .mask=>[rNu (nameK .mask) 2 o.mask]
 | .sta=>[rNu (nameK .sta) 5 o.st]
 | .dat k=>oneR (dateAt o k).has (rNu (nameK (.dat k)) 9 (dateAt o k).t)
 | .why=>oneR (!beqInt o.why 0) (rKd (nameK .why) 0 (whyk o))
 | .lnk=>rLks o.links 0
 | .lim=>oneR o.lh (rKd (nameK .lim) 0 (limk o))
 | .cus _=>[]
theorem rTxs_snoc (nm x:List UInt8):∀ (l:List (List UInt8)) (i:Nat),rTxs nm (l++[x]) i=rTxs nm l i++[rTx nm (.ofNat (i+l.length)) x]
 |[],_=>rfl
 |a::r,i=>by rw[List.cons_append,rTxs,rTxs,rTxs_snoc nm x r (i+1),List.cons_append,List.length_cons,show i+1+r.length=i+(r.length+1) by omega]
theorem rLks_snoc (x:Lk):∀ (l:List Lk) (i:Nat),rLks (l++[x]) i=rLks l i++[rKd (nameK .lnk) (.ofNat (i+l.length)) (lkk x)]
 |[],_=>rfl
 |a::r,i=>by rw[List.cons_append,rLks,rLks,rLks_snoc x r (i+1),List.cons_append,List.length_cons,show i+1+r.length=i+(r.length+1) by omega]
theorem rTxs_len (nm:List UInt8):∀ (l:List (List UInt8)) (i:Nat),(rTxs nm l i).length=l.length
 |[],_=>rfl
 |a::r,i=>by rw[rTxs,List.length_cons,List.length_cons,rTxs_len nm r]
theorem rLks_len:∀ (l:List Lk) (i:Nat),(rLks l i).length=l.length
 |[],_=>rfl
 |a::r,i=>by rw[rLks,List.length_cons,List.length_cons,rLks_len r]
structure RawOk (e:AV):Prop where
 c:closedA e=true
 f:closedAll e.cells=true
 l:e.cells.length=7
 g:goodEl 7 e
theorem raw_tx (nm:List UInt8) (i:Int) (s:List UInt8):RawOk (rTx nm i s):=⟨by simp[rTx,closedA,closedAll],by simp[rTx,AV.cells,closedA,closedAll],rfl,⟨rfl,rfl⟩⟩
theorem raw_nu (nm:List UInt8) (ty n:Int):RawOk (rNu nm ty n):=⟨rfl,rfl,rfl,⟨rfl,rfl⟩⟩
theorem raw_kd (nm:List UInt8) (i:Int) {f:Bool} {l:List AV} (h:closedAll l=true):RawOk (rKd nm i (.fsl f l)):=⟨by simp[rKd,closedA,closedAll,h],by simp[rKd,AV.cells,closedA,closedAll,h],rfl,⟨rfl,rfl⟩⟩
theorem raw_lnk (i:Int) (l:Lk):RawOk (rKd (nameK .lnk) i (lkk l)):=raw_kd _ _ (by simp[closedA,closedAll])
theorem raw_why (o:Ob):RawOk (rKd (nameK .why) 0 (whyk o)):=by
 unfold whyk
 split<;>exact raw_kd _ _ (by simp[closedA,closedAll])
theorem raw_lim (o:Ob):RawOk (rKd (nameK .lim) 0 (limk o)):=raw_kd _ _ rfl
theorem raw_txs (nm:List UInt8):∀ (l:List (List UInt8)) (i:Nat),∀e∈rTxs nm l i,RawOk e
 |[],_,_,h=>by cases h
 |a::r,i,e,h=>by
  rcases List.mem_cons.1 h with h|h
  ·subst h;exact raw_tx _ _ _
  ·exact raw_txs nm r _ e h
theorem raw_lks:∀ (l:List Lk) (i:Nat),∀e∈rLks l i,RawOk e
 |[],_,_,h=>by cases h
 |a::r,i,e,h=>by
  rcases List.mem_cons.1 h with h|h
  ·subst h;exact raw_lnk _ _
  ·exact raw_lks r _ e h
theorem raw_one {b:Bool} {x:AV} (h:RawOk x):∀e∈oneR b x,RawOk e:=fun e he=>by
 cases b with
 |true=>rw[List.mem_singleton.1 he];exact h
 |false=>cases he
theorem raw_K (o:Ob) (k:Kd):∀e∈rawK o k,RawOk e:=by
 cases k with
 |uid=>exact fun e he=>by rw[List.mem_singleton.1 he];exact raw_tx _ _ _
 |nam=>exact raw_txs _ _ _
 |typ=>exact fun e he=>by rw[List.mem_singleton.1 he];exact raw_nu _ _ _
 |alg=>exact raw_one (raw_nu _ _ _)
 |len=>exact raw_one (raw_nu _ _ _)
 |mask=>exact fun e he=>by rw[List.mem_singleton.1 he];exact raw_nu _ _ _
 |sta=>exact fun e he=>by rw[List.mem_singleton.1 he];exact raw_nu _ _ _
 |dat k=>exact raw_one (raw_nu _ _ _)
 |why=>exact raw_one (raw_why o)
 |lnk=>exact raw_lks _ _
 |lim=>exact raw_one (raw_lim o)
 |cus s=>exact fun e he=>by cases he
theorem raw_cus:∀ (l q:List Cu),∀e∈cusR q l,RawOk e
 |[],_,_,h=>by cases h
 |a::r,q,e,h=>by
  rcases List.mem_cons.1 h with h|h
  ·subst h;exact ⟨by simp[rawC,closedA,closedAll],by simp[rawC,AV.cells,closedA,closedAll],rfl,⟨rfl,rfl⟩⟩
  ·exact raw_cus r _ e h
theorem raws_closed:∀ {l:List AV},(∀e∈l,RawOk e)→closedAll l=true
 |[],_=>rfl
 |a::r,h=>by rw[closedAll,(h a (by simp)).c,raws_closed fun e he=>h e (by simp[he])];rfl
theorem raws_flat:∀ {l:List AV},(∀e∈l,RawOk e)→closedAll (flat l)=true
 |[],_=>rfl
 |a::r,h=>by rw[flat,closedAll_append,(h a (by simp)).f,raws_flat fun e he=>h e (by simp[he])];rfl
theorem raws_len:∀ {l:List AV},(∀e∈l,RawOk e)→(flat l).length=l.length*7
 |[],_=>rfl
 |a::r,h=>by
  rw[flat,List.length_append,(h a (by simp)).l,raws_len fun e he=>h e (by simp[he]),List.length_cons]
  omega
theorem wk_txs (nm:List UInt8):∀ (l:List (List UInt8)) (i:Nat),WkE (rTxs nm l i) ((tellL nm (l.map txt) i).map atA)
 |[],_=> .nil
 |a::r,i=>by
  rw[rTxs,List.map_cons,tellL,List.map_cons]
  refine WkE.consA ?_ (wk_txs nm r _)
  simp only[txt,vlV,atC,itC,itAs]
  (repeat (first|exact Wk.refl _|exact WkL.refl _|exact Wk.nil|exact Wk.row|exact WkE.refl _|exact WkL.nil|exact WkE.nil|apply Wk.agg|apply Wk.tuple|apply WkL.cons|apply Wk.rows|apply WkE.consA))
theorem wk_lks:∀ (l:List Lk) (i:Nat),WkE (rLks l i) ((tellL (nameK .lnk) (l.map lkI) i).map atA)
 |[],_=> .nil
 |a::r,i=>by
  rw[rLks,List.map_cons,tellL,List.map_cons]
  refine WkE.consA ?_ (wk_lks r _)
  simp only[lkI,whl,vlV,prt,lkk,atC,itC,itAs,itA,toBytes]
  (repeat (first|exact Wk.refl _|exact WkL.refl _|exact Wk.nil|exact Wk.row|exact WkE.refl _|exact WkL.nil|exact WkE.nil|apply Wk.agg|apply Wk.tuple|apply WkL.cons|apply Wk.rows|apply WkE.consA))
theorem wk_one {b:Bool} {x:AV} {nm:List UInt8} {v:It} (h:WkE [x] [atA ⟨nm,0,v⟩]):WkE (oneR b x) ((tellL nm (oneL b v) 0).map atA):=by
 cases b with
 |true=>exact h
 |false=>exact .nil
theorem wk_nu (nm:List UInt8) (ty n:Int):WkE [rNu nm ty n] [atA ⟨nm,0,numI ty n⟩]:=by
 refine WkE.consA ?_ .nil
 simp only[numI,vlV,atC,itC,itAs,toBytes]
 (repeat (first|exact Wk.refl _|exact WkL.refl _|exact Wk.nil|exact Wk.row|exact WkE.refl _|exact WkL.nil|exact WkE.nil|apply Wk.agg|apply Wk.tuple|apply WkL.cons|apply Wk.rows|apply WkE.consA))
theorem wk_rawK (o:Ob) (k:Kd) (hk:kdB k=true) (hc:∀s,k≠ .cus s):WkE (rawK o k) ((tellL (nameK k) (getK o k) 0).map atA):=by
 cases k with
 |uid=>
  refine WkE.consA ?_ .nil
  simp only[txt,vlV,atC,itC,itAs]
  (repeat (first|exact Wk.refl _|exact WkL.refl _|exact Wk.nil|exact Wk.row|exact WkE.refl _|exact WkL.nil|exact WkE.nil|apply Wk.agg|apply Wk.tuple|apply WkL.cons|apply Wk.rows|apply WkE.consA))
 |nam=>exact wk_txs _ _ _
 |typ=>exact wk_nu _ _ _
 |alg=>exact wk_one (wk_nu _ _ _)
 |len=>exact wk_one (wk_nu _ _ _)
 |mask=>exact wk_nu _ _ _
 |sta=>exact wk_nu _ _ _
 |dat k=>exact wk_one (wk_nu _ _ _)
 | why=>
  refine wk_one (WkE.consA ?_ .nil)
  have e:msgI o.msg=match beqBytes o.msg [] with|true=>[]|false=>[.mk 4325504 7 0 o.msg []]:=by
   cases o.msg<;>rfl
  simp only[whyI,whl,vlV,prt,whyk,atC,itC,e]
  split<;>(simp only[itAs,itA,toBytes];(repeat (first|exact Wk.refl _|exact WkL.refl _|exact Wk.nil|exact Wk.row|exact WkE.refl _|exact WkL.nil|exact WkE.nil|apply Wk.agg|apply Wk.tuple|apply WkL.cons|apply Wk.rows|apply WkE.consA)))
 |lnk=>exact wk_lks _ _
 |lim=>
  refine wk_one (WkE.consA ?_ .nil)
  simp only[limI,whl,vlV,prt,limk,atC,itC,itAs,itA,toBytes]
  (repeat (first|exact Wk.refl _|exact WkL.refl _|exact Wk.nil|exact Wk.row|exact WkE.refl _|exact WkL.nil|exact WkE.nil|apply Wk.agg|apply Wk.tuple|apply WkL.cons|apply Wk.rows|apply WkE.consA))
 |cus s=>exact absurd rfl (hc s)
end Go.Proofs.YtjhggnebkfpgcaaGreatDoor
