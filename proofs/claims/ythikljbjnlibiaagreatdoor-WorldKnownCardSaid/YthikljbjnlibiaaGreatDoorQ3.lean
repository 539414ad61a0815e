import Derived.Test.YthikljbjnlibiaaGreatDoorQ2
import Derived.Test.YthikljbjnlibiaaGreatDoorG5
import Derived.KernelRfl
namespace Go.Proofs.YthikljbjnlibiaaGreatDoor
open Go.RowKit
open Go.Proofs.Abs
def am (l:List Nat):List AV:=l.map fun n=> .int .u8 (.ofNat n)
def pX (n:Nat):List AV:=a7 (.int .u8 0) n
theorem d0:ax Tryz.prog optsH.glob (b8 (fun f=>bu eX f) (cV ia (bJ Tryz.prog optsH 40)) fX)∧ay (b8 (fun f=>bu eX f) (cV ia (bJ Tryz.prog optsH 40)) fX):=by
 have h:=eJ (O:=optsH) Tryz.mixed (fun _ _ _ h=>by cases h) cF pW 40
 rw[←mj] at h
 exact lY (pK ur h) pW
noncomputable def pY (f:Nat):gm:=match bu eX f with
 |true=> .known
 |false=>hows.get f
noncomputable def pZ:af:=b8 (fun f=>bu eX f) (cV ia (bJ Tryz.prog optsH 40)) fX
noncomputable def optsA:ar:={how:=pY,summ:=fun _ _=>none,glob:=gl,lf:=100000,cx:=pZ}
theorem eY:∀f args v,optsA.summ f args=some v→SemCall Tryz.prog optsA.glob f args v:=fun _ _ _ h=>by cases h
def bq:AV:= .fsl false (a7 (.int .u8 0) 64)
def br:Nat→List AV
 |0=>[]
 |n+1=>bq:: .bool false::br n
theorem ut:dB Tryz.prog optsA 40 11 [I 3] (.tuple [.nilp,I 1])=true:=by kernel_rfl
theorem uu:SemCall Tryz.prog optsA.glob 11 [I 3] (.tuple [.nilp,I 1]):=eU (O:=optsA) Tryz.mixed eY d0 cF (by kernel_rfl) ut
def dS (f:FuncId) (args:List AV):Option AV:=match Nat.beq f 11 with
 |true=>match bi args [I 3] with
  |true=>some (.tuple [.nilp,I 1])
  |false=>none
 |false=>none
theorem uv:∀f args v,dS f args=some v→SemCall Tryz.prog optsA.glob f args v:=by
 intro f args v h
 unfold dS at h
 split at h
 ·rename_i hf
  split at h
  ·rename_i hs
   simp only[Option.some.injEq] at h
   subst h
   rw[beq_iff.1 hf,bF _ _ hs]
   exact uu
  ·cases h
 ·cases h
def mB:List AV:=[(.agg [(I 4325496),(I 1),(I 0),.nilsl,(.fsl false [(.agg [(I 4325495),(I 1),(I 0),.nilsl,(.fsl false [(.agg [(I 4325481),(I 1),(I 0),.nilsl,(.fsl false [(.agg [(I 4325482),(I 2),(I 1),.nilsl,.nilsl]),(.agg [(I 4325483),(I 2),(I 4),.nilsl,.nilsl])])]),(.agg [(I 4325390),(I 5),(I 2),.nilsl,.nilsl]),(.agg [(I 4325389),(I 2),(I 1),.nilsl,.nilsl])])]),(.agg [(I 4325391),(I 1),(I 0),.nilsl,(.fsl false [(.agg [(I 4325468),(I 5),(I 1),.nilsl,.nilsl]),(.agg [(I 4325523),(I 8),(I 0),(.fsl false (am [0])),.nilsl]),(.agg [(I 4325497),(I 1),(I 0),.nilsl,(.fsl false [(.agg [(I 4325463),(I 5),(I 2),.nilsl,.nilsl]),(.agg [(I 4325521),(I 1),(I 0),.nilsl,(.fsl false [(.agg [(I 4325384),(I 1),(I 0),.nilsl,(.fsl false [(.agg [(I 4325386),(I 7),(I 0),(.fsl false (am [67,114,121,112,116,111,103,114,97,112,104,105,99,32,65,108,103,111,114,105,116,104,109])),.nilsl]),(.agg [(I 4325387),(I 5),(I 3),.nilsl,.nilsl])])]),(.agg [(I 4325384),(I 1),(I 0),.nilsl,(.fsl false [(.agg [(I 4325386),(I 7),(I 0),(.fsl false (am [67,114,121,112,116,111,103,114,97,112,104,105,99,32,76,101,110,103,116,104])),.nilsl]),(.agg [(I 4325387),(I 2),(I 128),.nilsl,.nilsl])])]),(.agg [(I 4325384),(I 1),(I 0),.nilsl,(.fsl false [(.agg [(I 4325386),(I 7),(I 0),(.fsl false (am [67,114,121,112,116,111,103,114,97,112,104,105,99,32,85,115,97,103,101,32,77,97,115,107])),.nilsl]),(.agg [(I 4325387),(I 2),(I 396),.nilsl,.nilsl])])])])])])])])])])])]
def mC:AV:=(.tuple [(.fsl false (am [66,0,120,1,0,0,1,64,66,0,119,1,0,0,0,72,66,0,105,1,0,0,0,32,66,0,106,2,0,0,0,4,0,0,0,1,0,0,0,0,66,0,107,2,0,0,0,4,0,0,0,4,0,0,0,0,66,0,14,5,0,0,0,4,0,0,0,2,0,0,0,0,66,0,13,2,0,0,0,4,0,0,0,1,0,0,0,0,66,0,15,1,0,0,0,232,66,0,92,5,0,0,0,4,0,0,0,1,0,0,0,0,66,0,147,8,0,0,0,1,0,0,0,0,0,0,0,0,66,0,121,1,0,0,0,192,66,0,87,5,0,0,0,4,0,0,0,2,0,0,0,0,66,0,145,1,0,0,0,168,66,0,8,1,0,0,0,48,66,0,10,7,0,0,0,23,67,114,121,112,116,111,103,114,97,112,104,105,99,32,65,108,103,111,114,105,116,104,109,0,66,0,11,5,0,0,0,4,0,0,0,3,0,0,0,0,66,0,8,1,0,0,0,48,66,0,10,7,0,0,0,20,67,114,121,112,116,111,103,114,97,112,104,105,99,32,76,101,110,103,116,104,0,0,0,0,66,0,11,2,0,0,0,4,0,0,0,128,0,0,0,0,66,0,8,1,0,0,0,48,66,0,10,7,0,0,0,24,67,114,121,112,116,111,103,114,97,112,104,105,99,32,85,115,97,103,101,32,77,97,115,107,66,0,11,2,0,0,0,4,0,0,1,140,0,0,0,0])),(I 0)])
theorem uw:dB Tryz.prog optsA 40 184 mB mC=true:=by kernel_rfl
theorem ux:SemCall Tryz.prog optsA.glob 184 mB mC:=eU (O:=optsA) Tryz.mixed eY d0 cF (by kernel_rfl) uw
def mD:List AV:=[(.fsl false (am [66,0,120,1,0,0,1,64,66,0,119,1,0,0,0,72,66,0,105,1,0,0,0,32,66,0,106,2,0,0,0,4,0,0,0,1,0,0,0,0,66,0,107,2,0,0,0,4,0,0,0,4,0,0,0,0,66,0,14,5,0,0,0,4,0,0,0,2,0,0,0,0,66,0,13,2,0,0,0,4,0,0,0,1,0,0,0,0,66,0,15,1,0,0,0,232,66,0,92,5,0,0,0,4,0,0,0,1,0,0,0,0,66,0,147,8,0,0,0,1,0,0,0,0,0,0,0,0,66,0,121,1,0,0,0,192,66,0,87,5,0,0,0,4,0,0,0,2,0,0,0,0,66,0,145,1,0,0,0,168,66,0,8,1,0,0,0,48,66,0,10,7,0,0,0,23,67,114,121,112,116,111,103,114,97,112,104,105,99,32,65,108,103,111,114,105,116,104,109,0,66,0,11,5,0,0,0,4,0,0,0,3,0,0,0,0,66,0,8,1,0,0,0,48,66,0,10,7,0,0,0,20,67,114,121,112,116,111,103,114,97,112,104,105,99,32,76,101,110,103,116,104,0,0,0,0,66,0,11,2,0,0,0,4,0,0,0,128,0,0,0,0,66,0,8,1,0,0,0,48,66,0,10,7,0,0,0,24,67,114,121,112,116,111,103,114,97,112,104,105,99,32,85,115,97,103,101,32,77,97,115,107,66,0,11,2,0,0,0,4,0,0,1,140,0,0,0,0]))]
def mE:AV:=(.tuple [(.agg [(I 4325496),(I 1),(I 0),.nilsl,(.fsl false [(.agg [(I 4325495),(I 1),(I 0),.nilsl,(.fsl false [(.agg [(I 4325481),(I 1),(I 0),.nilsl,(.fsl false [(.agg [(I 4325482),(I 2),(I 1),.nilsl,.nilsl]),(.agg [(I 4325483),(I 2),(I 4),.nilsl,.nilsl])])]),(.agg [(I 4325390),(I 5),(I 2),.nilsl,.nilsl]),(.agg [(I 4325389),(I 2),(I 1),.nilsl,.nilsl])])]),(.agg [(I 4325391),(I 1),(I 0),.nilsl,(.fsl false [(.agg [(I 4325468),(I 5),(I 1),.nilsl,.nilsl]),(.agg [(I 4325523),(I 8),(I 0),(.fsl false (am [0])),.nilsl]),(.agg [(I 4325497),(I 1),(I 0),.nilsl,(.fsl false [(.agg [(I 4325463),(I 5),(I 2),.nilsl,.nilsl]),(.agg [(I 4325521),(I 1),(I 0),.nilsl,(.fsl false [(.agg [(I 4325384),(I 1),(I 0),.nilsl,(.fsl false [(.agg [(I 4325386),(I 7),(I 0),(.fsl false (am [67,114,121,112,116,111,103,114,97,112,104,105,99,32,65,108,103,111,114,105,116,104,109])),.nilsl]),(.agg [(I 4325387),(I 5),(I 3),.nilsl,.nilsl])])]),(.agg [(I 4325384),(I 1),(I 0),.nilsl,(.fsl false [(.agg [(I 4325386),(I 7),(I 0),(.fsl false (am [67,114,121,112,116,111,103,114,97,112,104,105,99,32,76,101,110,103,116,104])),.nilsl]),(.agg [(I 4325387),(I 2),(I 128),.nilsl,.nilsl])])]),(.agg [(I 4325384),(I 1),(I 0),.nilsl,(.fsl false [(.agg [(I 4325386),(I 7),(I 0),(.fsl false (am [67,114,121,112,116,111,103,114,97,112,104,105,99,32,85,115,97,103,101,32,77,97,115,107])),.nilsl]),(.agg [(I 4325387),(I 2),(I 396),.nilsl,.nilsl])])])])])])])])])])]),(I 0)])
theorem uy:dB Tryz.prog optsA 40 315 mD mE=true:=by kernel_rfl
theorem uz:SemCall Tryz.prog optsA.glob 315 mD mE:=eU (O:=optsA) Tryz.mixed eY d0 cF (by kernel_rfl) uy
def mF:List AV:=[(.agg [(.str []),(I 0),(I 0),(I 0),(I 0),.nilsl,(I 0),(.bool false),(I 0),(.bool false),(I 0),(.bool false),(I 0),(.bool false),(I 0),(.bool false),(I 0),(.bool false),(I 0),(.bool false),(I 0),(.bool false),(I 0),(.bool false),(I 0),(.bool false),(I 0),(I 0),(.str []),.nilsl,.nilsl,.nilsl,(.bool false),(I 0),(I 0),(I 0),(.bool false)])]
def mG:AV:=(.tuple [.nilsl,(I 1)])
theorem uA:dB Tryz.prog optsA 40 138 mF mG=true:=by kernel_rfl
theorem uB:SemCall Tryz.prog optsA.glob 138 mF mG:=eU (O:=optsA) Tryz.mixed eY d0 cF (by kernel_rfl) uA
def mH:List AV:=[(.agg [(I 4325499),(I 1),(I 0),.nilsl,(.fsl false [(.agg [(I 4325498),(I 1),(I 0),.nilsl,(.fsl false [(.agg [(I 4325481),(I 1),(I 0),.nilsl,(.fsl false [(.agg [(I 4325482),(I 2),(I 1),.nilsl,.nilsl]),(.agg [(I 4325483),(I 2),(I 4),.nilsl,.nilsl])])]),(.agg [(I 4325522),(I 9),(I 5),.nilsl,.nilsl]),(.agg [(I 4325389),(I 2),(I 1),.nilsl,.nilsl])])]),(.agg [(I 4325391),(I 1),(I 0),.nilsl,(.fsl false [(.agg [(I 4325468),(I 5),(I 1),.nilsl,.nilsl]),(.agg [(I 4325523),(I 8),(I 0),(.fsl false (am [0])),.nilsl]),(.agg [(I 4325503),(I 5),(I 0),.nilsl,.nilsl]),(.agg [(I 4325500),(I 1),(I 0),.nilsl,(.fsl false [(.agg [(I 4325463),(I 5),(I 2),.nilsl,.nilsl]),(.agg [(I 4325524),(I 7),(I 0),(.fsl false (am [49])),.nilsl])])])])])])])]
def mI:AV:=(.tuple [(.fsl false (am [66,0,123,1,0,0,0,176,66,0,122,1,0,0,0,72,66,0,105,1,0,0,0,32,66,0,106,2,0,0,0,4,0,0,0,1,0,0,0,0,66,0,107,2,0,0,0,4,0,0,0,4,0,0,0,0,66,0,146,9,0,0,0,8,0,0,0,0,0,0,0,5,66,0,13,2,0,0,0,4,0,0,0,1,0,0,0,0,66,0,15,1,0,0,0,88,66,0,92,5,0,0,0,4,0,0,0,1,0,0,0,0,66,0,147,8,0,0,0,1,0,0,0,0,0,0,0,0,66,0,127,5,0,0,0,4,0,0,0,0,0,0,0,0,66,0,124,1,0,0,0,32,66,0,87,5,0,0,0,4,0,0,0,2,0,0,0,0,66,0,148,7,0,0,0,1,49,0,0,0,0,0,0,0])),(I 0)])
theorem uC:dB Tryz.prog optsA 40 184 mH mI=true:=by kernel_rfl
theorem uD:SemCall Tryz.prog optsA.glob 184 mH mI:=eU (O:=optsA) Tryz.mixed eY d0 cF (by kernel_rfl) uC
def mJ:List AV:=[(.fsl false (am [120]))]
def mK:AV:=(.tuple [(.agg [(I 0),(I 0),(I 0),.nilsl,.nilsl]),(I 7)])
theorem uE:dB Tryz.prog optsA 40 315 mJ mK=true:=by kernel_rfl
theorem uF:SemCall Tryz.prog optsA.glob 315 mJ mK:=eU (O:=optsA) Tryz.mixed eY d0 cF (by kernel_rfl) uE
def mL:List AV:=[(.agg [(I 4325499),(I 1),(I 0),.nilsl,(.fsl false [(.agg [(I 4325498),(I 1),(I 0),.nilsl,(.fsl false [(.agg [(I 4325481),(I 1),(I 0),.nilsl,(.fsl false [(.agg [(I 4325482),(I 2),(I 1),.nilsl,.nilsl]),(.agg [(I 4325483),(I 2),(I 4),.nilsl,.nilsl])])]),(.agg [(I 4325522),(I 9),(I 0),.nilsl,.nilsl]),(.agg [(I 4325389),(I 2),(I 1),.nilsl,.nilsl])])]),(.agg [(I 4325391),(I 1),(I 0),.nilsl,(.fsl false [(.agg [(I 4325503),(I 5),(I 1),.nilsl,.nilsl]),(.agg [(I 4325502),(I 5),(I 4),.nilsl,.nilsl]),(.agg [(I 4325501),(I 7),(I 0),(.fsl false (am [73,110,118,97,108,105,100])),.nilsl])])])])])]
def mM:AV:=(.tuple [(.fsl false (am [66,0,123,1,0,0,0,136,66,0,122,1,0,0,0,72,66,0,105,1,0,0,0,32,66,0,106,2,0,0,0,4,0,0,0,1,0,0,0,0,66,0,107,2,0,0,0,4,0,0,0,4,0,0,0,0,66,0,146,9,0,0,0,8,0,0,0,0,0,0,0,0,66,0,13,2,0,0,0,4,0,0,0,1,0,0,0,0,66,0,15,1,0,0,0,48,66,0,127,5,0,0,0,4,0,0,0,1,0,0,0,0,66,0,126,5,0,0,0,4,0,0,0,4,0,0,0,0,66,0,125,7,0,0,0,7,73,110,118,97,108,105,100,0])),(I 0)])
theorem uG:dB Tryz.prog optsA 40 184 mL mM=true:=by kernel_rfl
theorem uH:SemCall Tryz.prog optsA.glob 184 mL mM:=eU (O:=optsA) Tryz.mixed eY d0 cF (by kernel_rfl) uG
noncomputable def jA (f:FuncId) (args:List AV):Option AV:=match Nat.beq f 184 with
 |true=>(match bi args mB with
  |true=>some mC
  |false=>(match bi args mH with
  |true=>some mI
  |false=>(match bi args mL with
  |true=>some mM
  |false=>none)))
 | false=>match Nat.beq f 315 with
  |true=>(match bi args mD with
   |true=>some mE
   |false=>(match bi args mJ with
   |true=>some mK
   |false=>none))
  | false=>match Nat.beq f 138 with
   |true=>(match bi args mF with
    |true=>some mG
    |false=>none)
   |false=>none
theorem mN:∀f args v,jA f args=some v→SemCall Tryz.prog optsA.glob f args v:=by
 intro f args v h
 unfold jA at h
 split at h
 ·rename_i hf
  rw[beq_iff.1 hf]
  split at h
  ·rename_i hs
   simp only[Option.some.injEq] at h
   subst h
   rw[bF _ _ hs]
   exact ux
  ·skip
   split at h
   ·rename_i hs
    simp only[Option.some.injEq] at h
    subst h
    rw[bF _ _ hs]
    exact uD
   ·skip
    split at h
    ·rename_i hs
     simp only[Option.some.injEq] at h
     subst h
     rw[bF _ _ hs]
     exact uH
    ·skip
     cases h
 ·skip
  split at h
  ·rename_i hf
   rw[beq_iff.1 hf]
   split at h
   ·rename_i hs
    simp only[Option.some.injEq] at h
    subst h
    rw[bF _ _ hs]
    exact uz
   ·skip
    split at h
    ·rename_i hs
     simp only[Option.some.injEq] at h
     subst h
     rw[bF _ _ hs]
     exact uF
    ·skip
     cases h
  ·skip
   split at h
   ·rename_i hf
    rw[beq_iff.1 hf]
    split at h
    ·rename_i hs
     simp only[Option.some.injEq] at h
     subst h
     rw[bF _ _ hs]
     exact uB
    ·skip
     cases h
   ·skip
    cases h
def p0:List Nat:=[48]
noncomputable def p1 (f:Nat):gm:=match bu p0 f with
 |true=> .known
 |false=>pY f
abbrev bC:=FuncId→List AV→Nat→Option (List Nat × aa × AV × aa × Nat)
noncomputable def jB (t:bC):af:=b8 (fun f=>bu p0 f) (fW t) (cV dS pZ)
noncomputable def ib (t:bC):ar:={how:=p1,summ:=jA,glob:=gl,lf:=100000,cx:=jB t}
abbrev cj (t:bC):Prop:=∀f args nx L H0 v H2 m,t f args nx=some (L,H0,v,H2,m)→bw Tryz.prog optsA.glob f args H0 nx v H2 (nx+m)
theorem mO {t:bC} (h:cj t):ax Tryz.prog optsA.glob (jB t)∧ay (jB t):=lY (tw h) (pK uv d0)
def mP:bC:=fun _ _ _=>none
theorem uI:cj mP:=fun _ _ _ _ _ _ _ _ h=>by cases h
structure Row where
 f:Nat
 nx:Nat
 a:List AV
 l:List Nat
 h:aa
 v:AV
 g:aa
 m:Nat
noncomputable def cH (r:Row) (t:bC):bC:=fun f args nx=>match Nat.beq f r.f&&(Nat.beq nx r.nx&&bi args r.a) with
 |true=>some (r.l,r.h,r.v,r.g,r.m)
 |false=>t f args nx
noncomputable def cY (t:bC) (r:Row):Bool:=mn Tryz.prog (ib t) 40 r.f r.a r.h r.nx r.v r.g r.m
theorem di {r:Row} {t:bC} (ht:cj t) (h:cY t r=true):cj (cH r t):=by
 have hb:bw Tryz.prog optsA.glob r.f r.a r.h r.nx r.v r.g (r.nx+r.m):=tv (O:=ib t) Tryz.mixed mN (mO ht) cF h
 intro f args nx L H0 v H2 m he
 unfold cH at he
 split at he
 ·rename_i hs
  simp only[Bool.and_eq_true] at hs
  simp only[Option.some.injEq,Prod.mk.injEq] at he
  obtain ⟨rfl,rfl,rfl,rfl,rfl⟩:=he
  rw[beq_iff.1 hs.1,beq_iff.1 hs.2.1,bF _ _ hs.2.2]
  exact hb
 ·exact ht _ _ _ _ _ _ _ _ he
end Go.Proofs.YthikljbjnlibiaaGreatDoor
