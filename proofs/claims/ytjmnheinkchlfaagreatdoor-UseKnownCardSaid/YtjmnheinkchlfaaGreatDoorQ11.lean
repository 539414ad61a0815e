import Derived.Test.YtjmnheinkchlfaaGreatDoorQ5
import Derived.Test.YtjmnheinkchlfaaGreatDoorQ6
import Derived.Test.YtjmnheinkchlfaaGreatDoorQ7
import Derived.Test.YtjmnheinkchlfaaGreatDoorQ8
import Derived.Test.YtjmnheinkchlfaaGreatDoorQ9
import Derived.Test.YtjmnheinkchlfaaGreatDoorQ10
import Derived.KernelRfl
namespace Go.Proofs.YtjmnheinkchlfaaGreatDoor
open Go.RowKit
open Go.Proofs.Abs
noncomputable def jY (f:FuncId) (args:List AV):Option AV:=match Nat.beq f 337 with
 |true=>(match aE args m4 with
  |true=>some m5
  |false=>none)
 | false=>match Nat.beq f 226 with
  |true=>(match aE args m6 with
   |true=>some m7
   |false=>(match aE args na with
   |true=>some nb
   |false=>(match aE args nc with
   |true=>some nd
   |false=>(match aE args nf with
   |true=>some ng
   |false=>none))))
  | false=>match Nat.beq f 228 with
   |true=>(match aE args m8 with
    |true=>some m9
    |false=>none)
   |false=>none
theorem dy:∀f args v,jY f args=some v→SemCall Tryz.prog optsH.glob f args v:=by
 intro f args v h
 unfold jY at h
 split at h
 ·rename_i hf
  rw[beq_iff.1 hf]
  split at h
  ·rename_i hs
   simp only[Option.some.injEq] at h
   subst h
   rw[aJ _ _ hs]
   exact wv
  ·skip
   cases h
 ·split at h
  ·rename_i hf
   rw[beq_iff.1 hf]
   split at h
   ·rename_i hs
    simp only[Option.some.injEq] at h
    subst h
    rw[aJ _ _ hs]
    exact wx
   ·skip
    split at h
    ·rename_i hs
     simp only[Option.some.injEq] at h
     subst h
     rw[aJ _ _ hs]
     exact wB
    ·skip
     split at h
     ·rename_i hs
      simp only[Option.some.injEq] at h
      subst h
      rw[aJ _ _ hs]
      exact wD
     ·skip
      split at h
      ·rename_i hs
       simp only[Option.some.injEq] at h
       subst h
       rw[aJ _ _ hs]
       exact wF
      ·skip
       cases h
  ·split at h
   ·rename_i hf
    rw[beq_iff.1 hf]
    split at h
    ·rename_i hs
     simp only[Option.some.injEq] at h
     subst h
     rw[aJ _ _ hs]
     exact wz
    ·skip
     cases h
   ·cases h
theorem bA:an Tryz.prog optsH.glob (bL (fun f=>a7 dx f) (cD ep (bv Tryz.prog optsH 40)) dQ)∧ao (bL (fun f=>a7 dx f) (cD ep (bv Tryz.prog optsH 40)) dQ):=by
 have h:=dH (O:=optsH) Tryz.mixed (fun _ _ _ h=>by cases h) (fun _ _ h=>by cases h) rG 40
 rw[←mK] at h
 exact ix (u9 wH h) rG
noncomputable def jZ (f:Nat):eI:=match a7 dx f with
 |true=> .known
 |false=>match a7 [19,18] f with
  |true=> .part 8
  |false=>hows.get f
noncomputable def bQ:al:={how:=jZ,summ:=jY,glob:=fun _=>none,lf:=100000,cx:=bL (fun f=>a7 dx f) (cD ep (bv Tryz.prog optsH 40)) dQ}
def nh:List AV:=[(.fsl true [(.agg [(.str [49]),(I 2),(I 3),(I 128),(I 396),(.fsl false (ab [48,49,50,51,52,53,54,55,56,57,97,98,99,100,101,102])),(I 2),(.bool false),(I 0),(.bool false),(I 0),(.bool false),(I 0),(.bool false),(I 0),(.bool false),(I 0),(.bool false),(I 0),(.bool false),(I 0),(.bool false),(I 0),(.bool false),(I 0),(.bool false),(I 0),(I 0),(.str []),.nilsl,.nilsl,.nilsl,(.bool true),(I 5),(I 5),(I 1),(.bool false)])]),(I 3)]
def ni:AV:=(.fsl false [(.agg [(.str [99]),(.bool true),(.fsl false (ab [0,0,0,0,0,0,0,3]))]),(.agg [(.str [110]),(.bool true),(.fsl false (ab [0,0,0,0,0,0,0,2]))]),(.agg [(.str [111,49]),(.bool true),(.fsl false (ab [0,1,49,2,3,0,0,0,128,0,0,1,140,0,16,48,49,50,51,52,53,54,55,56,57,97,98,99,100,101,102,2,0,0,0,0,0,0,0,0,0,0,0,0,0,0,0,0,1,0,0,0,0,0,0,0,5,0,0,0,0,0,0,0,5,1,0]))])])
theorem wI:bn Tryz.prog bQ 40 27 nh ni=true:=by kernel_rfl
theorem wJ:SemCall Tryz.prog optsH.glob 27 nh ni:=cn (O:=bQ) Tryz.mixed dy bA (fun _ _ h=>by cases h) (by kernel_rfl) wI
def nj:List AV:=[(.fsl true [(.agg [(.str [49]),(I 2),(I 3),(I 128),(I 396),(.fsl false (ab [48,49,50,51,52,53,54,55,56,57,97,98,99,100,101,102])),(I 2),(.bool false),(I 0),(.bool false),(I 0),(.bool false),(I 0),(.bool false),(I 0),(.bool false),(I 0),(.bool false),(I 0),(.bool false),(I 0),(.bool false),(I 0),(.bool false),(I 0),(.bool false),(I 0),(I 0),(.str []),.nilsl,.nilsl,.nilsl,(.bool false),(I 0),(I 0),(I 0),(.bool false)])]),(I 3)]
def nk:AV:=(.fsl false [(.agg [(.str [99]),(.bool true),(.fsl false (ab [0,0,0,0,0,0,0,3]))]),(.agg [(.str [110]),(.bool true),(.fsl false (ab [0,0,0,0,0,0,0,2]))]),(.agg [(.str [111,49]),(.bool true),(.fsl false (ab [0,1,49,2,3,0,0,0,128,0,0,1,140,0,16,48,49,50,51,52,53,54,55,56,57,97,98,99,100,101,102,2,0,0,0,0,0,0,0,0,0,0,0,0,0,0,0,0,0,0]))])])
theorem wK:bn Tryz.prog bQ 40 27 nj nk=true:=by kernel_rfl
theorem wL:SemCall Tryz.prog optsH.glob 27 nj nk:=cn (O:=bQ) Tryz.mixed dy bA (fun _ _ h=>by cases h) (by kernel_rfl) wK
def nl:List AV:=[(.agg [(.str [49]),(I 2),(I 3),(I 128),(I 396),(.fsl false (ab [48,49,50,51,52,53,54,55,56,57,97,98,99,100,101,102])),(I 2),(.bool false),(I 0),(.bool false),(I 0),(.bool false),(I 0),(.bool false),(I 0),(.bool false),(I 0),(.bool false),(I 0),(.bool false),(I 0),(.bool false),(I 0),(.bool false),(I 0),(.bool false),(I 0),(I 0),(.str []),.nilsl,.nilsl,.nilsl,(.bool false),(I 0),(I 0),(I 0),(.bool false)])]
def nm:AV:=(.tuple [(.fsl false (ab [0,1,49,2,3,0,0,0,128,0,0,1,140,0,16,48,49,50,51,52,53,54,55,56,57,97,98,99,100,101,102,2,0,0,0,0,0,0,0,0,0,0,0,0,0,0,0,0,0,0])),(I 0)])
theorem wM:bn Tryz.prog bQ 40 153 nl nm=true:=by kernel_rfl
theorem wN:SemCall Tryz.prog optsH.glob 153 nl nm:=cn (O:=bQ) Tryz.mixed dy bA (fun _ _ h=>by cases h) (by kernel_rfl) wM
def nn:List AV:=[(.fsl false (ab [48,49,50,51,52,53,54,55,56,57,97,98,99,100,101,102])),(.fsl false (ab [97,98,99]))]
def np:AV:=(.tuple [(.fsl false (ab [95,234,44,11,140,33,21,236,119,9,226,212,79,2,141,96])),(I 0)])
theorem wO:bn Tryz.prog bQ 40 101 nn np=true:=by kernel_rfl
theorem wP:SemCall Tryz.prog optsH.glob 101 nn np:=cn (O:=bQ) Tryz.mixed dy bA (fun _ _ h=>by cases h) (by kernel_rfl) wO
def nq:List AV:=[(.agg [(.str [49]),(I 2),(I 3),(I 128),(I 396),(.fsl false (ab [48,49,50,51,52,53,54,55,56,57,97,98,99,100,101,102])),(I 2),(.bool false),(I 0),(.bool false),(I 0),(.bool false),(I 0),(.bool false),(I 0),(.bool false),(I 0),(.bool false),(I 0),(.bool false),(I 0),(.bool false),(I 0),(.bool false),(I 0),(.bool false),(I 0),(I 0),(.str []),.nilsl,.nilsl,.nilsl,(.bool true),(I 5),(I 5),(I 1),(.bool false)])]
def nr:AV:=(.tuple [(.fsl false (ab [0,1,49,2,3,0,0,0,128,0,0,1,140,0,16,48,49,50,51,52,53,54,55,56,57,97,98,99,100,101,102,2,0,0,0,0,0,0,0,0,0,0,0,0,0,0,0,0,1,0,0,0,0,0,0,0,5,0,0,0,0,0,0,0,5,1,0])),(I 0)])
theorem wQ:bn Tryz.prog bQ 40 153 nq nr=true:=by kernel_rfl
theorem wR:SemCall Tryz.prog optsH.glob 153 nq nr:=cn (O:=bQ) Tryz.mixed dy bA (fun _ _ h=>by cases h) (by kernel_rfl) wQ
def nt:List AV:=[(.agg [(.str [49]),(I 2),(I 3),(I 128),(I 396),(.fsl false (ab [48,49,50,51,52,53,54,55,56,57,97,98,99,100,101,102])),(I 2),(.bool false),(I 0),(.bool false),(I 0),(.bool false),(I 0),(.bool false),(I 0),(.bool false),(I 0),(.bool false),(I 0),(.bool false),(I 0),(.bool false),(I 0),(.bool false),(I 0),(.bool true),(I 5),(I 0),(.str []),.nilsl,.nilsl,.nilsl,(.bool true),(I 5),(I 2),(I 1),(.bool false)])]
def nu:AV:=(.tuple [(.fsl false (ab [0,1,49,2,3,0,0,0,128,0,0,1,140,0,16,48,49,50,51,52,53,54,55,56,57,97,98,99,100,101,102,2,0,0,0,0,0,0,0,0,0,1,0,0,0,0,0,0,0,5,0,0,0,0,0,0,1,0,0,0,0,0,0,0,5,0,0,0,0,0,0,0,2,1,0])),(I 0)])
theorem wS:bn Tryz.prog bQ 40 153 nt nu=true:=by kernel_rfl
theorem wT:SemCall Tryz.prog optsH.glob 153 nt nu:=cn (O:=bQ) Tryz.mixed dy bA (fun _ _ h=>by cases h) (by kernel_rfl) wS
def nv:List AV:=[(.fsl false (ab [48,49,50,51,52,53,54,55,56,57,97,98,99,100,101,102])),(.fsl false (ab [97,98,100]))]
def nw:AV:=(.tuple [(.fsl false (ab [166,237,148,195,184,25,166,129,108,111,89,152,83,138,162,39])),(I 0)])
theorem wU:bn Tryz.prog bQ 40 101 nv nw=true:=by kernel_rfl
theorem wV:SemCall Tryz.prog optsH.glob 101 nv nw:=cn (O:=bQ) Tryz.mixed dy bA (fun _ _ h=>by cases h) (by kernel_rfl) wU
def ny:List AV:=[(.fsl false [(.agg [(.str [99]),(.bool true),(.fsl false (ab [0,0,0,0,0,0,0,3]))]),(.agg [(.str [110]),(.bool true),(.fsl false (ab [0,0,0,0,0,0,0,2]))]),(.agg [(.str [111,49]),(.bool true),(.fsl false (ab [0,1,49,2,3,0,0,0,128,0,0,1,140,0,16,48,49,50,51,52,53,54,55,56,57,97,98,99,100,101,102,2,0,0,0,0,0,0,0,0,0,0,0,0,0,0,0,0,1,0,0,0,0,0,0,0,5,0,0,0,0,0,0,0,5,1,0]))])])]
def nz:AV:=(.tuple [(.ptr 4235 0),(.bool true)])
def nA:aa:=[(4468,some (.cells [(.str [49]),(I 2),(I 3),(I 128),(I 396),(.fsl false (ab [48,49,50,51,52,53,54,55,56,57,97,98,99,100,101,102])),(I 2),(.bool false),(I 0),(.bool false),(I 0),(.bool false),(I 0),(.bool false),(I 0),(.bool false),(I 0),(.bool false),(I 0),(.bool false),(I 0),(.bool false),(I 0),(.bool false),(I 0),(.bool false),(I 0),(I 0),(.str []),.nilsl,.nilsl,.nilsl,(.bool true),(I 5),(I 5),(I 1),(.bool false)])),(4235,some (.cells [(.rsl true 4468 0 1 37),(I 3),(.int .u64 2),.nilsl,(I 0)]))]
theorem wW:gf Tryz.prog bQ 40 30 ny 4232 nz nA 250=true:=by kernel_rfl
theorem wX:aH Tryz.prog optsH.glob 30 ny [] 4232 nz nA (4232+250):=jN (O:=bQ) Tryz.mixed dy bA (fun _ _ h=>by cases h) wW
def nB:List AV:=[(.fsl false [(.agg [(.str [99]),(.bool true),(.fsl false (ab [0,0,0,0,0,0,0,3]))]),(.agg [(.str [110]),(.bool true),(.fsl false (ab [0,0,0,0,0,0,0,2]))]),(.agg [(.str [111,49]),(.bool true),(.fsl false (ab [0,1,49,2,3,0,0,0,128,0,0,1,140,0,16,48,49,50,51,52,53,54,55,56,57,97,98,99,100,101,102,2,0,0,0,0,0,0,0,0,0,0,0,0,0,0,0,0,0,0]))])])]
def nC:AV:=(.tuple [(.ptr 3846 0),(.bool true)])
def nD:aa:=[(4079,some (.cells [(.str [49]),(I 2),(I 3),(I 128),(I 396),(.fsl false (ab [48,49,50,51,52,53,54,55,56,57,97,98,99,100,101,102])),(I 2),(.bool false),(I 0),(.bool false),(I 0),(.bool false),(I 0),(.bool false),(I 0),(.bool false),(I 0),(.bool false),(I 0),(.bool false),(I 0),(.bool false),(I 0),(.bool false),(I 0),(.bool false),(I 0),(I 0),(.str []),.nilsl,.nilsl,.nilsl,(.bool false),(I 0),(I 0),(I 0),(.bool false)])),(3846,some (.cells [(.rsl true 4079 0 1 37),(I 3),(.int .u64 2),.nilsl,(I 0)]))]
theorem wY:gf Tryz.prog bQ 40 30 nB 3843 nC nD 250=true:=by kernel_rfl
theorem wZ:aH Tryz.prog optsH.glob 30 nB [] 3843 nC nD (3843+250):=jN (O:=bQ) Tryz.mixed dy bA (fun _ _ h=>by cases h) wY
noncomputable def gj (f:FuncId) (args:List AV):Option AV:=match Nat.beq f 27 with
 |true=>(match aE args nh with
  |true=>some ni
  |false=>(match aE args nj with
  |true=>some nk
  |false=>none))
 | false=>match Nat.beq f 153 with
  |true=>(match aE args nl with
   |true=>some nm
   |false=>(match aE args nq with
   |true=>some nr
   |false=>(match aE args nt with
   |true=>some nu
   |false=>none)))
  | false=>match Nat.beq f 101 with
   |true=>(match aE args nn with
    |true=>some np
    |false=>(match aE args nv with
    |true=>some nw
    |false=>none))
   |false=>jY f args
theorem ch:∀f args v,gj f args=some v→SemCall Tryz.prog optsH.glob f args v:=by
 intro f args v h
 unfold gj at h
 split at h
 ·rename_i hf
  rw[beq_iff.1 hf]
  split at h
  ·rename_i hs
   simp only[Option.some.injEq] at h
   subst h
   rw[aJ _ _ hs]
   exact wJ
  ·skip
   split at h
   ·rename_i hs
    simp only[Option.some.injEq] at h
    subst h
    rw[aJ _ _ hs]
    exact wL
   ·skip
    cases h
 ·skip
  split at h
  ·rename_i hf
   rw[beq_iff.1 hf]
   split at h
   ·rename_i hs
    simp only[Option.some.injEq] at h
    subst h
    rw[aJ _ _ hs]
    exact wN
   ·skip
    split at h
    ·rename_i hs
     simp only[Option.some.injEq] at h
     subst h
     rw[aJ _ _ hs]
     exact wR
    ·skip
     split at h
     ·rename_i hs
      simp only[Option.some.injEq] at h
      subst h
      rw[aJ _ _ hs]
      exact wT
     ·skip
      cases h
  ·skip
   split at h
   ·rename_i hf
    rw[beq_iff.1 hf]
    split at h
    ·rename_i hs
     simp only[Option.some.injEq] at h
     subst h
     rw[aJ _ _ hs]
     exact wP
    ·skip
     split at h
     ·rename_i hs
      simp only[Option.some.injEq] at h
      subst h
      rw[aJ _ _ hs]
      exact wV
     ·skip
      cases h
   ·skip
    exact dy _ _ _ h
noncomputable def nE (f:FuncId) (args:List AV) (nx:Nat):Option (AV × aa × Nat):=match Nat.beq f 30 with
 |true=>(match Nat.beq nx 4232&&aE args ny with
  |true=>some (nz,nA,250)
  |false=>(match Nat.beq nx 3843&&aE args nB with
  |true=>some (nC,nD,250)
  |false=>none))
 |false=>none
theorem w3:∀f args nx v H2 m,nE f args nx=some (v,H2,m)→aH Tryz.prog optsH.glob f args [] nx v H2 (nx+m):=by
 intro f args nx v H2 m h
 unfold nE at h
 split at h
 ·rename_i hf
  rw[beq_iff.1 hf]
  split at h
  ·rename_i hs
   rw[Bool.and_eq_true] at hs
   simp only[Option.some.injEq,Prod.mk.injEq] at h
   obtain ⟨rfl,rfl,rfl⟩:=h
   rw[beq_iff.1 hs.1,aJ _ _ hs.2]
   exact wX
  ·skip
   split at h
   ·rename_i hs
    rw[Bool.and_eq_true] at hs
    simp only[Option.some.injEq,Prod.mk.injEq] at h
    obtain ⟨rfl,rfl,rfl⟩:=h
    rw[beq_iff.1 hs.1,aJ _ _ hs.2]
    exact wZ
   ·skip
    cases h
 ·cases h
noncomputable def nF:ah:=bL (fun f=>Nat.beq f 30) (eh nE) (bL (fun f=>a7 dx f) (cD ep (bv Tryz.prog optsH 40)) dQ)
theorem rI:an Tryz.prog optsH.glob nF∧ao nF:=ix (mt w3) bA
noncomputable def w4 (f:Nat):eI:=match Nat.beq f 30 with
 |true=> .known
 |false=>jZ f
noncomputable def j2:al:={how:=w4,summ:=gj,glob:=fun _=>none,lf:=100000,cx:=nF}
def nG:List AV:=[(.fsl true [(.agg [(.str [49]),(I 2),(I 3),(I 128),(I 396),(.fsl false (ab [48,49,50,51,52,53,54,55,56,57,97,98,99,100,101,102])),(I 2),(.bool false),(I 0),(.bool false),(I 0),(.bool false),(I 0),(.bool false),(I 0),(.bool false),(I 0),(.bool false),(I 0),(.bool false),(I 0),(.bool false),(I 0),(.bool false),(I 0),(.bool false),(I 0),(I 0),(.str []),.nilsl,.nilsl,.nilsl,(.bool true),(I 5),(I 5),(I 1),(.bool false)])]),(I 3)]
def nH:AV:=(.tuple [(.ptr 2003 0),(.ptr 4235 0)])
def nI:aa:=[(4468,some (.cells [(.str [49]),(I 2),(I 3),(I 128),(I 396),(.fsl false (ab [48,49,50,51,52,53,54,55,56,57,97,98,99,100,101,102])),(I 2),(.bool false),(I 0),(.bool false),(I 0),(.bool false),(I 0),(.bool false),(I 0),(.bool false),(I 0),(.bool false),(I 0),(.bool false),(I 0),(.bool false),(I 0),(.bool false),(I 0),(.bool false),(I 0),(I 0),(.str []),.nilsl,.nilsl,.nilsl,(.bool true),(I 5),(I 5),(I 1),(.bool false)])),(4235,some (.cells [(.rsl true 4468 0 1 37),(I 3),(.int .u64 2),.nilsl,(I 0)])),(2003,some (.cells [(.map 2001),(I 3),(.int .u64 2),(.bool true),(.bool true),.nilsl])),(2001,some (.mapb 1 [0] [((.str [49]),(.agg [(.str [49]),(I 2),(I 3),(I 128),(I 396),(.fsl false (ab [48,49,50,51,52,53,54,55,56,57,97,98,99,100,101,102])),(I 2),(.bool false),(I 0),(.bool false),(I 0),(.bool false),(I 0),(.bool false),(I 0),(.bool false),(I 0),(.bool false),(I 0),(.bool false),(I 0),(.bool false),(I 0),(.bool false),(I 0),(.bool false),(I 0),(I 0),(.str []),.nilsl,.nilsl,.nilsl,(.bool true),(I 5),(I 5),(I 1),(.bool false)]))]))]
theorem w5:gf Tryz.prog j2 40 5 nG 16 nH nI 4480=true:=by kernel_rfl
theorem w6:aH Tryz.prog optsH.glob 5 nG [] 16 nH nI (16+4480):=jN (O:=j2) Tryz.mixed ch rI (fun _ _ h=>by cases h) w5
def nJ:List AV:=[(.fsl true [(.agg [(.str [49]),(I 2),(I 3),(I 128),(I 396),(.fsl false (ab [48,49,50,51,52,53,54,55,56,57,97,98,99,100,101,102])),(I 2),(.bool false),(I 0),(.bool false),(I 0),(.bool false),(I 0),(.bool false),(I 0),(.bool false),(I 0),(.bool false),(I 0),(.bool false),(I 0),(.bool false),(I 0),(.bool false),(I 0),(.bool false),(I 0),(I 0),(.str []),.nilsl,.nilsl,.nilsl,(.bool false),(I 0),(I 0),(I 0),(.bool false)])]),(I 3)]
def nK:AV:=(.tuple [(.ptr 1996 0),(.ptr 3846 0)])
def nL:aa:=[(4079,some (.cells [(.str [49]),(I 2),(I 3),(I 128),(I 396),(.fsl false (ab [48,49,50,51,52,53,54,55,56,57,97,98,99,100,101,102])),(I 2),(.bool false),(I 0),(.bool false),(I 0),(.bool false),(I 0),(.bool false),(I 0),(.bool false),(I 0),(.bool false),(I 0),(.bool false),(I 0),(.bool false),(I 0),(.bool false),(I 0),(.bool false),(I 0),(I 0),(.str []),.nilsl,.nilsl,.nilsl,(.bool false),(I 0),(I 0),(I 0),(.bool false)])),(3846,some (.cells [(.rsl true 4079 0 1 37),(I 3),(.int .u64 2),.nilsl,(I 0)])),(1996,some (.cells [(.map 1994),(I 3),(.int .u64 2),(.bool true),(.bool true),.nilsl])),(1994,some (.mapb 1 [0] [((.str [49]),(.agg [(.str [49]),(I 2),(I 3),(I 128),(I 396),(.fsl false (ab [48,49,50,51,52,53,54,55,56,57,97,98,99,100,101,102])),(I 2),(.bool false),(I 0),(.bool false),(I 0),(.bool false),(I 0),(.bool false),(I 0),(.bool false),(I 0),(.bool false),(I 0),(.bool false),(I 0),(.bool false),(I 0),(.bool false),(I 0),(.bool false),(I 0),(I 0),(.str []),.nilsl,.nilsl,.nilsl,(.bool false),(I 0),(I 0),(I 0),(.bool false)]))]))]
theorem w7:gf Tryz.prog j2 40 5 nJ 9 nK nL 4098=true:=by kernel_rfl
theorem w8:aH Tryz.prog optsH.glob 5 nJ [] 9 nK nL (9+4098):=jN (O:=j2) Tryz.mixed ch rI (fun _ _ h=>by cases h) w7
noncomputable def nM (f:FuncId) (args:List AV) (nx:Nat):Option (AV × aa × Nat):=match Nat.beq f 5 with
 |true=>(match Nat.beq nx 16&&aE args nG with
  |true=>some (nH,nI,4480)
  |false=>(match Nat.beq nx 9&&aE args nJ with
  |true=>some (nK,nL,4098)
  |false=>none))
 |false=>none
theorem w9:∀f args nx v H2 m,nM f args nx=some (v,H2,m)→aH Tryz.prog optsH.glob f args [] nx v H2 (nx+m):=by
 intro f args nx v H2 m h
 unfold nM at h
 split at h
 ·rename_i hf
  rw[beq_iff.1 hf]
  split at h
  ·rename_i hs
   rw[Bool.and_eq_true] at hs
   simp only[Option.some.injEq,Prod.mk.injEq] at h
   obtain ⟨rfl,rfl,rfl⟩:=h
   rw[beq_iff.1 hs.1,aJ _ _ hs.2]
   exact w6
  ·skip
   split at h
   ·rename_i hs
    rw[Bool.and_eq_true] at hs
    simp only[Option.some.injEq,Prod.mk.injEq] at h
    obtain ⟨rfl,rfl,rfl⟩:=h
    rw[beq_iff.1 hs.1,aJ _ _ hs.2]
    exact w8
   ·skip
    cases h
 ·cases h
noncomputable def nN:ah:=bL (fun f=>Nat.beq f 5) (eh nM) (bL (fun f=>a7 dx f) (cD ep (bv Tryz.prog optsH 40)) dQ)
theorem xa:an Tryz.prog optsH.glob nN∧ao nN:=ix (mt w9) bA
noncomputable def xb (f:Nat):eI:=match Nat.beq f 5 with
 |true=> .known
 |false=>jZ f
end Go.Proofs.YtjmnheinkchlfaaGreatDoor
