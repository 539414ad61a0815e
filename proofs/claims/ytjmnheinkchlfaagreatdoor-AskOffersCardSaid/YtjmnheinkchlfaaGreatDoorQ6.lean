import Derived.Test.YtjmnheinkchlfaaGreatDoorQ5
import Derived.KernelRfl
namespace Go.Proofs.YtjmnheinkchlfaaGreatDoor
open Go.RowKit
open Go.Proofs.Abs
def iy (l:List Nat):List AV:=l.map fun n=> .int .u8 (.ofNat n)
def t7:List AV:=[(.fsl true [(.agg [(.str [49]),(I 2),(I 0),(I 0),(I 0),.nilsl,(I 2),(.bool false),(I 0),(.bool false),(I 0),(.bool false),(I 0),(.bool false),(I 0),(.bool false),(I 0),(.bool false),(I 0),(.bool false),(I 0),(.bool false),(I 0),(.bool false),(I 0),(.bool false),(I 0),(I 0),(.str []),.nilsl,.nilsl,.nilsl,(.bool false),(I 0),(I 0),(I 0),(.bool false)]),(.agg [(.str [50]),(I 2),(I 0),(I 0),(I 0),.nilsl,(I 2),(.bool true),(I 5),(.bool false),(I 0),(.bool false),(I 0),(.bool false),(I 0),(.bool false),(I 0),(.bool false),(I 0),(.bool false),(I 0),(.bool false),(I 0),(.bool false),(I 0),(.bool false),(I 0),(I 0),(.str []),.nilsl,.nilsl,.nilsl,(.bool false),(I 0),(I 0),(I 0),(.bool false)])]),(I 3)]
def t8:AV:=(.fsl false [(.agg [(.str [99]),(.bool true),(.fsl false (iy [0,0,0,0,0,0,0,3]))]),(.agg [(.str [110]),(.bool true),(.fsl false (iy [0,0,0,0,0,0,0,3]))]),(.agg [(.str [111,49]),(.bool true),(.fsl false (iy [0,1,49,2,0,0,0,0,0,0,0,0,0,0,0,2,0,0,0,0,0,0,0,0,0,0,0,0,0,0,0,0,0,0]))]),(.agg [(.str [111,50]),(.bool true),(.fsl false (iy [0,1,50,2,0,0,0,0,0,0,0,0,0,0,0,2,1,0,0,0,0,0,0,0,5,0,0,0,0,0,0,0,0,0,0,0,0,0,0,0,0,0]))])])
theorem Gn:ta Tryz.prog optsA 40 27 t7 t8=true:=by kernel_rfl
theorem Gp:SemCall Tryz.prog optsA.glob 27 t7 t8:=Cs (O:=optsA) Tryz.mixed qm o6 (fun _ _ h=>by cases h) (by kernel_rfl) Gn
def t9:List AV:=[(.fsl false [(.agg [(.str [99]),(.bool true),(.fsl false (iy [0,0,0,0,0,0,0,3]))]),(.agg [(.str [110]),(.bool true),(.fsl false (iy [0,0,0,0,0,0,0,3]))]),(.agg [(.str [111,49]),(.bool true),(.fsl false (iy [0,1,49,2,0,0,0,0,0,0,0,0,0,0,0,2,0,0,0,0,0,0,0,0,0,0,0,0,0,0,0,0,0,0]))]),(.agg [(.str [111,50]),(.bool true),(.fsl false (iy [0,1,50,2,0,0,0,0,0,0,0,0,0,0,0,2,1,0,0,0,0,0,0,0,5,0,0,0,0,0,0,0,0,0,0,0,0,0,0,0,0,0]))])])]
def ua:AV:=(.tuple [(.ptr 2986 0),(.bool true)])
def ub:aa:=[(3503,some (.cells [(.str [49]),(I 2),(I 0),(I 0),(I 0),(.fsl true []),(I 2),(.bool false),(I 0),(.bool false),(I 0),(.bool false),(I 0),(.bool false),(I 0),(.bool false),(I 0),(.bool false),(I 0),(.bool false),(I 0),(.bool false),(I 0),(.bool false),(I 0),(.bool false),(I 0),(I 0),(.str []),.nilsl,.nilsl,.nilsl,(.bool false),(I 0),(I 0),(I 0),(.bool false),(.str [50]),(I 2),(I 0),(I 0),(I 0),(.fsl true []),(I 2),(.bool true),(I 5),(.bool false),(I 0),(.bool false),(I 0),(.bool false),(I 0),(.bool false),(I 0),(.bool false),(I 0),(.bool false),(I 0),(.bool false),(I 0),(.bool false),(I 0),(.bool false),(I 0),(I 0),(.str []),.nilsl,.nilsl,.nilsl,(.bool false),(I 0),(I 0),(I 0),(.bool false)])),(3281,some (.cells [(.str [50]),(I 2),(I 0),(I 0),(I 0),(.fsl true []),(I 2),(.bool true),(I 5),(.bool false),(I 0),(.bool false),(I 0),(.bool false),(I 0),(.bool false),(I 0),(.bool false),(I 0),(.bool false),(I 0),(.bool false),(I 0),(.bool false),(I 0),(.bool false),(I 0),(I 0),(.str []),.nilsl,.nilsl,.nilsl,(.bool false),(I 0),(I 0),(I 0),(.bool false)])),(3262,some (.cells [(.str [50]),(I 2),(I 0),(I 0),(I 0),(.fsl true []),(I 2),(.bool true),(I 5),(.bool false),(I 0),(.bool false),(I 0),(.bool false),(I 0),(.bool false),(I 0),(.bool false),(I 0),(.bool false),(I 0),(.bool false),(I 0),(.bool false),(I 0),(.bool false),(I 0),(I 0),(.str []),.nilsl,.nilsl,.nilsl,(.bool false),(I 0),(I 0),(I 0),(.bool false)])),(3219,some (.cells [(.str [49]),(I 2),(I 0),(I 0),(I 0),(.fsl true []),(I 2),(.bool false),(I 0),(.bool false),(I 0),(.bool false),(I 0),(.bool false),(I 0),(.bool false),(I 0),(.bool false),(I 0),(.bool false),(I 0),(.bool false),(I 0),(.bool false),(I 0),(.bool false),(I 0),(I 0),(.str []),.nilsl,.nilsl,.nilsl,(.bool false),(I 0),(I 0),(I 0),(.bool false)])),(3157,some (.cells [(.str [49]),(I 2),(I 0),(I 0),(I 0),(.fsl true []),(I 2),(.bool false),(I 0),(.bool false),(I 0),(.bool false),(I 0),(.bool false),(I 0),(.bool false),(I 0),(.bool false),(I 0),(.bool false),(I 0),(.bool false),(I 0),(.bool false),(I 0),(.bool false),(I 0),(I 0),(.str []),.nilsl,.nilsl,.nilsl,(.bool false),(I 0),(I 0),(I 0),(.bool false)])),(3138,some (.cells [(.str [49]),(I 2),(I 0),(I 0),(I 0),(.fsl true []),(I 2),(.bool false),(I 0),(.bool false),(I 0),(.bool false),(I 0),(.bool false),(I 0),(.bool false),(I 0),(.bool false),(I 0),(.bool false),(I 0),(.bool false),(I 0),(.bool false),(I 0),(.bool false),(I 0),(I 0),(.str []),.nilsl,.nilsl,.nilsl,(.bool false),(I 0),(I 0),(I 0),(.bool false)])),(3071,some (.cells [(.fsl false []),(.bool false)])),(3014,some (.cells [(.fsl false []),(.bool false)])),(2986,some (.cells [(.rsl true 3503 0 2 37),(I 3),(.int .u64 3),.nilsl,(I 0)]))]
theorem Gq:oU Tryz.prog optsA 40 30 t9 2983 ua ub 534=true:=by kernel_rfl
theorem Gr:BodySem Tryz.prog optsA.glob 30 t9 [] 2983 ua ub (2983+534):=wX (O:=optsA) Tryz.mixed qm o6 (fun _ _ h=>by cases h) Gq
noncomputable def uc (f:FuncId) (args:List AV):Option AV:=match Nat.beq f 27 with
 |true=>(match c8 args t7 with
  |true=>some t8
  |false=>none)
 |false=>ql f args
theorem Gs:∀f args v,uc f args=some v→SemCall Tryz.prog optsA.glob f args v:=by
 intro f args v h
 unfold uc at h
 split at h
 ·rename_i hf
  rw[beq_iff.1 hf]
  split at h
  ·rename_i hs
   simp only[Option.some.injEq] at h
   subst h
   rw[eC _ _ hs]
   exact Gp
  ·skip
   cases h
 ·exact qm _ _ _ h
noncomputable def ud (f:FuncId) (args:List AV) (nx:Nat):Option (AV × aa × Nat):=match Nat.beq f 30 with
 |true=>(match Nat.beq nx 2983&&c8 args t9 with
  |true=>some (ua,ub,534)
  |false=>none)
 |false=>none
theorem Gt:∀f args nx v H2 m,ud f args nx=some (v,H2,m)→BodySem Tryz.prog optsA.glob f args [] nx v H2 (nx+m):=by
 intro f args nx v H2 m h
 unfold ud at h
 split at h
 ·rename_i hf
  rw[beq_iff.1 hf]
  split at h
  ·rename_i hs
   rw[Bool.and_eq_true] at hs
   simp only[Option.some.injEq,Prod.mk.injEq] at h
   obtain ⟨rfl,rfl,rfl⟩:=h
   rw[beq_iff.1 hs.1,eC _ _ hs.2]
   exact Gr
  ·skip
   cases h
 ·cases h
noncomputable def ue:aB:=eG (fun f=>Nat.beq f 30) (jg ud) m4
theorem Gu:aV Tryz.prog optsA.glob ue∧aW ue:=wL (wJ Gt) o6
noncomputable def Gv (f:Nat):lR:=match Nat.beq f 30 with
 |true=> .known
 |false=>zp f
noncomputable def uf:aH:={how:=Gv,summ:=uc,glob:=fun _=>none,lf:=100000,cx:=ue}
theorem Gw:ot (dL Tryz.prog uf (dw Tryz.prog uf 40) 6 [] [] 0)=true:=by kernel_rfl
theorem Gx:SC 6 [] (.bool true):=Cr (O:=uf) Tryz.mixed Gs Gu (fun _ _ h=>by cases h) Gw
end Go.Proofs.YtjmnheinkchlfaaGreatDoor
