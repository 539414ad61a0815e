import Derived.Test.YtlljinebapfdaaaGreatDoorProg
import Derived.Test.YtlljinebapfdaaaGreatDoorG5
import Derived.KernelRfl
namespace Go.Proofs.YtlljinebapfdaaaGreatDoor
open Go Go.RowKit
open Go.Proofs.Abs
abbrev I (n:Int):AV:= .int .i64 n
def fO:List (List UInt8):=[[85,110,105,113,117,101,32,73,100,101,110,116,105,102,105,101,114],[78,97,109,101],[79,98,106,101,99,116,32,84,121,112,101],[67,114,121,112,116,111,103,114,97,112,104,105,99,32,65,108,103,111,114,105,116,104,109],[67,114,121,112,116,111,103,114,97,112,104,105,99,32,76,101,110,103,116,104],[67,114,121,112,116,111,103,114,97,112,104,105,99,32,85,115,97,103,101,32,77,97,115,107],[83,116,97,116,101],[73,110,105,116,105,97,108,32,68,97,116,101],[65,99,116,105,118,97,116,105,111,110,32,68,97,116,101],[80,114,111,99,101,115,115,32,83,116,97,114,116,32,68,97,116,101],[80,114,111,116,101,99,116,32,83,116,111,112,32,68,97,116,101],[68,101,97,99,116,105,118,97,116,105,111,110,32,68,97,116,101],[68,101,115,116,114,111,121,32,68,97,116,101],[67,111,109,112,114,111,109,105,115,101,32,79,99,99,117,114,114,101,110,99,101,32,68,97,116,101],[67,111,109,112,114,111,109,105,115,101,32,68,97,116,101],[65,114,99,104,105,118,101,32,68,97,116,101],[76,97,115,116,32,67,104,97,110,103,101,32,68,97,116,101],[82,101,118,111,99,97,116,105,111,110,32,82,101,97,115,111,110],[76,105,110,107],[85,115,97,103,101,32,76,105,109,105,116,115],[120,45,97],[120,45,98],[120,45],[121]]
def gl:aF:=fun _=>none
theorem Tryz.mixed:Tryz.prog.follows .mixedOrders=true:=by kernel_rfl
noncomputable def opts0:aT:={how:=fun _=> .pure,summ:=fun _ _=>none,glob:=gl,lf:=100000}
theorem uQ:∀g l,gl g=some l→ae l=true:=fun _ _ h=>by cases h
theorem base0:cz Tryz.prog opts0 40:=E6 Tryz.mixed (fun _ _ _ h=>by cases h) uQ
theorem fP:∀f args v,opts0.summ f args=some v→SemCall Tryz.prog opts0.glob f args v:=fun _ _ _ h=>by cases h
noncomputable def aX:aV:=ip (fun _ _=>none) (fun _=>none)
theorem ci:cC Tryz.prog opts0 aX:=pZ fP
noncomputable def ak (hint:List (Nat × Nat × dy)) (ls:List (Nat × bL)) (sem:dF) (pure all:List Nat):aV:=zT Tryz.prog opts0 40 (p5 hint) (kx ls) sem (Gv pure all)
theorem ap {hint:List (Nat × Nat × dy)} {ls:List (Nat × bL)} {sem:dF} {pure all:List Nat}:cC Tryz.prog opts0 (ak hint ls sem pure all):=Gw base0 fP
set_option maxRecDepth 20000 in
theorem fw {A:aV} {f:FuncId} {args:List AV} {v r:AV} (hA:cC Tryz.prog opts0 A) (hl:fh Tryz.prog opts0.glob 0 A f) (hcl:ae args=true) (h:aq Tryz.prog opts0 40 A f args [] 0 (fun u H _=>(∃d,aH 0 H d u=some r)∧ad r=true)) (hw:Wk r v):SemCall Tryz.prog opts0.glob f args v:=(im base0 hA hl hcl h).res hw
abbrev zL:List AV:=[AV.str [],I 0,I 0,I 0,I 0,AV.nilsl,I 0,AV.bool false,I 0,AV.bool false,I 0,AV.bool false,I 0,AV.bool false,I 0,AV.bool false,I 0,AV.bool false,I 0,AV.bool false,I 0,AV.bool false,I 0,AV.bool false,I 0,AV.bool false,I 0,I 0,AV.str [],AV.nilsl,AV.nilsl,AV.nilsl,AV.bool false,I 0,I 0,I 0,AV.bool false]
abbrev SC:=SemCall Tryz.prog opts0.glob
abbrev aR:Nat:=1099511627776
def am (t y n:Int) (D K:List AV):List AV:=[I t,I y,I n,.fsl false D,.fsl false K]
theorem fx (l:List It):(af l).length=l.length:=by simp[ir]
theorem bh (t y n:Int) (d:List UInt8) (ks:List It):aD (.mk t y n d ks)= .agg (am t y n (aj d) (af ks)):=rfl
theorem cE {f:Bool} {ks:List It} {i:Nat} {t y n:Int} {d:List UInt8} {l:List It} (hx:ks[i]? =some (.mk t y n d l)):aQ Tryz.prog 31 (.fsl f (af ks)) (.int .i64 (.ofNat i))=some (.fptr (am t y n (aj d) (af l)) 0):=
 l5 (v:=aD (.mk t y n d l)) (e:=33) (sz:=5) (by kernel_rfl) (by kernel_rfl) (by rw[ir,List.getElem?_map,hx];rfl) rfl
theorem GL (Q:AV→ab→Nat→Prop):aq Tryz.prog opts0 40 aX 60 [.nilsl] [] 0 Q=
  (Q AV.nilsl [] 4):=by kernel_rfl
theorem GM (Q:AV→ab→Nat→Prop):aq Tryz.prog opts0 40 aX 60 [.nesl] [] 0 Q=
  (Q (AV.fsl true []) [] 7):=by kernel_rfl
theorem GN (a:AV) (es:List AV) (Q:AV→ab→Nat→Prop):aq Tryz.prog opts0 40 aX 60 [.fsl false (a::es)] [] 0 Q=
  (ax (bT 1 (a::es)&&(((0+ac (a::es))*1).ble 140737488355328&&true)) (Q (AV.rsl true 5 0 (0+ac (a::es)) 1) [(5,some (Blk.cells (flat (a::es))))] 7)):=by kernel_rfl
theorem uR {l:List AV} (hl:∀e∈l,dM 1 e) (hc:ae l=true) (hn:l.length≤aR):SC 60 [.fsl false l] (.fsl false l):=by
 cases l with
 |nil=>
  refine SemCall.empty (fw (A:=aX) (r:= .nilsl) ci (ar (LsOk.no rfl)) rfl ?_ .nil) (fw (A:=aX) (r:= .fsl true []) ci (ar (LsOk.no rfl)) rfl ?_ .full)
  ·rw[GL];exact gT rfl
  ·rw[GM];exact gT rfl
 | cons a es=>
  have hcl:ae [.fsl false (a::es)]=true:=by rw[ae,ad,hc];rfl
  refine fw (A:=aX) (r:= .fsl false (a::es)) ci (ar (LsOk.no rfl)) hcl ?_ (.refl _)
  rw[GN]
  have h1:bT 1 (a::es)=true:=allSize_iff.2 fun e he=>(hl e he).1
  refine oblB_iff.2 ⟨?_, ?_⟩
  ·have hn:es.length+1≤1099511627776:=hn
   simp only[Bool.and_eq_true,Nat.ble_eq,aC] at h1⊢
   first|exact ⟨h1,by omega⟩|exact ⟨h1,by simp only[List.length_cons];omega⟩|(simp_all;omega)
  ·exact n7 (Frz.row rfl rfl rfl (by first|rfl|simp[aC]) hl hc) hc
theorem GO (Q:AV→ab→Nat→Prop):aq Tryz.prog opts0 40 aX 61 [.nilsl] [] 0 Q=
  (Q AV.nilsl [] 4):=by kernel_rfl
theorem GP (Q:AV→ab→Nat→Prop):aq Tryz.prog opts0 40 aX 61 [.nesl] [] 0 Q=
  (Q (AV.fsl true []) [] 7):=by kernel_rfl
theorem GQ (a:AV) (es:List AV) (Q:AV→ab→Nat→Prop):aq Tryz.prog opts0 40 aX 61 [.fsl false (a::es)] [] 0 Q=
  (ax (bT 1 (a::es)&&(((0+ac (a::es))*16).ble 140737488355328&&true)) (Q (AV.rsl true 5 0 (0+ac (a::es)) 1) [(5,some (Blk.cells (flat (a::es))))] 7)):=by kernel_rfl
theorem z4 {l:List AV} (hl:∀e∈l,dM 1 e) (hc:ae l=true) (hn:l.length≤aR):SC 61 [.fsl false l] (.fsl false l):=by
 cases l with
 |nil=>
  refine SemCall.empty (fw (A:=aX) (r:= .nilsl) ci (ar (LsOk.no rfl)) rfl ?_ .nil) (fw (A:=aX) (r:= .fsl true []) ci (ar (LsOk.no rfl)) rfl ?_ .full)
  ·rw[GO];exact gT rfl
  ·rw[GP];exact gT rfl
 | cons a es=>
  have hcl:ae [.fsl false (a::es)]=true:=by rw[ae,ad,hc];rfl
  refine fw (A:=aX) (r:= .fsl false (a::es)) ci (ar (LsOk.no rfl)) hcl ?_ (.refl _)
  rw[GQ]
  have h1:bT 1 (a::es)=true:=allSize_iff.2 fun e he=>(hl e he).1
  refine oblB_iff.2 ⟨?_, ?_⟩
  ·have hn:es.length+1≤1099511627776:=hn
   simp only[Bool.and_eq_true,Nat.ble_eq,aC] at h1⊢
   first|exact ⟨h1,by omega⟩|exact ⟨h1,by simp only[List.length_cons];omega⟩|(simp_all;omega)
  ·exact n7 (Frz.row rfl rfl rfl (by first|rfl|simp[aC]) hl hc) hc
theorem GR (Q:AV→ab→Nat→Prop):aq Tryz.prog opts0 40 aX 62 [.nilsl] [] 0 Q=
  (Q AV.nilsl [] 4):=by kernel_rfl
theorem GS (Q:AV→ab→Nat→Prop):aq Tryz.prog opts0 40 aX 62 [.nesl] [] 0 Q=
  (Q (AV.fsl true []) [] 7):=by kernel_rfl
theorem GT (a:AV) (es:List AV) (Q:AV→ab→Nat→Prop):aq Tryz.prog opts0 40 aX 62 [.fsl false (a::es)] [] 0 Q=
  (ax (bT 2 (a::es)&&(((0+ac (a::es))*24).ble 140737488355328&&true)) (Q (AV.rsl true 5 0 (0+ac (a::es)) 2) [(5,some (Blk.cells (flat (a::es))))] 7)):=by kernel_rfl
theorem z5 {l:List AV} (hl:∀e∈l,dM 2 e) (hc:ae l=true) (hn:l.length≤aR):SC 62 [.fsl false l] (.fsl false l):=by
 cases l with
 |nil=>
  refine SemCall.empty (fw (A:=aX) (r:= .nilsl) ci (ar (LsOk.no rfl)) rfl ?_ .nil) (fw (A:=aX) (r:= .fsl true []) ci (ar (LsOk.no rfl)) rfl ?_ .full)
  ·rw[GR];exact gT rfl
  ·rw[GS];exact gT rfl
 | cons a es=>
  have hcl:ae [.fsl false (a::es)]=true:=by rw[ae,ad,hc];rfl
  refine fw (A:=aX) (r:= .fsl false (a::es)) ci (ar (LsOk.no rfl)) hcl ?_ (.refl _)
  rw[GT]
  have h1:bT 2 (a::es)=true:=allSize_iff.2 fun e he=>(hl e he).1
  refine oblB_iff.2 ⟨?_, ?_⟩
  ·have hn:es.length+1≤1099511627776:=hn
   simp only[Bool.and_eq_true,Nat.ble_eq,aC] at h1⊢
   first|exact ⟨h1,by omega⟩|exact ⟨h1,by simp only[List.length_cons];omega⟩|(simp_all;omega)
  ·exact n7 (Frz.row rfl rfl rfl (by first|rfl|simp[aC]) hl hc) hc
theorem GU (Q:AV→ab→Nat→Prop):aq Tryz.prog opts0 40 aX 63 [.nilsl] [] 0 Q=
  (Q AV.nilsl [] 4):=by kernel_rfl
theorem GV (Q:AV→ab→Nat→Prop):aq Tryz.prog opts0 40 aX 63 [.nesl] [] 0 Q=
  (Q (AV.fsl true []) [] 7):=by kernel_rfl
theorem GW (a:AV) (es:List AV) (Q:AV→ab→Nat→Prop):aq Tryz.prog opts0 40 aX 63 [.fsl false (a::es)] [] 0 Q=
  (ax (bT 2 (a::es)&&(((0+ac (a::es))*32).ble 140737488355328&&true)) (Q (AV.rsl true 5 0 (0+ac (a::es)) 2) [(5,some (Blk.cells (flat (a::es))))] 7)):=by kernel_rfl
theorem z6 {l:List AV} (hl:∀e∈l,dM 2 e) (hc:ae l=true) (hn:l.length≤aR):SC 63 [.fsl false l] (.fsl false l):=by
 cases l with
 |nil=>
  refine SemCall.empty (fw (A:=aX) (r:= .nilsl) ci (ar (LsOk.no rfl)) rfl ?_ .nil) (fw (A:=aX) (r:= .fsl true []) ci (ar (LsOk.no rfl)) rfl ?_ .full)
  ·rw[GU];exact gT rfl
  ·rw[GV];exact gT rfl
 | cons a es=>
  have hcl:ae [.fsl false (a::es)]=true:=by rw[ae,ad,hc];rfl
  refine fw (A:=aX) (r:= .fsl false (a::es)) ci (ar (LsOk.no rfl)) hcl ?_ (.refl _)
  rw[GW]
  have h1:bT 2 (a::es)=true:=allSize_iff.2 fun e he=>(hl e he).1
  refine oblB_iff.2 ⟨?_, ?_⟩
  ·have hn:es.length+1≤1099511627776:=hn
   simp only[Bool.and_eq_true,Nat.ble_eq,aC] at h1⊢
   first|exact ⟨h1,by omega⟩|exact ⟨h1,by simp only[List.length_cons];omega⟩|(simp_all;omega)
  ·exact n7 (Frz.row rfl rfl rfl (by first|rfl|simp[aC]) hl hc) hc
end Go.Proofs.YtlljinebapfdaaaGreatDoor
namespace Go.Proofs.YtlljinebapfdaaaGreatDoor
set_option maxRecDepth 20000
open Go Go.RowKit
open Go.Proofs.Abs
noncomputable section
abbrev me (D K:List AV) (n t y:Int):=[(0,some (Blk.cells [I t,I y,I n,AV.fsl false D,AV.fsl false K]))]
abbrev fQ (D K:List AV) (Q:AV→ab→Nat→Prop) (n t y:Int):=(Q (AV.bool (ah n 0)) (me D K n t y) 54)
abbrev jt (D K:List AV) (Q:AV→ab→Nat→Prop) (n t y:Int):=(Q (AV.bool false) (me D K n t y) 54)
theorem GX (t y n tag kind:Int) (D K:List AV) (Q:AV→ab→Nat→Prop):aq Tryz.prog opts0 40 aX 221 [.agg (am t y n D K),I tag,I kind] [] 0 Q=
  (aa (ah kind 7) (aa (ah t tag) (aa (ah y kind) (aa (ah kind 1) (aa (!ah kind 1) (fQ D K Q n t y) (fQ D K Q n t y)) (aa (ah (Int.ofNat (ac K)) 0) (aa (!ah kind 1) (fQ D K Q n t y) (fQ D K Q n t y)) (jt D K Q n t y))) (jt D K Q n t y)) (jt D K Q n t y)) (aa (ah t tag) (aa (ah y kind) (aa (ah kind 1) (aa (ah kind 8) (aa (!ah kind 1) (aa (!ah kind 8) (Q (AV.bool true) (me D K n t y) 54) (fQ D K Q n t y)) (fQ D K Q n t y)) (aa (ah (Int.ofNat (ac D)) 0) (aa (!ah kind 1) (aa (!ah kind 8) (Q (AV.bool true) (me D K n t y) 54) (fQ D K Q n t y)) (fQ D K Q n t y)) (jt D K Q n t y))) (aa (ah (Int.ofNat (ac K)) 0) (aa (ah kind 8) (aa (!ah kind 1) (aa (!ah kind 8) (Q (AV.bool true) (me D K n t y) 54) (fQ D K Q n t y)) (fQ D K Q n t y)) (aa (ah (Int.ofNat (ac D)) 0) (aa (!ah kind 1) (aa (!ah kind 8) (Q (AV.bool true) (me D K n t y) 54) (fQ D K Q n t y)) (fQ D K Q n t y)) (jt D K Q n t y))) (jt D K Q n t y))) (jt D K Q n t y)) (jt D K Q n t y))):=by kernel_rfl
def uS (kind:Int):Bool:=ah kind 7||ah kind 8
def z7 (t y n tag kind:Int) (d k:Nat):Bool:=ah t tag&&(ah y kind&&((ah kind 1||ah (.ofNat k) 0)&&((uS kind||ah (.ofNat d) 0)&&((!ah kind 1&& !uS kind)||ah n 0))))
def b8:It→Int→Int→Bool
 | .mk t y n d k,tag,kind=>z7 t y n tag kind d.length k.length
theorem ju (x:It) (tag kind:Int):SC 221 [aD x,I tag,I kind] (.bool (b8 x tag kind)):=by
 obtain ⟨t,y,n,d,ks⟩:=x
 refine im (A:=aX) base0 ci (ar (LsOk.no rfl)) (by simp[ae,cD,ad]) ?_
 rw[bh,GX]
 simp only[dr]
 simp only[aC,fx]
 repeat' refine ao (fun _=> ?_) (fun _=> ?_)
 all_goals exact GB (by simp_all [b8,z7,uS])
def z8:List AV:=[I 0,I 0,I 0,.nilsl,.nilsl]
def iu (t y n:Int) (D K:List AV):View:=⟨[(11,.fsl false K),(12,I (.ofNat (ac K))),(13,I 0),(3,.nilsl)],[(1,.ptr 0 0),(2,.ptr 1 0)],[(0,.cells (am t y n D K),.whole),(1,.cells z8,.whole)],3,26⟩
def eF (t y n:Int) (D K:List AV) (i:Nat) (es:List AV):View:=⟨[(11,.fsl false K),(12,I (.ofNat (ac K))),(13,I (.ofNat i))],[(1,.ptr 0 0),(2,.ptr 1 0),(3,.rsl true 2 0 i 5)],[(0,.cells (am t y n D K),.whole),(1,.cells z8,.whole),(2,.cells es,.whole)],3,26⟩
def mg (c:List AV):aV:=uh (p5 [(5,0,.res (.fptr c 0))]) (fun _=>none) (bq [(218,.agg c)])
@[simp] abbrev qh (D K:List AV) (n t y:Int):=([I t,I y,I n,AV.fsl false D,AV.fsl false K]=[I t,I y,I n,AV.fsl false D,AV.fsl false K]∧ae [I t,I y,I n,AV.fsl false D,AV.fsl false K]=true)
abbrev gU:=[I 0,I 0,I 0,AV.nilsl,AV.nilsl]
@[simp] abbrev qi (K:List AV):=(I (Int.ofNat (ac K))=I (Int.ofNat (ac K))∧ad (I (Int.ofNat (ac K)))=true)
@[simp] abbrev qj (K:List AV):=(AV.fsl false K=AV.fsl false K∧ad (AV.fsl false K)=true)
@[simp] abbrev qk:=(some 0=some 0∧0=0)
@[simp] abbrev ql:=(some 1=some 1∧0=0)
@[simp] abbrev uT (D K:List AV) (n t y:Int):=(((qj K)∧(qi K)∧(I 0=I 0∧true=true)∧(AV.nilsl=AV.nilsl∧true=true)∧True)∧(qk∧ql∧True)∧(qh D K n t y)∧(gU=gU∧true=true)∧True)
abbrev fy (E L:List AV) (a b c:Int):=[I a,I b,I c,AV.fsl false E,AV.fsl false L]
theorem z9 (t y n a b c:Int) (D K E L:List AV) (es:List AV) (N:Prop) (Q:AExit→St→Prop):aN Tryz.prog opts0 40 (mg (am a b c E L)) (aJ Tryz.prog 218 5) (iu t y n D K).st (bP 0 [(0,0),(1,1),(2,12)] (eF t y n D K 1 es) N [(0,0),(1,1)] (iu t y n D K) Q)=
  (aa (au 0 (Int.ofNat (ac K))) (aQ Tryz.prog 31 (AV.fsl false K) (I 0)=some (AV.fptr (fy E L a b c) 0)∧SC 218 [AV.agg (fy E L a b c)] (AV.agg (fy E L a b c))∧(((qj K)∧(qi K)∧(I 1=I 1∧true=true)∧True)∧(qk∧ql∧(true=true∧some 12=some 12∧0=0∧1=ac [AV.agg (fy E L a b c)]∧5=5)∧True)∧(qh D K n t y)∧(gU=gU∧true=true)∧(flat [AV.agg (fy E L a b c)]=es∧ae es=true)∧True)∧N) ((uT D K n t y)∧Q (AExit.exit 0) (iu t y n D K).st)):=by kernel_rfl
theorem Aa (t y n a b c:Int) (D K E L:List AV) (i j:Nat) (es es':List AV) (N:Prop) (Q:AExit→St→Prop):aN Tryz.prog opts0 40 (mg (am a b c E L)) (aJ Tryz.prog 218 5) (eF t y n D K i es).st (bP 0 [(0,0),(1,1),(2,12)] (eF t y n D K j es') N [(0,0),(1,1),(2,2)] (eF t y n D K i es) Q)=
  (aa (au (Int.ofNat i) (Int.ofNat (ac K))) (aQ Tryz.prog 31 (AV.fsl false K) (I (Int.ofNat i))=some (AV.fptr (fy E L a b c) 0)∧SC 218 [AV.agg (fy E L a b c)] (AV.agg (fy E L a b c))∧ax (bT 5 [AV.agg (fy E L a b c)]&&(((i+ac [AV.agg (fy E L a b c)])*72).ble 140737488355328&&(bu (flat [AV.agg (fy E L a b c)])&&true))) (ax ((ac es).beq (i*5)) ((((qj K)∧(qi K)∧(I (az IntKind.i64 (Int.ofNat i+1))=I (Int.ofNat j)∧ad (I (Int.ofNat j))=true)∧True)∧(qk∧ql∧(true=true∧some 12=some 12∧0=0∧j=i+ac [AV.agg (fy E L a b c)]∧5=5)∧True)∧(qh D K n t y)∧(gU=gU∧true=true)∧(es++flat [AV.agg (fy E L a b c)]=es'∧ae es'=true)∧True)∧N))) ((((qj K)∧(qi K)∧(I (Int.ofNat i)=I (Int.ofNat i)∧ad (I (Int.ofNat i))=true)∧True)∧(qk∧ql∧(true=true∧some 2=some 2∧0=0∧i=i∧5=5)∧True)∧(qh D K n t y)∧(gU=gU∧true=true)∧(es=es∧ae es=true)∧True)∧Q (AExit.exit 0) (eF t y n D K i es).st)):=by kernel_rfl
def Ab (t y n:Int) (D K:List AV):bL:=fun s Q=>dd 0 [(0,0),(1,1)] (iu t y n D K) s∧Q (.exit 0) (iu t y n D K).st
def Ac (t y n:Int) (D K:List AV) (es:List AV):bL:=fun s Q=>dd 0 [(0,0),(1,1)] (iu t y n D K) s∧Q (.exit 0) (eF t y n D K (ac K) es).st
def qm (D:List AV) (L:bL):aV:=uh (p5 []) (kx [(5,L)]) (bq [(60,.fsl false D)])
theorem GY (t y n:Int) (D K:List AV) (Q:AV→ab→Nat→Prop):aq Tryz.prog opts0 40 (qm D (Ab t y n D K)) 218 [.agg (am t y n D K)] [] 0 Q=
  (SC 60 [AV.fsl false D] (AV.fsl false D)∧(uT D K n t y)∧Q (AV.agg [I t,I y,I n,AV.fsl false D,AV.nilsl]) [(1,some (Blk.cells [I t,I y,I n,AV.fsl false D,AV.nilsl])),(0,some (Blk.cells [I t,I y,I n,AV.fsl false D,AV.nilsl])),(1,some (Blk.cells gU))] 8):=by kernel_rfl
theorem GZ (t y n:Int) (D K:List AV) (es:List AV) (Q:AV→ab→Nat→Prop):aq Tryz.prog opts0 40 (qm D (Ac t y n D K es)) 218 [.agg (am t y n D K)] [] 0 Q=
  (SC 60 [AV.fsl false D] (AV.fsl false D)∧(uT D K n t y)∧Q (AV.agg [I t,I y,I n,AV.fsl false D,AV.rsl true 2 0 (ac K) 5]) [(1,some (Blk.cells [I t,I y,I n,AV.fsl false D,AV.rsl true 2 0 (ac K) 5])),(0,some (Blk.cells [I t,I y,I n,AV.fsl false D,AV.rsl true 2 0 (ac K) 5])),(1,some (Blk.cells gU)),(2,some (Blk.cells es))] 8):=by kernel_rfl
theorem Ad:bX (dG Tryz.prog 218) 5=[aJ Tryz.prog 218 5]:=by kernel_rfl
theorem G0 (x:It):dM 5 (aD x):=by cases x;exact ⟨rfl,rfl⟩
theorem uU {ks:List It}:∀e∈af ks,dM 5 e:=fun e he=>by
 rw[ir] at he
 obtain ⟨x,_,rfl⟩:=List.mem_map.1 he
 exact G0 x
theorem Ae (a b:List It):af (a++b)=af a++af b:=by simp[ir]
def b9 (ks:List It) (i:Nat):List AV:=flat (af (ks.take i))
theorem uV {ks:List It} {i:Nat} {x:It} (h:ks[i]? =some x):b9 ks i++flat [aD x]=b9 ks (i+1):=by
 have:ks.take (i+1)=ks.take i++[x]:=by rw[List.take_add_one,h];rfl
 simp only[b9,this,Ae,nW,af]
theorem uW:∀l:List It,(flat (af l)).length=l.length*5
 |[]=>rfl
 | .mk _ _ _ _ _::r=>by simp only[af,flat,aD,AV.cells,List.length_append,uW r,List.length_cons,List.length_nil];omega
theorem Af {ks:List It} {i:Nat} (h:i≤ks.length):(b9 ks i).length=i*5:=by rw[b9,uW,List.length_take,Nat.min_eq_left h]
theorem oa:∀ {l:List AV},ae l=true→(∀e∈l,ae e.cells=true)→ae (flat l)=true
  |[],_,_=>rfl
  | a::t,h,h2=>by
    simp only[ae,Bool.and_eq_true] at h
    have:=oa h.2 fun e he=>h2 e (by simp[he])
    have h1:=h2 a (by simp)
    simp only[flat]
    exact closed_app h1 this
 where
  closed_app:∀ {a b:List AV},ae a=true→ae b=true→ae (a++b)=true
    |[],_,_,h=>h
    | x::r,_,h,h'=>by
      simp only[ae,Bool.and_eq_true] at h
      simp only[List.cons_append,ae,h.1,closed_app h.2 h',Bool.and_self]
theorem ob {ks:List It} {i:Nat}:ae (b9 ks i)=true:=oa (cY _) fun e he=>by
 rw[ir] at he
 obtain ⟨x,_,rfl⟩:=List.mem_map.1 he
 have:=cD x
 cases x
 exact this
theorem Ag {t y n:Int} {D:List AV} {ks:List It} {Q:AExit→St→Prop} (hD:ae D=true) (hb:ks.length≤aR)
  (ih:∀ (i:Nat) (x:It),ks[i]? =some x→SC 218 [aD x] (aD x)) (hq:Q (.exit 0) (eF t y n D (af ks) ks.length (b9 ks ks.length)).st):
  ∀ (m i:Nat),i+m=ks.length→0<i→ALp Tryz.prog opts0.glob 0 (aJ Tryz.prog 218 5) (eF t y n D (af ks) i (b9 ks i)).st Q
 |0,i,hi,_=>by
  obtain rfl:i=ks.length:=by omega
  refine ALp.round (A:=mg (am 0 0 0 [] [])) (V1:=eF t y n D (af ks) 0 []) (F:=eF t y n D (af ks) ks.length (b9 ks ks.length)) (lk:=[(0,0),(1,1),(2,12)]) (lk':=[(0,0),(1,1),(2,2)]) base0 (lX fP) (LsOk.no rfl) .refl ?_
  rw[Aa]
  refine ao (fun h=> ?_) (fun _=>⟨by simp[ad,ae,hD,cY,ob],hq⟩)
  rw[aC,fx] at h
  have h:(ks.length:Int)<ks.length:=ltInt_iff.1 h
  omega
 | m+1,i,hi,h0=>by
  have h1:i<ks.length:=by omega
  have g1:ks[i]? =some ks[i]:=List.getElem?_eq_getElem h1
  have hs:=ih i _ g1
  have hE:=uV g1
  revert hs g1 hE
  generalize ks[i]=x
  intro g1 hs hE
  obtain ⟨a,b,c,e,l⟩:=x
  rw[bh] at hs hE
  refine ALp.round (A:=mg (am a b c (aj e) (af l))) (V2:=eF t y n D (af ks) (i+1) (b9 ks (i+1))) (F:=eF t y n D (af ks) i (b9 ks i)) (lk:=[(0,0),(1,1),(2,12)]) (lk':=[(0,0),(1,1),(2,2)]) base0 (lX fP) (LsOk.no rfl) .refl ?_
  rw[Aa]
  refine ao (fun _=>And.intro (cE g1) (And.intro hs (br ?_ (br ?_ (And.intro ?_ ?_))))) (fun h=> ?_)
  ·simp[bT,ac,AV.cells,flat,bu]
   have hb:ks.length≤1099511627776:=hb
   omega
  ·rw[beq_iff,aC,Af (by omega)]
  ·have hb:ks.length≤1099511627776:=hb
   rw[eS (by simp;omega) (by simp;omega)]
   simp only[am] at hE
   simp[ad,ae,hD,cY,ob,hE,ac]
  ·exact Ag hD hb ih hq m (i+1) (by omega) (by omega)
  ·rw[aC,fx] at h
   have h:(ks.length:Int)≤i:=ltInt_false.1 h
   omega
theorem G1 {t y n:Int} {D:List AV} {ks:List It} {Q:AExit→St→Prop} (hD:ae D=true) (hb:ks.length≤aR) (h0:ks≠[])
  (ih:∀ (i:Nat) (x:It),ks[i]? =some x→SC 218 [aD x] (aD x)) (hq:Q (.exit 0) (eF t y n D (af ks) ks.length (b9 ks ks.length)).st):
  ALp Tryz.prog opts0.glob 0 (aJ Tryz.prog 218 5) (iu t y n D (af ks)).st Q:=by
 have hpos:0<ks.length:=List.length_pos_iff.2 h0
 have g1:ks[0]? =some ks[0]:=List.getElem?_eq_getElem hpos
 have hs:=ih 0 _ g1
 have hE:=uV g1
 have hE0:b9 ks 0=[]:=rfl
 revert hs g1 hE
 generalize ks[0]=x
 intro g1 hs hE
 rw[hE0,List.nil_append] at hE
 obtain ⟨a,b,c,e,l⟩:=x
 rw[bh] at hs hE
 refine ALp.round (A:=mg (am a b c (aj e) (af l))) (V2:=eF t y n D (af ks) 1 (b9 ks 1)) (F:=iu t y n D (af ks)) (lk:=[(0,0),(1,1),(2,12)]) (lk':=[(0,0),(1,1)]) base0 (lX fP) (LsOk.no rfl) .refl ?_
 rw[z9]
 refine ao (fun _=>And.intro (cE (i:=0) g1) (And.intro hs (And.intro ?_ ?_))) (fun h=> ?_)
 ·simp only[am] at hE
  simp[ad,ae,hD,cY,ob,hE,ac]
 ·exact Ag hD hb ih hq (ks.length-1) 1 (by omega) (by omega)
 ·rw[aC,fx] at h
  have h:(ks.length:Int)≤0:=ltInt_false.1 h
  omega
theorem G2 {t y n:Int} {d:List UInt8} {ks:List It} (h:bO aR (.mk t y n d ks))
  (ih:∀ (i:Nat) (x:It),ks[i]? =some x→SC 218 [aD x] (aD x)):
  SC 218 [aD (.mk t y n d ks)] (aD (.mk t y n d ks)):=by
 simp only[bO] at h
 obtain ⟨h3,h4,h5⟩:=h
 have hcl:=uR (l:=aj d) t4 (by simp) (by rw[←aC,dr];exact h3)
 cases ks with
 | nil=>
  refine fw (A:=qm (aj d) (Ab t y n (aj d) [])) (r:= .agg [I t,I y,I n,.fsl false (aj d),.nilsl]) (lX fP)
   (ar (LsOk.at1 rfl Ad fun s Q hs=> .seen base0.glob hs.1 ?_)) (by simp[ae,cD]) ?_ (Wk.agg (.cons (.refl _) (.cons (.refl _) (.cons (.refl _) (.cons (.refl _) (.cons .nil .nil))))))
  ·refine ALp.round (A:=mg (am 0 0 0 [] [])) (V1:=eF t y n (aj d) [] 1 []) (F:=iu t y n (aj d) []) (lk:=[(0,0),(1,1),(2,12)]) (lk':=[(0,0),(1,1)]) base0 (lX fP) (LsOk.no rfl) .refl ?_
   rw[z9]
   refine ao (fun h=> ?_) (fun _=>⟨by simp[ad,ae],hs.2⟩)
   have h:(0:Int)<0:=ltInt_iff.1 h
   omega
  ·rw[bh]
   simp only[af]
   rw[GY]
   exact And.intro hcl (And.intro (by simp[ad,ae]) (gT (by simp[ad,ae])))
 | cons k r=>
  refine im (A:=qm (aj d) (Ac t y n (aj d) (af (k::r)) (b9 (k::r) (k::r).length))) base0 (lX fP)
   (ar (LsOk.at1 rfl Ad fun s Q hs=> .seen base0.glob hs.1 (G1 (by simp) h4 (by simp) ih (by have:=hs.2;rw[aC,fx] at this;exact this)))) (by simp[ae,cD]) ?_
  rw[bh,GZ]
  refine And.intro hcl (And.intro (by simp[ad,ae,cY]) ?_)
  refine n7 (Frz.agg (FrzL.cons (Frz.closed _ rfl) (FrzL.cons (Frz.closed _ rfl) (FrzL.cons (Frz.closed _ rfl) (FrzL.cons (Frz.closed _ (by simp[ad])) (FrzL.cons (Frz.row (es:=af (k::r)) rfl rfl ?_ ?_ uU (cY _)) FrzL.nil)))))) (by simp[am,ad,ae,cY])
  ·rw[b9,List.take_length]
  ·rw[aC]
mutual
theorem uX:∀x:It,bO aR x→SC 218 [aD x] (aD x)
 | .mk _ _ _ _ ks,h=>G2 h fun _i x hx=>Ah ks x (List.mem_of_getElem? hx) (okIs_iff.1 h.2.2 x (List.mem_of_getElem? hx))
theorem Ah:∀ks:List It,∀x∈ks,bO aR x→SC 218 [aD x] (aD x)
 |[],_,hx,_=>by cases hx
 |k::r,x,hx,h=>by
  have h1:=uX k
  have h2:=Ah r x
  rcases List.mem_cons.1 hx with e|hx
  ·rw[e] at h⊢;exact h1 h
  ·exact h2 hx h
end
end
end Go.Proofs.YtlljinebapfdaaaGreatDoor
namespace Go.Proofs.YtlljinebapfdaaaGreatDoor
open Go Go.RowKit
open Go.Proofs.Abs
noncomputable section
theorem G3 (n m:Int) (Q:AV→ab→Nat→Prop):aq Tryz.prog opts0 40 aX 6 [I n,I m] [] 0 Q=
  (ax (!ah m 0) (aa (au (n.tmod m) 0) (Q (I (az IntKind.i64 (n.tmod m+m))) [] 13) (Q (I (n.tmod m)) [] 9))):=by kernel_rfl
theorem mh (n:Int) {m:Int} (h0:0<m) (h1:m≤4611686018427387904):SC 6 [I n,I m] (I (n%m)):=by
 refine im (A:=aX) base0 ci (ar (LsOk.no rfl)) rfl ?_
 rw[G3]
 have hm:=Int.tmod_lt_of_pos n h0
 have hm':=Int.lt_tmod_of_pos n h0
 have he:=Int.emod_nonneg n (Int.ne_of_gt h0)
 have hd:=Int.emod_lt_of_pos n h0
 have key:n%m=if n.tmod m<0 then n.tmod m+m else n.tmod m:=by
  have e1:=Int.tmod_eq_emod (a:=n) (b:=m)
  split at e1
  ·rw[e1,if_neg (by omega)];omega
  ·have:(m.natAbs:Int)=m:=Int.natAbs_of_nonneg (by omega)
   split<;>omega
 refine br (by rw[Bool.not_eq_true',beqInt_false];omega) ?_
 refine ao (fun h=> ?_) (fun h=> ?_)
 ·have h:=ltInt_iff.1 h
  rw[if_pos h] at key
  exact zZ (by rw[eS (by omega) (by omega),key])
 ·have h:=ltInt_false.1 h
  rw[if_neg (by omega)] at key
  exact zZ key.symm
structure Rw where
 k:Int
 a:Int
 b:Int
 c:Int
def uY (r:Rw):List AV:=[I r.k,I r.a,I r.b,I r.c]
def cb (r:Rw):AV:= .agg (uY r)
def cd {α:Type} (l:List α) (d:α) (n:Int):α:=(l[(n%(l.length:Int)).toNat]?).getD d
def uZ:List AV→Option AV
 |[.int _ n,.int _ m]=>some (I (n%m))
 |_=>none
theorem Ai {n m:Int} (h:0<m):∃k:Nat,n%m=(k:Int)∧(k:Int)<m:=by
 have h1:=Int.emod_nonneg n (Int.ne_of_gt h)
 have h2:=Int.emod_lt_of_pos n h
 exact ⟨(n%m).toNat,by omega,by omega⟩
theorem qn {α:Type} (l:List α) (d:α) (n:Int) (h:l≠[]):cd l d n∈l:=by
 have hp:0<l.length:=List.length_pos_iff.2 h
 obtain ⟨k,h1,h2⟩:=Ai (n:=n) (m:=(l.length:Int)) (by omega)
 have hk:k<l.length:=by omega
 unfold cd
 rw[h1]
 have:(k:Int).toNat=k:=by omega
 rw[this,List.getElem?_eq_getElem hk]
 simp
def idL:List (List UInt8):=[[49],[50],[51],[52],[53],[54],[55],[49],[50],[51],[57,57],[120]]
def txL:List (List UInt8):=[[111,110,101],[116,119,111],[116,104,114,101,101],[102,111,117,114],[],[53],[49]]
def alL:List Int:=[3,3,4,0,101]
def qo:List Int:=[128,192,256,1024,2048,0,64]
def qp:List Int:=[396,12,4,0,384,2097152,8]
def Aj (s:List UInt8):aV:=ak [(1,3,.res (.str s))] [] (de [(6,uZ)]) [] []
theorem G4 (n:Int) (s:List UInt8) (Q:AV→ab→Nat→Prop):aq Tryz.prog opts0 40 (Aj s) 46 [I n] [] 0 Q=
  (SC 6 [I n,I 12] (I (n%12))∧cL Tryz.prog 206 (AV.agg [AV.str [49],AV.str [50],AV.str [51],AV.str [52],AV.str [53],AV.str [54],AV.str [55],AV.str [49],AV.str [50],AV.str [51],AV.str [57,57],AV.str [120]]) (I (n%12))=some (AV.str s)∧Q (AV.str s) [] 6):=by kernel_rfl
def Ak (s i:List UInt8) (al le ma:Int):aV:=ak [(10,4,.res (.str s)),(15,4,.res (I al)),(17,4,.res (I le)),(19,4,.res (I ma))] [] (de [(6,uZ),(46,fun _=>some (.str i))]) [20,45] [18]
@[simp] abbrev mi (Q:AV→Prop) (r:Rw) (s:List UInt8):=(SC 6 [I r.2,I 7] (I (r.2%7))∧cL Tryz.prog 133 (AV.agg [AV.str [111,110,101],AV.str [116,119,111],AV.str [116,104,114,101,101],AV.str [102,111,117,114],AV.str [],AV.str [53],AV.str [49]]) (I (r.2%7))=some (AV.str s)∧Q (AV.agg [I 4325387,I 7,I 0,AV.fsl false (aj s),AV.nilsl]))
@[simp] abbrev Al (Q:AV→Prop) (r:Rw):=(SC 6 [I r.2,I 8] (I (r.2%8))∧Q (AV.agg [I 4325387,I 5,I (r.2%8),AV.nilsl,AV.nilsl]))
theorem G5 (nm s i:List UInt8) (al le ma:Int) (r:Rw) (Q:AV→Prop):aq Tryz.prog opts0 40 (Ak s i al le ma) 21 [.str nm,cb r] [] 0 (fun v _ _=>Q v)=
  (SC 6 [I r.4,I 17] (I (r.4%17))∧aa (ah (r.4%17) 16) (Q (AV.agg [I 4325387,I 2,I (az IntKind.i64 (az IntKind.i32 r.2)),AV.nilsl,AV.nilsl])) (aa (ag nm [78,97,109,101]) (mi Q r s) (aa (ag nm [85,110,105,113,117,101,32,73,100,101,110,116,105,102,105,101,114]) (mi Q r s) (aa (ag nm [120,45,97]) (mi Q r s) (aa (ag nm [120,45,98]) (mi Q r s) (aa (ag nm [120,45]) (mi Q r s) (aa (ag nm [121]) (mi Q r s) (aa (ag nm [79,98,106,101,99,116,32,84,121,112,101]) (Al Q r) (aa (ag nm [83,116,97,116,101]) (Al Q r) (aa (ag nm [67,114,121,112,116,111,103,114,97,112,104,105,99,32,65,108,103,111,114,105,116,104,109]) (SC 6 [I r.2,I 5] (I (r.2%5))∧cL Tryz.prog 134 (AV.agg [I 3,I 3,I 4,I 0,I 101]) (I (r.2%5))=some (I al)∧Q (AV.agg [I 4325387,I 5,I al,AV.nilsl,AV.nilsl])) (aa (ag nm [67,114,121,112,116,111,103,114,97,112,104,105,99,32,76,101,110,103,116,104]) (SC 6 [I r.2,I 7] (I (r.2%7))∧cL Tryz.prog 135 (AV.agg [I 128,I 192,I 256,I 1024,I 2048,I 0,I 64]) (I (r.2%7))=some (I le)∧Q (AV.agg [I 4325387,I 2,I le,AV.nilsl,AV.nilsl])) (aa (ag nm [67,114,121,112,116,111,103,114,97,112,104,105,99,32,85,115,97,103,101,32,77,97,115,107]) (SC 6 [I r.2,I 7] (I (r.2%7))∧cL Tryz.prog 135 (AV.agg [I 396,I 12,I 4,I 0,I 384,I 2097152,I 8]) (I (r.2%7))=some (I ma)∧Q (AV.agg [I 4325387,I 2,I ma,AV.nilsl,AV.nilsl])) (aa (ag nm [82,101,118,111,99,97,116,105,111,110,32,82,101,97,115,111,110]) (SC 6 [I r.2,I 9] (I (r.2%9))∧Q (AV.agg [I 4325387,I 1,I 0,AV.nilsl,AV.fsl true [AV.agg [I 4325506,I 5,I (r.2%9),AV.nilsl,AV.nilsl]]])) (aa (ag nm [76,105,110,107]) (SC 6 [I r.2,I 12] (I (r.2%12))∧SC 46 [I r.3] (AV.str i)∧Q (AV.agg [I 4325387,I 1,I 0,AV.nilsl,AV.fsl true [AV.agg [I 4325451,I 5,I (az IntKind.i64 (100+r.2%12)),AV.nilsl,AV.nilsl],AV.agg [I 4325452,I 7,I 0,AV.fsl false (aj i),AV.nilsl]]])) (aa (ag nm [85,115,97,103,101,32,76,105,109,105,116,115]) (SC 6 [I r.2,I 60] (I (r.2%60))∧aa (ah (r.3.tmod 4) 0) (SC 6 [I r.3,I 70] (I (r.3%70))∧SC 6 [I r.3,I 3] (I (r.3%3))∧Q (AV.agg [I 4325387,I 1,I 0,AV.nilsl,AV.fsl true [AV.agg [I 4325527,I 3,I (r.2%60),AV.nilsl,AV.nilsl],AV.agg [I 4325526,I 3,I (r.3%70),AV.nilsl,AV.nilsl],AV.agg [I 4325528,I 5,I (az IntKind.i64 (1+r.3%3)),AV.nilsl,AV.nilsl]]])) (SC 6 [I r.3,I 3] (I (r.3%3))∧Q (AV.agg [I 4325387,I 1,I 0,AV.nilsl,AV.fsl true [AV.agg [I 4325527,I 3,I (r.2%60),AV.nilsl,AV.nilsl],AV.agg [I 4325526,I 3,I (r.2%60),AV.nilsl,AV.nilsl],AV.agg [I 4325528,I 5,I (az IntKind.i64 (1+r.3%3)),AV.nilsl,AV.nilsl]]]))) (SC 6 [I r.2,I 60] (I (r.2%60))∧Q (AV.agg [I 4325387,I 9,I (r.2%60),AV.nilsl,AV.nilsl]))))))))))))))))):=by kernel_rfl
theorem qq {n:Int} {m:Nat} (h:0<m) {p:Int→Prop} (hp:∀k:Nat,k<m→p (k:Int)):p (n%(m:Int)):=by
 obtain ⟨k,h1,h2⟩:=Ai (n:=n) (m:=(m:Int)) (by omega)
 rw[h1]
 exact hp k (by omega)
theorem qr {m:Nat} {p:Nat→Prop} (h:∀k∈List.range m,p k):∀k:Nat,k<m→p k:=fun k hk=>h k (List.mem_range.2 hk)
theorem G6 (n:Int):SC 46 [I n] (.str (cd idL [] n)):=by
 refine im (A:=Aj (cd idL [] n)) base0 ap (ar (LsOk.no rfl)) rfl ?_
 rw[G4]
 refine And.intro (mh n (m:=12) (by decide) (by decide)) (And.intro ?_ (gT rfl))
 unfold cd
 exact qq (m:=12) (p:=fun x=>cL Tryz.prog 206 (.agg (idL.map .str)) (I x)=some (.str ((idL[x.toNat]?).getD []))) (by decide) (qr (by simp only[List.range,List.range.loop,List.forall_mem_cons];refine ⟨?_, ?_, ?_, ?_, ?_, ?_, ?_, ?_, ?_, ?_, ?_, ?_, ?_⟩<;>first|kernel_rfl|(intro _ h;cases h)))
def bA (y n:Int) (d:List UInt8) (ks:List It):It:= .mk 4325387 y n d ks
def iv (t y n:Int) (d:List UInt8):It:= .mk t y n d []
def Am (s:List UInt8):Bool:=ag s [78,97,109,101]||(ag s [85,110,105,113,117,101,32,73,100,101,110,116,105,102,105,101,114]||(ag s [120,45,97]||(ag s [120,45,98]||(ag s [120,45]||ag s [121]))))
def iw (s:List UInt8) (r:Rw):It:=
 match ah (r.c%17) 16 with
 |true=>bA 2 (az .i64 (az .i32 r.a)) [] []
 |false=>match Am s with
 |true=>bA 7 0 (cd txL [] r.a) []
 |false=>match ag s [79,98,106,101,99,116,32,84,121,112,101]||ag s [83,116,97,116,101] with
 |true=>bA 5 (r.a%8) [] []
 |false=>match ag s [67,114,121,112,116,111,103,114,97,112,104,105,99,32,65,108,103,111,114,105,116,104,109] with
 |true=>bA 5 (cd alL 0 r.a) [] []
 |false=>match ag s [67,114,121,112,116,111,103,114,97,112,104,105,99,32,76,101,110,103,116,104] with
 |true=>bA 2 (cd qo 0 r.a) [] []
 |false=>match ag s [67,114,121,112,116,111,103,114,97,112,104,105,99,32,85,115,97,103,101,32,77,97,115,107] with
 |true=>bA 2 (cd qp 0 r.a) [] []
 |false=>match ag s [82,101,118,111,99,97,116,105,111,110,32,82,101,97,115,111,110] with
 |true=>bA 1 0 [] [iv 4325506 5 (r.a%9) []]
 |false=>match ag s [76,105,110,107] with
 |true=>bA 1 0 [] [iv 4325451 5 (az .i64 (100+r.a%12)) [],iv 4325452 7 0 (cd idL [] r.b)]
 |false=>match ag s [85,115,97,103,101,32,76,105,109,105,116,115] with
 |true=>bA 1 0 [] [iv 4325527 3 (r.a%60) [],iv 4325526 3 (match ah (r.b.tmod 4) 0 with|true=>r.b%70|false=>r.a%60) [],iv 4325528 5 (az .i64 (1+r.b%3)) []]
 |false=>bA 9 (r.a%60) [] []
set_option maxRecDepth 20000 in
theorem G7 (s:List UInt8) (r:Rw):SC 21 [.str s,cb r] (aD (iw s r)):=by
 refine bt (A:=Ak (cd txL [] r.a) (cd idL [] r.b) (cd alL 0 r.a) (cd qo 0 r.a) (cd qp 0 r.a)) base0 ap (ar (LsOk.no rfl)) rfl ?_
 rw[G5 s (cd txL [] r.a) (cd idL [] r.b) (cd alL 0 r.a) (cd qo 0 r.a) (cd qp 0 r.a) r (cZ (aD (iw s r)))]
 have p:∀ (n:Int) {m:Int},0<m→m≤4611686018427387904→SC 6 [I n,I m] (I (n%m)):=fun n {m} h0 h1=>mh n h0 h1
 have tx:cL Tryz.prog 133 (.agg (txL.map .str)) (I (r.a%7))=some (.str (cd txL [] r.a)):=by
  unfold cd
  exact qq (m:=7) (p:=fun x=>cL Tryz.prog 133 (.agg (txL.map .str)) (I x)=some (.str ((txL[x.toNat]?).getD []))) (by decide) (qr (by simp only[List.range,List.range.loop,List.forall_mem_cons];refine ⟨?_, ?_, ?_, ?_, ?_, ?_, ?_, ?_⟩<;>first|kernel_rfl|(intro _ h;cases h)))
 have al:cL Tryz.prog 134 (.agg (alL.map I)) (I (r.a%5))=some (I (cd alL 0 r.a)):=by
  unfold cd
  exact qq (m:=5) (p:=fun x=>cL Tryz.prog 134 (.agg (alL.map I)) (I x)=some (I ((alL[x.toNat]?).getD 0))) (by decide) (qr (by simp only[List.range,List.range.loop,List.forall_mem_cons];refine ⟨?_, ?_, ?_, ?_, ?_, ?_⟩<;>first|kernel_rfl|(intro _ h;cases h)))
 have se:∀ (L:List Int),L.length=7→cL Tryz.prog 135 (.agg (L.map I)) (I (r.a%7))=some (I (cd L 0 r.a)):=fun L hL=>by
  match L,hL with
  |[a0,a1,a2,a3,a4,a5,a6],_=>
   unfold cd
   exact qq (m:=7) (p:=fun x=>cL Tryz.prog 135 (.agg ([a0,a1,a2,a3,a4,a5,a6].map I)) (I x)=some (I (([a0,a1,a2,a3,a4,a5,a6][x.toNat]?).getD 0))) (by decide) (qr (by simp only[List.range,List.range.loop,List.forall_mem_cons];refine ⟨?_, ?_, ?_, ?_, ?_, ?_, ?_, ?_⟩<;>first|kernel_rfl|(intro _ h;cases h)))
 have le:=se qo rfl
 have ma:=se qp rfl
 have hid:=G6 r.b
 refine And.intro (p _ (by decide) (by decide)) ?_
 refine ao (fun e0=> ?_) (fun e0=> ?_)
 ·refine ⟨rfl, ?_⟩
  simp only[iw,e0,bA,aD,aj,af]
  (repeat (first|exact Wk.refl _|exact WkL.refl _|exact Wk.nil|exact Wk.row|exact WkE.refl _|exact WkL.nil|exact WkE.nil|apply Wk.agg|apply Wk.tuple|apply WkL.cons|apply Wk.rows|apply WkE.consA))
 repeat' refine ao (fun _=> ?_) (fun _=> ?_)
 all_goals
  try refine And.intro (p _ (by decide) (by decide)) ?_
  try refine And.intro (by assumption) ?_
  repeat' refine ao (fun _=> ?_) (fun _=> ?_)
  all_goals
   try refine And.intro (p _ (by decide) (by decide)) ?_
   try refine And.intro (p _ (by decide) (by decide)) ?_
   refine ⟨by simp[ad,ae], ?_⟩
   simp only[iw,Am, *,Bool.or_true,Bool.true_or,Bool.or_false]
   simp only[bA,iv,aD,af,aj]
   (repeat (first|exact Wk.refl _|exact WkL.refl _|exact Wk.nil|exact Wk.row|exact WkE.refl _|exact WkL.nil|exact WkE.nil|apply Wk.agg|apply Wk.tuple|apply WkL.cons|apply Wk.rows|apply WkE.consA))
structure At where
 name:List UInt8
 idx:Int
 v:It
def u0:It→List AV
 | .mk t y n d ks=>am t y n (aj d) (af ks)
theorem G8 (x:It):aD x= .agg (u0 x):=by cases x;rfl
def An (a:At):List AV:= .str a.name::I a.idx::u0 a.v
def aW (a:At):AV:= .agg (An a)
theorem G9 (x:It):ae (u0 x)=true:=by
 have:=cD x
 rw[G8] at this
 exact this
theorem mj (a:At):ad (aW a)=true:=by simp only[aW,An,ad,ae,G9,Bool.and_self]
theorem Ha (s:List UInt8) (r:Rw):bO aR (iw s r):=by
  have hid:(cd idL [] r.b).length≤8:=
     (by decide:∀s∈idL,s.length≤8) _ (qn idL [] r.b (by simp[idL]))
  have htx:(cd txL [] r.a).length≤8:=
     (by decide:∀s∈txL,s.length≤8) _ (qn txL [] r.a (by simp[txL]))
  unfold iw
  repeat' split
  all_goals (simp[bA,iv,bO,gu,aR];try omega)
end
noncomputable section
inductive Kd where
 |uid|nam|typ|alg|len|mask|sta
 |dat (k:Nat)
 |why|lnk|lim
 |cus (s:List UInt8)
def Ao:Nat→List UInt8
 |0=>[73,110,105,116,105,97,108,32,68,97,116,101]
 |1=>[65,99,116,105,118,97,116,105,111,110,32,68,97,116,101]
 |2=>[80,114,111,99,101,115,115,32,83,116,97,114,116,32,68,97,116,101]
 |3=>[80,114,111,116,101,99,116,32,83,116,111,112,32,68,97,116,101]
 |4=>[68,101,97,99,116,105,118,97,116,105,111,110,32,68,97,116,101]
 |5=>[68,101,115,116,114,111,121,32,68,97,116,101]
 |6=>[67,111,109,112,114,111,109,105,115,101,32,79,99,99,117,114,114,101,110,99,101,32,68,97,116,101]
 |7=>[67,111,109,112,114,111,109,105,115,101,32,68,97,116,101]
 |8=>[65,114,99,104,105,118,101,32,68,97,116,101]
 |_=>[76,97,115,116,32,67,104,97,110,103,101,32,68,97,116,101]
def iy:Kd→List UInt8
 | .uid=>[85,110,105,113,117,101,32,73,100,101,110,116,105,102,105,101,114]
 | .nam=>[78,97,109,101]
 | .typ=>[79,98,106,101,99,116,32,84,121,112,101]
 | .alg=>[67,114,121,112,116,111,103,114,97,112,104,105,99,32,65,108,103,111,114,105,116,104,109]
 | .len=>[67,114,121,112,116,111,103,114,97,112,104,105,99,32,76,101,110,103,116,104]
 | .mask=>[67,114,121,112,116,111,103,114,97,112,104,105,99,32,85,115,97,103,101,32,77,97,115,107]
 | .sta=>[83,116,97,116,101]
 | .why=>[82,101,118,111,99,97,116,105,111,110,32,82,101,97,115,111,110]
 | .lnk=>[76,105,110,107]
 | .lim=>[85,115,97,103,101,32,76,105,109,105,116,115]
 | .dat k=>Ao k
 | .cus s=>s
def c6:Kd→Bool
 | .nam| .lnk| .cus _=>true
 |_=>false
def u1 (k:Nat):Bool:=Nat.ble 1 k&&Nat.ble k 4
def fz:Kd→Bool
 | .nam| .lnk| .cus _| .alg| .len| .mask| .lim=>true
 | .dat k=>u1 k
 |_=>false
def iz:Kd→Int
 | .uid| .nam| .cus _=>7
 | .typ| .alg| .sta=>5
 | .len| .mask=>2
 | .dat _=>9
 | .why| .lnk| .lim=>1
def bB (f:Nat):AV:= .func (.func f) [] []
def cV (f:Nat) (c:List AV):AV:= .func (.func f) [] c
def u3:AV:=bB 275
def u4:AV:=bB 278
def Ap:AV:=bB 289
def ml:Nat→AV
 |1|2=>u4
 |3|4=>Ap
 |_=> .nilFunc
def iA:Kd→AV
 | .nam| .lnk| .cus _| .lim=>u3
 | .dat k=>ml k
 |_=> .nilFunc
def iB:Kd→AV
 | .nam| .lnk| .cus _=>u3
 | .mask=>u4
 | .lim=>bB 327
 | .dat k=>ml k
 |_=> .nilFunc
def oc:Nat→AV
 |2=>u4
 |3=>Ap
 |_=> .nilFunc
def iC:Kd→AV
 | .nam| .lnk| .cus _=>u3
 | .lim=>bB 327
 | .dat k=>oc k
 |_=> .nilFunc
def du:Kd→AV
 | .alg=>bB 285
 | .len=>bB 286
 |_=>bB 277
def Hb:Kd→Int
 | .alg=>100
 | .len=>100000
 |_=>1048575
def Aq:Kd→Int
 | .mask=>0
 |_=>1
def Hc (k:Kd):AV:=cV 299 [.fptr [du k] 0,.fptr [I (Aq k)] 0,.fptr [I (iz k)] 0]
def He (k:Kd):AV:=cV 300 [.fptr [I (iz k)] 0,.fptr [I (Aq k)] 0,.fptr [I (Hb k)] 0]
def Hf (k:Kd):AV:=cV 302 [.fptr [du k] 0]
def nI (k:Nat):AV:= .int .i64 (.ofNat k)
def jv:Kd→AV
 | .uid=>bB 280
 | .nam=>bB 304
 | .typ=>bB 283
 | .sta=>bB 287
 | .dat k=>cV 310 [.fptr [nI k] 0]
 | .why=>bB 290
 | .lnk=>bB 316
 | .lim=>bB 322
 | .cus s=>cV 265 [.fptr [.str s] 0]
 |k=>Hc k
def iD:Kd→AV
 | .nam=>bB 305
 | .dat _=>bB 311
 | .lnk=>bB 317
 | .lim=>bB 323
 | .cus _=>bB 268
 | .uid| .typ| .sta| .why=> .nilFunc
 |k=>He k
def iE:Kd→AV
 | .nam=>bB 306
 | .dat k=>cV 312 [.fptr [nI k] 0]
 | .lnk=>bB 318
 | .lim=>bB 325
 | .cus s=>cV 270 [.fptr [.str s] 0]
 | .uid| .typ| .sta| .why=> .nilFunc
 |k=>Hf k
def iF:Kd→AV
 | .nam=>bB 308
 | .dat k=>cV 313 [.fptr [nI k] 0]
 | .lnk=>bB 320
 | .lim=>bB 326
 | .cus s=>cV 272 [.fptr [.str s] 0]
 |_=> .nilFunc
def gw:Kd→AV
 | .nam=>bB 303
 | .lnk=>bB 315
 | .cus _=>bB 264
 |_=> .nilFunc
def dN (k:Kd):List AV:=[.str (iy k),I (iz k),.bool (c6 k),.bool (fz k),iA k,iB k,iC k,jv k,iD k,iE k,iF k,gw k]
def kC (k:Kd):AV:= .agg (dN k)
def Ar:AV:= .agg [.str [],I 0,.bool false,.bool false,.nilFunc,.nilFunc,.nilFunc,.nilFunc,.nilFunc,.nilFunc,.nilFunc,.nilFunc]
def kinds:List Kd:=[.uid,.nam,.typ,.alg,.len,.mask,.sta,.dat 0,.dat 1,.dat 2,.dat 3,.dat 4,.dat 5,.dat 6,.dat 7,.dat 8,.dat 9,.why,.lnk,.lim]
abbrev Au:=[AV.str [67,114,121,112,116,111,103,114,97,112,104,105,99,32,85,115,97,103,101,32,77,97,115,107],I 2,AV.bool false,AV.bool true,AV.nilFunc,AV.func (Fn.func 278) [] [],AV.nilFunc,AV.func (Fn.func 299) [] [AV.fptr [AV.func (Fn.func 277) [] []] 0,AV.fptr [I 0] 0,AV.fptr [I 2] 0],AV.func (Fn.func 300) [] [AV.fptr [I 2] 0,AV.fptr [I 0] 0,AV.fptr [I 1048575] 0],AV.func (Fn.func 302) [] [AV.fptr [AV.func (Fn.func 277) [] []] 0],AV.nilFunc,AV.nilFunc]
abbrev Av:=[AV.str [67,114,121,112,116,111,103,114,97,112,104,105,99,32,65,108,103,111,114,105,116,104,109],I 5,AV.bool false,AV.bool true,AV.nilFunc,AV.nilFunc,AV.nilFunc,AV.func (Fn.func 299) [] [AV.fptr [AV.func (Fn.func 285) [] []] 0,AV.fptr [I 1] 0,AV.fptr [I 5] 0],AV.func (Fn.func 300) [] [AV.fptr [I 5] 0,AV.fptr [I 1] 0,AV.fptr [I 100] 0],AV.func (Fn.func 302) [] [AV.fptr [AV.func (Fn.func 285) [] []] 0],AV.nilFunc,AV.nilFunc]
abbrev Aw:=[AV.str [67,114,121,112,116,111,103,114,97,112,104,105,99,32,76,101,110,103,116,104],I 2,AV.bool false,AV.bool true,AV.nilFunc,AV.nilFunc,AV.nilFunc,AV.func (Fn.func 299) [] [AV.fptr [AV.func (Fn.func 286) [] []] 0,AV.fptr [I 1] 0,AV.fptr [I 2] 0],AV.func (Fn.func 300) [] [AV.fptr [I 2] 0,AV.fptr [I 1] 0,AV.fptr [I 100000] 0],AV.func (Fn.func 302) [] [AV.fptr [AV.func (Fn.func 286) [] []] 0],AV.nilFunc,AV.nilFunc]
abbrev Ax:=[AV.str [80,114,111,99,101,115,115,32,83,116,97,114,116,32,68,97,116,101],I 9,AV.bool false,AV.bool true,AV.func (Fn.func 278) [] [],AV.func (Fn.func 278) [] [],AV.func (Fn.func 278) [] [],AV.func (Fn.func 310) [] [AV.fptr [I 2] 0],AV.func (Fn.func 311) [] [],AV.func (Fn.func 312) [] [AV.fptr [I 2] 0],AV.func (Fn.func 313) [] [AV.fptr [I 2] 0],AV.nilFunc]
abbrev Ay:=[AV.str [80,114,111,116,101,99,116,32,83,116,111,112,32,68,97,116,101],I 9,AV.bool false,AV.bool true,AV.func (Fn.func 289) [] [],AV.func (Fn.func 289) [] [],AV.func (Fn.func 289) [] [],AV.func (Fn.func 310) [] [AV.fptr [I 3] 0],AV.func (Fn.func 311) [] [],AV.func (Fn.func 312) [] [AV.fptr [I 3] 0],AV.func (Fn.func 313) [] [AV.fptr [I 3] 0],AV.nilFunc]
abbrev Az:=[AV.str [67,111,109,112,114,111,109,105,115,101,32,79,99,99,117,114,114,101,110,99,101,32,68,97,116,101],I 9,AV.bool false,AV.bool false,AV.nilFunc,AV.nilFunc,AV.nilFunc,AV.func (Fn.func 310) [] [AV.fptr [I 6] 0],AV.func (Fn.func 311) [] [],AV.func (Fn.func 312) [] [AV.fptr [I 6] 0],AV.func (Fn.func 313) [] [AV.fptr [I 6] 0],AV.nilFunc]
abbrev AA:=[AV.str [68,101,97,99,116,105,118,97,116,105,111,110,32,68,97,116,101],I 9,AV.bool false,AV.bool true,AV.func (Fn.func 289) [] [],AV.func (Fn.func 289) [] [],AV.nilFunc,AV.func (Fn.func 310) [] [AV.fptr [I 4] 0],AV.func (Fn.func 311) [] [],AV.func (Fn.func 312) [] [AV.fptr [I 4] 0],AV.func (Fn.func 313) [] [AV.fptr [I 4] 0],AV.nilFunc]
abbrev AB:=[AV.str [65,99,116,105,118,97,116,105,111,110,32,68,97,116,101],I 9,AV.bool false,AV.bool true,AV.func (Fn.func 278) [] [],AV.func (Fn.func 278) [] [],AV.nilFunc,AV.func (Fn.func 310) [] [AV.fptr [I 1] 0],AV.func (Fn.func 311) [] [],AV.func (Fn.func 312) [] [AV.fptr [I 1] 0],AV.func (Fn.func 313) [] [AV.fptr [I 1] 0],AV.nilFunc]
abbrev AC:=[AV.str [76,97,115,116,32,67,104,97,110,103,101,32,68,97,116,101],I 9,AV.bool false,AV.bool false,AV.nilFunc,AV.nilFunc,AV.nilFunc,AV.func (Fn.func 310) [] [AV.fptr [I 9] 0],AV.func (Fn.func 311) [] [],AV.func (Fn.func 312) [] [AV.fptr [I 9] 0],AV.func (Fn.func 313) [] [AV.fptr [I 9] 0],AV.nilFunc]
abbrev AE:=[AV.str [67,111,109,112,114,111,109,105,115,101,32,68,97,116,101],I 9,AV.bool false,AV.bool false,AV.nilFunc,AV.nilFunc,AV.nilFunc,AV.func (Fn.func 310) [] [AV.fptr [I 7] 0],AV.func (Fn.func 311) [] [],AV.func (Fn.func 312) [] [AV.fptr [I 7] 0],AV.func (Fn.func 313) [] [AV.fptr [I 7] 0],AV.nilFunc]
abbrev AF:=[AV.str [85,115,97,103,101,32,76,105,109,105,116,115],I 1,AV.bool false,AV.bool true,AV.func (Fn.func 275) [] [],AV.func (Fn.func 327) [] [],AV.func (Fn.func 327) [] [],AV.func (Fn.func 322) [] [],AV.func (Fn.func 323) [] [],AV.func (Fn.func 325) [] [],AV.func (Fn.func 326) [] [],AV.nilFunc]
abbrev AG:=[AV.str [68,101,115,116,114,111,121,32,68,97,116,101],I 9,AV.bool false,AV.bool false,AV.nilFunc,AV.nilFunc,AV.nilFunc,AV.func (Fn.func 310) [] [AV.fptr [I 5] 0],AV.func (Fn.func 311) [] [],AV.func (Fn.func 312) [] [AV.fptr [I 5] 0],AV.func (Fn.func 313) [] [AV.fptr [I 5] 0],AV.nilFunc]
abbrev AH:=[AV.str [73,110,105,116,105,97,108,32,68,97,116,101],I 9,AV.bool false,AV.bool false,AV.nilFunc,AV.nilFunc,AV.nilFunc,AV.func (Fn.func 310) [] [AV.fptr [I 0] 0],AV.func (Fn.func 311) [] [],AV.func (Fn.func 312) [] [AV.fptr [I 0] 0],AV.func (Fn.func 313) [] [AV.fptr [I 0] 0],AV.nilFunc]
abbrev AJ:=[AV.str [65,114,99,104,105,118,101,32,68,97,116,101],I 9,AV.bool false,AV.bool false,AV.nilFunc,AV.nilFunc,AV.nilFunc,AV.func (Fn.func 310) [] [AV.fptr [I 8] 0],AV.func (Fn.func 311) [] [],AV.func (Fn.func 312) [] [AV.fptr [I 8] 0],AV.func (Fn.func 313) [] [AV.fptr [I 8] 0],AV.nilFunc]
abbrev AK:=[AV.str [76,105,110,107],I 1,AV.bool true,AV.bool true,AV.func (Fn.func 275) [] [],AV.func (Fn.func 275) [] [],AV.func (Fn.func 275) [] [],AV.func (Fn.func 316) [] [],AV.func (Fn.func 317) [] [],AV.func (Fn.func 318) [] [],AV.func (Fn.func 320) [] [],AV.func (Fn.func 315) [] []]
abbrev AM:=[AV.str [78,97,109,101],I 7,AV.bool true,AV.bool true,AV.func (Fn.func 275) [] [],AV.func (Fn.func 275) [] [],AV.func (Fn.func 275) [] [],AV.func (Fn.func 304) [] [],AV.func (Fn.func 305) [] [],AV.func (Fn.func 306) [] [],AV.func (Fn.func 308) [] [],AV.func (Fn.func 303) [] []]
abbrev AN:=[AV.str [85,110,105,113,117,101,32,73,100,101,110,116,105,102,105,101,114],I 7,AV.bool false,AV.bool false,AV.nilFunc,AV.nilFunc,AV.nilFunc,AV.func (Fn.func 280) [] [],AV.nilFunc,AV.nilFunc,AV.nilFunc,AV.nilFunc]
abbrev AO:=[AV.str [82,101,118,111,99,97,116,105,111,110,32,82,101,97,115,111,110],I 1,AV.bool false,AV.bool false,AV.nilFunc,AV.nilFunc,AV.nilFunc,AV.func (Fn.func 290) [] [],AV.nilFunc,AV.nilFunc,AV.nilFunc,AV.nilFunc]
abbrev AP:=[AV.str [79,98,106,101,99,116,32,84,121,112,101],I 5,AV.bool false,AV.bool false,AV.nilFunc,AV.nilFunc,AV.nilFunc,AV.func (Fn.func 283) [] [],AV.nilFunc,AV.nilFunc,AV.nilFunc,AV.nilFunc]
abbrev AQ:=[AV.str [83,116,97,116,101],I 5,AV.bool false,AV.bool false,AV.nilFunc,AV.nilFunc,AV.nilFunc,AV.func (Fn.func 287) [] [],AV.nilFunc,AV.nilFunc,AV.nilFunc,AV.nilFunc]
abbrev AR:=(AV.fsl true [AV.agg AN,AV.agg AM,AV.agg AP,AV.agg Av,AV.agg Aw,AV.agg Au,AV.agg AQ,AV.agg AH,AV.agg AB,AV.agg Ax,AV.agg Ay,AV.agg AA,AV.agg AG,AV.agg Az,AV.agg AE,AV.agg AJ,AV.agg AC,AV.agg AO,AV.agg AK,AV.agg AF])
theorem Hg (Q:AV→Prop):aq Tryz.prog opts0 40 aX 247 [] [] 0 (fun v _ _=>Q v)=
  (Q AR):=by kernel_rfl
theorem Hh:SC 247 [] (.fsl true (kinds.map kC)):=by
 refine bt (A:=aX) base0 ci (ar (LsOk.no rfl)) rfl ?_
 rw[Hg]
 exact qc rfl (by kernel_rfl)
abbrev AU (s:List UInt8):=[AV.str s,I 7,AV.bool true,AV.bool true,AV.func (Fn.func 275) [] [],AV.func (Fn.func 275) [] [],AV.func (Fn.func 275) [] [],AV.func (Fn.func 265) [] [AV.ptr 0 0],AV.func (Fn.func 268) [] [],AV.func (Fn.func 270) [] [AV.ptr 0 0],AV.func (Fn.func 272) [] [AV.ptr 0 0],AV.func (Fn.func 264) [] []]
theorem Hi (s:List UInt8) (Q:AV→ab→Nat→Prop):aq Tryz.prog opts0 40 aX 246 [.str s] [] 0 Q=
  (Q (AV.agg (AU s)) [(1,some (Blk.cells (AU s))),(0,some (Blk.cells [AV.str s]))] 24):=by kernel_rfl
theorem Hj (s:List UInt8):SC 246 [.str s] (kC (.cus s)):=by
 refine im (A:=aX) base0 ci (ar (LsOk.no rfl)) rfl ?_
 rw[Hi]
 exact ⟨⟨6,rfl⟩,rfl⟩
def AW (c:Bool) (s:List UInt8):aV:=ak [] [] (bq [(235,.bool c),(246,kC (.cus s)),(247,.fsl true (kinds.map kC))]) [] []
abbrev AX (s:List UInt8):=[AV.str s,I 7,AV.bool true,AV.bool true,AV.func (Fn.func 275) [] [],AV.func (Fn.func 275) [] [],AV.func (Fn.func 275) [] [],AV.func (Fn.func 265) [] [AV.fptr [AV.str s] 0],AV.func (Fn.func 268) [] [],AV.func (Fn.func 270) [] [AV.fptr [AV.str s] 0],AV.func (Fn.func 272) [] [AV.fptr [AV.str s] 0],AV.func (Fn.func 264) [] []]
theorem Hk (c:Bool) (s:List UInt8) (Q:AV→Prop):aq Tryz.prog opts0 40 (AW c s) 219 [.str s] [] 0 (fun v _ _=>Q v)=
  (SC 235 [AV.str s] (AV.bool c)∧aa c (SC 246 [AV.str s] (AV.agg (AX s))∧Q (AV.tuple [AV.agg (AX s),AV.bool true])) (SC 247 [] AR∧aa (ag [85,110,105,113,117,101,32,73,100,101,110,116,105,102,105,101,114] s) (Q (AV.tuple [AV.agg AN,AV.bool true])) (aa (ag [78,97,109,101] s) (Q (AV.tuple [AV.agg AM,AV.bool true])) (aa (ag [79,98,106,101,99,116,32,84,121,112,101] s) (Q (AV.tuple [AV.agg AP,AV.bool true])) (aa (ag [67,114,121,112,116,111,103,114,97,112,104,105,99,32,65,108,103,111,114,105,116,104,109] s) (Q (AV.tuple [AV.agg Av,AV.bool true])) (aa (ag [67,114,121,112,116,111,103,114,97,112,104,105,99,32,76,101,110,103,116,104] s) (Q (AV.tuple [AV.agg Aw,AV.bool true])) (aa (ag [67,114,121,112,116,111,103,114,97,112,104,105,99,32,85,115,97,103,101,32,77,97,115,107] s) (Q (AV.tuple [AV.agg Au,AV.bool true])) (aa (ag [83,116,97,116,101] s) (Q (AV.tuple [AV.agg AQ,AV.bool true])) (aa (ag [73,110,105,116,105,97,108,32,68,97,116,101] s) (Q (AV.tuple [AV.agg AH,AV.bool true])) (aa (ag [65,99,116,105,118,97,116,105,111,110,32,68,97,116,101] s) (Q (AV.tuple [AV.agg AB,AV.bool true])) (aa (ag [80,114,111,99,101,115,115,32,83,116,97,114,116,32,68,97,116,101] s) (Q (AV.tuple [AV.agg Ax,AV.bool true])) (aa (ag [80,114,111,116,101,99,116,32,83,116,111,112,32,68,97,116,101] s) (Q (AV.tuple [AV.agg Ay,AV.bool true])) (aa (ag [68,101,97,99,116,105,118,97,116,105,111,110,32,68,97,116,101] s) (Q (AV.tuple [AV.agg AA,AV.bool true])) (aa (ag [68,101,115,116,114,111,121,32,68,97,116,101] s) (Q (AV.tuple [AV.agg AG,AV.bool true])) (aa (ag [67,111,109,112,114,111,109,105,115,101,32,79,99,99,117,114,114,101,110,99,101,32,68,97,116,101] s) (Q (AV.tuple [AV.agg Az,AV.bool true])) (aa (ag [67,111,109,112,114,111,109,105,115,101,32,68,97,116,101] s) (Q (AV.tuple [AV.agg AE,AV.bool true])) (aa (ag [65,114,99,104,105,118,101,32,68,97,116,101] s) (Q (AV.tuple [AV.agg AJ,AV.bool true])) (aa (ag [76,97,115,116,32,67,104,97,110,103,101,32,68,97,116,101] s) (Q (AV.tuple [AV.agg AC,AV.bool true])) (aa (ag [82,101,118,111,99,97,116,105,111,110,32,82,101,97,115,111,110] s) (Q (AV.tuple [AV.agg AO,AV.bool true])) (aa (ag [76,105,110,107] s) (Q (AV.tuple [AV.agg AK,AV.bool true])) (aa (ag [85,115,97,103,101,32,76,105,109,105,116,115] s) (Q (AV.tuple [AV.agg AF,AV.bool true])) (Q (AV.tuple [AV.agg [AV.str [],I 0,AV.bool false,AV.bool false,AV.nilFunc,AV.nilFunc,AV.nilFunc,AV.nilFunc,AV.nilFunc,AV.nilFunc,AV.nilFunc,AV.nilFunc],AV.bool false]))))))))))))))))))))))):=by kernel_rfl
def jw (s:List UInt8):List Kd→Option Kd
 |[]=>none
 |k::r=>match ag (iy k) s with
  |true=>some k
  |false=>jw s r
def gx (c:Bool) (s:List UInt8):Option Kd:=match c with
 |true=>some (.cus s)
 |false=>jw s kinds
def mm:Option Kd→AV
 |some k=> .tuple [kC k,.bool true]
 |none=> .tuple [Ar,.bool false]
theorem u5 (k:Kd):ad (kC k)=true:=by
 cases k with
 |dat k=>
  have h1:ad (ml k)=true:=by unfold ml;split<;>rfl
  have h2:ad (oc k)=true:=by unfold oc;split<;>rfl
  simp[kC,dN,ad,ae,iA,iB,iC,h1,h2,jv,iD,iE,iF,gw,bB,cV,nI]
 |_=>rfl
set_option maxRecDepth 20000 in
theorem Hl {c:Bool} {s:List UInt8} (hc:SC 235 [.str s] (.bool c)):SC 219 [.str s] (mm (gx c s)):=by
 refine bt (A:=AW c s) base0 ap (ar (LsOk.no rfl)) rfl ?_
 rw[Hk]
 refine And.intro hc (ao (fun e=>And.intro (Hj s) ?_) (fun e=>And.intro Hh ?_))
 ·subst e;exact qc rfl (by simp[gx,mm,ad,ae,u5])
 ·subst e
  simp only[gx]
  repeat' refine ao (fun _=> ?_) (fun _=> ?_)
  all_goals
   simp only[kinds,jw,iy,Ao, *]
   exact qc rfl (by simp[mm,ad,ae,u5,Ar])
end
noncomputable def bx:aT:={how:=fun f=>match dD [61,62,63,331,332,298] f with|true=> .keep|false=> .pure,summ:=fun _ _=>none,glob:=gl,lf:=100000}
set_option maxRecDepth 20000 in
theorem bd {f:FuncId} {args:List AV} {v:AV} (hcl:ae args=true) (h:bi Tryz.prog bx 40 f args=some v) (hv:ad v=true):SC f args v:=
 z0 (O:=bx) Tryz.mixed (fun _ _ _ h=>by cases h) uQ yE hcl h hv
def texts:List (List UInt8):=[[111,110,101],[116,119,111],[116,104,114,101,101],[102,111,117,114],[102,105,118,101],[],[53],[49],[50],[51],[52],[54],[55],[57,57],[120],[49,50,51,52,53,54,55,56],[109],[108,111,115,116]]
def u6 (s:List UInt8):Bool:= !Nat.beq s.length 0
def dv:List UInt8→Bool
 |120::45::_=>true
 |_=>false
theorem Hm:bi Tryz.prog bx 40 186 [.str [111,110,101]]=some (.bool true):=by kernel_rfl
theorem Hn:bi Tryz.prog bx 40 186 [.str [116,119,111]]=some (.bool true):=by kernel_rfl
theorem Ho:bi Tryz.prog bx 40 186 [.str [116,104,114,101,101]]=some (.bool true):=by kernel_rfl
theorem Hp:bi Tryz.prog bx 40 186 [.str [102,111,117,114]]=some (.bool true):=by kernel_rfl
theorem Hq:bi Tryz.prog bx 40 186 [.str [102,105,118,101]]=some (.bool true):=by kernel_rfl
theorem Hr:bi Tryz.prog bx 40 186 [.str []]=some (.bool false):=by kernel_rfl
theorem Hs:bi Tryz.prog bx 40 186 [.str [53]]=some (.bool true):=by kernel_rfl
theorem Ht:bi Tryz.prog bx 40 186 [.str [49]]=some (.bool true):=by kernel_rfl
theorem Hu:bi Tryz.prog bx 40 186 [.str [50]]=some (.bool true):=by kernel_rfl
theorem Hv:bi Tryz.prog bx 40 186 [.str [51]]=some (.bool true):=by kernel_rfl
theorem Hw:bi Tryz.prog bx 40 186 [.str [52]]=some (.bool true):=by kernel_rfl
theorem Hx:bi Tryz.prog bx 40 186 [.str [54]]=some (.bool true):=by kernel_rfl
theorem Hy:bi Tryz.prog bx 40 186 [.str [55]]=some (.bool true):=by kernel_rfl
theorem Hz:bi Tryz.prog bx 40 186 [.str [57,57]]=some (.bool true):=by kernel_rfl
theorem HA:bi Tryz.prog bx 40 186 [.str [120]]=some (.bool true):=by kernel_rfl
theorem HB:bi Tryz.prog bx 40 186 [.str [49,50,51,52,53,54,55,56]]=some (.bool true):=by kernel_rfl
theorem HC:bi Tryz.prog bx 40 186 [.str [109]]=some (.bool true):=by kernel_rfl
theorem HD:bi Tryz.prog bx 40 186 [.str [108,111,115,116]]=some (.bool true):=by kernel_rfl
theorem HE:bi Tryz.prog bx 40 235 [.str [85,110,105,113,117,101,32,73,100,101,110,116,105,102,105,101,114]]=some (.bool false):=by kernel_rfl
theorem HF:bi Tryz.prog bx 40 235 [.str [78,97,109,101]]=some (.bool false):=by kernel_rfl
theorem HG:bi Tryz.prog bx 40 235 [.str [79,98,106,101,99,116,32,84,121,112,101]]=some (.bool false):=by kernel_rfl
theorem HH:bi Tryz.prog bx 40 235 [.str [67,114,121,112,116,111,103,114,97,112,104,105,99,32,65,108,103,111,114,105,116,104,109]]=some (.bool false):=by kernel_rfl
theorem HI:bi Tryz.prog bx 40 235 [.str [67,114,121,112,116,111,103,114,97,112,104,105,99,32,76,101,110,103,116,104]]=some (.bool false):=by kernel_rfl
theorem HJ:bi Tryz.prog bx 40 235 [.str [67,114,121,112,116,111,103,114,97,112,104,105,99,32,85,115,97,103,101,32,77,97,115,107]]=some (.bool false):=by kernel_rfl
theorem HK:bi Tryz.prog bx 40 235 [.str [83,116,97,116,101]]=some (.bool false):=by kernel_rfl
theorem HL:bi Tryz.prog bx 40 235 [.str [73,110,105,116,105,97,108,32,68,97,116,101]]=some (.bool false):=by kernel_rfl
theorem HM:bi Tryz.prog bx 40 235 [.str [65,99,116,105,118,97,116,105,111,110,32,68,97,116,101]]=some (.bool false):=by kernel_rfl
theorem HN:bi Tryz.prog bx 40 235 [.str [80,114,111,99,101,115,115,32,83,116,97,114,116,32,68,97,116,101]]=some (.bool false):=by kernel_rfl
theorem HO:bi Tryz.prog bx 40 235 [.str [80,114,111,116,101,99,116,32,83,116,111,112,32,68,97,116,101]]=some (.bool false):=by kernel_rfl
theorem HP:bi Tryz.prog bx 40 235 [.str [68,101,97,99,116,105,118,97,116,105,111,110,32,68,97,116,101]]=some (.bool false):=by kernel_rfl
theorem HQ:bi Tryz.prog bx 40 235 [.str [68,101,115,116,114,111,121,32,68,97,116,101]]=some (.bool false):=by kernel_rfl
theorem HR:bi Tryz.prog bx 40 235 [.str [67,111,109,112,114,111,109,105,115,101,32,79,99,99,117,114,114,101,110,99,101,32,68,97,116,101]]=some (.bool false):=by kernel_rfl
theorem HS:bi Tryz.prog bx 40 235 [.str [67,111,109,112,114,111,109,105,115,101,32,68,97,116,101]]=some (.bool false):=by kernel_rfl
theorem HU:bi Tryz.prog bx 40 235 [.str [65,114,99,104,105,118,101,32,68,97,116,101]]=some (.bool false):=by kernel_rfl
theorem HV:bi Tryz.prog bx 40 235 [.str [76,97,115,116,32,67,104,97,110,103,101,32,68,97,116,101]]=some (.bool false):=by kernel_rfl
theorem HW:bi Tryz.prog bx 40 235 [.str [82,101,118,111,99,97,116,105,111,110,32,82,101,97,115,111,110]]=some (.bool false):=by kernel_rfl
theorem HX:bi Tryz.prog bx 40 235 [.str [76,105,110,107]]=some (.bool false):=by kernel_rfl
theorem HY:bi Tryz.prog bx 40 235 [.str [85,115,97,103,101,32,76,105,109,105,116,115]]=some (.bool false):=by kernel_rfl
theorem HZ:bi Tryz.prog bx 40 235 [.str [120,45,97]]=some (.bool true):=by kernel_rfl
theorem H3:bi Tryz.prog bx 40 235 [.str [120,45,98]]=some (.bool true):=by kernel_rfl
theorem H4:bi Tryz.prog bx 40 235 [.str [120,45]]=some (.bool true):=by kernel_rfl
theorem H5:bi Tryz.prog bx 40 235 [.str [121]]=some (.bool false):=by kernel_rfl
theorem H6:∀s∈texts,SC 186 [.str s] (.bool (u6 s)):=by
 simp only[texts,List.forall_mem_cons]
 exact ⟨bd rfl Hm rfl,bd rfl Hn rfl,bd rfl Ho rfl,bd rfl Hp rfl,bd rfl Hq rfl,bd rfl Hr rfl,bd rfl Hs rfl,bd rfl Ht rfl,bd rfl Hu rfl,bd rfl Hv rfl,bd rfl Hw rfl,bd rfl Hx rfl,bd rfl Hy rfl,bd rfl Hz rfl,bd rfl HA rfl,bd rfl HB rfl,bd rfl HC rfl,bd rfl HD rfl,fun _ h=>by cases h⟩
theorem AY:∀s∈fO,SC 235 [.str s] (.bool (dv s)):=by
 simp only[fO,List.forall_mem_cons]
 exact ⟨bd rfl HE rfl,bd rfl HF rfl,bd rfl HG rfl,bd rfl HH rfl,bd rfl HI rfl,bd rfl HJ rfl,bd rfl HK rfl,bd rfl HL rfl,bd rfl HM rfl,bd rfl HN rfl,bd rfl HO rfl,bd rfl HP rfl,bd rfl HQ rfl,bd rfl HR rfl,bd rfl HS rfl,bd rfl HU rfl,bd rfl HV rfl,bd rfl HW rfl,bd rfl HX rfl,bd rfl HY rfl,bd rfl HZ rfl,bd rfl H3 rfl,bd rfl H4 rfl,bd rfl H5 rfl,fun _ h=>by cases h⟩
end Go.Proofs.YtlljinebapfdaaaGreatDoor
namespace Go.Proofs.YtlljinebapfdaaaGreatDoor
set_option maxRecDepth 20000
open Go Go.RowKit
open Go.Proofs.Abs
def eV {α:Type} (l:List α) (i:Nat) (x:α):List α:=l.take i++x::l.drop (i+1)
theorem H7 (l:List (List UInt8)) (i:Nat) (x:List UInt8) (h1:i≤l.length) (h2:l.length≤6) (h3:i<6):SC 307 [.fsl false (l.map .str),I (.ofNat i),.str x] (.fsl false ((eV l i x).map .str)):=by
 rcases l with _|⟨_,_|⟨_,_|⟨_,_|⟨_,_|⟨_,_|⟨_,_|⟨_,_⟩⟩⟩⟩⟩⟩⟩
 all_goals rcases i with _|_|_|_|_|_|i
 all_goals first
  |(exfalso;simp only[List.length_cons,List.length_nil] at h1 h2;omega)
  |exact SemCall.emptyAt (bd rfl (by kernel_rfl) rfl) (bd rfl (by kernel_rfl) rfl)
  |exact bd rfl (by kernel_rfl) rfl
theorem H8 (l:List (Lk)) (i:Nat) (x:Lk) (h1:i≤l.length) (h2:l.length≤8) (h3:i<8):SC 319 [.fsl false (l.map aO),I (.ofNat i),aO x] (.fsl false ((eV l i x).map aO)):=by
 rcases l with _|⟨_,_|⟨_,_|⟨_,_|⟨_,_|⟨_,_|⟨_,_|⟨_,_|⟨_,_|⟨_,_⟩⟩⟩⟩⟩⟩⟩⟩⟩
 all_goals rcases i with _|_|_|_|_|_|_|_|i
 all_goals first
  |(exfalso;simp only[List.length_cons,List.length_nil] at h1 h2;omega)
  |exact SemCall.emptyAt (bd rfl (by kernel_rfl) rfl) (bd rfl (by kernel_rfl) rfl)
  |exact bd rfl (by kernel_rfl) rfl
theorem H9 (l:List (Cu)) (i:Nat) (x:Cu) (h1:i≤l.length) (h2:l.length≤6) (h3:i<6):SC 271 [.fsl false (l.map aK),I (.ofNat i),aK x] (.fsl false ((eV l i x).map aK)):=by
 rcases l with _|⟨_,_|⟨_,_|⟨_,_|⟨_,_|⟨_,_|⟨_,_|⟨_,_⟩⟩⟩⟩⟩⟩⟩
 all_goals rcases i with _|_|_|_|_|_|i
 all_goals first
  |(exfalso;simp only[List.length_cons,List.length_nil] at h1 h2;omega)
  |exact SemCall.emptyAt (bd rfl (by kernel_rfl) rfl) (bd rfl (by kernel_rfl) rfl)
  |exact bd rfl (by kernel_rfl) rfl
end Go.Proofs.YtlljinebapfdaaaGreatDoor
namespace Go.Proofs.YtlljinebapfdaaaGreatDoor
open Go Go.RowKit
open Go.Proofs.Abs
noncomputable section
theorem od {p:Nat→Prop} (n:Nat) (hn:p n) (hs:∀i,i<n→p (i+1)→p i):∀i,i≤n→p i:=by
 intro i hi
 obtain ⟨m,rfl⟩:∃m,n=i+m:=⟨n-i,by omega⟩
 clear hi
 induction m generalizing i with
 |zero=>exact hn
 |succ m ih=>exact hs i (by omega) (ih (i+1) (by rw[show i+1+m=i+(m+1) by omega];exact hn) (by intro j hj;exact hs j (by omega)))
abbrev u8 (b:UInt8):AV:= .int .u8 (.ofNat b.toNat)
theorem qs {f:Bool} {s:List UInt8} {i:Nat} {b:UInt8} (hx:s[i]? =some b):aQ Tryz.prog 23 (.fsl f (aj s)) (.int .i64 (.ofNat i))=some (.fptr [u8 b] 0):=
 l5 (v:=u8 b) (e:=5) (sz:=1) (by kernel_rfl) (by kernel_rfl) (by rw[io,List.getElem?_map,hx];rfl) rfl
def mn (D E:List AV) (i:Nat):View:=⟨[(0,.fsl false D),(1,.fsl false E),(4,.bool false),(12,I (.ofNat (ac D))),(13,I (.ofNat i))],[],[],0,26⟩
def eqF:View:=⟨[(4,.bool false)],[],[],0,26⟩
def u7 (a b:UInt8):aV:=ak [(6,2,.res (.fptr [u8 a] 0)),(6,6,.res (.fptr [u8 b] 0))] [] aA [] []
@[simp] abbrev jx:=(AV.bool false=AV.bool false∧true=true)
@[simp] abbrev qt (D:List AV):=(I (Int.ofNat (ac D))=I (Int.ofNat (ac D))∧ad (I (Int.ofNat (ac D)))=true)
@[simp] abbrev qu (D:List AV):=(AV.fsl false D=AV.fsl false D∧ad (AV.fsl false D)=true)
@[simp] abbrev qv (E:List AV):=(AV.fsl false E=AV.fsl false E∧ad (AV.fsl false E)=true)
theorem AZ (D E:List AV) (i j:Nat) (a b:UInt8) (N:Prop) (Q:AExit→St→Prop):aN Tryz.prog opts0 40 (u7 a b) (aJ Tryz.prog 78 5) (mn D E i).st (bP 0 [] (mn D E j) N [] eqF Q)=
  (aa (au (Int.ofNat i) (Int.ofNat (ac D))) (aQ Tryz.prog 23 (AV.fsl false D) (I (Int.ofNat i))=some (AV.fptr [AV.int IntKind.u8 (Int.ofNat a.toNat)] 0)∧aQ Tryz.prog 23 (AV.fsl false E) (I (Int.ofNat i))=some (AV.fptr [AV.int IntKind.u8 (Int.ofNat b.toNat)] 0)∧aa (!ah (Int.ofNat a.toNat) (Int.ofNat b.toNat)) (((jx∧True)∧True∧True)∧Q AExit.ret eqF.st) ((((qu D)∧(qv E)∧jx∧(qt D)∧(I (az IntKind.i64 (Int.ofNat i+1))=I (Int.ofNat j)∧ad (I (Int.ofNat j))=true)∧True)∧True∧True)∧N)) (((jx∧True)∧True∧True)∧Q (AExit.exit 0) eqF.st)):=by kernel_rfl
def A0 (D E:List AV) (p:Prop) (r:Bool):bL:=fun s Q=>p∧dd 0 [] (mn D E 0) s∧aa r (Q (.exit 0) eqF.st) (Q .ret eqF.st)
theorem Ia (D E:List AV) (p:Prop) (r:Bool) (Q:AV→Prop):aq Tryz.prog opts0 40 (ak [] [(5,A0 D E p r)] aA [] []) 78 [.fsl false D,.fsl false E] [] 0 (fun v _ _=>Q v)=
  (aa (!ah (Int.ofNat (ac D)) (Int.ofNat (ac E))) (Q (AV.bool false)) (p∧(((qu D)∧(qv E)∧jx∧(qt D)∧(I 0=I 0∧true=true)∧True)∧True∧True)∧aa r (Q (AV.bool true)) (Q (AV.bool false)))):=by kernel_rfl
theorem Ib (a b:UInt8) (s t:List UInt8):ag (a::s) (b::t)=(Nat.beq a.toNat b.toNat&&ag s t):=by
 rw[Bool.eq_iff_iff,Bool.and_eq_true,beqBytes_iff,beqBytes_iff,beq_iff,List.cons.injEq]
 exact and_congr_left fun _=>⟨fun h=>by rw[h],fun h=>UInt8.toNat_inj.1 h⟩
theorem A4 (a b:Nat):ah (.ofNat a) (.ofNat b)=Nat.beq a b:=rfl
theorem Ic {s t:List UInt8} {Q:AExit→St→Prop} (hl:s.length=t.length) (hb:s.length≤aR):∀i,i≤s.length→(aa (ag (s.drop i) (t.drop i)) (Q (.exit 0) eqF.st) (Q .ret eqF.st)→ALp Tryz.prog opts0.glob 0 (aJ Tryz.prog 78 5) (mn (aj s) (aj t) i).st Q):=by
 refine od _ (fun hq=> ?_) (fun i hi ih hq=> ?_)
 ·refine ALp.round (A:=u7 0 0) (V2:=mn (aj s) (aj t) 0) (F:=eqF) (lk:=[]) (lk':=[]) base0 ap (LsOk.no rfl) .refl ?_
  rw[AZ]
  refine ao (fun h=> ?_) (fun _=> ?_)
  ·have h:=ltInt_iff.1 h
   simp only[dr,Int.ofNat_eq_natCast] at h
   omega
  ·rw[List.drop_of_length_le (by omega),List.drop_of_length_le (by omega)] at hq
   exact ⟨by simp,hq⟩
 ·have h2:i<t.length:=by omega
  have g1:=List.getElem?_eq_getElem hi
  have g2:=List.getElem?_eq_getElem h2
  rw[List.drop_eq_getElem_cons hi,List.drop_eq_getElem_cons h2,Ib] at hq
  revert g1 g2 hq
  generalize s[i]=a
  generalize t[i]=b
  intro hq g1 g2
  refine ALp.round (A:=u7 a b) (V2:=mn (aj s) (aj t) (i+1)) (F:=eqF) (lk:=[]) (lk':=[]) base0 ap (LsOk.no rfl) .refl ?_
  rw[AZ]
  have hb:s.length≤1099511627776:=hb
  refine ao (fun _=>⟨qs g1,qs g2,ao (fun h=> ?_) (fun h=> ?_)⟩) (fun h=> ?_)
  ·rw[A4,Bool.not_eq_true'] at h
   rw[h] at hq
   exact ⟨by simp,hq⟩
  ·rw[A4,Bool.not_eq_false'] at h
   rw[h] at hq
   rw[eS (by simp;omega) (by simp;omega)]
   exact ⟨by simp[ad],ih hq⟩
  ·have h:=ltInt_false.1 h
   simp only[dr,Int.ofNat_eq_natCast] at h
   omega
theorem Id:bX (dG Tryz.prog 78) 5=[aJ Tryz.prog 78 5]:=by kernel_rfl
theorem Ie {s t:List UInt8} (h:ag s t=true):s.length=t.length:=by rw[beqBytes_iff.1 h]
theorem Ig {s t:List UInt8} (hb:s.length≤aR):SC 78 [.fsl false (aj s),.fsl false (aj t)] (.bool (ag s t)):=by
 refine cJ (A:=ak [] [(5,A0 (aj s) (aj t) (s.length=t.length) (ag s t))] aA [] []) base0 ap
  (ar (LsOk.at1 rfl Id fun s Q hs=> .seen base0.glob hs.2.1 (Ic hs.1 hb 0 (by omega) (by simpa using hs.2.2)))) (by simp[ae,ad]) rfl ?_
 rw[Ia]
 simp only[dr]
 refine ao (fun e=> ?_) (fun e=>⟨?_,by simp[ad],ao (fun e6=>by rw[e6]) (fun e6=>by rw[e6])⟩)
 ·refine congrArg AV.bool ?_
  cases h:ag s t with
  |false=>rfl
  |true=>
   rw[Ie h,Bool.not_eq_true',beqInt_false] at e
   exact absurd rfl e
 ·rw[Bool.not_eq_false',beqInt_iff] at e
  exact Int.ofNat.inj e
def mo (D E:List AV) (i:Nat):View:=⟨[(1,.fsl false E),(2,bB 293),(6,.bool false),(15,.fsl false D),(16,I (.ofNat (ac D))),(17,I (.ofNat i))],[],[],0,32⟩
def efF:View:=⟨[(6,.bool false)],[],[],0,32⟩
def u9 (c c':List AV) (r:Bool):aV:=ak [(5,1,.res (.fptr c 0)),(6,2,.res (.fptr c' 0))] [] (bq [(293,.bool r)]) [] []
@[simp] abbrev A5:=(AV.func (Fn.func 293) [] []=AV.func (Fn.func 293) [] []∧true=true)
theorem A6 (a b c a' b' c':Int) (D E F K F' K':List AV) (i j:Nat) (r:Bool) (N:Prop) (Q:AExit→St→Prop):aN Tryz.prog opts0 40 (u9 (am a b c F K) (am a' b' c' F' K') r) (aJ Tryz.prog 328 5) (mo D E i).st (bP 0 [] (mo D E j) N [] efF Q)=
  (aa (au (Int.ofNat i) (Int.ofNat (ac D))) (aQ Tryz.prog 31 (AV.fsl false D) (I (Int.ofNat i))=some (AV.fptr [I a,I b,I c,AV.fsl false F,AV.fsl false K] 0)∧aQ Tryz.prog 31 (AV.fsl false E) (I (Int.ofNat i))=some (AV.fptr [I a',I b',I c',AV.fsl false F',AV.fsl false K'] 0)∧SC 293 [AV.agg [I a,I b,I c,AV.fsl false F,AV.fsl false K],AV.agg [I a',I b',I c',AV.fsl false F',AV.fsl false K']] (AV.bool r)∧aa (!r) (((jx∧True)∧True∧True)∧Q AExit.ret efF.st) ((((qv E)∧A5∧jx∧(qu D)∧(qt D)∧(I (az IntKind.i64 (Int.ofNat i+1))=I (Int.ofNat j)∧ad (I (Int.ofNat j))=true)∧True)∧True∧True)∧N)) (((jx∧True)∧True∧True)∧Q (AExit.exit 0) efF.st)):=by kernel_rfl
def A7 (D E:List AV) (p:Prop) (r:Bool):bL:=fun s Q=>p∧dd 0 [] (mo D E 0) s∧aa r (Q (.exit 0) efF.st) (Q .ret efF.st)
theorem Ih (D E:List AV) (p:Prop) (r:Bool) (Q:AV→Prop):aq Tryz.prog opts0 40 (ak [] [(5,A7 D E p r)] aA [] []) 328 [.fsl false D,.fsl false E,bB 293] [] 0 (fun v _ _=>Q v)=
  (aa (!ah (Int.ofNat (ac D)) (Int.ofNat (ac E))) (Q (AV.bool false)) (p∧(((qv E)∧A5∧jx∧(qu D)∧(qt D)∧(I 0=I 0∧true=true)∧True)∧True∧True)∧aa r (Q (AV.bool true)) (Q (AV.bool false)))):=by kernel_rfl
theorem Ii (a b c a' b' c':Int) (F K F' K':List AV) (r r':Bool) (Q:AV→Prop):aq Tryz.prog opts0 40 (ak [] [] (bq [(78,.bool r),(328,.bool r')]) [] []) 293 [.agg (am a b c F K),.agg (am a' b' c' F' K')] [] 0 (fun v _ _=>Q v)=
  (aa (ah a a') (aa (ah b b') (aa (ah c c') (SC 78 [AV.fsl false F,AV.fsl false F'] (AV.bool r)∧aa r (SC 328 [AV.fsl false K,AV.fsl false K',AV.func (Fn.func 293) [] []] (AV.bool r')∧Q (AV.bool r')) (Q (AV.bool false))) (Q (AV.bool false))) (Q (AV.bool false))) (Q (AV.bool false))):=by kernel_rfl
theorem Ij {ks ks':List It} {Q:AExit→St→Prop} (hl:ks.length=ks'.length) (hb:ks.length≤aR)
  (ihs:∀ (i:Nat) (x z:It),ks[i]? =some x→ks'[i]? =some z→SC 293 [aD x,aD z] (.bool (fo x z))):
  ∀i,i≤ks.length→(aa (eU (ks.drop i) (ks'.drop i)) (Q (.exit 0) efF.st) (Q .ret efF.st)→ALp Tryz.prog opts0.glob 0 (aJ Tryz.prog 328 5) (mo (af ks) (af ks') i).st Q):=by
 refine od _ (fun hq=> ?_) (fun i hi ih hq=> ?_)
 ·refine ALp.round (A:=u9 (am 0 0 0 [] []) (am 0 0 0 [] []) true) (V2:=mo (af ks) (af ks') 0) (F:=efF) (lk:=[]) (lk':=[]) base0 ap (LsOk.no rfl) .refl ?_
  rw[A6]
  refine ao (fun h=> ?_) (fun _=> ?_)
  ·have h:=ltInt_iff.1 h
   simp only[aC,fx,Int.ofNat_eq_natCast] at h
   omega
  ·rw[List.drop_of_length_le (by omega),List.drop_of_length_le (by omega)] at hq
   exact ⟨by simp,hq⟩
 ·have h2:i<ks'.length:=by omega
  have g1:=List.getElem?_eq_getElem hi
  have g2:=List.getElem?_eq_getElem h2
  rw[List.drop_eq_getElem_cons hi,List.drop_eq_getElem_cons h2,eU] at hq
  have hs:=ihs i _ _ g1 g2
  revert g1 g2 hq hs
  generalize ks[i]=x
  generalize ks'[i]=z
  intro hq g1 g2 hs
  obtain ⟨a,b,c,e,l⟩:=x
  obtain ⟨a',b',c',e',l'⟩:=z
  refine ALp.round (A:=u9 (am a b c (aj e) (af l)) (am a' b' c' (aj e') (af l')) (fo (.mk a b c e l) (.mk a' b' c' e' l'))) (V2:=mo (af ks) (af ks') (i+1)) (F:=efF) (lk:=[]) (lk':=[]) base0 ap (LsOk.no rfl) .refl ?_
  rw[A6]
  have hb:ks.length≤1099511627776:=hb
  refine ao (fun _=>⟨cE g1,cE g2,hs,ao (fun h=> ?_) (fun h=> ?_)⟩) (fun h=> ?_)
  ·rw[Bool.not_eq_true'] at h
   rw[h] at hq
   exact ⟨by simp,hq⟩
  ·rw[Bool.not_eq_false'] at h
   rw[h] at hq
   rw[eS (by simp;omega) (by simp;omega)]
   exact ⟨by simp[ad,cY],ih hq⟩
  ·have h:=ltInt_false.1 h
   simp only[aC,fx,Int.ofNat_eq_natCast] at h
   omega
theorem Ik:bX (dG Tryz.prog 328) 5=[aJ Tryz.prog 328 5]:=by kernel_rfl
theorem Il {ks ks':List It} (hb:ks.length≤aR)
  (ihs:∀ (i:Nat) (x z:It),ks[i]? =some x→ks'[i]? =some z→SC 293 [aD x,aD z] (.bool (fo x z))):
  SC 328 [.fsl false (af ks),.fsl false (af ks'),bB 293] (.bool (eU ks ks')):=by
 refine cJ (A:=ak [] [(5,A7 (af ks) (af ks') (ks.length=ks'.length) (eU ks ks'))] aA [] []) base0 ap
  (ar (LsOk.at1 rfl Ik fun s Q hs=> .seen base0.glob hs.2.1 (Ij hs.1 hb ihs 0 (by omega) (by simpa using hs.2.2)))) (by simp[ae,ad,cY,bB]) rfl ?_
 rw[Ih]
 simp only[aC,fx]
 refine ao (fun e=> ?_) (fun e=>⟨?_,by simp[ad,cY],ao (fun e6=>by rw[e6]) (fun e6=>by rw[e6])⟩)
 ·refine congrArg AV.bool ?_
  cases h:eU ks ks' with
  |false=>rfl
  |true=>
   rw[Gz h,Bool.not_eq_true',beqInt_false] at e
   exact absurd rfl e
 ·rw[Bool.not_eq_false',beqInt_iff] at e
  exact Int.ofNat.inj e
theorem Im {t y n t' y' n':Int} {d d':List UInt8} {ks ks':List It} (h:bO aR (.mk t y n d ks))
  (ih:∀ (i:Nat) (x z:It),ks[i]? =some x→ks'[i]? =some z→SC 293 [aD x,aD z] (.bool (fo x z))):
  SC 293 [aD (.mk t y n d ks),aD (.mk t' y' n' d' ks')] (.bool (fo (.mk t y n d ks) (.mk t' y' n' d' ks'))):=by
 simp only[bO] at h
 obtain ⟨h3,h4,h5⟩:=h
 refine cJ (A:=ak [] [] (bq [(78,.bool (ag d d')),(328,.bool (eU ks ks'))]) [] []) base0 ap (ar (LsOk.no rfl)) (by simp[ae,cD]) rfl ?_
 rw[bh,bh,Ii]
 simp only[fo]
 refine ao (fun e=>ao (fun e2=>ao (fun e3=>⟨Ig h3,ao (fun e4=>⟨Il h4 ih, ?_⟩) (fun e4=> ?_)⟩) (fun e3=> ?_)) (fun e2=> ?_)) (fun e=> ?_)
 all_goals simp only[*,Bool.true_and,Bool.false_and]
mutual
theorem A8:∀x z:It,bO aR x→SC 293 [aD x,aD z] (.bool (fo x z))
 | .mk _ _ _ _ ks,.mk _ _ _ _ _ks',h=>Im h fun _i x z hx _=>A9 ks x (List.mem_of_getElem? hx) z (okIs_iff.1 h.2.2 x (List.mem_of_getElem? hx))
theorem A9:∀ks:List It,∀x∈ks,∀z,bO aR x→SC 293 [aD x,aD z] (.bool (fo x z))
 |[],_,hx,_,_=>by cases hx
 |k::r,x,hx,z,h=>by
  have h1:=A8 k z
  have h2:=A9 r x
  rcases List.mem_cons.1 hx with e|hx
  ·rw[e] at h⊢;exact h1 h
  ·exact h2 hx z h
end
end
end Go.Proofs.YtlljinebapfdaaaGreatDoor
namespace Go.Proofs.YtlljinebapfdaaaGreatDoor
set_option maxRecDepth 20000
open Go Go.RowKit
open Go.Proofs.Abs
noncomputable section
def ea (s:List UInt8) (C:List AV) (i:Nat):View:=⟨[(1,.str s),(5,.nilsl),(9,.fsl false C),(10,I (.ofNat (ac C))),(11,I (.ofNat i))],[],[],1,26⟩
def dz (s:List UInt8) (C:List AV) (i k:Nat) (es:List AV):View:=⟨[(1,.str s),(9,.fsl false C),(10,I (.ofNat (ac C))),(11,I (.ofNat i))],[(5,.rsl true 0 0 k 1)],[(0,.cells es,.whole)],1,26⟩
def gV (n t:List UInt8):aV:=ak [(4,1,.res (.fptr [.str n,.str t] 0))] [] aA [] []
@[simp] abbrev fR (C:List AV):=(I (Int.ofNat (ac C))=I (Int.ofNat (ac C))∧ad (I (Int.ofNat (ac C)))=true)
@[simp] abbrev fS (C:List AV):=(AV.fsl false C=AV.fsl false C∧ad (AV.fsl false C)=true)
@[simp] abbrev fT (s:List UInt8):=(AV.str s=AV.str s∧ad (AV.str s)=true)
@[simp] abbrev qw:=(AV.nilsl=AV.nilsl∧true=true)
@[simp] abbrev va (i:Nat):=(I (Int.ofNat i)=I (Int.ofNat i)∧ad (I (Int.ofNat i))=true)
theorem Ba (s:List UInt8) (C:List AV) (i j:Nat) (n t:List UInt8) (N:Prop) (Q:AExit→St→Prop):aN Tryz.prog opts0 40 (gV n t) (aJ Tryz.prog 266 4) (ea s C i).st (bP 0 [] (ea s C j) N [] (ea s C i) Q)=
  (aa (au (Int.ofNat i) (Int.ofNat (ac C))) (aQ Tryz.prog 47 (AV.fsl false C) (I (Int.ofNat i))=some (AV.fptr [AV.str n,AV.str t] 0)∧aa (ag n s) ((((fT s)∧(AV.rsl true 15 0 (ac [I (Int.ofNat i)]) 1=AV.nilsl∧true=true)∧(fS C)∧(fR C)∧(I (az IntKind.i64 (Int.ofNat i+1))=I (Int.ofNat j)∧ad (I (Int.ofNat j))=true)∧True)∧True∧True)∧N) ((((fT s)∧qw∧(fS C)∧(fR C)∧(I (az IntKind.i64 (Int.ofNat i+1))=I (Int.ofNat j)∧ad (I (Int.ofNat j))=true)∧True)∧True∧True)∧N)) ((((fT s)∧qw∧(fS C)∧(fR C)∧(va i)∧True)∧True∧True)∧Q (AExit.exit 0) (ea s C i).st)):=by kernel_rfl
theorem Io (s:List UInt8) (C:List AV) (i j k:Nat) (es:List AV) (n t:List UInt8) (N:Prop) (Q:AExit→St→Prop):aN Tryz.prog opts0 40 (gV n t) (aJ Tryz.prog 266 4) (ea s C i).st (bP 0 [(0,15)] (dz s C j k es) N [] (ea s C i) Q)=
  (aa (au (Int.ofNat i) (Int.ofNat (ac C))) (aQ Tryz.prog 47 (AV.fsl false C) (I (Int.ofNat i))=some (AV.fptr [AV.str n,AV.str t] 0)∧aa (ag n s) ((((fT s)∧(fS C)∧(fR C)∧(I (az IntKind.i64 (Int.ofNat i+1))=I (Int.ofNat j)∧ad (I (Int.ofNat j))=true)∧True)∧((true=true∧some 15=some 15∧0=0∧k=ac [I (Int.ofNat i)]∧1=1)∧True)∧(flat [I (Int.ofNat i)]=es∧ae es=true)∧True)∧N) ((((fT s)∧(fS C)∧(fR C)∧(I (az IntKind.i64 (Int.ofNat i+1))=I (Int.ofNat j)∧ad (I (Int.ofNat j))=true)∧True)∧(False∧True)∧False∧True)∧N)) ((((fT s)∧qw∧(fS C)∧(fR C)∧(va i)∧True)∧True∧True)∧Q (AExit.exit 0) (ea s C i).st)):=by kernel_rfl
@[simp] abbrev Bb (C es:List AV) (Q:AExit→St→Prop) (i k:Nat) (s:List UInt8):=((((fT s)∧(fS C)∧(fR C)∧(va i)∧True)∧((true=true∧some 0=some 0∧0=0∧k=k∧1=1)∧True)∧(es=es∧ae es=true)∧True)∧Q (AExit.exit 0) (dz s C i k es).st)
theorem Bc (s:List UInt8) (C:List AV) (i j k:Nat) (es:List AV) (n t:List UInt8) (N:Prop) (Q:AExit→St→Prop):aN Tryz.prog opts0 40 (gV n t) (aJ Tryz.prog 266 4) (dz s C i k es).st (bP 0 [(0,0)] (dz s C j k es) N [(0,0)] (dz s C i k es) Q)=
  (aa (au (Int.ofNat i) (Int.ofNat (ac C))) (aQ Tryz.prog 47 (AV.fsl false C) (I (Int.ofNat i))=some (AV.fptr [AV.str n,AV.str t] 0)∧aa (ag n s) (ax (bT 1 [I (Int.ofNat i)]&&(((k+ac [I (Int.ofNat i)])*8).ble 140737488355328&&(bu (flat [I (Int.ofNat i)])&&true))) (ax ((ac es).beq (k*1)) ((((fT s)∧(fS C)∧(fR C)∧(I (az IntKind.i64 (Int.ofNat i+1))=I (Int.ofNat j)∧ad (I (Int.ofNat j))=true)∧True)∧((true=true∧some 0=some 15∧0=0∧k=k+ac [I (Int.ofNat i)]∧1=1)∧True)∧False∧True)∧N))) ((((fT s)∧(fS C)∧(fR C)∧(I (az IntKind.i64 (Int.ofNat i+1))=I (Int.ofNat j)∧ad (I (Int.ofNat j))=true)∧True)∧((true=true∧some 0=some 0∧0=0∧k=k∧1=1)∧True)∧(es=es∧ae es=true)∧True)∧N)) (Bb C es Q i k s)):=by kernel_rfl
theorem Ip (s:List UInt8) (C:List AV) (i j k k':Nat) (es es':List AV) (n t:List UInt8) (N:Prop) (Q:AExit→St→Prop):aN Tryz.prog opts0 40 (gV n t) (aJ Tryz.prog 266 4) (dz s C i k es).st (bP 0 [(0,15)] (dz s C j k' es') N [(0,0)] (dz s C i k es) Q)=
  (aa (au (Int.ofNat i) (Int.ofNat (ac C))) (aQ Tryz.prog 47 (AV.fsl false C) (I (Int.ofNat i))=some (AV.fptr [AV.str n,AV.str t] 0)∧aa (ag n s) (ax (bT 1 [I (Int.ofNat i)]&&(((k+ac [I (Int.ofNat i)])*8).ble 140737488355328&&(bu (flat [I (Int.ofNat i)])&&true))) (ax ((ac es).beq (k*1)) ((((fT s)∧(fS C)∧(fR C)∧(I (az IntKind.i64 (Int.ofNat i+1))=I (Int.ofNat j)∧ad (I (Int.ofNat j))=true)∧True)∧((true=true∧some 15=some 15∧0=0∧k'=k+ac [I (Int.ofNat i)]∧1=1)∧True)∧(es++flat [I (Int.ofNat i)]=es'∧ae es'=true)∧True)∧N))) ((((fT s)∧(fS C)∧(fR C)∧(I (az IntKind.i64 (Int.ofNat i+1))=I (Int.ofNat j)∧ad (I (Int.ofNat j))=true)∧True)∧((true=true∧some 15=some 0∧0=0∧k'=k∧1=1)∧True)∧False∧True)∧N)) (Bb C es Q i k s)):=by kernel_rfl
def qx (s:List UInt8) (C:List AV) (F:View):bL:=fun st Q=>dd 0 [] (ea s C 0) st∧Q (.exit 0) F.st
@[simp] abbrev Bd (C:List AV) (s:List UInt8):=(((fT s)∧qw∧(fS C)∧(fR C)∧(I 0=I 0∧true=true)∧True)∧True∧True)
theorem Iq (o:Ob) (M N L:AV) (s:List UInt8) (C:List AV) (Q:AV→ab→Nat→Prop):aq Tryz.prog opts0 40 (ak [] [(4,qx s C (ea s C (ac C)))] aA [] []) 266 [.agg (ai o M N L (.fsl false C)),.str s] [] 0 Q=
  ((Bd C s)∧Q AV.nilsl [] 3):=by kernel_rfl
theorem Ir (o:Ob) (M N L:AV) (s:List UInt8) (C:List AV) (k:Nat) (es:List AV) (Q:AV→ab→Nat→Prop):aq Tryz.prog opts0 40 (ak [] [(4,qx s C (dz s C (ac C) k es))] aA [] []) 266 [.agg (ai o M N L (.fsl false C)),.str s] [] 0 Q=
  ((Bd C s)∧Q (AV.rsl true 0 0 k 1) [(0,some (Blk.cells es))] 3):=by kernel_rfl
def bI (s:List UInt8):List Cu→Nat→List Nat
 |[],_=>[]
 |c::r,k=>match ag c.name s with
  |true=>k::bI s r (k+1)
  |false=>bI s r (k+1)
theorem Be (s:List UInt8) (c:Cu):∀ (l:List Cu) (k:Nat),bI s (l++[c]) k=bI s l k++(match ag c.name s with|true=>[k+l.length]|false=>[])
 |[],k=>by simp only[List.nil_append,bI];cases ag c.name s<;>simp
 |a::r,k=>by
  have ih:=Be s c r (k+1)
  have e:k+1+r.length=k+(r.length+1):=by omega
  rw[e] at ih
  simp only[List.cons_append,bI,ih,List.length_cons]
  cases ag a.name s<;>simp
theorem Bf {α:Type} {l:List α} {i:Nat} {c:α} (h:l[i]? =some c):l.take (i+1)=l.take i++[c]:=by rw[List.take_add_one,h];rfl
theorem Is {α:Type} {l:List α} {i:Nat} {c:α} (h:l[i]? =some c):i<l.length:=by
 rcases Nat.lt_or_ge i l.length with h'|h'
 ·exact h'
 ·rw[List.getElem?_eq_none h'] at h;cases h
theorem Iu {s:List UInt8} {l:List Cu} {i:Nat} {c:Cu} (h:l[i]? =some c):bI s (l.take (i+1)) 0=bI s (l.take i) 0++(match ag c.name s with|true=>[i]|false=>[]):=by
 rw[Bf h,Be,Nat.zero_add,List.length_take,Nat.min_eq_left (Nat.le_of_lt (Is h))]
theorem qy (s:List UInt8):∀ (l:List Cu) (k:Nat),(bI s l k).length≤l.length
 |[],_=>Nat.le_refl _
 |c::r,k=>by
  have:=qy s r (k+1)
  simp only[bI]
  split<;>simp<;>omega
theorem qz (s:List UInt8):∀ (l:List Cu) (k:Nat),∀x∈bI s l k,k≤x∧x<k+l.length
 |[],_,x,h=>by cases h
 | c::r,k,x,h=>by
  have ih:=qz s r (k+1) x
  simp only[bI] at h
  simp only[List.length_cons]
  split at h
  ·rcases List.mem_cons.1 h with rfl|h
   ·omega
   ·have:=ih h;omega
  ·have:=ih h;omega
def jy (s:List UInt8) (C:List AV) (i:Nat) (p:List Nat):View:=match p with
 |[]=>ea s C i
 |_::_=>dz s C i p.length (p.map nI)
theorem mq {f:Bool} {l:List Cu} {i:Nat} {c:Cu} (hx:l[i]? =some c):aQ Tryz.prog 47 (.fsl f (l.map aK)) (.int .i64 (.ofNat i))=some (.fptr [.str c.name,.str c.text] 0):=
 l5 (v:=aK c) (e:=163) (sz:=2) (by kernel_rfl) (by kernel_rfl) (by rw[List.getElem?_map,hx];rfl) rfl
theorem iG:∀p:List Nat,ae (p.map nI)=true
 |[]=>rfl
 |_::t=>iG t
theorem Bg:∀p:List Nat,flat (p.map nI)=p.map nI
 |[]=>rfl
 |x::t=>by simp only[List.map_cons,flat,Bg t];rfl
theorem Bh {s:List UInt8} {l:List Cu} {Q:AExit→St→Prop} (hb:l.length≤aR) (hq:Q (.exit 0) (jy s (l.map aK) l.length (bI s l 0)).st):
    ∀i,i≤l.length→ALp Tryz.prog opts0.glob 0 (aJ Tryz.prog 266 4) (jy s (l.map aK) i (bI s (l.take i) 0)).st Q:=by
  have hlen:ac (l.map aK)=l.length:=by rw[aC,List.length_map]
  have hcl:=n8 l
  have hb:l.length≤1099511627776:=hb
  refine od _ ?_ (fun i hi ih=> ?_)
  · rw[List.take_length]
    cases hp:bI s l 0 with
    | nil=>
      rw[hp] at hq
      refine ALp.round (A:=gV [] []) (V2:=ea s (l.map aK) 0) (F:=ea s (l.map aK) l.length) (lk:=[]) (lk':=[]) base0 ap (LsOk.no rfl) .refl ?_
      simp only[jy]
      rw[Ba]
      refine ao (fun h=> ?_) (fun _=>⟨by simp[ad,hcl],hq⟩)
      have h:=ltInt_iff.1 h
      simp only[hlen,Int.ofNat_eq_natCast] at h
      omega
    | cons a r=>
      rw[hp] at hq
      refine ALp.round (A:=gV [] []) (V2:=dz s (l.map aK) 0 (a::r).length ((a::r).map nI)) (F:=dz s (l.map aK) l.length (a::r).length ((a::r).map nI)) (lk:=[(0,0)]) (lk':=[(0,0)]) base0 ap (LsOk.no rfl) .refl ?_
      simp only[jy]
      rw[Bc]
      refine ao (fun h=> ?_) (fun _=>⟨by simp[ad,hcl,iG,ae,nI],hq⟩)
      have h:=ltInt_iff.1 h
      simp only[hlen,Int.ofNat_eq_natCast] at h
      omega
  · have g1:=List.getElem?_eq_getElem hi
    revert g1
    generalize l[i]=c
    intro g1
    have hs:=Iu (s:=s) g1
    have hw:az .i64 (Int.ofNat i+1)=Int.ofNat (i+1):=eS (by simp;omega) (by simp;omega)
    have hno:au (Int.ofNat i) (Int.ofNat (ac (l.map aK)))=false→False:=fun h=>by
      have h:=ltInt_false.1 h
      simp only[hlen,Int.ofNat_eq_natCast] at h
      omega
    have hpl:(bI s (l.take i) 0).length≤i:=by
      have:=qy s (l.take i) 0
      rw[List.length_take] at this
      omega
    rw[hs] at ih
    clear hs
    revert ih hpl
    generalize bI s (l.take i) 0=p
    intro ih hpl
    cases hc:ag c.name s with
    | false=>
      rw[hc] at ih
      simp only[List.append_nil] at ih
      cases p with
      | nil=>
        refine ALp.round (A:=gV c.name c.text) (V2:=ea s (l.map aK) (i+1)) (F:=ea s (l.map aK) i) (lk:=[]) (lk':=[]) base0 ap (LsOk.no rfl) .refl ?_
        simp only[jy] at ih⊢
        rw[Ba]
        refine ao (fun _=>⟨mq g1,ao (fun h=> ?_) (fun _=> ?_)⟩) (fun h=>(hno h).elim)
        · rw[hc] at h;cases h
        · rw[hw]
          exact ⟨by simp[ad,hcl],ih⟩
      | cons a r=>
        refine ALp.round (A:=gV c.name c.text) (V2:=dz s (l.map aK) (i+1) (a::r).length ((a::r).map nI)) (F:=dz s (l.map aK) i (a::r).length ((a::r).map nI)) (lk:=[(0,0)]) (lk':=[(0,0)]) base0 ap (LsOk.no rfl) .refl ?_
        simp only[jy] at ih⊢
        rw[Bc]
        refine ao (fun _=>⟨mq g1,ao (fun h=> ?_) (fun _=> ?_)⟩) (fun h=>(hno h).elim)
        · rw[hc] at h;cases h
        · rw[hw]
          exact ⟨by simp[ad,hcl,iG,ae,nI],ih⟩
    | true=>
      rw[hc] at ih
      cases p with
      | nil=>
        refine ALp.round (A:=gV c.name c.text) (V2:=dz s (l.map aK) (i+1) 1 [nI i]) (F:=ea s (l.map aK) i) (lk:=[(0,15)]) (lk':=[]) base0 ap (LsOk.no rfl) .refl ?_
        simp only[jy,List.nil_append] at ih⊢
        rw[Io]
        refine ao (fun _=>⟨mq g1,ao (fun _=> ?_) (fun h=> ?_)⟩) (fun h=>(hno h).elim)
        · rw[hw]
          exact ⟨by simp[ad,hcl,ae,nI,flat,AV.cells,ac],ih⟩
        · rw[hc] at h;cases h
      | cons a r=>
        refine ALp.round (A:=gV c.name c.text) (V2:=dz s (l.map aK) (i+1) ((a::r)++[i]).length (((a::r)++[i]).map nI)) (F:=dz s (l.map aK) i (a::r).length ((a::r).map nI)) (lk:=[(0,15)]) (lk':=[(0,0)]) base0 ap (LsOk.no rfl) .refl ?_
        have ih:ALp Tryz.prog opts0.glob 0 (aJ Tryz.prog 266 4) (dz s (l.map aK) (i+1) ((a::r)++[i]).length (((a::r)++[i]).map nI)).st Q:=ih
        simp only[jy]
        rw[Ip]
        refine ao (fun _=>⟨mq g1,ao (fun _=>br ?_ (br ?_ ⟨?_,ih⟩)) (fun h=> ?_)⟩) (fun h=>(hno h).elim)
        · simp[bT,ac,AV.cells,flat,bu]
          simp only[List.length_cons] at hpl
          omega
        · rw[beq_iff,aC,List.length_map,Nat.mul_one]
        · rw[hw]
          have:=iG r
          simp[ad,hcl,ae,nI,flat,AV.cells,ac] at this⊢
          exact closed_snoc r i
        · rw[hc] at h;cases h
 where
  closed_snoc:∀ (r:List Nat) (i:Nat),ae (List.map nI r++[AV.int .i64 (i:Int)])=true
    |[],_=>rfl
    |_::t,i=>closed_snoc t i
theorem Bi:bX (dG Tryz.prog 266) 4=[aJ Tryz.prog 266 4]:=by kernel_rfl
def Bj (b:Nat):List Nat→AV
 |[]=> .nilsl
 |p@(_::_)=> .rsl true b 0 p.length 1
def vb (b:Nat):List Nat→ab
 |[]=>[]
 |p@(_::_)=>[(b,some (.cells (p.map nI)))]
theorem og (o:Ob) {M N L C:AV} (hM:ad M=true) (hN:ad N=true) (hL:ad L=true) (hC:ad C=true):ae (ai o M N L C)=true:=by
 simp only[ai,ae,ad,hM,hN,hL,hC,Bool.and_self]
theorem Bk (o:Ob) {M N L:AV} (s:List UInt8) (_hM:ad M=true) (_hN:ad N=true) (_hL:ad L=true) (hb:o.cust.length≤aR):
  BodySem Tryz.prog opts0.glob 266 [.agg (ai o M N L (bw o)),.str s] [] 0 (Bj 0 (bI s o.cust 0)) (vb 0 (bI s o.cust 0)) 3:=by
 have hcl:=n8 o.cust
 have hlen:ac (o.cust.map aK)=o.cust.length:=by rw[aC,List.length_map]
 cases hp:bI s o.cust 0 with
 | nil=>
  refine pT (A:=ak [] [(4,qx s (o.cust.map aK) (ea s (o.cust.map aK) (ac (o.cust.map aK))))] aA [] []) base0 ap
   (ar (LsOk.at1 rfl Bi fun st Q hs=> .seen base0.glob hs.1 (Bh (s:=s) hb (by rw[hp];have:=hs.2;rw[hlen] at this;exact this) 0 (Nat.zero_le _)))) ?_
  simp only[bw]
  rw[Iq]
  exact ⟨by simp[ad,hcl],rfl,rfl,rfl⟩
 | cons a r=>
  refine pT (A:=ak [] [(4,qx s (o.cust.map aK) (dz s (o.cust.map aK) (ac (o.cust.map aK)) (a::r).length ((a::r).map nI)))] aA [] []) base0 ap
   (ar (LsOk.at1 rfl Bi fun st Q hs=> .seen base0.glob hs.1 (Bh (s:=s) hb (by rw[hp];have:=hs.2;rw[hlen] at this;exact this) 0 (Nat.zero_le _)))) ?_
  simp only[bw]
  rw[Ir]
  exact ⟨by simp[ad,hcl],rfl,rfl,rfl⟩
theorem Iv (o:Ob) {M N L:AV} (s:List UInt8) (nx:Nat) (hM:ad M=true) (hN:ad N=true) (hL:ad L=true) (hb:o.cust.length≤aR):
  BodySem Tryz.prog opts0.glob 266 [.agg (ai o M N L (bw o)),.str s] [] nx (Bj nx (bI s o.cust 0)) (vb nx (bI s o.cust 0)) (nx+3):=by
 have h0:=Bk o s hM hN hL hb
 revert h0
 generalize bI s o.cust 0=p
 intro h0
 have hcl:ae [.agg (ai o M N L (bw o)),.str s]=true:=by simp only[ae,ad,og o hM hN hL (kz o),Bool.and_self]
 cases p with
 |nil=>exact ui base0.glob hcl h0 (.same _ rfl) fun i b2 hi=>by cases hi
 | cons a r=>
  refine ui base0.glob hcl h0 (.rsl _ _ _ _ _ _ (by rw[iq,if_pos (by omega)];simp)) fun i b2 hi=> ?_
  simp only[vb,hget] at hi
  split at hi
  ·rename_i he
   have he:=beq_iff.1 he
   simp only[Option.some.injEq] at hi
   subst he;subst hi
   exact ⟨0,_,by rw[iq,if_pos (by omega)];simp,rfl,RenL.same _ (iG (a::r))⟩
  ·cases hi
end
end Go.Proofs.YtlljinebapfdaaaGreatDoor
namespace Go.Proofs.YtlljinebapfdaaaGreatDoor
open Go Go.RowKit
open Go.Proofs.Abs
noncomputable section
structure fA where
 nm:List UInt8
 ty:Int
 many:Bool
 set:Bool
def dw (h:fA) (A1 A2 A3 G R P D RM:AV):List AV:=[.str h.nm,I h.ty,.bool h.many,.bool h.set,A1,A2,A3,G,R,P,D,RM]
def Bl (O O':List AV) (snd:Bool):dF:=fun f args _ _=>match args with
 | .ptr b _::_=>some (.part [b] (.tuple []) [(b,some (.cells O'))] 100)
 |_=>match Nat.beq f 25 with
  |true=>some (.val (.agg O))
  |false=>some (.val (.bool snd))
abbrev eG (Da Ks:List AV) (n t y:Int):=[I t,I y,I n,AV.fsl false Da,AV.fsl false Ks]
abbrev iH (C' L' M' N':AV) (o':Ob):=(a9 Tryz.prog 51 (AV.agg (ai o' M' N' L' C')) 37)
abbrev iI:=(AV.tuple [AV.agg zL,I 7])
theorem Iw (h:fA) (A1 A2 A3 G R D RM:AV) (pf:Nat) (pc:List AV) (o o':Ob) (M N L C M' N' L' C':AV) (an:List UInt8) (i t y n:Int) (Da Ks:List AV) (snd:Bool) (Q:AV→Prop):aq Tryz.prog opts0 40 (ak [] [] (Bl (ai o M N L C) (ai o' M' N' L' C') snd) [] []) 251 [.agg (dw h A1 A2 A3 G R (cV pf pc) D RM),.agg (ai o M N L C),.agg (.str an::I i::am t y n Da Ks)] [] 0 (fun v _ _=>Q v)=
  (SC 25 [AV.agg (ai o M N L C)] (AV.agg (ai o M N L C))∧ax (a9 Tryz.prog 51 (AV.agg (ai o M N L C)) 37) (BodySem Tryz.prog opts0.glob pf (AV.ptr 1 0::I i::AV.agg (eG Da Ks n t y)::pc) [(1,some (Blk.cells (ai o M N L C)))] 15 (AV.tuple []) [(1,some (Blk.cells (ai o' M' N' L' C')))] 115∧SC 294 [AV.agg (ai o' M' N' L' C')] (AV.bool snd)∧aa (!snd) (Q iI) (ax (iH C' L' M' N' o') (Q (AV.tuple [AV.agg (ai o' M' N' L' C'),I 0]))))):=by kernel_rfl
def qA (G:List AV) (c:List AV):aV:=ak [(2,15,.res (.fptr c 0))] [] (fun _ _ _ _=>some (.val (.fsl false G))) [] []
theorem vc (h:fA) (A1 A2 A3 R P D RM:AV) (gf:Nat) (gc:List AV) (o:Ob) (M N L C:AV) (G:List AV) (t y n:Int) (Da Ks:List AV) (Q:AV→Prop):aq Tryz.prog opts0 40 (qA G (am t y n Da Ks)) 248 [.agg (dw h A1 A2 A3 (cV gf gc) R P D RM),.agg (ai o M N L C)] [] 0 (fun v _ _=>Q v)=
  (SC gf (AV.agg (ai o M N L C)::gc) (AV.fsl false G)∧aa (!h.3) (aa (ah (Int.ofNat (ac G)) 1) (aa (ah h.2 2) (aQ Tryz.prog 31 (AV.fsl false G) (I 0)=some (AV.fptr (eG Da Ks n t y) 0)∧aa (ah n 0) (Q (I 0)) (Q (I (Int.ofNat (ac G))))) (Q (I (Int.ofNat (ac G))))) (Q (I (Int.ofNat (ac G))))) (Q (I (Int.ofNat (ac G))))):=by kernel_rfl
def kD (W:List AV) (G:List AV) (t y n:Int) (Da Ks:List AV) (but:Int) (i:Nat):View:=⟨[(3,I but),(8,.bool false),(14,.fsl false G),(15,I (.ofNat (ac G))),(16,I (.ofNat i))],[(4,.ptr 0 0),(6,.ptr 1 0)],[(0,.cells W,.whole),(1,.cells (am t y n Da Ks),.whole)],3,34⟩
def fU (b:Bool):View:=⟨[(8,.bool b)],[],[],3,34⟩
def qB (c:List AV) (r:Bool):aV:=ak [(3,1,.res (.fptr c 0))] [] (bq [(293,.bool r)]) [] []
@[simp] abbrev ve (A1 A2 A3 D Ge P R RM:AV) (h:fA):=([AV.str h.1,I h.2,AV.bool h.3,AV.bool h.4,A1,A2,A3,Ge,R,P,D,RM]=[AV.str h.1,I h.2,AV.bool h.3,AV.bool h.4,A1,A2,A3,Ge,R,P,D,RM]∧ae [AV.str h.1,I h.2,AV.bool h.3,AV.bool h.4,A1,A2,A3,Ge,R,P,D,RM]=true)
@[simp] abbrev qC (G:List AV):=(I (Int.ofNat (ac G))=I (Int.ofNat (ac G))∧ad (I (Int.ofNat (ac G)))=true)
@[simp] abbrev qD (G:List AV):=(AV.fsl false G=AV.fsl false G∧ad (AV.fsl false G)=true)
@[simp] abbrev qE (Da Ks:List AV) (n t y:Int):=((eG Da Ks n t y)=(eG Da Ks n t y)∧ae (eG Da Ks n t y)=true)
@[simp] abbrev vf:=((some 0=some 0∧0=0)∧(some 1=some 1∧0=0)∧True)
@[simp] abbrev qF:=(AV.bool false=AV.bool false∧true=true)
@[simp] abbrev qG (but:Int):=(I but=I but∧ad (I but)=true)
theorem vg (h:fA) (A1 A2 A3 Ge R P D RM:AV) (G:List AV) (t y n:Int) (Da Ks:List AV) (but:Int) (i j:Nat) (a b c:Int) (E F:List AV) (r q:Bool) (N:Prop) (Q:AExit→St→Prop):aN Tryz.prog opts0 40 (qB (am a b c E F) r) (aJ Tryz.prog 250 3) (kD (dw h A1 A2 A3 Ge R P D RM) G t y n Da Ks but i).st (bP 0 [(0,0),(1,1)] (kD (dw h A1 A2 A3 Ge R P D RM) G t y n Da Ks but j) N [] (fU q) Q)=
  (aa (au (Int.ofNat i) (Int.ofNat (ac G))) (aQ Tryz.prog 31 (AV.fsl false G) (I (Int.ofNat i))=some (AV.fptr [I a,I b,I c,AV.fsl false E,AV.fsl false F] 0)∧aa (!ah (Int.ofNat i) but) (aa h.3 (SC 293 [AV.agg [I a,I b,I c,AV.fsl false E,AV.fsl false F],AV.agg (eG Da Ks n t y)] (AV.bool r)∧aa r ((((AV.bool true=AV.bool q∧ad (AV.bool q)=true)∧True)∧True∧True)∧Q AExit.ret (fU q).st) ((((qG but)∧qF∧(qD G)∧(qC G)∧(I (az IntKind.i64 (Int.ofNat i+1))=I (Int.ofNat j)∧ad (I (Int.ofNat j))=true)∧True)∧vf∧(ve A1 A2 A3 D Ge P R RM h)∧(qE Da Ks n t y)∧True)∧N)) ((((qG but)∧qF∧(qD G)∧(qC G)∧(I (az IntKind.i64 (Int.ofNat i+1))=I (Int.ofNat j)∧ad (I (Int.ofNat j))=true)∧True)∧vf∧(ve A1 A2 A3 D Ge P R RM h)∧(qE Da Ks n t y)∧True)∧N)) ((((qG but)∧qF∧(qD G)∧(qC G)∧(I (az IntKind.i64 (Int.ofNat i+1))=I (Int.ofNat j)∧ad (I (Int.ofNat j))=true)∧True)∧vf∧(ve A1 A2 A3 D Ge P R RM h)∧(qE Da Ks n t y)∧True)∧N)) ((((AV.bool false=AV.bool q∧ad (AV.bool q)=true)∧True)∧True∧True)∧Q (AExit.exit 0) (fU q).st)):=by kernel_rfl
def Bm (W:List AV) (G:List AV) (t y n:Int) (Da Ks:List AV) (but:Int) (q:Bool):bL:=fun s Q=>dd 0 [(0,0),(1,2)] (kD W G t y n Da Ks but 0) s∧aa q (Q .ret (fU true).st) (Q (.exit 0) (fU false).st)
theorem Ix (h:fA) (A1 A2 A3 R P D RM:AV) (gf:Nat) (gc:List AV) (o:Ob) (M N L C:AV) (G:List AV) (t y n:Int) (Da Ks:List AV) (but:Int) (q:Bool) (Q:AV→Prop):aq Tryz.prog opts0 40 (ak [] [(3,Bm (dw h A1 A2 A3 (cV gf gc) R P D RM) G t y n Da Ks but q)] (fun _ _ _ _=>some (.val (.fsl false G))) [] []) 250 [.agg (dw h A1 A2 A3 (cV gf gc) R P D RM),.agg (ai o M N L C),.agg (am t y n Da Ks),I but] [] 0 (fun v _ _=>Q v)=
  (SC gf (AV.agg (ai o M N L C)::gc) (AV.fsl false G)∧(((qG but)∧qF∧(qD G)∧(qC G)∧(I 0=I 0∧true=true)∧True)∧((some 0=some 0∧0=0)∧(some 2=some 2∧0=0)∧True)∧([AV.str h.1,I h.2,AV.bool h.3,AV.bool h.4,A1,A2,A3,AV.func (Fn.func gf) [] gc,R,P,D,RM]=[AV.str h.1,I h.2,AV.bool h.3,AV.bool h.4,A1,A2,A3,AV.func (Fn.func gf) [] gc,R,P,D,RM]∧ae [AV.str h.1,I h.2,AV.bool h.3,AV.bool h.4,A1,A2,A3,AV.func (Fn.func gf) [] gc,R,P,D,RM]=true)∧(qE Da Ks n t y)∧True)∧aa q (Q (AV.bool true)) (Q (AV.bool false))):=by kernel_rfl
def qH (th:Int) (right room twice:Bool) (la:AV):dF:=fun f args _ _=>match args with
 | .agg a::rest=>match Nat.beq (ac a) 12 with
  | true=>match Nat.beq f 248 with
   |true=>some (.val (I th))
   |false=>match Nat.beq f 250 with
    |true=>some (.val (.bool twice))
    |false=>some (.val la)
  |false=>match rest with
   | .agg _::_=>some (.val (.bool right))
   |_=>some (.val (.bool room))
 |_=>none
abbrev iJ (A1 A2 A3 D G P:AV) (h:fA) (mf rf:Nat) (rc:List AV):=[AV.str h.1,I h.2,AV.bool h.3,AV.bool h.4,A1,A2,A3,G,AV.func (Fn.func rf) [] rc,P,D,AV.func (Fn.func mf) [] []]
abbrev eb (C' L' M' N':AV) (e:Int) (o':Ob):=(AV.tuple [AV.agg (ai o' M' N' L' C'),I e])
abbrev fV:=(AV.tuple [AV.agg zL,I 11])
abbrev jz (Da Ks:List AV) (an:List UInt8) (i n t y:Int):=[AV.str an,I i,I t,I y,I n,AV.fsl false Da,AV.fsl false Ks]
abbrev jA:=(AV.tuple [AV.agg zL,I 14])
abbrev jB (C L M N:AV) (Da Ks rc:List AV) (n t y:Int) (o:Ob):=(AV.agg (ai o M N L C)::AV.agg (eG Da Ks n t y)::rc)
abbrev qI:=(AV.tuple [AV.agg zL,I 12])
theorem Iy (h:fA) (A1 A2 A3 G P D:AV) (rf:Nat) (rc:List AV) (mf:Nat) (o o':Ob) (M N L C M' N' L' C':AV) (an:List UInt8) (i t y n:Int) (Da Ks:List AV) (th e:Int) (right room twice:Bool) (Q:AV→Prop):aq Tryz.prog opts0 40 (ak [] [] (qH th right room twice (.tuple [.agg (ai o' M' N' L' C'),I e])) [249] []) 220 [.agg (dw h A1 A2 A3 G (cV rf rc) P D (bB mf)),.agg (ai o M N L C),.agg (.str an::I i::am t y n Da Ks)] [] 0 (fun v _ _=>Q v)=
  (SC 248 [AV.agg (iJ A1 A2 A3 D G P h mf rf rc),AV.agg (ai o M N L C)] (I th)∧aa (!h.3) (aa (!h.3) (SC rf (jB C L M N Da Ks rc n t y o) (AV.bool right)∧SC mf [AV.agg (ai o M N L C)] (AV.bool room)∧SC 250 [AV.agg (iJ A1 A2 A3 D G P h mf rf rc),AV.agg (ai o M N L C),AV.agg (eG Da Ks n t y),I (Int.negSucc 0)] (AV.bool twice)∧aa (!ah i 0) (Q jA) (aa (au 0 th) (Q fV) (aa (!right) (Q iI) (aa (!room) (Q qI) (aa twice (Q fV) (SC 251 [AV.agg (iJ A1 A2 A3 D G P h mf rf rc),AV.agg (ai o M N L C),AV.agg (jz Da Ks an i n t y)] (eb C' L' M' N' e o')∧ax (iH C' L' M' N' o') (Q (eb C' L' M' N' e o')))))))) (SC rf (jB C L M N Da Ks rc n t y o) (AV.bool right)∧SC mf [AV.agg (ai o M N L C)] (AV.bool room)∧SC 250 [AV.agg (iJ A1 A2 A3 D G P h mf rf rc),AV.agg (ai o M N L C),AV.agg (eG Da Ks n t y),I (Int.negSucc 0)] (AV.bool twice)∧aa (!ah i 0) (Q jA) (aa (!right) (Q iI) (aa (!room) (Q qI) (aa twice (Q fV) (SC 251 [AV.agg (iJ A1 A2 A3 D G P h mf rf rc),AV.agg (ai o M N L C),AV.agg (jz Da Ks an i n t y)] (eb C' L' M' N' e o')∧ax (iH C' L' M' N' o') (Q (eb C' L' M' N' e o')))))))) (aa (!h.3) (SC rf (jB C L M N Da Ks rc n t y o) (AV.bool right)∧SC mf [AV.agg (ai o M N L C)] (AV.bool room)∧SC 250 [AV.agg (iJ A1 A2 A3 D G P h mf rf rc),AV.agg (ai o M N L C),AV.agg (eG Da Ks n t y),I (Int.negSucc 0)] (AV.bool twice)∧aa (!ah i th) (Q jA) (aa (au 0 th) (Q fV) (aa (!right) (Q iI) (aa (!room) (Q qI) (aa twice (Q fV) (SC 251 [AV.agg (iJ A1 A2 A3 D G P h mf rf rc),AV.agg (ai o M N L C),AV.agg (jz Da Ks an i n t y)] (eb C' L' M' N' e o')∧ax (iH C' L' M' N' o') (Q (eb C' L' M' N' e o')))))))) (SC rf (jB C L M N Da Ks rc n t y o) (AV.bool right)∧SC mf [AV.agg (ai o M N L C)] (AV.bool room)∧SC 250 [AV.agg (iJ A1 A2 A3 D G P h mf rf rc),AV.agg (ai o M N L C),AV.agg (eG Da Ks n t y),I (Int.negSucc 0)] (AV.bool twice)∧aa (!ah i th) (Q jA) (aa (!right) (Q iI) (aa (!room) (Q qI) (aa twice (Q fV) (SC 251 [AV.agg (iJ A1 A2 A3 D G P h mf rf rc),AV.agg (ai o M N L C),AV.agg (jz Da Ks an i n t y)] (eb C' L' M' N' e o')∧ax (iH C' L' M' N' o') (Q (eb C' L' M' N' e o'))))))))):=by kernel_rfl
abbrev iK (A1 A2 A3 D G P:AV) (h:fA) (rc:List AV) (rf:Nat):=[AV.str h.1,I h.2,AV.bool h.3,AV.bool h.4,A1,A2,A3,G,AV.func (Fn.func rf) [] rc,P,D,AV.nilFunc]
theorem Iz (h:fA) (A1 A2 A3 G P D:AV) (rf:Nat) (rc:List AV) (o o':Ob) (M N L C M' N' L' C':AV) (an:List UInt8) (i t y n:Int) (Da Ks:List AV) (th e:Int) (right room twice:Bool) (Q:AV→Prop):aq Tryz.prog opts0 40 (ak [] [] (qH th right room twice (.tuple [.agg (ai o' M' N' L' C'),I e])) [249] []) 220 [.agg (dw h A1 A2 A3 G (cV rf rc) P D .nilFunc),.agg (ai o M N L C),.agg (.str an::I i::am t y n Da Ks)] [] 0 (fun v _ _=>Q v)=
  (SC 248 [AV.agg (iK A1 A2 A3 D G P h rc rf),AV.agg (ai o M N L C)] (I th)∧aa (!h.3) (aa (!h.3) (SC rf (jB C L M N Da Ks rc n t y o) (AV.bool right)∧SC 250 [AV.agg (iK A1 A2 A3 D G P h rc rf),AV.agg (ai o M N L C),AV.agg (eG Da Ks n t y),I (Int.negSucc 0)] (AV.bool twice)∧aa (!ah i 0) (Q jA) (aa (au 0 th) (Q fV) (aa (!right) (Q iI) (aa twice (Q fV) (SC 251 [AV.agg (iK A1 A2 A3 D G P h rc rf),AV.agg (ai o M N L C),AV.agg (jz Da Ks an i n t y)] (eb C' L' M' N' e o')∧ax (iH C' L' M' N' o') (Q (eb C' L' M' N' e o'))))))) (SC rf (jB C L M N Da Ks rc n t y o) (AV.bool right)∧SC 250 [AV.agg (iK A1 A2 A3 D G P h rc rf),AV.agg (ai o M N L C),AV.agg (eG Da Ks n t y),I (Int.negSucc 0)] (AV.bool twice)∧aa (!ah i 0) (Q jA) (aa (!right) (Q iI) (aa twice (Q fV) (SC 251 [AV.agg (iK A1 A2 A3 D G P h rc rf),AV.agg (ai o M N L C),AV.agg (jz Da Ks an i n t y)] (eb C' L' M' N' e o')∧ax (iH C' L' M' N' o') (Q (eb C' L' M' N' e o'))))))) (aa (!h.3) (SC rf (jB C L M N Da Ks rc n t y o) (AV.bool right)∧SC 250 [AV.agg (iK A1 A2 A3 D G P h rc rf),AV.agg (ai o M N L C),AV.agg (eG Da Ks n t y),I (Int.negSucc 0)] (AV.bool twice)∧aa (!ah i th) (Q jA) (aa (au 0 th) (Q fV) (aa (!right) (Q iI) (aa twice (Q fV) (SC 251 [AV.agg (iK A1 A2 A3 D G P h rc rf),AV.agg (ai o M N L C),AV.agg (jz Da Ks an i n t y)] (eb C' L' M' N' e o')∧ax (iH C' L' M' N' o') (Q (eb C' L' M' N' e o'))))))) (SC rf (jB C L M N Da Ks rc n t y o) (AV.bool right)∧SC 250 [AV.agg (iK A1 A2 A3 D G P h rc rf),AV.agg (ai o M N L C),AV.agg (eG Da Ks n t y),I (Int.negSucc 0)] (AV.bool twice)∧aa (!ah i th) (Q jA) (aa (!right) (Q iI) (aa twice (Q fV) (SC 251 [AV.agg (iK A1 A2 A3 D G P h rc rf),AV.agg (ai o M N L C),AV.agg (jz Da Ks an i n t y)] (eb C' L' M' N' e o')∧ax (iH C' L' M' N' o') (Q (eb C' L' M' N' e o')))))))):=by kernel_rfl
end
def vh (W:List AV):AV:= .tuple [.agg W,.bool true]
noncomputable def qJ (fi la:AV) (may:Bool):dF:=fun _ args _ _=>match args with
 | .str _::_=>some (.val fi)
 | .agg a::rest=>match Nat.beq (ac a) 12 with
  |true=>some (.val la)
  |false=>match rest with
   |[]=>some (.val (.bool may))
   |_=>none
 |_=>none
theorem IA (o:Ob) (M N L C:AV) (an:List UInt8) (i t y n:Int) (Da Ks:List AV) (Q:AV→Prop):aq Tryz.prog opts0 40 (ak [] [] (qJ (mm none) .nilsl true) [] []) 178 [.agg (ai o M N L C),.agg (.str an::I i::am t y n Da Ks)] [] 0 (fun v _ _=>Q v)=
  (SC 219 [AV.str an] (AV.tuple [AV.agg [AV.str [],I 0,AV.bool false,AV.bool false,AV.nilFunc,AV.nilFunc,AV.nilFunc,AV.nilFunc,AV.nilFunc,AV.nilFunc,AV.nilFunc,AV.nilFunc],AV.bool false])∧Q (AV.tuple [AV.agg zL,I 7])):=by kernel_rfl
theorem IB (h:fA) (A1 A2 A3 G R P D RM:AV) (o o':Ob) (M N L C M' N' L' C':AV) (an:List UInt8) (i t y n:Int) (Da Ks:List AV) (e:Int) (Q:AV→Prop):aq Tryz.prog opts0 40 (ak [] [] (qJ (vh (dw h A1 A2 A3 G R P D RM)) (.tuple [.agg (ai o' M' N' L' C'),I e]) true) [] []) 178 [.agg (ai o M N L C),.agg (.str an::I i::am t y n Da Ks)] [] 0 (fun v _ _=>Q v)=
  (SC 219 [AV.str an] (AV.tuple [AV.agg [AV.str h.1,I h.2,AV.bool h.3,AV.bool h.4,A1,A2,A3,G,R,P,D,RM],AV.bool true])∧ax (a9 Tryz.prog 310 (AV.agg [AV.str h.1,I h.2,AV.bool h.3,AV.bool h.4,A1,A2,A3,G,R,P,D,RM]) 12) (aa (!h.4) (Q (AV.tuple [AV.agg zL,I 7])) (SC 220 [AV.agg [AV.str h.1,I h.2,AV.bool h.3,AV.bool h.4,A1,A2,A3,G,R,P,D,RM],AV.agg (ai o M N L C),AV.agg [AV.str an,I i,I t,I y,I n,AV.fsl false Da,AV.fsl false Ks]] (AV.tuple [AV.agg (ai o' M' N' L' C'),I e])∧ax (a9 Tryz.prog 51 (AV.agg (ai o' M' N' L' C')) 37) (Q (AV.tuple [AV.agg (ai o' M' N' L' C'),I e]))))):=by kernel_rfl
end Go.Proofs.YtlljinebapfdaaaGreatDoor
