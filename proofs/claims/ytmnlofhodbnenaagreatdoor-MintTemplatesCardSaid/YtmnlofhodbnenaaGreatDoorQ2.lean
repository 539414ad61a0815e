import Derived.Test.YtmnlofhodbnenaaGreatDoorProg
import Derived.Test.YtmnlofhodbnenaaGreatDoorG5
import Derived.KernelRfl
namespace Go.Proofs.YtmnlofhodbnenaaGreatDoor
open Go Go.RowKit
open Go.Proofs.Abs
abbrev I (n:Int):AV:= .int .i64 n
def iP:List (List UInt8):=[[85,110,105,113,117,101,32,73,100,101,110,116,105,102,105,101,114],[78,97,109,101],[79,98,106,101,99,116,32,84,121,112,101],[67,114,121,112,116,111,103,114,97,112,104,105,99,32,65,108,103,111,114,105,116,104,109],[67,114,121,112,116,111,103,114,97,112,104,105,99,32,76,101,110,103,116,104],[67,114,121,112,116,111,103,114,97,112,104,105,99,32,85,115,97,103,101,32,77,97,115,107],[83,116,97,116,101],[73,110,105,116,105,97,108,32,68,97,116,101],[65,99,116,105,118,97,116,105,111,110,32,68,97,116,101],[80,114,111,99,101,115,115,32,83,116,97,114,116,32,68,97,116,101],[80,114,111,116,101,99,116,32,83,116,111,112,32,68,97,116,101],[68,101,97,99,116,105,118,97,116,105,111,110,32,68,97,116,101],[68,101,115,116,114,111,121,32,68,97,116,101],[67,111,109,112,114,111,109,105,115,101,32,79,99,99,117,114,114,101,110,99,101,32,68,97,116,101],[67,111,109,112,114,111,109,105,115,101,32,68,97,116,101],[65,114,99,104,105,118,101,32,68,97,116,101],[76,97,115,116,32,67,104,97,110,103,101,32,68,97,116,101],[82,101,118,111,99,97,116,105,111,110,32,82,101,97,115,111,110],[76,105,110,107],[85,115,97,103,101,32,76,105,109,105,116,115],[120,45,97],[120,45,98],[120,45],[121]]
def gl:aP:=fun _=>none
theorem Tryz.mixed:Tryz.prog.follows .mixedOrders=true:=by kernel_rfl
noncomputable def opts0:bn:={how:=fun _=> .pure,summ:=fun _ _=>none,glob:=gl,lf:=100000}
theorem D6:∀g l,gl g=some l→ac l=true:=fun _ _ h=>by cases h
theorem base0:cU Tryz.prog opts0 40:=KA Tryz.mixed (fun _ _ _ h=>by cases h) D6
theorem gh:∀f args v,opts0.summ f args=some v→SemCall Tryz.prog opts0.glob f args v:=fun _ _ _ h=>by cases h
noncomputable def bm:aX:=jR (fun _ _=>none) (fun _=>none)
theorem cD:cQ Tryz.prog opts0 bm:=tZ gh
noncomputable def ap (hint:List (Nat × Nat × dU)) (ls:List (Nat × bq)) (sem:eP) (pure all:List Nat):aX:=DU Tryz.prog opts0 40 (oJ hint) (iM ls) sem (LZ pure all)
theorem ao {hint:List (Nat × Nat × dU)} {ls:List (Nat × bq)} {sem:eP} {pure all:List Nat}:cQ Tryz.prog opts0 (ap hint ls sem pure all):=L5 base0 gh
set_option maxRecDepth 20000 in
theorem gK {A:aX} {f:FuncId} {args:List AV} {v r:AV} (hA:cQ Tryz.prog opts0 A) (hl:iL Tryz.prog opts0.glob 0 A f) (hcl:ac args=true) (h:ax Tryz.prog opts0 40 A f args [] 0 (fun u H _=>(∃d,aW 0 H d u=some r)∧ah r=true)) (hw:Wk r v):SemCall Tryz.prog opts0.glob f args v:=(ji base0 hA hl hcl h).res hw
abbrev zL:List AV:=[AV.str [],I 0,I 0,I 0,I 0,AV.nilsl,I 0,AV.bool false,I 0,AV.bool false,I 0,AV.bool false,I 0,AV.bool false,I 0,AV.bool false,I 0,AV.bool false,I 0,AV.bool false,I 0,AV.bool false,I 0,AV.bool false,I 0,AV.bool false,I 0,I 0,AV.str [],AV.nilsl,AV.nilsl,AV.nilsl,AV.bool false,I 0,I 0,I 0,AV.bool false]
abbrev SC:=SemCall Tryz.prog opts0.glob
noncomputable section
abbrev bd:Nat:=1099511627776
def ag (t y n:Int) (D K:List AV):List AV:=[I t,I y,I n,.fsl false D,.fsl false K]
def oR (t y n t' y' n':Int) (D K D' K':List AV) (i:Nat):View:=⟨[(4,.bool false),(5,I (.ofNat i))],[(2,.ptr 0 0),(3,.ptr 1 0)],[(0,.cells (ag t y n D K),.whole),(1,.cells (ag t' y' n' D' K'),.whole)],2,62⟩
def smF:View:=⟨[(4,.bool false)],[],[],2,62⟩
def y7 (c c':List AV) (r:Bool):aX:=rt (oJ [(6,3,.res (.fptr c 0)),(6,8,.res (.fptr c' 0))]) (fun _=>none) (bg [(134,.bool r)])
abbrev m7 (D K:List AV) (n t y:Int):=[I t,I y,I n,AV.fsl false D,AV.fsl false K]
abbrev m8 (D' K':List AV) (n' t' y':Int):=[I t',I y',I n',AV.fsl false D',AV.fsl false K']
@[simp] abbrev ua:=(AV.bool false=AV.bool false∧true=true)
@[simp] abbrev D7:=((some 0=some 0∧0=0)∧(some 1=some 1∧0=0)∧True)
theorem D8 (t y n t' y' n' a b c a' b' c':Int) (D K D' K' E L E' L':List AV) (i:Nat) (r:Bool) (N:Prop) (Q:AExit→St→Prop):aI Tryz.prog opts0 40 (y7 (ag a b c E L) (ag a' b' c' E' L') r) (aD Tryz.prog 134 5) (oR t y n t' y' n' D K D' K' i).st (bf 0 [(0,0),(1,1)] (oR t y n t' y' n' D K D' K' (i+1)) N [] smF Q)=
  (ab (aq (Int.ofNat i) (Int.ofNat (aa K))) (aC Tryz.prog 24 (AV.fsl false K) (I (Int.ofNat i))=some (AV.fptr [I a,I b,I c,AV.fsl false E,AV.fsl false L] 0)∧aC Tryz.prog 24 (AV.fsl false K') (I (Int.ofNat i))=some (AV.fptr [I a',I b',I c',AV.fsl false E',AV.fsl false L'] 0)∧SC 134 [AV.agg [I a,I b,I c,AV.fsl false E,AV.fsl false L],AV.agg [I a',I b',I c',AV.fsl false E',AV.fsl false L']] (AV.bool r)∧ab (!r) (((ua∧True)∧True∧True)∧Q AExit.ret smF.st) (((ua∧(I (ar IntKind.i64 (Int.ofNat i+1))=I (Int.ofNat (i+1))∧ah (I (Int.ofNat (i+1)))=true)∧True)∧D7∧((m7 D K n t y)=(m7 D K n t y)∧ac (m7 D K n t y)=true)∧((m8 D' K' n' t' y')=(m8 D' K' n' t' y')∧ac (m8 D' K' n' t' y')=true)∧True)∧N)) (((ua∧True)∧True∧True)∧Q (AExit.exit 0) smF.st)):=by kernel_rfl
theorem dq (l:List It):(ad l).length=l.length:=by simp[jU]
theorem aU (t y n:Int) (d:List UInt8) (ks:List It):aG (.mk t y n d ks)= .agg (ag t y n (ai d) (ad ks)):=rfl
theorem bB {f:Bool} {ks:List It} {i:Nat} {t y n:Int} {d:List UInt8} {l:List It} (hx:ks[i]? =some (.mk t y n d l)):aC Tryz.prog 24 (.fsl f (ad ks)) (.int .i64 (.ofNat i))=some (.fptr (ag t y n (ai d) (ad l)) 0):=
 fN (v:=aG (.mk t y n d l)) (e:=26) (sz:=5) (by kernel_rfl) (by kernel_rfl) (by rw[jU,List.getElem?_map,hx];rfl) rfl
theorem D9 {t y n t' y' n':Int} {D D':List AV} {ks ks':List It} {Q:AExit→St→Prop} (hD:ac D=true) (hD':ac D'=true) (hb:ks.length≤bd) (hl:ks.length=ks'.length)
  (ih:∀ (i:Nat) (x z:It),ks[i]? =some x→ks'[i]? =some z→SC 134 [aG x,aG z] (.bool (dL x z))):
  ∀ (m i:Nat),i+m=ks.length→ab (ep (ks.drop i) (ks'.drop i)) (Q (.exit 0) smF.st) (Q .ret smF.st)→ALp Tryz.prog opts0.glob 0 (aD Tryz.prog 134 5) (oR t y n t' y' n' D (ad ks) D' (ad ks') i).st Q
 | 0,i,hi,hq=>by
  refine ALp.round (A:=y7 (ag 0 0 0 [] []) (ag 0 0 0 [] []) true) (V1:=oR t y n t' y' n' D (ad ks) D' (ad ks') (i+1)) (F:=smF) (lk:=[(0,0),(1,1)]) (lk':=[]) base0 (jS gh) (LsOk.no rfl) .refl ?_
  rw[D8]
  refine aj (fun h=> ?_) (fun _=> ?_)
  ·have h:=ltInt_iff.1 h
   simp only[aE,dq,Int.ofNat_eq_natCast] at h
   omega
  ·rw[List.drop_of_length_le (by omega),List.drop_of_length_le (by omega)] at hq
   exact ⟨by simp,hq⟩
 | m+1,i,hi,hq=>by
  have h1:i<ks.length:=by omega
  have h2:i<ks'.length:=by omega
  rw[List.drop_eq_getElem_cons h1,List.drop_eq_getElem_cons h2,ep] at hq
  have g1:ks[i]? =some ks[i]:=List.getElem?_eq_getElem h1
  have g2:ks'[i]? =some ks'[i]:=List.getElem?_eq_getElem h2
  have hs:=ih i _ _ g1 g2
  revert hs g1 g2 hq
  generalize ks[i]=x
  generalize ks'[i]=z
  intro hq g1 g2 hs
  obtain ⟨a,b,c,e,l⟩:=x
  obtain ⟨a',b',c',e',l'⟩:=z
  refine ALp.round (A:=y7 (ag a b c (ai e) (ad l)) (ag a' b' c' (ai e') (ad l')) (dL (.mk a b c e l) (.mk a' b' c' e' l'))) (V1:=oR t y n t' y' n' D (ad ks) D' (ad ks') (i+1)) (F:=smF) (lk:=[(0,0),(1,1)]) (lk':=[]) base0 (jS gh) (LsOk.no rfl) .refl ?_
  rw[D8]
  refine aj (fun _=>⟨bB g1,bB g2,hs,aj (fun h=> ?_) (fun h=> ?_)⟩) (fun h=> ?_)
  ·rw[Bool.not_eq_true'] at h
   rw[h] at hq
   exact ⟨by simp,hq⟩
  ·rw[Bool.not_eq_false'] at h
   rw[h] at hq
   have hb:ks.length≤1099511627776:=hb
   rw[eQ (by simp;omega) (by simp;omega)]
   refine ⟨by simp[ah,ac,hD,hD',cH],D9 hD hD' hb hl ih m (i+1) (by omega) hq⟩
  ·have h:=ltInt_false.1 h
   simp only[aE,dq,Int.ofNat_eq_natCast] at h
   omega
def Ea (t y n t' y' n':Int) (D K D' K':List AV) (p:Prop) (r:Bool):bq:=fun s Q=>p∧ck 0 [(0,0),(1,1)] (oR t y n t' y' n' D K D' K' 0) s∧ab r (Q (.exit 0) smF.st) (Q .ret smF.st)
def Eb (L:bq):aX:=rt (oJ []) (iM [(5,L)]) aH
abbrev rB (D D' K K':List AV) (Q:AV→af→Nat→Prop) (n n' t t' y y':Int):=(Q (AV.bool false) [(1,some (Blk.cells (m8 D' K' n' t' y'))),(0,some (Blk.cells (m7 D K n t y)))] 41)
theorem MW (t y n t' y' n':Int) (D K D' K':List AV) (p:Prop) (r:Bool) (Q:AV→af→Nat→Prop):ax Tryz.prog opts0 40 (Eb (Ea t y n t' y' n' D K D' K' p r)) 134 [.agg (ag t y n D K),.agg (ag t' y' n' D' K')] [] 0 Q=
  (ab (!ak t t') (rB D D' K K' Q n n' t t' y y') (ab (!ak y y') (rB D D' K K' Q n n' t t' y y') (ab (!ak n n') (rB D D' K K' Q n n' t t' y y') (au (cW D).isSome (au (cW D').isSome (ab (!aA (gH D) (gH D')) (rB D D' K K' Q n n' t t' y y') (ab (!ak (Int.ofNat (aa K)) (Int.ofNat (aa K'))) (rB D D' K K' Q n n' t t' y y') (p∧((ua∧(I 0=I 0∧true=true)∧True)∧D7∧((m7 D K n t y)=(m7 D K n t y)∧ac (m7 D K n t y)=true)∧((m8 D' K' n' t' y')=(m8 D' K' n' t' y')∧ac (m8 D' K' n' t' y')=true)∧True)∧ab r (Q (AV.bool true) [] 3) (Q (AV.bool false) [] 2))))))))):=by kernel_rfl
theorem MX:bu (cy Tryz.prog 134) 5=[aD Tryz.prog 134 5]:=by kernel_rfl
theorem MY {t y n t' y' n':Int} {d d':List UInt8} {ks ks':List It} (h:bO bd (.mk t y n d ks))
  (ih:∀ (i:Nat) (x z:It),ks[i]? =some x→ks'[i]? =some z→SC 134 [aG x,aG z] (.bool (dL x z))):
  SC 134 [aG (.mk t y n d ks),aG (.mk t' y' n' d' ks')] (.bool (dL (.mk t y n d ks) (.mk t' y' n' d' ks'))):=by
 simp only[bO] at h
 obtain ⟨h3,h4,h5⟩:=h
 refine ji (A:=Eb (Ea t y n t' y' n' (ai d) (ad ks) (ai d') (ad ks') (ks.length=ks'.length) (ep ks ks'))) base0 (jS gh)
  (aw (LsOk.at1 rfl MX fun s Q hs=> .seen base0.glob hs.2.1 (D9 (by simp) (by simp) h4 hs.1 ih ks.length 0 (by omega) (by simpa using hs.2.2)))) (by simp[ac,bG]) ?_
 rw[aU,aU,MW]
 simp only[dL]
 refine aj (fun e=> ?_) (fun e=>aj (fun e2=> ?_) (fun e2=>aj (fun e3=> ?_) (fun e3=>aF (by simp) (aF (by simp) (aj (fun e4=> ?_) (fun e4=>aj (fun e5=> ?_) (fun e5=>⟨?_,by simp[ac,ah,cH],aj (fun e6=> ?_) (fun e6=> ?_)⟩)))))))
 ·exact jW (by simp_all)
 ·exact jW (by simp_all)
 ·exact jW (by simp_all)
 ·exact jW (by simp_all)
 ·have hne:ep ks ks'=false:=by
   cases hs:ep ks ks' with
   |false=>rfl
   |true=>
    rw[aE,aE,dq,dq,DW hs,Bool.not_eq_true',beqInt_false] at e5
    exact absurd rfl e5
  exact jW (by simp[hne])
 ·rw[Bool.not_eq_false',beqInt_iff,aE,aE,dq,dq] at e5
  exact Int.ofNat.inj e5
 ·exact jW (by simp_all)
 ·exact jW (by simp_all)
mutual
theorem Ec:∀x z:It,bO bd x→SC 134 [aG x,aG z] (.bool (dL x z))
 | .mk _ _ _ _ ks,.mk _ _ _ _ _ks',h=>MY h fun _i x z hx _=>Ed ks x (List.mem_of_getElem? hx) z (okIs_iff.1 h.2.2 x (List.mem_of_getElem? hx))
theorem Ed:∀ks:List It,∀x∈ks,∀z,bO bd x→SC 134 [aG x,aG z] (.bool (dL x z))
 |[],_,hx,_,_=>by cases hx
 |k::r,x,hx,z,h=>by
  have h1:=Ec k z
  have h2:=Ed r x
  rcases List.mem_cons.1 hx with e|hx
  ·rw[e] at h⊢;exact h1 h
  ·exact h2 hx z h
end
end
theorem MZ (Q:AV→af→Nat→Prop):ax Tryz.prog opts0 40 bm 34 [.nilsl] [] 0 Q=
  (Q AV.nilsl [] 4):=by kernel_rfl
theorem M0 (Q:AV→af→Nat→Prop):ax Tryz.prog opts0 40 bm 34 [.nesl] [] 0 Q=
  (Q (AV.fsl true []) [] 7):=by kernel_rfl
theorem M1 (a:AV) (es:List AV) (Q:AV→af→Nat→Prop):ax Tryz.prog opts0 40 bm 34 [.fsl false (a::es)] [] 0 Q=
  (au (a8 1 (a::es)&&(((0+aa (a::es))*1).ble 140737488355328&&true)) (Q (AV.rsl true 5 0 (0+aa (a::es)) 1) [(5,some (Blk.cells (flat (a::es))))] 7)):=by kernel_rfl
theorem Ee {l:List AV} (hl:∀e∈l,ei 1 e) (hc:ac l=true) (hn:l.length≤bd):SC 34 [.fsl false l] (.fsl false l):=by
 cases l with
 |nil=>
  refine SemCall.empty (gK (A:=bm) (r:= .nilsl) cD (aw (LsOk.no rfl)) rfl ?_ .nil) (gK (A:=bm) (r:= .fsl true []) cD (aw (LsOk.no rfl)) rfl ?_ .full)
  ·rw[MZ];exact jk rfl
  ·rw[M0];exact jk rfl
 | cons a es=>
  have hcl:ac [.fsl false (a::es)]=true:=by rw[ac,ah,hc];rfl
  refine gK (A:=bm) (r:= .fsl false (a::es)) cD (aw (LsOk.no rfl)) hcl ?_ (.refl _)
  rw[M1]
  have h1:a8 1 (a::es)=true:=allSize_iff.2 fun e he=>(hl e he).1
  refine oblB_iff.2 ⟨?_, ?_⟩
  ·have hn:es.length+1≤1099511627776:=hn
   simp only[Bool.and_eq_true,Nat.ble_eq,aE] at h1⊢
   first|exact ⟨h1,by omega⟩|exact ⟨h1,by simp only[List.length_cons];omega⟩|(simp_all;omega)
  ·exact rA (Frz.row rfl rfl rfl (by first|rfl|simp[aE]) hl hc) hc
theorem M2 (Q:AV→af→Nat→Prop):ax Tryz.prog opts0 40 bm 35 [.nilsl] [] 0 Q=
  (Q AV.nilsl [] 4):=by kernel_rfl
theorem M3 (Q:AV→af→Nat→Prop):ax Tryz.prog opts0 40 bm 35 [.nesl] [] 0 Q=
  (Q (AV.fsl true []) [] 7):=by kernel_rfl
theorem M4 (a:AV) (es:List AV) (Q:AV→af→Nat→Prop):ax Tryz.prog opts0 40 bm 35 [.fsl false (a::es)] [] 0 Q=
  (au (a8 1 (a::es)&&(((0+aa (a::es))*16).ble 140737488355328&&true)) (Q (AV.rsl true 5 0 (0+aa (a::es)) 1) [(5,some (Blk.cells (flat (a::es))))] 7)):=by kernel_rfl
theorem M5 {l:List AV} (hl:∀e∈l,ei 1 e) (hc:ac l=true) (hn:l.length≤bd):SC 35 [.fsl false l] (.fsl false l):=by
 cases l with
 |nil=>
  refine SemCall.empty (gK (A:=bm) (r:= .nilsl) cD (aw (LsOk.no rfl)) rfl ?_ .nil) (gK (A:=bm) (r:= .fsl true []) cD (aw (LsOk.no rfl)) rfl ?_ .full)
  ·rw[M2];exact jk rfl
  ·rw[M3];exact jk rfl
 | cons a es=>
  have hcl:ac [.fsl false (a::es)]=true:=by rw[ac,ah,hc];rfl
  refine gK (A:=bm) (r:= .fsl false (a::es)) cD (aw (LsOk.no rfl)) hcl ?_ (.refl _)
  rw[M4]
  have h1:a8 1 (a::es)=true:=allSize_iff.2 fun e he=>(hl e he).1
  refine oblB_iff.2 ⟨?_, ?_⟩
  ·have hn:es.length+1≤1099511627776:=hn
   simp only[Bool.and_eq_true,Nat.ble_eq,aE] at h1⊢
   first|exact ⟨h1,by omega⟩|exact ⟨h1,by simp only[List.length_cons];omega⟩|(simp_all;omega)
  ·exact rA (Frz.row rfl rfl rfl (by first|rfl|simp[aE]) hl hc) hc
theorem M6 (Q:AV→af→Nat→Prop):ax Tryz.prog opts0 40 bm 36 [.nilsl] [] 0 Q=
  (Q AV.nilsl [] 4):=by kernel_rfl
theorem M7 (Q:AV→af→Nat→Prop):ax Tryz.prog opts0 40 bm 36 [.nesl] [] 0 Q=
  (Q (AV.fsl true []) [] 7):=by kernel_rfl
theorem M8 (a:AV) (es:List AV) (Q:AV→af→Nat→Prop):ax Tryz.prog opts0 40 bm 36 [.fsl false (a::es)] [] 0 Q=
  (au (a8 2 (a::es)&&(((0+aa (a::es))*24).ble 140737488355328&&true)) (Q (AV.rsl true 5 0 (0+aa (a::es)) 2) [(5,some (Blk.cells (flat (a::es))))] 7)):=by kernel_rfl
theorem M9 {l:List AV} (hl:∀e∈l,ei 2 e) (hc:ac l=true) (hn:l.length≤bd):SC 36 [.fsl false l] (.fsl false l):=by
 cases l with
 |nil=>
  refine SemCall.empty (gK (A:=bm) (r:= .nilsl) cD (aw (LsOk.no rfl)) rfl ?_ .nil) (gK (A:=bm) (r:= .fsl true []) cD (aw (LsOk.no rfl)) rfl ?_ .full)
  ·rw[M6];exact jk rfl
  ·rw[M7];exact jk rfl
 | cons a es=>
  have hcl:ac [.fsl false (a::es)]=true:=by rw[ac,ah,hc];rfl
  refine gK (A:=bm) (r:= .fsl false (a::es)) cD (aw (LsOk.no rfl)) hcl ?_ (.refl _)
  rw[M8]
  have h1:a8 2 (a::es)=true:=allSize_iff.2 fun e he=>(hl e he).1
  refine oblB_iff.2 ⟨?_, ?_⟩
  ·have hn:es.length+1≤1099511627776:=hn
   simp only[Bool.and_eq_true,Nat.ble_eq,aE] at h1⊢
   first|exact ⟨h1,by omega⟩|exact ⟨h1,by simp only[List.length_cons];omega⟩|(simp_all;omega)
  ·exact rA (Frz.row rfl rfl rfl (by first|rfl|simp[aE]) hl hc) hc
theorem Na (Q:AV→af→Nat→Prop):ax Tryz.prog opts0 40 bm 37 [.nilsl] [] 0 Q=
  (Q AV.nilsl [] 4):=by kernel_rfl
theorem Nb (Q:AV→af→Nat→Prop):ax Tryz.prog opts0 40 bm 37 [.nesl] [] 0 Q=
  (Q (AV.fsl true []) [] 7):=by kernel_rfl
theorem Nc (a:AV) (es:List AV) (Q:AV→af→Nat→Prop):ax Tryz.prog opts0 40 bm 37 [.fsl false (a::es)] [] 0 Q=
  (au (a8 2 (a::es)&&(((0+aa (a::es))*32).ble 140737488355328&&true)) (Q (AV.rsl true 5 0 (0+aa (a::es)) 2) [(5,some (Blk.cells (flat (a::es))))] 7)):=by kernel_rfl
theorem Nd {l:List AV} (hl:∀e∈l,ei 2 e) (hc:ac l=true) (hn:l.length≤bd):SC 37 [.fsl false l] (.fsl false l):=by
 cases l with
 |nil=>
  refine SemCall.empty (gK (A:=bm) (r:= .nilsl) cD (aw (LsOk.no rfl)) rfl ?_ .nil) (gK (A:=bm) (r:= .fsl true []) cD (aw (LsOk.no rfl)) rfl ?_ .full)
  ·rw[Na];exact jk rfl
  ·rw[Nb];exact jk rfl
 | cons a es=>
  have hcl:ac [.fsl false (a::es)]=true:=by rw[ac,ah,hc];rfl
  refine gK (A:=bm) (r:= .fsl false (a::es)) cD (aw (LsOk.no rfl)) hcl ?_ (.refl _)
  rw[Nc]
  have h1:a8 2 (a::es)=true:=allSize_iff.2 fun e he=>(hl e he).1
  refine oblB_iff.2 ⟨?_, ?_⟩
  ·have hn:es.length+1≤1099511627776:=hn
   simp only[Bool.and_eq_true,Nat.ble_eq,aE] at h1⊢
   first|exact ⟨h1,by omega⟩|exact ⟨h1,by simp only[List.length_cons];omega⟩|(simp_all;omega)
  ·exact rA (Frz.row rfl rfl rfl (by first|rfl|simp[aE]) hl hc) hc
end Go.Proofs.YtmnlofhodbnenaaGreatDoor
namespace Go.Proofs.YtmnlofhodbnenaaGreatDoor
set_option maxRecDepth 20000
open Go Go.RowKit
open Go.Proofs.Abs
noncomputable section
abbrev fm (D K:List AV) (n t y:Int):=[(0,some (Blk.cells [I t,I y,I n,AV.fsl false D,AV.fsl false K]))]
abbrev g8 (D K:List AV) (Q:AV→af→Nat→Prop) (n t y:Int):=(Q (AV.bool (ak n 0)) (fm D K n t y) 54)
abbrev lj (D K:List AV) (Q:AV→af→Nat→Prop) (n t y:Int):=(Q (AV.bool false) (fm D K n t y) 54)
theorem Nf (t y n tag kind:Int) (D K:List AV) (Q:AV→af→Nat→Prop):ax Tryz.prog opts0 40 bm 53 [.agg (ag t y n D K),I tag,I kind] [] 0 Q=
  (ab (ak kind 7) (ab (ak t tag) (ab (ak y kind) (ab (ak kind 1) (ab (!ak kind 1) (g8 D K Q n t y) (g8 D K Q n t y)) (ab (ak (Int.ofNat (aa K)) 0) (ab (!ak kind 1) (g8 D K Q n t y) (g8 D K Q n t y)) (lj D K Q n t y))) (lj D K Q n t y)) (lj D K Q n t y)) (ab (ak t tag) (ab (ak y kind) (ab (ak kind 1) (ab (ak kind 8) (ab (!ak kind 1) (ab (!ak kind 8) (Q (AV.bool true) (fm D K n t y) 54) (g8 D K Q n t y)) (g8 D K Q n t y)) (ab (ak (Int.ofNat (aa D)) 0) (ab (!ak kind 1) (ab (!ak kind 8) (Q (AV.bool true) (fm D K n t y) 54) (g8 D K Q n t y)) (g8 D K Q n t y)) (lj D K Q n t y))) (ab (ak (Int.ofNat (aa K)) 0) (ab (ak kind 8) (ab (!ak kind 1) (ab (!ak kind 8) (Q (AV.bool true) (fm D K n t y) 54) (g8 D K Q n t y)) (g8 D K Q n t y)) (ab (ak (Int.ofNat (aa D)) 0) (ab (!ak kind 1) (ab (!ak kind 8) (Q (AV.bool true) (fm D K n t y) 54) (g8 D K Q n t y)) (g8 D K Q n t y)) (lj D K Q n t y))) (lj D K Q n t y))) (lj D K Q n t y)) (lj D K Q n t y))):=by kernel_rfl
abbrev ll (D K:List AV) (Q:AV→af→Nat→Prop) (n t y:Int):=(Q (AV.bool (ak n 0)) (fm D K n t y) 48)
theorem Ng (t y n tag kind:Int) (D K:List AV) (Q:AV→af→Nat→Prop):ax Tryz.prog opts0 40 bm 38 [.agg (ag t y n D K),I tag,I kind] [] 0 Q=
  (ab (ak t tag) (ab (ak y kind) (ab (ak kind 1) (ab (ak kind 7) (ab (!ak kind 7) (ab (!ak kind 1) (Q (AV.bool true) (fm D K n t y) 48) (ll D K Q n t y)) (ll D K Q n t y)) (ab (ak (Int.ofNat (aa D)) 0) (ab (!ak kind 7) (ab (!ak kind 1) (Q (AV.bool true) (fm D K n t y) 48) (ll D K Q n t y)) (ll D K Q n t y)) (Q (AV.bool false) (fm D K n t y) 48))) (ab (ak (Int.ofNat (aa K)) 0) (ab (ak kind 7) (ab (!ak kind 7) (ab (!ak kind 1) (Q (AV.bool true) (fm D K n t y) 48) (ll D K Q n t y)) (ll D K Q n t y)) (ab (ak (Int.ofNat (aa D)) 0) (ab (!ak kind 7) (ab (!ak kind 1) (Q (AV.bool true) (fm D K n t y) 48) (ll D K Q n t y)) (ll D K Q n t y)) (Q (AV.bool false) (fm D K n t y) 48))) (Q (AV.bool false) (fm D K n t y) 48))) (Q (AV.bool false) (fm D K n t y) 48)) (Q (AV.bool false) (fm D K n t y) 48)):=by kernel_rfl
def ub (kind:Int):Bool:=ak kind 7||ak kind 8
def y8 (t y n tag kind:Int) (d k:Nat):Bool:=ak t tag&&(ak y kind&&((ak kind 1||ak (.ofNat k) 0)&&((ub kind||ak (.ofNat d) 0)&&((!ak kind 1&& !ub kind)||ak n 0))))
def bp:It→Int→Int→Bool
 | .mk t y n d k,tag,kind=>y8 t y n tag kind d.length k.length
theorem lm (x:It) (tag kind:Int):SC 53 [aG x,I tag,I kind] (.bool (bp x tag kind)):=by
 obtain ⟨t,y,n,d,ks⟩:=x
 refine ji (A:=bm) base0 cD (aw (LsOk.no rfl)) (by simp[ac,bG,ah]) ?_
 rw[aU,Nf]
 simp only[mW]
 simp only[aE,dq]
 repeat' refine aj (fun _=> ?_) (fun _=> ?_)
 all_goals exact jW (by simp_all [bp,y8,ub])
def isI:It→Int→Int→Bool
 | .mk t y n d k,tag,kind=>ak t tag&&(ak y kind&&((ak kind 1||ak (.ofNat k.length) 0)&&((ak kind 7||ak (.ofNat d.length) 0)&&((!ak kind 7&& !ak kind 1)||ak n 0))))
theorem gL (x:It) (tag kind:Int):SC 38 [aG x,I tag,I kind] (.bool (isI x tag kind)):=by
 obtain ⟨t,y,n,d,ks⟩:=x
 refine ji (A:=bm) base0 cD (aw (LsOk.no rfl)) (by simp[ac,bG,ah]) ?_
 rw[aU,Ng]
 simp only[mW]
 simp only[aE,dq]
 repeat' refine aj (fun _=> ?_) (fun _=> ?_)
 all_goals exact jW (by simp_all [isI])
theorem gM (x:It) (tag:Int) {kind:Int} (h:kind≠8):isI x tag kind=bp x tag kind:=by
 have h8:ak kind 8=false:=beqInt_false.2 h
 obtain ⟨t,y,n,d,ks⟩:=x
 simp only[isI,bp,y8,ub,h8,Bool.or_false]
 cases ak kind 1<;>cases ak kind 7<;>rfl
def uc:List AV:=[I 0,I 0,I 0,.nilsl,.nilsl]
def jX (t y n:Int) (D K:List AV):View:=⟨[(11,.fsl false K),(12,I (.ofNat (aa K))),(13,I 0),(3,.nilsl)],[(1,.ptr 0 0),(2,.ptr 1 0)],[(0,.cells (ag t y n D K),.whole),(1,.cells uc,.whole)],3,26⟩
def fO (t y n:Int) (D K:List AV) (i:Nat) (es:List AV):View:=⟨[(11,.fsl false K),(12,I (.ofNat (aa K))),(13,I (.ofNat i))],[(1,.ptr 0 0),(2,.ptr 1 0),(3,.rsl true 2 0 i 5)],[(0,.cells (ag t y n D K),.whole),(1,.cells uc,.whole),(2,.cells es,.whole)],3,26⟩
def oS (c:List AV):aX:=rt (oJ [(5,0,.res (.fptr c 0))]) (fun _=>none) (bg [(189,.agg c)])
@[simp] abbrev ud (D K:List AV) (n t y:Int):=([I t,I y,I n,AV.fsl false D,AV.fsl false K]=[I t,I y,I n,AV.fsl false D,AV.fsl false K]∧ac [I t,I y,I n,AV.fsl false D,AV.fsl false K]=true)
abbrev jl:=[I 0,I 0,I 0,AV.nilsl,AV.nilsl]
@[simp] abbrev ue (K:List AV):=(I (Int.ofNat (aa K))=I (Int.ofNat (aa K))∧ah (I (Int.ofNat (aa K)))=true)
@[simp] abbrev uf (K:List AV):=(AV.fsl false K=AV.fsl false K∧ah (AV.fsl false K)=true)
@[simp] abbrev ug:=(some 0=some 0∧0=0)
@[simp] abbrev uh:=(some 1=some 1∧0=0)
@[simp] abbrev y9 (D K:List AV) (n t y:Int):=(((uf K)∧(ue K)∧(I 0=I 0∧true=true)∧(AV.nilsl=AV.nilsl∧true=true)∧True)∧(ug∧uh∧True)∧(ud D K n t y)∧(jl=jl∧true=true)∧True)
abbrev gN (E L:List AV) (a b c:Int):=[I a,I b,I c,AV.fsl false E,AV.fsl false L]
theorem Ef (t y n a b c:Int) (D K E L:List AV) (es:List AV) (N:Prop) (Q:AExit→St→Prop):aI Tryz.prog opts0 40 (oS (ag a b c E L)) (aD Tryz.prog 189 5) (jX t y n D K).st (bf 0 [(0,0),(1,1),(2,12)] (fO t y n D K 1 es) N [(0,0),(1,1)] (jX t y n D K) Q)=
  (ab (aq 0 (Int.ofNat (aa K))) (aC Tryz.prog 24 (AV.fsl false K) (I 0)=some (AV.fptr (gN E L a b c) 0)∧SC 189 [AV.agg (gN E L a b c)] (AV.agg (gN E L a b c))∧(((uf K)∧(ue K)∧(I 1=I 1∧true=true)∧True)∧(ug∧uh∧(true=true∧some 12=some 12∧0=0∧1=aa [AV.agg (gN E L a b c)]∧5=5)∧True)∧(ud D K n t y)∧(jl=jl∧true=true)∧(flat [AV.agg (gN E L a b c)]=es∧ac es=true)∧True)∧N) ((y9 D K n t y)∧Q (AExit.exit 0) (jX t y n D K).st)):=by kernel_rfl
theorem Eg (t y n a b c:Int) (D K E L:List AV) (i j:Nat) (es es':List AV) (N:Prop) (Q:AExit→St→Prop):aI Tryz.prog opts0 40 (oS (ag a b c E L)) (aD Tryz.prog 189 5) (fO t y n D K i es).st (bf 0 [(0,0),(1,1),(2,12)] (fO t y n D K j es') N [(0,0),(1,1),(2,2)] (fO t y n D K i es) Q)=
  (ab (aq (Int.ofNat i) (Int.ofNat (aa K))) (aC Tryz.prog 24 (AV.fsl false K) (I (Int.ofNat i))=some (AV.fptr (gN E L a b c) 0)∧SC 189 [AV.agg (gN E L a b c)] (AV.agg (gN E L a b c))∧au (a8 5 [AV.agg (gN E L a b c)]&&(((i+aa [AV.agg (gN E L a b c)])*72).ble 140737488355328&&(bc (flat [AV.agg (gN E L a b c)])&&true))) (au ((aa es).beq (i*5)) ((((uf K)∧(ue K)∧(I (ar IntKind.i64 (Int.ofNat i+1))=I (Int.ofNat j)∧ah (I (Int.ofNat j))=true)∧True)∧(ug∧uh∧(true=true∧some 12=some 12∧0=0∧j=i+aa [AV.agg (gN E L a b c)]∧5=5)∧True)∧(ud D K n t y)∧(jl=jl∧true=true)∧(es++flat [AV.agg (gN E L a b c)]=es'∧ac es'=true)∧True)∧N))) ((((uf K)∧(ue K)∧(I (Int.ofNat i)=I (Int.ofNat i)∧ah (I (Int.ofNat i))=true)∧True)∧(ug∧uh∧(true=true∧some 2=some 2∧0=0∧i=i∧5=5)∧True)∧(ud D K n t y)∧(jl=jl∧true=true)∧(es=es∧ac es=true)∧True)∧Q (AExit.exit 0) (fO t y n D K i es).st)):=by kernel_rfl
def Eh (t y n:Int) (D K:List AV):bq:=fun s Q=>ck 0 [(0,0),(1,1)] (jX t y n D K) s∧Q (.exit 0) (jX t y n D K).st
def Ei (t y n:Int) (D K:List AV) (es:List AV):bq:=fun s Q=>ck 0 [(0,0),(1,1)] (jX t y n D K) s∧Q (.exit 0) (fO t y n D K (aa K) es).st
def ui (D:List AV) (L:bq):aX:=rt (oJ []) (iM [(5,L)]) (bg [(34,.fsl false D)])
theorem Nh (t y n:Int) (D K:List AV) (Q:AV→af→Nat→Prop):ax Tryz.prog opts0 40 (ui D (Eh t y n D K)) 189 [.agg (ag t y n D K)] [] 0 Q=
  (SC 34 [AV.fsl false D] (AV.fsl false D)∧(y9 D K n t y)∧Q (AV.agg [I t,I y,I n,AV.fsl false D,AV.nilsl]) [(1,some (Blk.cells [I t,I y,I n,AV.fsl false D,AV.nilsl])),(0,some (Blk.cells [I t,I y,I n,AV.fsl false D,AV.nilsl])),(1,some (Blk.cells jl))] 8):=by kernel_rfl
theorem Ni (t y n:Int) (D K:List AV) (es:List AV) (Q:AV→af→Nat→Prop):ax Tryz.prog opts0 40 (ui D (Ei t y n D K es)) 189 [.agg (ag t y n D K)] [] 0 Q=
  (SC 34 [AV.fsl false D] (AV.fsl false D)∧(y9 D K n t y)∧Q (AV.agg [I t,I y,I n,AV.fsl false D,AV.rsl true 2 0 (aa K) 5]) [(1,some (Blk.cells [I t,I y,I n,AV.fsl false D,AV.rsl true 2 0 (aa K) 5])),(0,some (Blk.cells [I t,I y,I n,AV.fsl false D,AV.rsl true 2 0 (aa K) 5])),(1,some (Blk.cells jl)),(2,some (Blk.cells es))] 8):=by kernel_rfl
theorem Ej:bu (cy Tryz.prog 189) 5=[aD Tryz.prog 189 5]:=by kernel_rfl
theorem Nj (x:It):ei 5 (aG x):=by cases x;exact ⟨rfl,rfl⟩
theorem oT {ks:List It}:∀e∈ad ks,ei 5 e:=fun e he=>by
 rw[jU] at he
 obtain ⟨x,_,rfl⟩:=List.mem_map.1 he
 exact Nj x
theorem uj (a b:List It):ad (a++b)=ad a++ad b:=by simp[jU]
def bT (ks:List It) (i:Nat):List AV:=flat (ad (ks.take i))
theorem uk {ks:List It} {i:Nat} {x:It} (h:ks[i]? =some x):bT ks i++flat [aG x]=bT ks (i+1):=by
 have:ks.take (i+1)=ks.take i++[x]:=by rw[List.take_add_one,h];rfl
 simp only[bT,this,uj,ej,ad]
theorem rC:∀l:List It,(flat (ad l)).length=l.length*5
 |[]=>rfl
 | .mk _ _ _ _ _::r=>by simp only[ad,flat,aG,AV.cells,List.length_append,rC r,List.length_cons,List.length_nil];omega
theorem Ek {ks:List It} {i:Nat} (h:i≤ks.length):(bT ks i).length=i*5:=by rw[bT,rC,List.length_take,Nat.min_eq_left h]
theorem rD:∀ {l:List AV},ac l=true→(∀e∈l,ac e.cells=true)→ac (flat l)=true
  |[],_,_=>rfl
  | a::t,h,h2=>by
    simp only[ac,Bool.and_eq_true] at h
    have:=rD h.2 fun e he=>h2 e (by simp[he])
    have h1:=h2 a (by simp)
    simp only[flat]
    exact closed_app h1 this
 where
  closed_app:∀ {a b:List AV},ac a=true→ac b=true→ac (a++b)=true
    |[],_,_,h=>h
    | x::r,_,h,h'=>by
      simp only[ac,Bool.and_eq_true] at h
      simp only[List.cons_append,ac,h.1,closed_app h.2 h',Bool.and_self]
theorem m9 {ks:List It} {i:Nat}:ac (bT ks i)=true:=rD (cH _) fun e he=>by
 rw[jU] at he
 obtain ⟨x,_,rfl⟩:=List.mem_map.1 he
 have:=bG x
 cases x
 exact this
theorem El {t y n:Int} {D:List AV} {ks:List It} {Q:AExit→St→Prop} (hD:ac D=true) (hb:ks.length≤bd)
  (ih:∀ (i:Nat) (x:It),ks[i]? =some x→SC 189 [aG x] (aG x)) (hq:Q (.exit 0) (fO t y n D (ad ks) ks.length (bT ks ks.length)).st):
  ∀ (m i:Nat),i+m=ks.length→0<i→ALp Tryz.prog opts0.glob 0 (aD Tryz.prog 189 5) (fO t y n D (ad ks) i (bT ks i)).st Q
 |0,i,hi,_=>by
  obtain rfl:i=ks.length:=by omega
  refine ALp.round (A:=oS (ag 0 0 0 [] [])) (V1:=fO t y n D (ad ks) 0 []) (F:=fO t y n D (ad ks) ks.length (bT ks ks.length)) (lk:=[(0,0),(1,1),(2,12)]) (lk':=[(0,0),(1,1),(2,2)]) base0 (jS gh) (LsOk.no rfl) .refl ?_
  rw[Eg]
  refine aj (fun h=> ?_) (fun _=>⟨by simp[ah,ac,hD,cH,m9],hq⟩)
  rw[aE,dq] at h
  have h:(ks.length:Int)<ks.length:=ltInt_iff.1 h
  omega
 | m+1,i,hi,h0=>by
  have h1:i<ks.length:=by omega
  have g1:ks[i]? =some ks[i]:=List.getElem?_eq_getElem h1
  have hs:=ih i _ g1
  have hE:=uk g1
  revert hs g1 hE
  generalize ks[i]=x
  intro g1 hs hE
  obtain ⟨a,b,c,e,l⟩:=x
  rw[aU] at hs hE
  refine ALp.round (A:=oS (ag a b c (ai e) (ad l))) (V2:=fO t y n D (ad ks) (i+1) (bT ks (i+1))) (F:=fO t y n D (ad ks) i (bT ks i)) (lk:=[(0,0),(1,1),(2,12)]) (lk':=[(0,0),(1,1),(2,2)]) base0 (jS gh) (LsOk.no rfl) .refl ?_
  rw[Eg]
  refine aj (fun _=>And.intro (bB g1) (And.intro hs (aF ?_ (aF ?_ (And.intro ?_ ?_))))) (fun h=> ?_)
  ·simp[a8,aa,AV.cells,flat,bc]
   have hb:ks.length≤1099511627776:=hb
   omega
  ·rw[beq_iff,aE,Ek (by omega)]
  ·have hb:ks.length≤1099511627776:=hb
   rw[eQ (by simp;omega) (by simp;omega)]
   simp only[ag] at hE
   simp[ah,ac,hD,cH,m9,hE,aa]
  ·exact El hD hb ih hq m (i+1) (by omega) (by omega)
  ·rw[aE,dq] at h
   have h:(ks.length:Int)≤i:=ltInt_false.1 h
   omega
theorem Nk {t y n:Int} {D:List AV} {ks:List It} {Q:AExit→St→Prop} (hD:ac D=true) (hb:ks.length≤bd) (h0:ks≠[])
  (ih:∀ (i:Nat) (x:It),ks[i]? =some x→SC 189 [aG x] (aG x)) (hq:Q (.exit 0) (fO t y n D (ad ks) ks.length (bT ks ks.length)).st):
  ALp Tryz.prog opts0.glob 0 (aD Tryz.prog 189 5) (jX t y n D (ad ks)).st Q:=by
 have hpos:0<ks.length:=List.length_pos_iff.2 h0
 have g1:ks[0]? =some ks[0]:=List.getElem?_eq_getElem hpos
 have hs:=ih 0 _ g1
 have hE:=uk g1
 have hE0:bT ks 0=[]:=rfl
 revert hs g1 hE
 generalize ks[0]=x
 intro g1 hs hE
 rw[hE0,List.nil_append] at hE
 obtain ⟨a,b,c,e,l⟩:=x
 rw[aU] at hs hE
 refine ALp.round (A:=oS (ag a b c (ai e) (ad l))) (V2:=fO t y n D (ad ks) 1 (bT ks 1)) (F:=jX t y n D (ad ks)) (lk:=[(0,0),(1,1),(2,12)]) (lk':=[(0,0),(1,1)]) base0 (jS gh) (LsOk.no rfl) .refl ?_
 rw[Ef]
 refine aj (fun _=>And.intro (bB (i:=0) g1) (And.intro hs (And.intro ?_ ?_))) (fun h=> ?_)
 ·simp only[ag] at hE
  simp[ah,ac,hD,cH,m9,hE,aa]
 ·exact El hD hb ih hq (ks.length-1) 1 (by omega) (by omega)
 ·rw[aE,dq] at h
  have h:(ks.length:Int)≤0:=ltInt_false.1 h
  omega
theorem Nl {t y n:Int} {d:List UInt8} {ks:List It} (h:bO bd (.mk t y n d ks))
  (ih:∀ (i:Nat) (x:It),ks[i]? =some x→SC 189 [aG x] (aG x)):
  SC 189 [aG (.mk t y n d ks)] (aG (.mk t y n d ks)):=by
 simp only[bO] at h
 obtain ⟨h3,h4,h5⟩:=h
 have hcl:=Ee (l:=ai d) yr (by simp) (by rw[←aE,mW];exact h3)
 cases ks with
 | nil=>
  refine gK (A:=ui (ai d) (Eh t y n (ai d) [])) (r:= .agg [I t,I y,I n,.fsl false (ai d),.nilsl]) (jS gh)
   (aw (LsOk.at1 rfl Ej fun s Q hs=> .seen base0.glob hs.1 ?_)) (by simp[ac,bG]) ?_ (Wk.agg (.cons (.refl _) (.cons (.refl _) (.cons (.refl _) (.cons (.refl _) (.cons .nil .nil))))))
  ·refine ALp.round (A:=oS (ag 0 0 0 [] [])) (V1:=fO t y n (ai d) [] 1 []) (F:=jX t y n (ai d) []) (lk:=[(0,0),(1,1),(2,12)]) (lk':=[(0,0),(1,1)]) base0 (jS gh) (LsOk.no rfl) .refl ?_
   rw[Ef]
   refine aj (fun h=> ?_) (fun _=>⟨by simp[ah,ac],hs.2⟩)
   have h:(0:Int)<0:=ltInt_iff.1 h
   omega
  ·rw[aU]
   simp only[ad]
   rw[Nh]
   exact And.intro hcl (And.intro (by simp[ah,ac]) (jk (by simp[ah,ac])))
 | cons k r=>
  refine ji (A:=ui (ai d) (Ei t y n (ai d) (ad (k::r)) (bT (k::r) (k::r).length))) base0 (jS gh)
   (aw (LsOk.at1 rfl Ej fun s Q hs=> .seen base0.glob hs.1 (Nk (by simp) h4 (by simp) ih (by have:=hs.2;rw[aE,dq] at this;exact this)))) (by simp[ac,bG]) ?_
  rw[aU,Ni]
  refine And.intro hcl (And.intro (by simp[ah,ac,cH]) ?_)
  refine rA (Frz.agg (FrzL.cons (Frz.closed _ rfl) (FrzL.cons (Frz.closed _ rfl) (FrzL.cons (Frz.closed _ rfl) (FrzL.cons (Frz.closed _ (by simp[ah])) (FrzL.cons (Frz.row (es:=ad (k::r)) rfl rfl ?_ ?_ oT (cH _)) FrzL.nil)))))) (by simp[ag,ah,ac,cH])
  ·rw[bT,List.take_length]
  ·rw[aE]
mutual
theorem za:∀x:It,bO bd x→SC 189 [aG x] (aG x)
 | .mk _ _ _ _ ks,h=>Nl h fun _i x hx=>Em ks x (List.mem_of_getElem? hx) (okIs_iff.1 h.2.2 x (List.mem_of_getElem? hx))
theorem Em:∀ks:List It,∀x∈ks,bO bd x→SC 189 [aG x] (aG x)
 |[],_,hx,_=>by cases hx
 |k::r,x,hx,h=>by
  have h1:=za k
  have h2:=Em r x
  rcases List.mem_cons.1 hx with e|hx
  ·rw[e] at h⊢;exact h1 h
  ·exact h2 hx h
end
end
end Go.Proofs.YtmnlofhodbnenaaGreatDoor
namespace Go.Proofs.YtmnlofhodbnenaaGreatDoor
open Go Go.RowKit
open Go.Proofs.Abs
noncomputable section
theorem Nm (n m:Int) (Q:AV→af→Nat→Prop):ax Tryz.prog opts0 40 bm 13 [I n,I m] [] 0 Q=
  (au (!ak m 0) (ab (aq (n.tmod m) 0) (Q (I (ar IntKind.i64 (n.tmod m+m))) [] 13) (Q (I (n.tmod m)) [] 9))):=by kernel_rfl
theorem iQ (n:Int) {m:Int} (h0:0<m) (h1:m≤4611686018427387904):SC 13 [I n,I m] (I (n%m)):=by
 refine ji (A:=bm) base0 cD (aw (LsOk.no rfl)) rfl ?_
 rw[Nm]
 have hm:=Int.tmod_lt_of_pos n h0
 have hm':=Int.lt_tmod_of_pos n h0
 have he:=Int.emod_nonneg n (Int.ne_of_gt h0)
 have hd:=Int.emod_lt_of_pos n h0
 have key:n%m=if n.tmod m<0 then n.tmod m+m else n.tmod m:=by
  have e1:=Int.tmod_eq_emod (a:=n) (b:=m)
  split at e1
  ·rw[e1,if_neg (by omega)];omega
  ·have:(m.natAbs:Int)=m:=Int.natAbs_of_nonneg (by omega)
   split<;>omega
 refine aF (by rw[Bool.not_eq_true',beqInt_false];omega) ?_
 refine aj (fun h=> ?_) (fun h=> ?_)
 ·have h:=ltInt_iff.1 h
  rw[if_pos h] at key
  exact D3 (by rw[eQ (by omega) (by omega),key])
 ·have h:=ltInt_false.1 h
  rw[if_neg (by omega)] at key
  exact D3 key.symm
structure Rw where
 k:Int
 a:Int
 b:Int
 c:Int
def rE (r:Rw):List AV:=[I r.k,I r.a,I r.b,I r.c]
def a7 (r:Rw):AV:= .agg (rE r)
def cE {α:Type} (l:List α) (d:α) (n:Int):α:=(l[(n%(l.length:Int)).toNat]?).getD d
def En:List AV→Option AV
 |[.int _ n,.int _ m]=>some (I (n%m))
 |_=>none
theorem Eo {n m:Int} (h:0<m):∃k:Nat,n%m=(k:Int)∧(k:Int)<m:=by
 have h1:=Int.emod_nonneg n (Int.ne_of_gt h)
 have h2:=Int.emod_lt_of_pos n h
 exact ⟨(n%m).toNat,by omega,by omega⟩
theorem ul {α:Type} (l:List α) (d:α) (n:Int) (h:l≠[]):cE l d n∈l:=by
 have hp:0<l.length:=List.length_pos_iff.2 h
 obtain ⟨k,h1,h2⟩:=Eo (n:=n) (m:=(l.length:Int)) (by omega)
 have hk:k<l.length:=by omega
 unfold cE
 rw[h1]
 have:(k:Int).toNat=k:=by omega
 rw[this,List.getElem?_eq_getElem hk]
 simp
def idL:List (List UInt8):=[[49],[50],[51],[52],[53],[54],[55],[49],[50],[51],[57,57],[120]]
def txL:List (List UInt8):=[[111,110,101],[116,119,111],[116,104,114,101,101],[102,111,117,114],[],[53],[49]]
def alL:List Int:=[3,3,4,0,101]
def um:List Int:=[128,192,256,1024,2048,0,64]
def uo:List Int:=[396,12,4,0,384,2097152,8]
def Ep (s:List UInt8):aX:=ap [(1,3,.res (.str s))] [] (dW [(13,En)]) [] []
theorem Nn (n:Int) (s:List UInt8) (Q:AV→af→Nat→Prop):ax Tryz.prog opts0 40 (Ep s) 29 [I n] [] 0 Q=
  (SC 13 [I n,I 12] (I (n%12))∧cm Tryz.prog 138 (AV.agg [AV.str [49],AV.str [50],AV.str [51],AV.str [52],AV.str [53],AV.str [54],AV.str [55],AV.str [49],AV.str [50],AV.str [51],AV.str [57,57],AV.str [120]]) (I (n%12))=some (AV.str s)∧Q (AV.str s) [] 6):=by kernel_rfl
def Er (s i:List UInt8) (al le ma:Int):aX:=ap [(10,4,.res (.str s)),(15,4,.res (I al)),(17,4,.res (I le)),(19,4,.res (I ma))] [] (dW [(13,En),(29,fun _=>some (.str i))]) [12,28] [10]
@[simp] abbrev oU (Q:AV→Prop) (r:Rw) (s:List UInt8):=(SC 13 [I r.2,I 7] (I (r.2%7))∧cm Tryz.prog 86 (AV.agg [AV.str [111,110,101],AV.str [116,119,111],AV.str [116,104,114,101,101],AV.str [102,111,117,114],AV.str [],AV.str [53],AV.str [49]]) (I (r.2%7))=some (AV.str s)∧Q (AV.agg [I 4325387,I 7,I 0,AV.fsl false (ai s),AV.nilsl]))
@[simp] abbrev Es (Q:AV→Prop) (r:Rw):=(SC 13 [I r.2,I 8] (I (r.2%8))∧Q (AV.agg [I 4325387,I 5,I (r.2%8),AV.nilsl,AV.nilsl]))
theorem Np (nm s i:List UInt8) (al le ma:Int) (r:Rw) (Q:AV→Prop):ax Tryz.prog opts0 40 (Er s i al le ma) 14 [.str nm,a7 r] [] 0 (fun v _ _=>Q v)=
  (SC 13 [I r.4,I 17] (I (r.4%17))∧ab (ak (r.4%17) 16) (Q (AV.agg [I 4325387,I 2,I (ar IntKind.i64 (ar IntKind.i32 r.2)),AV.nilsl,AV.nilsl])) (ab (aA nm [78,97,109,101]) (oU Q r s) (ab (aA nm [85,110,105,113,117,101,32,73,100,101,110,116,105,102,105,101,114]) (oU Q r s) (ab (aA nm [120,45,97]) (oU Q r s) (ab (aA nm [120,45,98]) (oU Q r s) (ab (aA nm [120,45]) (oU Q r s) (ab (aA nm [121]) (oU Q r s) (ab (aA nm [79,98,106,101,99,116,32,84,121,112,101]) (Es Q r) (ab (aA nm [83,116,97,116,101]) (Es Q r) (ab (aA nm [67,114,121,112,116,111,103,114,97,112,104,105,99,32,65,108,103,111,114,105,116,104,109]) (SC 13 [I r.2,I 5] (I (r.2%5))∧cm Tryz.prog 87 (AV.agg [I 3,I 3,I 4,I 0,I 101]) (I (r.2%5))=some (I al)∧Q (AV.agg [I 4325387,I 5,I al,AV.nilsl,AV.nilsl])) (ab (aA nm [67,114,121,112,116,111,103,114,97,112,104,105,99,32,76,101,110,103,116,104]) (SC 13 [I r.2,I 7] (I (r.2%7))∧cm Tryz.prog 88 (AV.agg [I 128,I 192,I 256,I 1024,I 2048,I 0,I 64]) (I (r.2%7))=some (I le)∧Q (AV.agg [I 4325387,I 2,I le,AV.nilsl,AV.nilsl])) (ab (aA nm [67,114,121,112,116,111,103,114,97,112,104,105,99,32,85,115,97,103,101,32,77,97,115,107]) (SC 13 [I r.2,I 7] (I (r.2%7))∧cm Tryz.prog 88 (AV.agg [I 396,I 12,I 4,I 0,I 384,I 2097152,I 8]) (I (r.2%7))=some (I ma)∧Q (AV.agg [I 4325387,I 2,I ma,AV.nilsl,AV.nilsl])) (ab (aA nm [82,101,118,111,99,97,116,105,111,110,32,82,101,97,115,111,110]) (SC 13 [I r.2,I 9] (I (r.2%9))∧Q (AV.agg [I 4325387,I 1,I 0,AV.nilsl,AV.fsl true [AV.agg [I 4325506,I 5,I (r.2%9),AV.nilsl,AV.nilsl]]])) (ab (aA nm [76,105,110,107]) (SC 13 [I r.2,I 12] (I (r.2%12))∧SC 29 [I r.3] (AV.str i)∧Q (AV.agg [I 4325387,I 1,I 0,AV.nilsl,AV.fsl true [AV.agg [I 4325451,I 5,I (ar IntKind.i64 (100+r.2%12)),AV.nilsl,AV.nilsl],AV.agg [I 4325452,I 7,I 0,AV.fsl false (ai i),AV.nilsl]]])) (ab (aA nm [85,115,97,103,101,32,76,105,109,105,116,115]) (SC 13 [I r.2,I 60] (I (r.2%60))∧ab (ak (r.3.tmod 4) 0) (SC 13 [I r.3,I 70] (I (r.3%70))∧SC 13 [I r.3,I 3] (I (r.3%3))∧Q (AV.agg [I 4325387,I 1,I 0,AV.nilsl,AV.fsl true [AV.agg [I 4325527,I 3,I (r.2%60),AV.nilsl,AV.nilsl],AV.agg [I 4325526,I 3,I (r.3%70),AV.nilsl,AV.nilsl],AV.agg [I 4325528,I 5,I (ar IntKind.i64 (1+r.3%3)),AV.nilsl,AV.nilsl]]])) (SC 13 [I r.3,I 3] (I (r.3%3))∧Q (AV.agg [I 4325387,I 1,I 0,AV.nilsl,AV.fsl true [AV.agg [I 4325527,I 3,I (r.2%60),AV.nilsl,AV.nilsl],AV.agg [I 4325526,I 3,I (r.2%60),AV.nilsl,AV.nilsl],AV.agg [I 4325528,I 5,I (ar IntKind.i64 (1+r.3%3)),AV.nilsl,AV.nilsl]]]))) (SC 13 [I r.2,I 60] (I (r.2%60))∧Q (AV.agg [I 4325387,I 9,I (r.2%60),AV.nilsl,AV.nilsl]))))))))))))))))):=by kernel_rfl
theorem uq {n:Int} {m:Nat} (h:0<m) {p:Int→Prop} (hp:∀k:Nat,k<m→p (k:Int)):p (n%(m:Int)):=by
 obtain ⟨k,h1,h2⟩:=Eo (n:=n) (m:=(m:Int)) (by omega)
 rw[h1]
 exact hp k (by omega)
theorem ur {m:Nat} {p:Nat→Prop} (h:∀k∈List.range m,p k):∀k:Nat,k<m→p k:=fun k hk=>h k (List.mem_range.2 hk)
theorem Nq (n:Int):SC 29 [I n] (.str (cE idL [] n)):=by
 refine ji (A:=Ep (cE idL [] n)) base0 ao (aw (LsOk.no rfl)) rfl ?_
 rw[Nn]
 refine And.intro (iQ n (m:=12) (by decide) (by decide)) (And.intro ?_ (jk rfl))
 unfold cE
 exact uq (m:=12) (p:=fun x=>cm Tryz.prog 138 (.agg (idL.map .str)) (I x)=some (.str ((idL[x.toNat]?).getD []))) (by decide) (ur (by simp only[List.range,List.range.loop,List.forall_mem_cons];refine ⟨?_, ?_, ?_, ?_, ?_, ?_, ?_, ?_, ?_, ?_, ?_, ?_, ?_⟩<;>first|kernel_rfl|(intro _ h;cases h)))
def bE (y n:Int) (d:List UInt8) (ks:List It):It:= .mk 4325387 y n d ks
def jY (t y n:Int) (d:List UInt8):It:= .mk t y n d []
def Et (s:List UInt8):Bool:=aA s [78,97,109,101]||(aA s [85,110,105,113,117,101,32,73,100,101,110,116,105,102,105,101,114]||(aA s [120,45,97]||(aA s [120,45,98]||(aA s [120,45]||aA s [121]))))
def jZ (s:List UInt8) (r:Rw):It:=
 match ak (r.c%17) 16 with
 |true=>bE 2 (ar .i64 (ar .i32 r.a)) [] []
 |false=>match Et s with
 |true=>bE 7 0 (cE txL [] r.a) []
 |false=>match aA s [79,98,106,101,99,116,32,84,121,112,101]||aA s [83,116,97,116,101] with
 |true=>bE 5 (r.a%8) [] []
 |false=>match aA s [67,114,121,112,116,111,103,114,97,112,104,105,99,32,65,108,103,111,114,105,116,104,109] with
 |true=>bE 5 (cE alL 0 r.a) [] []
 |false=>match aA s [67,114,121,112,116,111,103,114,97,112,104,105,99,32,76,101,110,103,116,104] with
 |true=>bE 2 (cE um 0 r.a) [] []
 |false=>match aA s [67,114,121,112,116,111,103,114,97,112,104,105,99,32,85,115,97,103,101,32,77,97,115,107] with
 |true=>bE 2 (cE uo 0 r.a) [] []
 |false=>match aA s [82,101,118,111,99,97,116,105,111,110,32,82,101,97,115,111,110] with
 |true=>bE 1 0 [] [jY 4325506 5 (r.a%9) []]
 |false=>match aA s [76,105,110,107] with
 |true=>bE 1 0 [] [jY 4325451 5 (ar .i64 (100+r.a%12)) [],jY 4325452 7 0 (cE idL [] r.b)]
 |false=>match aA s [85,115,97,103,101,32,76,105,109,105,116,115] with
 |true=>bE 1 0 [] [jY 4325527 3 (r.a%60) [],jY 4325526 3 (match ak (r.b.tmod 4) 0 with|true=>r.b%70|false=>r.a%60) [],jY 4325528 5 (ar .i64 (1+r.b%3)) []]
 |false=>bE 9 (r.a%60) [] []
set_option maxRecDepth 20000 in
theorem Nr (s:List UInt8) (r:Rw):SC 14 [.str s,a7 r] (aG (jZ s r)):=by
 refine bh (A:=Er (cE txL [] r.a) (cE idL [] r.b) (cE alL 0 r.a) (cE um 0 r.a) (cE uo 0 r.a)) base0 ao (aw (LsOk.no rfl)) rfl ?_
 rw[Np s (cE txL [] r.a) (cE idL [] r.b) (cE alL 0 r.a) (cE um 0 r.a) (cE uo 0 r.a) r (eH (aG (jZ s r)))]
 have p:∀ (n:Int) {m:Int},0<m→m≤4611686018427387904→SC 13 [I n,I m] (I (n%m)):=fun n {m} h0 h1=>iQ n h0 h1
 have tx:cm Tryz.prog 86 (.agg (txL.map .str)) (I (r.a%7))=some (.str (cE txL [] r.a)):=by
  unfold cE
  exact uq (m:=7) (p:=fun x=>cm Tryz.prog 86 (.agg (txL.map .str)) (I x)=some (.str ((txL[x.toNat]?).getD []))) (by decide) (ur (by simp only[List.range,List.range.loop,List.forall_mem_cons];refine ⟨?_, ?_, ?_, ?_, ?_, ?_, ?_, ?_⟩<;>first|kernel_rfl|(intro _ h;cases h)))
 have al:cm Tryz.prog 87 (.agg (alL.map I)) (I (r.a%5))=some (I (cE alL 0 r.a)):=by
  unfold cE
  exact uq (m:=5) (p:=fun x=>cm Tryz.prog 87 (.agg (alL.map I)) (I x)=some (I ((alL[x.toNat]?).getD 0))) (by decide) (ur (by simp only[List.range,List.range.loop,List.forall_mem_cons];refine ⟨?_, ?_, ?_, ?_, ?_, ?_⟩<;>first|kernel_rfl|(intro _ h;cases h)))
 have se:∀ (L:List Int),L.length=7→cm Tryz.prog 88 (.agg (L.map I)) (I (r.a%7))=some (I (cE L 0 r.a)):=fun L hL=>by
  match L,hL with
  |[a0,a1,a2,a3,a4,a5,a6],_=>
   unfold cE
   exact uq (m:=7) (p:=fun x=>cm Tryz.prog 88 (.agg ([a0,a1,a2,a3,a4,a5,a6].map I)) (I x)=some (I (([a0,a1,a2,a3,a4,a5,a6][x.toNat]?).getD 0))) (by decide) (ur (by simp only[List.range,List.range.loop,List.forall_mem_cons];refine ⟨?_, ?_, ?_, ?_, ?_, ?_, ?_, ?_⟩<;>first|kernel_rfl|(intro _ h;cases h)))
 have le:=se um rfl
 have ma:=se uo rfl
 have hid:=Nq r.b
 refine And.intro (p _ (by decide) (by decide)) ?_
 refine aj (fun e0=> ?_) (fun e0=> ?_)
 ·refine ⟨rfl, ?_⟩
  simp only[jZ,e0,bE,aG,ai,ad]
  (repeat (first|exact Wk.refl _|exact WkL.refl _|exact Wk.nil|exact Wk.row|exact WkE.refl _|exact WkL.nil|exact WkE.nil|apply Wk.agg|apply Wk.tuple|apply WkL.cons|apply Wk.rows|apply WkE.consA))
 repeat' refine aj (fun _=> ?_) (fun _=> ?_)
 all_goals
  try refine And.intro (p _ (by decide) (by decide)) ?_
  try refine And.intro (by assumption) ?_
  repeat' refine aj (fun _=> ?_) (fun _=> ?_)
  all_goals
   try refine And.intro (p _ (by decide) (by decide)) ?_
   try refine And.intro (p _ (by decide) (by decide)) ?_
   refine ⟨by simp[ah,ac], ?_⟩
   simp only[jZ,Et, *,Bool.or_true,Bool.true_or,Bool.or_false]
   simp only[bE,jY,aG,ad,ai]
   (repeat (first|exact Wk.refl _|exact WkL.refl _|exact Wk.nil|exact Wk.row|exact WkE.refl _|exact WkL.nil|exact WkE.nil|apply Wk.agg|apply Wk.tuple|apply WkL.cons|apply Wk.rows|apply WkE.consA))
structure At where
 name:List UInt8
 idx:Int
 v:It
def j2:It→List AV
 | .mk t y n d ks=>ag t y n (ai d) (ad ks)
theorem Nt (x:It):aG x= .agg (j2 x):=by cases x;rfl
def lp (a:At):List AV:= .str a.name::I a.idx::j2 a.v
def aB (a:At):AV:= .agg (lp a)
theorem Nu (x:It):ac (j2 x)=true:=by
 have:=bG x
 rw[Nt] at this
 exact this
theorem eR (a:At):ah (aB a)=true:=by simp only[aB,lp,ah,ac,Nu,Bool.and_self]
theorem Nv (s:List UInt8) (r:Rw):bO bd (jZ s r):=by
  have hid:(cE idL [] r.b).length≤8:=
     (by decide:∀s∈idL,s.length≤8) _ (ul idL [] r.b (by simp[idL]))
  have htx:(cE txL [] r.a).length≤8:=
     (by decide:∀s∈txL,s.length≤8) _ (ul txL [] r.a (by simp[txL]))
  unfold jZ
  repeat' split
  all_goals (simp[bE,jY,bO,iO,bd];try omega)
end
theorem uu {p:Nat→Prop} (n:Nat) (hn:p n) (hs:∀i,i<n→p (i+1)→p i):∀i,i≤n→p i:=by
 intro i hi
 obtain ⟨m,rfl⟩:∃m,n=i+m:=⟨n-i,by omega⟩
 clear hi
 induction m generalizing i with
 |zero=>exact hn
 |succ m ih=>exact hs i (by omega) (ih (i+1) (by rw[show i+1+m=i+(m+1) by omega];exact hn) (by intro j hj;exact hs j (by omega)))
theorem Nw:fe Tryz.prog 9=some false:=by kernel_rfl
theorem zb:∀l:List Cu,ac (flat (l.map aQ))=true
 |[]=>rfl
 |_::r=>zb r
theorem uv {lk:List (Nat × Nat)} {o:Ob} {M N L C N' L' C':AV} (hM:ah M=true) (hN:RenV lk N N') (hL:RenV lk L L') (hC:RenV lk C C'):df lk (ae o M N L C) (ae o M N' L' C'):=by
 refine ⟨?_⟩
 simp only[ae,RenL]
 exact ⟨.same _ rfl,.same _ rfl,.same _ rfl,.same _ rfl,.same _ rfl,.same _ hM,.same _ rfl,.same _ rfl,.same _ rfl,.same _ rfl,.same _ rfl,.same _ rfl,.same _ rfl,.same _ rfl,.same _ rfl,.same _ rfl,.same _ rfl,.same _ rfl,.same _ rfl,.same _ rfl,.same _ rfl,.same _ rfl,.same _ rfl,.same _ rfl,.same _ rfl,.same _ rfl,.same _ rfl,.same _ rfl,.same _ rfl,hN,hL,hC,.same _ rfl,.same _ rfl,.same _ rfl,.same _ rfl,.same _ rfl,trivial⟩
noncomputable section
inductive Kd where
 |uid|nam|typ|alg|len|mask|sta
 |dat (k:Nat)
 |why|lnk|lim
 |cus (s:List UInt8)
def zc:Nat→List UInt8
 |0=>[73,110,105,116,105,97,108,32,68,97,116,101]
 |1=>[65,99,116,105,118,97,116,105,111,110,32,68,97,116,101]
 |2=>[80,114,111,99,101,115,115,32,83,116,97,114,116,32,68,97,116,101]
 |3=>[80,114,111,116,101,99,116,32,83,116,111,112,32,68,97,116,101]
 |4=>[68,101,97,99,116,105,118,97,116,105,111,110,32,68,97,116,101]
 |5=>[68,101,115,116,114,111,121,32,68,97,116,101]
 |6=>[67,111,109,112,114,111,109,105,115,101,32,79,99,99,117,114,114,101,110,99,101,32,68,97,116,101]
 |7=>[67,111,109,112,114,111,109,105,115,101,32,68,97,116,101]
 |8=>[65,114,99,104,105,118,101,32,68,97,116,101]
 |_=>[76,97,115,116,32,67,104,97,110,103,101,32,68,97,116,101]
def aJ:Kd→List UInt8
 | .uid=>[85,110,105,113,117,101,32,73,100,101,110,116,105,102,105,101,114]
 | .nam=>[78,97,109,101]
 | .typ=>[79,98,106,101,99,116,32,84,121,112,101]
 | .alg=>[67,114,121,112,116,111,103,114,97,112,104,105,99,32,65,108,103,111,114,105,116,104,109]
 | .len=>[67,114,121,112,116,111,103,114,97,112,104,105,99,32,76,101,110,103,116,104]
 | .mask=>[67,114,121,112,116,111,103,114,97,112,104,105,99,32,85,115,97,103,101,32,77,97,115,107]
 | .sta=>[83,116,97,116,101]
 | .why=>[82,101,118,111,99,97,116,105,111,110,32,82,101,97,115,111,110]
 | .lnk=>[76,105,110,107]
 | .lim=>[85,115,97,103,101,32,76,105,109,105,116,115]
 | .dat k=>zc k
 | .cus s=>s
def ce:Kd→Bool
 | .nam| .lnk| .cus _=>true
 |_=>false
def lq (k:Nat):Bool:=Nat.ble 1 k&&Nat.ble k 4
def dg:Kd→Bool
 | .nam| .lnk| .cus _| .alg| .len| .mask| .lim=>true
 | .dat k=>lq k
 |_=>false
def gi:Kd→Int
 | .uid| .nam| .cus _=>7
 | .typ| .alg| .sta=>5
 | .len| .mask=>2
 | .dat _=>9
 | .why| .lnk| .lim=>1
def bQ (f:Nat):AV:= .func (.func f) [] []
def dh (f:Nat) (c:List AV):AV:= .func (.func f) [] c
def zd:AV:=bQ 112
def ze:AV:=bQ 115
def Eu:AV:=bQ 126
def oV:Nat→AV
 |1|2=>ze
 |3|4=>Eu
 |_=> .nilFunc
def j3:Kd→AV
 | .nam| .lnk| .cus _| .lim=>zd
 | .dat k=>oV k
 |_=> .nilFunc
def j4:Kd→AV
 | .nam| .lnk| .cus _=>zd
 | .mask=>ze
 | .lim=>bQ 221
 | .dat k=>oV k
 |_=> .nilFunc
def rF:Nat→AV
 |2=>ze
 |3=>Eu
 |_=> .nilFunc
def j5:Kd→AV
 | .nam| .lnk| .cus _=>zd
 | .lim=>bQ 221
 | .dat k=>rF k
 |_=> .nilFunc
def dX:Kd→AV
 | .alg=>bQ 122
 | .len=>bQ 123
 |_=>bQ 114
def Ny:Kd→Int
 | .alg=>100
 | .len=>100000
 |_=>1048575
def Ew:Kd→Int
 | .mask=>0
 |_=>1
def Nz (k:Kd):AV:=dh 193 [.fptr [dX k] 0,.fptr [I (Ew k)] 0,.fptr [I (gi k)] 0]
def NA (k:Kd):AV:=dh 194 [.fptr [I (gi k)] 0,.fptr [I (Ew k)] 0,.fptr [I (Ny k)] 0]
def NC (k:Kd):AV:=dh 196 [.fptr [dX k] 0]
def nI (k:Nat):AV:= .int .i64 (.ofNat k)
def lr:Kd→AV
 | .uid=>bQ 117
 | .nam=>bQ 198
 | .typ=>bQ 120
 | .sta=>bQ 124
 | .dat k=>dh 204 [.fptr [nI k] 0]
 | .why=>bQ 127
 | .lnk=>bQ 210
 | .lim=>bQ 216
 | .cus s=>dh 102 [.fptr [.str s] 0]
 |k=>Nz k
def j6:Kd→AV
 | .nam=>bQ 199
 | .dat _=>bQ 205
 | .lnk=>bQ 211
 | .lim=>bQ 217
 | .cus _=>bQ 105
 | .uid| .typ| .sta| .why=> .nilFunc
 |k=>NA k
def j7:Kd→AV
 | .nam=>bQ 200
 | .dat k=>dh 206 [.fptr [nI k] 0]
 | .lnk=>bQ 212
 | .lim=>bQ 219
 | .cus s=>dh 107 [.fptr [.str s] 0]
 | .uid| .typ| .sta| .why=> .nilFunc
 |k=>NC k
def j8:Kd→AV
 | .nam=>bQ 202
 | .dat k=>dh 207 [.fptr [nI k] 0]
 | .lnk=>bQ 214
 | .lim=>bQ 220
 | .cus s=>dh 109 [.fptr [.str s] 0]
 |_=> .nilFunc
def iR:Kd→AV
 | .nam=>bQ 197
 | .lnk=>bQ 209
 | .cus _=>bQ 101
 |_=> .nilFunc
def eS (k:Kd):List AV:=[.str (aJ k),I (gi k),.bool (ce k),.bool (dg k),j3 k,j4 k,j5 k,lr k,j6 k,j7 k,j8 k,iR k]
def nb (k:Kd):AV:= .agg (eS k)
def Ex:AV:= .agg [.str [],I 0,.bool false,.bool false,.nilFunc,.nilFunc,.nilFunc,.nilFunc,.nilFunc,.nilFunc,.nilFunc,.nilFunc]
def kinds:List Kd:=[.uid,.nam,.typ,.alg,.len,.mask,.sta,.dat 0,.dat 1,.dat 2,.dat 3,.dat 4,.dat 5,.dat 6,.dat 7,.dat 8,.dat 9,.why,.lnk,.lim]
abbrev Ey:=[AV.str [67,114,121,112,116,111,103,114,97,112,104,105,99,32,85,115,97,103,101,32,77,97,115,107],I 2,AV.bool false,AV.bool true,AV.nilFunc,AV.func (Fn.func 115) [] [],AV.nilFunc,AV.func (Fn.func 193) [] [AV.fptr [AV.func (Fn.func 114) [] []] 0,AV.fptr [I 0] 0,AV.fptr [I 2] 0],AV.func (Fn.func 194) [] [AV.fptr [I 2] 0,AV.fptr [I 0] 0,AV.fptr [I 1048575] 0],AV.func (Fn.func 196) [] [AV.fptr [AV.func (Fn.func 114) [] []] 0],AV.nilFunc,AV.nilFunc]
abbrev Ez:=[AV.str [67,114,121,112,116,111,103,114,97,112,104,105,99,32,65,108,103,111,114,105,116,104,109],I 5,AV.bool false,AV.bool true,AV.nilFunc,AV.nilFunc,AV.nilFunc,AV.func (Fn.func 193) [] [AV.fptr [AV.func (Fn.func 122) [] []] 0,AV.fptr [I 1] 0,AV.fptr [I 5] 0],AV.func (Fn.func 194) [] [AV.fptr [I 5] 0,AV.fptr [I 1] 0,AV.fptr [I 100] 0],AV.func (Fn.func 196) [] [AV.fptr [AV.func (Fn.func 122) [] []] 0],AV.nilFunc,AV.nilFunc]
abbrev EA:=[AV.str [67,114,121,112,116,111,103,114,97,112,104,105,99,32,76,101,110,103,116,104],I 2,AV.bool false,AV.bool true,AV.nilFunc,AV.nilFunc,AV.nilFunc,AV.func (Fn.func 193) [] [AV.fptr [AV.func (Fn.func 123) [] []] 0,AV.fptr [I 1] 0,AV.fptr [I 2] 0],AV.func (Fn.func 194) [] [AV.fptr [I 2] 0,AV.fptr [I 1] 0,AV.fptr [I 100000] 0],AV.func (Fn.func 196) [] [AV.fptr [AV.func (Fn.func 123) [] []] 0],AV.nilFunc,AV.nilFunc]
abbrev EB:=[AV.str [80,114,111,99,101,115,115,32,83,116,97,114,116,32,68,97,116,101],I 9,AV.bool false,AV.bool true,AV.func (Fn.func 115) [] [],AV.func (Fn.func 115) [] [],AV.func (Fn.func 115) [] [],AV.func (Fn.func 204) [] [AV.fptr [I 2] 0],AV.func (Fn.func 205) [] [],AV.func (Fn.func 206) [] [AV.fptr [I 2] 0],AV.func (Fn.func 207) [] [AV.fptr [I 2] 0],AV.nilFunc]
abbrev EC:=[AV.str [80,114,111,116,101,99,116,32,83,116,111,112,32,68,97,116,101],I 9,AV.bool false,AV.bool true,AV.func (Fn.func 126) [] [],AV.func (Fn.func 126) [] [],AV.func (Fn.func 126) [] [],AV.func (Fn.func 204) [] [AV.fptr [I 3] 0],AV.func (Fn.func 205) [] [],AV.func (Fn.func 206) [] [AV.fptr [I 3] 0],AV.func (Fn.func 207) [] [AV.fptr [I 3] 0],AV.nilFunc]
abbrev ED:=[AV.str [67,111,109,112,114,111,109,105,115,101,32,79,99,99,117,114,114,101,110,99,101,32,68,97,116,101],I 9,AV.bool false,AV.bool false,AV.nilFunc,AV.nilFunc,AV.nilFunc,AV.func (Fn.func 204) [] [AV.fptr [I 6] 0],AV.func (Fn.func 205) [] [],AV.func (Fn.func 206) [] [AV.fptr [I 6] 0],AV.func (Fn.func 207) [] [AV.fptr [I 6] 0],AV.nilFunc]
abbrev EE:=[AV.str [68,101,97,99,116,105,118,97,116,105,111,110,32,68,97,116,101],I 9,AV.bool false,AV.bool true,AV.func (Fn.func 126) [] [],AV.func (Fn.func 126) [] [],AV.nilFunc,AV.func (Fn.func 204) [] [AV.fptr [I 4] 0],AV.func (Fn.func 205) [] [],AV.func (Fn.func 206) [] [AV.fptr [I 4] 0],AV.func (Fn.func 207) [] [AV.fptr [I 4] 0],AV.nilFunc]
abbrev EF:=[AV.str [65,99,116,105,118,97,116,105,111,110,32,68,97,116,101],I 9,AV.bool false,AV.bool true,AV.func (Fn.func 115) [] [],AV.func (Fn.func 115) [] [],AV.nilFunc,AV.func (Fn.func 204) [] [AV.fptr [I 1] 0],AV.func (Fn.func 205) [] [],AV.func (Fn.func 206) [] [AV.fptr [I 1] 0],AV.func (Fn.func 207) [] [AV.fptr [I 1] 0],AV.nilFunc]
abbrev EG:=[AV.str [76,97,115,116,32,67,104,97,110,103,101,32,68,97,116,101],I 9,AV.bool false,AV.bool false,AV.nilFunc,AV.nilFunc,AV.nilFunc,AV.func (Fn.func 204) [] [AV.fptr [I 9] 0],AV.func (Fn.func 205) [] [],AV.func (Fn.func 206) [] [AV.fptr [I 9] 0],AV.func (Fn.func 207) [] [AV.fptr [I 9] 0],AV.nilFunc]
abbrev EH:=[AV.str [67,111,109,112,114,111,109,105,115,101,32,68,97,116,101],I 9,AV.bool false,AV.bool false,AV.nilFunc,AV.nilFunc,AV.nilFunc,AV.func (Fn.func 204) [] [AV.fptr [I 7] 0],AV.func (Fn.func 205) [] [],AV.func (Fn.func 206) [] [AV.fptr [I 7] 0],AV.func (Fn.func 207) [] [AV.fptr [I 7] 0],AV.nilFunc]
abbrev EI:=[AV.str [85,115,97,103,101,32,76,105,109,105,116,115],I 1,AV.bool false,AV.bool true,AV.func (Fn.func 112) [] [],AV.func (Fn.func 221) [] [],AV.func (Fn.func 221) [] [],AV.func (Fn.func 216) [] [],AV.func (Fn.func 217) [] [],AV.func (Fn.func 219) [] [],AV.func (Fn.func 220) [] [],AV.nilFunc]
abbrev EJ:=[AV.str [68,101,115,116,114,111,121,32,68,97,116,101],I 9,AV.bool false,AV.bool false,AV.nilFunc,AV.nilFunc,AV.nilFunc,AV.func (Fn.func 204) [] [AV.fptr [I 5] 0],AV.func (Fn.func 205) [] [],AV.func (Fn.func 206) [] [AV.fptr [I 5] 0],AV.func (Fn.func 207) [] [AV.fptr [I 5] 0],AV.nilFunc]
abbrev EK:=[AV.str [73,110,105,116,105,97,108,32,68,97,116,101],I 9,AV.bool false,AV.bool false,AV.nilFunc,AV.nilFunc,AV.nilFunc,AV.func (Fn.func 204) [] [AV.fptr [I 0] 0],AV.func (Fn.func 205) [] [],AV.func (Fn.func 206) [] [AV.fptr [I 0] 0],AV.func (Fn.func 207) [] [AV.fptr [I 0] 0],AV.nilFunc]
abbrev EL:=[AV.str [65,114,99,104,105,118,101,32,68,97,116,101],I 9,AV.bool false,AV.bool false,AV.nilFunc,AV.nilFunc,AV.nilFunc,AV.func (Fn.func 204) [] [AV.fptr [I 8] 0],AV.func (Fn.func 205) [] [],AV.func (Fn.func 206) [] [AV.fptr [I 8] 0],AV.func (Fn.func 207) [] [AV.fptr [I 8] 0],AV.nilFunc]
abbrev EM:=[AV.str [76,105,110,107],I 1,AV.bool true,AV.bool true,AV.func (Fn.func 112) [] [],AV.func (Fn.func 112) [] [],AV.func (Fn.func 112) [] [],AV.func (Fn.func 210) [] [],AV.func (Fn.func 211) [] [],AV.func (Fn.func 212) [] [],AV.func (Fn.func 214) [] [],AV.func (Fn.func 209) [] []]
abbrev EN:=[AV.str [78,97,109,101],I 7,AV.bool true,AV.bool true,AV.func (Fn.func 112) [] [],AV.func (Fn.func 112) [] [],AV.func (Fn.func 112) [] [],AV.func (Fn.func 198) [] [],AV.func (Fn.func 199) [] [],AV.func (Fn.func 200) [] [],AV.func (Fn.func 202) [] [],AV.func (Fn.func 197) [] []]
abbrev EO:=[AV.str [85,110,105,113,117,101,32,73,100,101,110,116,105,102,105,101,114],I 7,AV.bool false,AV.bool false,AV.nilFunc,AV.nilFunc,AV.nilFunc,AV.func (Fn.func 117) [] [],AV.nilFunc,AV.nilFunc,AV.nilFunc,AV.nilFunc]
abbrev EP:=[AV.str [82,101,118,111,99,97,116,105,111,110,32,82,101,97,115,111,110],I 1,AV.bool false,AV.bool false,AV.nilFunc,AV.nilFunc,AV.nilFunc,AV.func (Fn.func 127) [] [],AV.nilFunc,AV.nilFunc,AV.nilFunc,AV.nilFunc]
abbrev EQ:=[AV.str [79,98,106,101,99,116,32,84,121,112,101],I 5,AV.bool false,AV.bool false,AV.nilFunc,AV.nilFunc,AV.nilFunc,AV.func (Fn.func 120) [] [],AV.nilFunc,AV.nilFunc,AV.nilFunc,AV.nilFunc]
abbrev ER:=[AV.str [83,116,97,116,101],I 5,AV.bool false,AV.bool false,AV.nilFunc,AV.nilFunc,AV.nilFunc,AV.func (Fn.func 124) [] [],AV.nilFunc,AV.nilFunc,AV.nilFunc,AV.nilFunc]
abbrev ET:=(AV.fsl true [AV.agg EO,AV.agg EN,AV.agg EQ,AV.agg Ez,AV.agg EA,AV.agg Ey,AV.agg ER,AV.agg EK,AV.agg EF,AV.agg EB,AV.agg EC,AV.agg EE,AV.agg EJ,AV.agg ED,AV.agg EH,AV.agg EL,AV.agg EG,AV.agg EP,AV.agg EM,AV.agg EI])
theorem ND (Q:AV→Prop):ax Tryz.prog opts0 40 bm 57 [] [] 0 (fun v _ _=>Q v)=
  (Q ET):=by kernel_rfl
theorem NE:SC 57 [] (.fsl true (kinds.map nb)):=by
 refine bh (A:=bm) base0 cD (aw (LsOk.no rfl)) rfl ?_
 rw[ND]
 exact rz rfl (by kernel_rfl)
abbrev EU (s:List UInt8):=[AV.str s,I 7,AV.bool true,AV.bool true,AV.func (Fn.func 112) [] [],AV.func (Fn.func 112) [] [],AV.func (Fn.func 112) [] [],AV.func (Fn.func 102) [] [AV.ptr 0 0],AV.func (Fn.func 105) [] [],AV.func (Fn.func 107) [] [AV.ptr 0 0],AV.func (Fn.func 109) [] [AV.ptr 0 0],AV.func (Fn.func 101) [] []]
theorem NF (s:List UInt8) (Q:AV→af→Nat→Prop):ax Tryz.prog opts0 40 bm 56 [.str s] [] 0 Q=
  (Q (AV.agg (EU s)) [(1,some (Blk.cells (EU s))),(0,some (Blk.cells [AV.str s]))] 24):=by kernel_rfl
theorem NG (s:List UInt8):SC 56 [.str s] (nb (.cus s)):=by
 refine ji (A:=bm) base0 cD (aw (LsOk.no rfl)) rfl ?_
 rw[NF]
 exact ⟨⟨6,rfl⟩,rfl⟩
def EV (c:Bool) (s:List UInt8):aX:=ap [] [] (bg [(55,.bool c),(56,nb (.cus s)),(57,.fsl true (kinds.map nb))]) [] []
abbrev EW (s:List UInt8):=[AV.str s,I 7,AV.bool true,AV.bool true,AV.func (Fn.func 112) [] [],AV.func (Fn.func 112) [] [],AV.func (Fn.func 112) [] [],AV.func (Fn.func 102) [] [AV.fptr [AV.str s] 0],AV.func (Fn.func 105) [] [],AV.func (Fn.func 107) [] [AV.fptr [AV.str s] 0],AV.func (Fn.func 109) [] [AV.fptr [AV.str s] 0],AV.func (Fn.func 101) [] []]
theorem NH (c:Bool) (s:List UInt8) (Q:AV→Prop):ax Tryz.prog opts0 40 (EV c s) 32 [.str s] [] 0 (fun v _ _=>Q v)=
  (SC 55 [AV.str s] (AV.bool c)∧ab c (SC 56 [AV.str s] (AV.agg (EW s))∧Q (AV.tuple [AV.agg (EW s),AV.bool true])) (SC 57 [] ET∧ab (aA [85,110,105,113,117,101,32,73,100,101,110,116,105,102,105,101,114] s) (Q (AV.tuple [AV.agg EO,AV.bool true])) (ab (aA [78,97,109,101] s) (Q (AV.tuple [AV.agg EN,AV.bool true])) (ab (aA [79,98,106,101,99,116,32,84,121,112,101] s) (Q (AV.tuple [AV.agg EQ,AV.bool true])) (ab (aA [67,114,121,112,116,111,103,114,97,112,104,105,99,32,65,108,103,111,114,105,116,104,109] s) (Q (AV.tuple [AV.agg Ez,AV.bool true])) (ab (aA [67,114,121,112,116,111,103,114,97,112,104,105,99,32,76,101,110,103,116,104] s) (Q (AV.tuple [AV.agg EA,AV.bool true])) (ab (aA [67,114,121,112,116,111,103,114,97,112,104,105,99,32,85,115,97,103,101,32,77,97,115,107] s) (Q (AV.tuple [AV.agg Ey,AV.bool true])) (ab (aA [83,116,97,116,101] s) (Q (AV.tuple [AV.agg ER,AV.bool true])) (ab (aA [73,110,105,116,105,97,108,32,68,97,116,101] s) (Q (AV.tuple [AV.agg EK,AV.bool true])) (ab (aA [65,99,116,105,118,97,116,105,111,110,32,68,97,116,101] s) (Q (AV.tuple [AV.agg EF,AV.bool true])) (ab (aA [80,114,111,99,101,115,115,32,83,116,97,114,116,32,68,97,116,101] s) (Q (AV.tuple [AV.agg EB,AV.bool true])) (ab (aA [80,114,111,116,101,99,116,32,83,116,111,112,32,68,97,116,101] s) (Q (AV.tuple [AV.agg EC,AV.bool true])) (ab (aA [68,101,97,99,116,105,118,97,116,105,111,110,32,68,97,116,101] s) (Q (AV.tuple [AV.agg EE,AV.bool true])) (ab (aA [68,101,115,116,114,111,121,32,68,97,116,101] s) (Q (AV.tuple [AV.agg EJ,AV.bool true])) (ab (aA [67,111,109,112,114,111,109,105,115,101,32,79,99,99,117,114,114,101,110,99,101,32,68,97,116,101] s) (Q (AV.tuple [AV.agg ED,AV.bool true])) (ab (aA [67,111,109,112,114,111,109,105,115,101,32,68,97,116,101] s) (Q (AV.tuple [AV.agg EH,AV.bool true])) (ab (aA [65,114,99,104,105,118,101,32,68,97,116,101] s) (Q (AV.tuple [AV.agg EL,AV.bool true])) (ab (aA [76,97,115,116,32,67,104,97,110,103,101,32,68,97,116,101] s) (Q (AV.tuple [AV.agg EG,AV.bool true])) (ab (aA [82,101,118,111,99,97,116,105,111,110,32,82,101,97,115,111,110] s) (Q (AV.tuple [AV.agg EP,AV.bool true])) (ab (aA [76,105,110,107] s) (Q (AV.tuple [AV.agg EM,AV.bool true])) (ab (aA [85,115,97,103,101,32,76,105,109,105,116,115] s) (Q (AV.tuple [AV.agg EI,AV.bool true])) (Q (AV.tuple [AV.agg [AV.str [],I 0,AV.bool false,AV.bool false,AV.nilFunc,AV.nilFunc,AV.nilFunc,AV.nilFunc,AV.nilFunc,AV.nilFunc,AV.nilFunc,AV.nilFunc],AV.bool false]))))))))))))))))))))))):=by kernel_rfl
def fP (s:List UInt8):List Kd→Option Kd
 |[]=>none
 |k::r=>match aA (aJ k) s with
  |true=>some k
  |false=>fP s r
def fQ (c:Bool) (s:List UInt8):Option Kd:=match c with
 |true=>some (.cus s)
 |false=>fP s kinds
def oW:Option Kd→AV
 |some k=> .tuple [nb k,.bool true]
 |none=> .tuple [Ex,.bool false]
theorem zf (k:Kd):ah (nb k)=true:=by
 cases k with
 |dat k=>
  have h1:ah (oV k)=true:=by unfold oV;split<;>rfl
  have h2:ah (rF k)=true:=by unfold rF;split<;>rfl
  simp[nb,eS,ah,ac,j3,j4,j5,h1,h2,lr,j6,j7,j8,iR,bQ,dh,nI]
 |_=>rfl
set_option maxRecDepth 20000 in
theorem NI {c:Bool} {s:List UInt8} (hc:SC 55 [.str s] (.bool c)):SC 32 [.str s] (oW (fQ c s)):=by
 refine bh (A:=EV c s) base0 ao (aw (LsOk.no rfl)) rfl ?_
 rw[NH]
 refine And.intro hc (aj (fun e=>And.intro (NG s) ?_) (fun e=>And.intro NE ?_))
 ·subst e;exact rz rfl (by simp[fQ,oW,ah,ac,zf])
 ·subst e
  simp only[fQ]
  repeat' refine aj (fun _=> ?_) (fun _=> ?_)
  all_goals
   simp only[kinds,fP,aJ,zc, *]
   exact rz rfl (by simp[oW,ah,ac,zf,Ex])
end
noncomputable def aT:bn:={how:=fun f=>match ff [35,36,37,281,282,192] f with|true=> .keep|false=> .pure,summ:=fun _ _=>none,glob:=gl,lf:=100000}
set_option maxRecDepth 20000 in
theorem aO {f:FuncId} {args:List AV} {v:AV} (hcl:ac args=true) (h:aS Tryz.prog aT 40 f args=some v) (hv:ah v=true):SC f args v:=
 Me (O:=aT) Tryz.mixed (fun _ _ _ h=>by cases h) D6 CS hcl h hv
def cF:List (List UInt8):=[[111,110,101],[116,119,111],[116,104,114,101,101],[102,111,117,114],[102,105,118,101],[],[53],[49],[50],[51],[52],[54],[55],[57,57],[120],[49,50,51,52,53,54,55,56],[109],[108,111,115,116]]
def oX (s:List UInt8):Bool:= !Nat.beq s.length 0
def dN:List UInt8→Bool
 |120::45::_=>true
 |_=>false
theorem NJ:aS Tryz.prog aT 40 99 [.str [111,110,101]]=some (.bool true):=by kernel_rfl
theorem NK:aS Tryz.prog aT 40 132 [.str [111,110,101]]=some (.bool true):=by kernel_rfl
theorem NL:aS Tryz.prog aT 40 99 [.str [116,119,111]]=some (.bool true):=by kernel_rfl
theorem NM:aS Tryz.prog aT 40 132 [.str [116,119,111]]=some (.bool true):=by kernel_rfl
theorem NN:aS Tryz.prog aT 40 99 [.str [116,104,114,101,101]]=some (.bool true):=by kernel_rfl
theorem NO:aS Tryz.prog aT 40 132 [.str [116,104,114,101,101]]=some (.bool true):=by kernel_rfl
theorem NP:aS Tryz.prog aT 40 99 [.str [102,111,117,114]]=some (.bool true):=by kernel_rfl
theorem NQ:aS Tryz.prog aT 40 132 [.str [102,111,117,114]]=some (.bool true):=by kernel_rfl
theorem NR:aS Tryz.prog aT 40 99 [.str [102,105,118,101]]=some (.bool true):=by kernel_rfl
theorem NS:aS Tryz.prog aT 40 132 [.str [102,105,118,101]]=some (.bool true):=by kernel_rfl
theorem NT:aS Tryz.prog aT 40 99 [.str []]=some (.bool false):=by kernel_rfl
theorem NU:aS Tryz.prog aT 40 132 [.str []]=some (.bool false):=by kernel_rfl
theorem NV:aS Tryz.prog aT 40 99 [.str [53]]=some (.bool true):=by kernel_rfl
theorem NW:aS Tryz.prog aT 40 132 [.str [53]]=some (.bool true):=by kernel_rfl
theorem NX:aS Tryz.prog aT 40 99 [.str [49]]=some (.bool true):=by kernel_rfl
theorem NY:aS Tryz.prog aT 40 132 [.str [49]]=some (.bool true):=by kernel_rfl
theorem NZ:aS Tryz.prog aT 40 99 [.str [50]]=some (.bool true):=by kernel_rfl
theorem N0:aS Tryz.prog aT 40 132 [.str [50]]=some (.bool true):=by kernel_rfl
theorem N1:aS Tryz.prog aT 40 99 [.str [51]]=some (.bool true):=by kernel_rfl
theorem N2:aS Tryz.prog aT 40 132 [.str [51]]=some (.bool true):=by kernel_rfl
theorem N3:aS Tryz.prog aT 40 99 [.str [52]]=some (.bool true):=by kernel_rfl
theorem N4:aS Tryz.prog aT 40 132 [.str [52]]=some (.bool true):=by kernel_rfl
theorem N5:aS Tryz.prog aT 40 99 [.str [54]]=some (.bool true):=by kernel_rfl
theorem N6:aS Tryz.prog aT 40 132 [.str [54]]=some (.bool true):=by kernel_rfl
theorem N7:aS Tryz.prog aT 40 99 [.str [55]]=some (.bool true):=by kernel_rfl
theorem N8:aS Tryz.prog aT 40 132 [.str [55]]=some (.bool true):=by kernel_rfl
theorem N9:aS Tryz.prog aT 40 99 [.str [57,57]]=some (.bool true):=by kernel_rfl
theorem Oa:aS Tryz.prog aT 40 132 [.str [57,57]]=some (.bool true):=by kernel_rfl
theorem Oc:aS Tryz.prog aT 40 99 [.str [120]]=some (.bool true):=by kernel_rfl
theorem Od:aS Tryz.prog aT 40 132 [.str [120]]=some (.bool true):=by kernel_rfl
theorem Oe:aS Tryz.prog aT 40 99 [.str [49,50,51,52,53,54,55,56]]=some (.bool true):=by kernel_rfl
theorem Of:aS Tryz.prog aT 40 132 [.str [49,50,51,52,53,54,55,56]]=some (.bool true):=by kernel_rfl
theorem Og:aS Tryz.prog aT 40 99 [.str [109]]=some (.bool true):=by kernel_rfl
theorem Oh:aS Tryz.prog aT 40 132 [.str [109]]=some (.bool true):=by kernel_rfl
theorem Oi:aS Tryz.prog aT 40 99 [.str [108,111,115,116]]=some (.bool true):=by kernel_rfl
theorem Oj:aS Tryz.prog aT 40 132 [.str [108,111,115,116]]=some (.bool true):=by kernel_rfl
theorem Ok:aS Tryz.prog aT 40 55 [.str [85,110,105,113,117,101,32,73,100,101,110,116,105,102,105,101,114]]=some (.bool false):=by kernel_rfl
theorem Ol:aS Tryz.prog aT 40 63 [.str [85,110,105,113,117,101,32,73,100,101,110,116,105,102,105,101,114]]=some (.bool false):=by kernel_rfl
theorem Om:aS Tryz.prog aT 40 55 [.str [78,97,109,101]]=some (.bool false):=by kernel_rfl
theorem On:aS Tryz.prog aT 40 63 [.str [78,97,109,101]]=some (.bool false):=by kernel_rfl
theorem Oo:aS Tryz.prog aT 40 55 [.str [79,98,106,101,99,116,32,84,121,112,101]]=some (.bool false):=by kernel_rfl
theorem Oq:aS Tryz.prog aT 40 63 [.str [79,98,106,101,99,116,32,84,121,112,101]]=some (.bool false):=by kernel_rfl
theorem Ot:aS Tryz.prog aT 40 55 [.str [67,114,121,112,116,111,103,114,97,112,104,105,99,32,65,108,103,111,114,105,116,104,109]]=some (.bool false):=by kernel_rfl
theorem Ou:aS Tryz.prog aT 40 63 [.str [67,114,121,112,116,111,103,114,97,112,104,105,99,32,65,108,103,111,114,105,116,104,109]]=some (.bool false):=by kernel_rfl
theorem Ov:aS Tryz.prog aT 40 55 [.str [67,114,121,112,116,111,103,114,97,112,104,105,99,32,76,101,110,103,116,104]]=some (.bool false):=by kernel_rfl
theorem Ow:aS Tryz.prog aT 40 63 [.str [67,114,121,112,116,111,103,114,97,112,104,105,99,32,76,101,110,103,116,104]]=some (.bool false):=by kernel_rfl
theorem Ox:aS Tryz.prog aT 40 55 [.str [67,114,121,112,116,111,103,114,97,112,104,105,99,32,85,115,97,103,101,32,77,97,115,107]]=some (.bool false):=by kernel_rfl
theorem Oy:aS Tryz.prog aT 40 63 [.str [67,114,121,112,116,111,103,114,97,112,104,105,99,32,85,115,97,103,101,32,77,97,115,107]]=some (.bool false):=by kernel_rfl
theorem Oz:aS Tryz.prog aT 40 55 [.str [83,116,97,116,101]]=some (.bool false):=by kernel_rfl
theorem OA:aS Tryz.prog aT 40 63 [.str [83,116,97,116,101]]=some (.bool false):=by kernel_rfl
theorem OB:aS Tryz.prog aT 40 55 [.str [73,110,105,116,105,97,108,32,68,97,116,101]]=some (.bool false):=by kernel_rfl
theorem OC:aS Tryz.prog aT 40 63 [.str [73,110,105,116,105,97,108,32,68,97,116,101]]=some (.bool false):=by kernel_rfl
theorem OD:aS Tryz.prog aT 40 55 [.str [65,99,116,105,118,97,116,105,111,110,32,68,97,116,101]]=some (.bool false):=by kernel_rfl
theorem OE:aS Tryz.prog aT 40 63 [.str [65,99,116,105,118,97,116,105,111,110,32,68,97,116,101]]=some (.bool false):=by kernel_rfl
theorem OG:aS Tryz.prog aT 40 55 [.str [80,114,111,99,101,115,115,32,83,116,97,114,116,32,68,97,116,101]]=some (.bool false):=by kernel_rfl
theorem OH:aS Tryz.prog aT 40 63 [.str [80,114,111,99,101,115,115,32,83,116,97,114,116,32,68,97,116,101]]=some (.bool false):=by kernel_rfl
theorem OI:aS Tryz.prog aT 40 55 [.str [80,114,111,116,101,99,116,32,83,116,111,112,32,68,97,116,101]]=some (.bool false):=by kernel_rfl
theorem OJ:aS Tryz.prog aT 40 63 [.str [80,114,111,116,101,99,116,32,83,116,111,112,32,68,97,116,101]]=some (.bool false):=by kernel_rfl
theorem OK:aS Tryz.prog aT 40 55 [.str [68,101,97,99,116,105,118,97,116,105,111,110,32,68,97,116,101]]=some (.bool false):=by kernel_rfl
theorem OL:aS Tryz.prog aT 40 63 [.str [68,101,97,99,116,105,118,97,116,105,111,110,32,68,97,116,101]]=some (.bool false):=by kernel_rfl
theorem OM:aS Tryz.prog aT 40 55 [.str [68,101,115,116,114,111,121,32,68,97,116,101]]=some (.bool false):=by kernel_rfl
theorem ON:aS Tryz.prog aT 40 63 [.str [68,101,115,116,114,111,121,32,68,97,116,101]]=some (.bool false):=by kernel_rfl
theorem OO:aS Tryz.prog aT 40 55 [.str [67,111,109,112,114,111,109,105,115,101,32,79,99,99,117,114,114,101,110,99,101,32,68,97,116,101]]=some (.bool false):=by kernel_rfl
theorem OP:aS Tryz.prog aT 40 63 [.str [67,111,109,112,114,111,109,105,115,101,32,79,99,99,117,114,114,101,110,99,101,32,68,97,116,101]]=some (.bool false):=by kernel_rfl
theorem OQ:aS Tryz.prog aT 40 55 [.str [67,111,109,112,114,111,109,105,115,101,32,68,97,116,101]]=some (.bool false):=by kernel_rfl
theorem OR:aS Tryz.prog aT 40 63 [.str [67,111,109,112,114,111,109,105,115,101,32,68,97,116,101]]=some (.bool false):=by kernel_rfl
theorem OS:aS Tryz.prog aT 40 55 [.str [65,114,99,104,105,118,101,32,68,97,116,101]]=some (.bool false):=by kernel_rfl
theorem OT:aS Tryz.prog aT 40 63 [.str [65,114,99,104,105,118,101,32,68,97,116,101]]=some (.bool false):=by kernel_rfl
theorem OU:aS Tryz.prog aT 40 55 [.str [76,97,115,116,32,67,104,97,110,103,101,32,68,97,116,101]]=some (.bool false):=by kernel_rfl
theorem OV:aS Tryz.prog aT 40 63 [.str [76,97,115,116,32,67,104,97,110,103,101,32,68,97,116,101]]=some (.bool false):=by kernel_rfl
theorem OW:aS Tryz.prog aT 40 55 [.str [82,101,118,111,99,97,116,105,111,110,32,82,101,97,115,111,110]]=some (.bool false):=by kernel_rfl
theorem OX:aS Tryz.prog aT 40 63 [.str [82,101,118,111,99,97,116,105,111,110,32,82,101,97,115,111,110]]=some (.bool false):=by kernel_rfl
theorem OY:aS Tryz.prog aT 40 55 [.str [76,105,110,107]]=some (.bool false):=by kernel_rfl
theorem OZ:aS Tryz.prog aT 40 63 [.str [76,105,110,107]]=some (.bool false):=by kernel_rfl
theorem O0:aS Tryz.prog aT 40 55 [.str [85,115,97,103,101,32,76,105,109,105,116,115]]=some (.bool false):=by kernel_rfl
theorem O1:aS Tryz.prog aT 40 63 [.str [85,115,97,103,101,32,76,105,109,105,116,115]]=some (.bool false):=by kernel_rfl
theorem O2:aS Tryz.prog aT 40 55 [.str [120,45,97]]=some (.bool true):=by kernel_rfl
theorem O3:aS Tryz.prog aT 40 63 [.str [120,45,97]]=some (.bool true):=by kernel_rfl
theorem O4:aS Tryz.prog aT 40 55 [.str [120,45,98]]=some (.bool true):=by kernel_rfl
theorem O5:aS Tryz.prog aT 40 63 [.str [120,45,98]]=some (.bool true):=by kernel_rfl
theorem O6:aS Tryz.prog aT 40 55 [.str [120,45]]=some (.bool true):=by kernel_rfl
theorem O7:aS Tryz.prog aT 40 63 [.str [120,45]]=some (.bool true):=by kernel_rfl
theorem O8:aS Tryz.prog aT 40 55 [.str [121]]=some (.bool false):=by kernel_rfl
theorem O9:aS Tryz.prog aT 40 63 [.str [121]]=some (.bool false):=by kernel_rfl
theorem Pa:∀s∈cF,SC 99 [.str s] (.bool (oX s)):=by
 simp only[cF,List.forall_mem_cons]
 exact ⟨aO rfl NJ rfl,aO rfl NL rfl,aO rfl NN rfl,aO rfl NP rfl,aO rfl NR rfl,aO rfl NT rfl,aO rfl NV rfl,aO rfl NX rfl,aO rfl NZ rfl,aO rfl N1 rfl,aO rfl N3 rfl,aO rfl N5 rfl,aO rfl N7 rfl,aO rfl N9 rfl,aO rfl Oc rfl,aO rfl Oe rfl,aO rfl Og rfl,aO rfl Oi rfl,fun _ h=>by cases h⟩
theorem EX:∀s∈cF,SC 132 [.str s] (.bool (oX s)):=by
 simp only[cF,List.forall_mem_cons]
 exact ⟨aO rfl NK rfl,aO rfl NM rfl,aO rfl NO rfl,aO rfl NQ rfl,aO rfl NS rfl,aO rfl NU rfl,aO rfl NW rfl,aO rfl NY rfl,aO rfl N0 rfl,aO rfl N2 rfl,aO rfl N4 rfl,aO rfl N6 rfl,aO rfl N8 rfl,aO rfl Oa rfl,aO rfl Od rfl,aO rfl Of rfl,aO rfl Oh rfl,aO rfl Oj rfl,fun _ h=>by cases h⟩
theorem Pb:∀s∈iP,SC 55 [.str s] (.bool (dN s)):=by
 simp only[iP,List.forall_mem_cons]
 exact ⟨aO rfl Ok rfl,aO rfl Om rfl,aO rfl Oo rfl,aO rfl Ot rfl,aO rfl Ov rfl,aO rfl Ox rfl,aO rfl Oz rfl,aO rfl OB rfl,aO rfl OD rfl,aO rfl OG rfl,aO rfl OI rfl,aO rfl OK rfl,aO rfl OM rfl,aO rfl OO rfl,aO rfl OQ rfl,aO rfl OS rfl,aO rfl OU rfl,aO rfl OW rfl,aO rfl OY rfl,aO rfl O0 rfl,aO rfl O2 rfl,aO rfl O4 rfl,aO rfl O6 rfl,aO rfl O8 rfl,fun _ h=>by cases h⟩
theorem Pc:∀s∈iP,SC 63 [.str s] (.bool (dN s)):=by
 simp only[iP,List.forall_mem_cons]
 exact ⟨aO rfl Ol rfl,aO rfl On rfl,aO rfl Oq rfl,aO rfl Ou rfl,aO rfl Ow rfl,aO rfl Oy rfl,aO rfl OA rfl,aO rfl OC rfl,aO rfl OE rfl,aO rfl OH rfl,aO rfl OJ rfl,aO rfl OL rfl,aO rfl ON rfl,aO rfl OP rfl,aO rfl OR rfl,aO rfl OT rfl,aO rfl OV rfl,aO rfl OX rfl,aO rfl OZ rfl,aO rfl O1 rfl,aO rfl O3 rfl,aO rfl O5 rfl,aO rfl O7 rfl,aO rfl O9 rfl,fun _ h=>by cases h⟩
end Go.Proofs.YtmnlofhodbnenaaGreatDoor
namespace Go.Proofs.YtmnlofhodbnenaaGreatDoor
set_option maxRecDepth 20000
open Go Go.RowKit
open Go.Proofs.Abs
def dA {α:Type} (l:List α) (i:Nat) (x:α):List α:=l.take i++x::l.drop (i+1)
theorem Pd (l:List (List UInt8)) (i:Nat) (x:List UInt8) (h1:i≤l.length) (h2:l.length≤6) (h3:i<6):SC 201 [.fsl false (l.map .str),I (.ofNat i),.str x] (.fsl false ((dA l i x).map .str)):=by
 rcases l with _|⟨_,_|⟨_,_|⟨_,_|⟨_,_|⟨_,_|⟨_,_|⟨_,_⟩⟩⟩⟩⟩⟩⟩
 all_goals rcases i with _|_|_|_|_|_|i
 all_goals first
  |(exfalso;simp only[List.length_cons,List.length_nil] at h1 h2;omega)
  |exact SemCall.emptyAt (aO rfl (by kernel_rfl) rfl) (aO rfl (by kernel_rfl) rfl)
  |exact aO rfl (by kernel_rfl) rfl
theorem Pe (l:List (Lk)) (i:Nat) (x:Lk) (h1:i≤l.length) (h2:l.length≤8) (h3:i<8):SC 213 [.fsl false (l.map bi),I (.ofNat i),bi x] (.fsl false ((dA l i x).map bi)):=by
 rcases l with _|⟨_,_|⟨_,_|⟨_,_|⟨_,_|⟨_,_|⟨_,_|⟨_,_|⟨_,_|⟨_,_⟩⟩⟩⟩⟩⟩⟩⟩⟩
 all_goals rcases i with _|_|_|_|_|_|_|_|i
 all_goals first
  |(exfalso;simp only[List.length_cons,List.length_nil] at h1 h2;omega)
  |exact SemCall.emptyAt (aO rfl (by kernel_rfl) rfl) (aO rfl (by kernel_rfl) rfl)
  |exact aO rfl (by kernel_rfl) rfl
theorem Pf (l:List (Cu)) (i:Nat) (x:Cu) (h1:i≤l.length) (h2:l.length≤6) (h3:i<6):SC 108 [.fsl false (l.map aQ),I (.ofNat i),aQ x] (.fsl false ((dA l i x).map aQ)):=by
 rcases l with _|⟨_,_|⟨_,_|⟨_,_|⟨_,_|⟨_,_|⟨_,_|⟨_,_⟩⟩⟩⟩⟩⟩⟩
 all_goals rcases i with _|_|_|_|_|_|i
 all_goals first
  |(exfalso;simp only[List.length_cons,List.length_nil] at h1 h2;omega)
  |exact SemCall.emptyAt (aO rfl (by kernel_rfl) rfl) (aO rfl (by kernel_rfl) rfl)
  |exact aO rfl (by kernel_rfl) rfl
end Go.Proofs.YtmnlofhodbnenaaGreatDoor
namespace Go.Proofs.YtmnlofhodbnenaaGreatDoor
open Go Go.RowKit
open Go.Proofs.Abs
noncomputable section
theorem rG {p:Nat→Prop} (n:Nat) (hn:p n) (hs:∀i,i<n→p (i+1)→p i):∀i,i≤n→p i:=by
 intro i hi
 obtain ⟨m,rfl⟩:∃m,n=i+m:=⟨n-i,by omega⟩
 clear hi
 induction m generalizing i with
 |zero=>exact hn
 |succ m ih=>exact hs i (by omega) (ih (i+1) (by rw[show i+1+m=i+(m+1) by omega];exact hn) (by intro j hj;exact hs j (by omega)))
abbrev u8 (b:UInt8):AV:= .int .u8 (.ofNat b.toNat)
theorem EY {f:Bool} {s:List UInt8} {i:Nat} {b:UInt8} (hx:s[i]? =some b):aC Tryz.prog 23 (.fsl f (ai s)) (.int .i64 (.ofNat i))=some (.fptr [u8 b] 0):=
 fN (v:=u8 b) (e:=5) (sz:=1) (by kernel_rfl) (by kernel_rfl) (by rw[oE,List.getElem?_map,hx];rfl) rfl
def oY (D E:List AV) (i:Nat):View:=⟨[(0,.fsl false D),(1,.fsl false E),(4,.bool false),(12,I (.ofNat (aa D))),(13,I (.ofNat i))],[],[],0,26⟩
def eqF:View:=⟨[(4,.bool false)],[],[],0,26⟩
def zg (a b:UInt8):aX:=ap [(6,2,.res (.fptr [u8 a] 0)),(6,6,.res (.fptr [u8 b] 0))] [] aH [] []
@[simp] abbrev lv:=(AV.bool false=AV.bool false∧true=true)
@[simp] abbrev uw (D:List AV):=(I (Int.ofNat (aa D))=I (Int.ofNat (aa D))∧ah (I (Int.ofNat (aa D)))=true)
@[simp] abbrev ux (D:List AV):=(AV.fsl false D=AV.fsl false D∧ah (AV.fsl false D)=true)
@[simp] abbrev uz (E:List AV):=(AV.fsl false E=AV.fsl false E∧ah (AV.fsl false E)=true)
theorem EZ (D E:List AV) (i j:Nat) (a b:UInt8) (N:Prop) (Q:AExit→St→Prop):aI Tryz.prog opts0 40 (zg a b) (aD Tryz.prog 145 5) (oY D E i).st (bf 0 [] (oY D E j) N [] eqF Q)=
  (ab (aq (Int.ofNat i) (Int.ofNat (aa D))) (aC Tryz.prog 23 (AV.fsl false D) (I (Int.ofNat i))=some (AV.fptr [AV.int IntKind.u8 (Int.ofNat a.toNat)] 0)∧aC Tryz.prog 23 (AV.fsl false E) (I (Int.ofNat i))=some (AV.fptr [AV.int IntKind.u8 (Int.ofNat b.toNat)] 0)∧ab (!ak (Int.ofNat a.toNat) (Int.ofNat b.toNat)) (((lv∧True)∧True∧True)∧Q AExit.ret eqF.st) ((((ux D)∧(uz E)∧lv∧(uw D)∧(I (ar IntKind.i64 (Int.ofNat i+1))=I (Int.ofNat j)∧ah (I (Int.ofNat j))=true)∧True)∧True∧True)∧N)) (((lv∧True)∧True∧True)∧Q (AExit.exit 0) eqF.st)):=by kernel_rfl
def E8 (D E:List AV) (p:Prop) (r:Bool):bq:=fun s Q=>p∧ck 0 [] (oY D E 0) s∧ab r (Q (.exit 0) eqF.st) (Q .ret eqF.st)
theorem Pg (D E:List AV) (p:Prop) (r:Bool) (Q:AV→Prop):ax Tryz.prog opts0 40 (ap [] [(5,E8 D E p r)] aH [] []) 145 [.fsl false D,.fsl false E] [] 0 (fun v _ _=>Q v)=
  (ab (!ak (Int.ofNat (aa D)) (Int.ofNat (aa E))) (Q (AV.bool false)) (p∧(((ux D)∧(uz E)∧lv∧(uw D)∧(I 0=I 0∧true=true)∧True)∧True∧True)∧ab r (Q (AV.bool true)) (Q (AV.bool false)))):=by kernel_rfl
theorem Ph (a b:UInt8) (s t:List UInt8):aA (a::s) (b::t)=(Nat.beq a.toNat b.toNat&&aA s t):=by
 rw[Bool.eq_iff_iff,Bool.and_eq_true,beqBytes_iff,beqBytes_iff,beq_iff,List.cons.injEq]
 exact and_congr_left fun _=>⟨fun h=>by rw[h],fun h=>UInt8.toNat_inj.1 h⟩
theorem E9 (a b:Nat):ak (.ofNat a) (.ofNat b)=Nat.beq a b:=rfl
theorem Pi {s t:List UInt8} {Q:AExit→St→Prop} (hl:s.length=t.length) (hb:s.length≤bd):∀i,i≤s.length→(ab (aA (s.drop i) (t.drop i)) (Q (.exit 0) eqF.st) (Q .ret eqF.st)→ALp Tryz.prog opts0.glob 0 (aD Tryz.prog 145 5) (oY (ai s) (ai t) i).st Q):=by
 refine rG _ (fun hq=> ?_) (fun i hi ih hq=> ?_)
 ·refine ALp.round (A:=zg 0 0) (V2:=oY (ai s) (ai t) 0) (F:=eqF) (lk:=[]) (lk':=[]) base0 ao (LsOk.no rfl) .refl ?_
  rw[EZ]
  refine aj (fun h=> ?_) (fun _=> ?_)
  ·have h:=ltInt_iff.1 h
   simp only[mW,Int.ofNat_eq_natCast] at h
   omega
  ·rw[List.drop_of_length_le (by omega),List.drop_of_length_le (by omega)] at hq
   exact ⟨by simp,hq⟩
 ·have h2:i<t.length:=by omega
  have g1:=List.getElem?_eq_getElem hi
  have g2:=List.getElem?_eq_getElem h2
  rw[List.drop_eq_getElem_cons hi,List.drop_eq_getElem_cons h2,Ph] at hq
  revert g1 g2 hq
  generalize s[i]=a
  generalize t[i]=b
  intro hq g1 g2
  refine ALp.round (A:=zg a b) (V2:=oY (ai s) (ai t) (i+1)) (F:=eqF) (lk:=[]) (lk':=[]) base0 ao (LsOk.no rfl) .refl ?_
  rw[EZ]
  have hb:s.length≤1099511627776:=hb
  refine aj (fun _=>⟨EY g1,EY g2,aj (fun h=> ?_) (fun h=> ?_)⟩) (fun h=> ?_)
  ·rw[E9,Bool.not_eq_true'] at h
   rw[h] at hq
   exact ⟨by simp,hq⟩
  ·rw[E9,Bool.not_eq_false'] at h
   rw[h] at hq
   rw[eQ (by simp;omega) (by simp;omega)]
   exact ⟨by simp[ah],ih hq⟩
  ·have h:=ltInt_false.1 h
   simp only[mW,Int.ofNat_eq_natCast] at h
   omega
theorem Pj:bu (cy Tryz.prog 145) 5=[aD Tryz.prog 145 5]:=by kernel_rfl
theorem Pk {s t:List UInt8} (h:aA s t=true):s.length=t.length:=by rw[beqBytes_iff.1 h]
theorem Pl {s t:List UInt8} (hb:s.length≤bd):SC 145 [.fsl false (ai s),.fsl false (ai t)] (.bool (aA s t)):=by
 refine bN (A:=ap [] [(5,E8 (ai s) (ai t) (s.length=t.length) (aA s t))] aH [] []) base0 ao
  (aw (LsOk.at1 rfl Pj fun s Q hs=> .seen base0.glob hs.2.1 (Pi hs.1 hb 0 (by omega) (by simpa using hs.2.2)))) (by simp[ac,ah]) rfl ?_
 rw[Pg]
 simp only[mW]
 refine aj (fun e=> ?_) (fun e=>⟨?_,by simp[ah],aj (fun e6=>by rw[e6]) (fun e6=>by rw[e6])⟩)
 ·refine congrArg AV.bool ?_
  cases h:aA s t with
  |false=>rfl
  |true=>
   rw[Pk h,Bool.not_eq_true',beqInt_false] at e
   exact absurd rfl e
 ·rw[Bool.not_eq_false',beqInt_iff] at e
  exact Int.ofNat.inj e
def oZ (D E:List AV) (i:Nat):View:=⟨[(1,.fsl false E),(2,bQ 130),(6,.bool false),(15,.fsl false D),(16,I (.ofNat (aa D))),(17,I (.ofNat i))],[],[],0,32⟩
def efF:View:=⟨[(6,.bool false)],[],[],0,32⟩
def zh (c c':List AV) (r:Bool):aX:=ap [(5,1,.res (.fptr c 0)),(6,2,.res (.fptr c' 0))] [] (bg [(130,.bool r)]) [] []
@[simp] abbrev Fa:=(AV.func (Fn.func 130) [] []=AV.func (Fn.func 130) [] []∧true=true)
theorem Fb (a b c a' b' c':Int) (D E F K F' K':List AV) (i j:Nat) (r:Bool) (N:Prop) (Q:AExit→St→Prop):aI Tryz.prog opts0 40 (zh (ag a b c F K) (ag a' b' c' F' K') r) (aD Tryz.prog 222 5) (oZ D E i).st (bf 0 [] (oZ D E j) N [] efF Q)=
  (ab (aq (Int.ofNat i) (Int.ofNat (aa D))) (aC Tryz.prog 24 (AV.fsl false D) (I (Int.ofNat i))=some (AV.fptr [I a,I b,I c,AV.fsl false F,AV.fsl false K] 0)∧aC Tryz.prog 24 (AV.fsl false E) (I (Int.ofNat i))=some (AV.fptr [I a',I b',I c',AV.fsl false F',AV.fsl false K'] 0)∧SC 130 [AV.agg [I a,I b,I c,AV.fsl false F,AV.fsl false K],AV.agg [I a',I b',I c',AV.fsl false F',AV.fsl false K']] (AV.bool r)∧ab (!r) (((lv∧True)∧True∧True)∧Q AExit.ret efF.st) ((((uz E)∧Fa∧lv∧(ux D)∧(uw D)∧(I (ar IntKind.i64 (Int.ofNat i+1))=I (Int.ofNat j)∧ah (I (Int.ofNat j))=true)∧True)∧True∧True)∧N)) (((lv∧True)∧True∧True)∧Q (AExit.exit 0) efF.st)):=by kernel_rfl
def Fd (D E:List AV) (p:Prop) (r:Bool):bq:=fun s Q=>p∧ck 0 [] (oZ D E 0) s∧ab r (Q (.exit 0) efF.st) (Q .ret efF.st)
theorem Pm (D E:List AV) (p:Prop) (r:Bool) (Q:AV→Prop):ax Tryz.prog opts0 40 (ap [] [(5,Fd D E p r)] aH [] []) 222 [.fsl false D,.fsl false E,bQ 130] [] 0 (fun v _ _=>Q v)=
  (ab (!ak (Int.ofNat (aa D)) (Int.ofNat (aa E))) (Q (AV.bool false)) (p∧(((uz E)∧Fa∧lv∧(ux D)∧(uw D)∧(I 0=I 0∧true=true)∧True)∧True∧True)∧ab r (Q (AV.bool true)) (Q (AV.bool false)))):=by kernel_rfl
theorem Pn (a b c a' b' c':Int) (F K F' K':List AV) (r r':Bool) (Q:AV→Prop):ax Tryz.prog opts0 40 (ap [] [] (bg [(145,.bool r),(222,.bool r')]) [] []) 130 [.agg (ag a b c F K),.agg (ag a' b' c' F' K')] [] 0 (fun v _ _=>Q v)=
  (ab (ak a a') (ab (ak b b') (ab (ak c c') (SC 145 [AV.fsl false F,AV.fsl false F'] (AV.bool r)∧ab r (SC 222 [AV.fsl false K,AV.fsl false K',AV.func (Fn.func 130) [] []] (AV.bool r')∧Q (AV.bool r')) (Q (AV.bool false))) (Q (AV.bool false))) (Q (AV.bool false))) (Q (AV.bool false))):=by kernel_rfl
theorem Po {ks ks':List It} {Q:AExit→St→Prop} (hl:ks.length=ks'.length) (hb:ks.length≤bd)
  (ihs:∀ (i:Nat) (x z:It),ks[i]? =some x→ks'[i]? =some z→SC 130 [aG x,aG z] (.bool (dL x z))):
  ∀i,i≤ks.length→(ab (ep (ks.drop i) (ks'.drop i)) (Q (.exit 0) efF.st) (Q .ret efF.st)→ALp Tryz.prog opts0.glob 0 (aD Tryz.prog 222 5) (oZ (ad ks) (ad ks') i).st Q):=by
 refine rG _ (fun hq=> ?_) (fun i hi ih hq=> ?_)
 ·refine ALp.round (A:=zh (ag 0 0 0 [] []) (ag 0 0 0 [] []) true) (V2:=oZ (ad ks) (ad ks') 0) (F:=efF) (lk:=[]) (lk':=[]) base0 ao (LsOk.no rfl) .refl ?_
  rw[Fb]
  refine aj (fun h=> ?_) (fun _=> ?_)
  ·have h:=ltInt_iff.1 h
   simp only[aE,dq,Int.ofNat_eq_natCast] at h
   omega
  ·rw[List.drop_of_length_le (by omega),List.drop_of_length_le (by omega)] at hq
   exact ⟨by simp,hq⟩
 ·have h2:i<ks'.length:=by omega
  have g1:=List.getElem?_eq_getElem hi
  have g2:=List.getElem?_eq_getElem h2
  rw[List.drop_eq_getElem_cons hi,List.drop_eq_getElem_cons h2,ep] at hq
  have hs:=ihs i _ _ g1 g2
  revert g1 g2 hq hs
  generalize ks[i]=x
  generalize ks'[i]=z
  intro hq g1 g2 hs
  obtain ⟨a,b,c,e,l⟩:=x
  obtain ⟨a',b',c',e',l'⟩:=z
  refine ALp.round (A:=zh (ag a b c (ai e) (ad l)) (ag a' b' c' (ai e') (ad l')) (dL (.mk a b c e l) (.mk a' b' c' e' l'))) (V2:=oZ (ad ks) (ad ks') (i+1)) (F:=efF) (lk:=[]) (lk':=[]) base0 ao (LsOk.no rfl) .refl ?_
  rw[Fb]
  have hb:ks.length≤1099511627776:=hb
  refine aj (fun _=>⟨bB g1,bB g2,hs,aj (fun h=> ?_) (fun h=> ?_)⟩) (fun h=> ?_)
  ·rw[Bool.not_eq_true'] at h
   rw[h] at hq
   exact ⟨by simp,hq⟩
  ·rw[Bool.not_eq_false'] at h
   rw[h] at hq
   rw[eQ (by simp;omega) (by simp;omega)]
   exact ⟨by simp[ah,cH],ih hq⟩
  ·have h:=ltInt_false.1 h
   simp only[aE,dq,Int.ofNat_eq_natCast] at h
   omega
theorem Pp:bu (cy Tryz.prog 222) 5=[aD Tryz.prog 222 5]:=by kernel_rfl
theorem Pq {ks ks':List It} (hb:ks.length≤bd)
  (ihs:∀ (i:Nat) (x z:It),ks[i]? =some x→ks'[i]? =some z→SC 130 [aG x,aG z] (.bool (dL x z))):
  SC 222 [.fsl false (ad ks),.fsl false (ad ks'),bQ 130] (.bool (ep ks ks')):=by
 refine bN (A:=ap [] [(5,Fd (ad ks) (ad ks') (ks.length=ks'.length) (ep ks ks'))] aH [] []) base0 ao
  (aw (LsOk.at1 rfl Pp fun s Q hs=> .seen base0.glob hs.2.1 (Po hs.1 hb ihs 0 (by omega) (by simpa using hs.2.2)))) (by simp[ac,ah,cH,bQ]) rfl ?_
 rw[Pm]
 simp only[aE,dq]
 refine aj (fun e=> ?_) (fun e=>⟨?_,by simp[ah,cH],aj (fun e6=>by rw[e6]) (fun e6=>by rw[e6])⟩)
 ·refine congrArg AV.bool ?_
  cases h:ep ks ks' with
  |false=>rfl
  |true=>
   rw[DW h,Bool.not_eq_true',beqInt_false] at e
   exact absurd rfl e
 ·rw[Bool.not_eq_false',beqInt_iff] at e
  exact Int.ofNat.inj e
theorem Pr {t y n t' y' n':Int} {d d':List UInt8} {ks ks':List It} (h:bO bd (.mk t y n d ks))
  (ih:∀ (i:Nat) (x z:It),ks[i]? =some x→ks'[i]? =some z→SC 130 [aG x,aG z] (.bool (dL x z))):
  SC 130 [aG (.mk t y n d ks),aG (.mk t' y' n' d' ks')] (.bool (dL (.mk t y n d ks) (.mk t' y' n' d' ks'))):=by
 simp only[bO] at h
 obtain ⟨h3,h4,h5⟩:=h
 refine bN (A:=ap [] [] (bg [(145,.bool (aA d d')),(222,.bool (ep ks ks'))]) [] []) base0 ao (aw (LsOk.no rfl)) (by simp[ac,bG]) rfl ?_
 rw[aU,aU,Pn]
 simp only[dL]
 refine aj (fun e=>aj (fun e2=>aj (fun e3=>⟨Pl h3,aj (fun e4=>⟨Pq h4 ih, ?_⟩) (fun e4=> ?_)⟩) (fun e3=> ?_)) (fun e2=> ?_)) (fun e=> ?_)
 all_goals simp only[*,Bool.true_and,Bool.false_and]
mutual
theorem Fe:∀x z:It,bO bd x→SC 130 [aG x,aG z] (.bool (dL x z))
 | .mk _ _ _ _ ks,.mk _ _ _ _ _ks',h=>Pr h fun _i x z hx _=>Ff ks x (List.mem_of_getElem? hx) z (okIs_iff.1 h.2.2 x (List.mem_of_getElem? hx))
theorem Ff:∀ks:List It,∀x∈ks,∀z,bO bd x→SC 130 [aG x,aG z] (.bool (dL x z))
 |[],_,hx,_,_=>by cases hx
 |k::r,x,hx,z,h=>by
  have h1:=Fe k z
  have h2:=Ff r x
  rcases List.mem_cons.1 hx with e|hx
  ·rw[e] at h⊢;exact h1 h
  ·exact h2 hx z h
end
end
end Go.Proofs.YtmnlofhodbnenaaGreatDoor
namespace Go.Proofs.YtmnlofhodbnenaaGreatDoor
set_option maxRecDepth 20000
open Go Go.RowKit
open Go.Proofs.Abs
noncomputable section
def fo (s:List UInt8) (C:List AV) (i:Nat):View:=⟨[(1,.str s),(5,.nilsl),(9,.fsl false C),(10,I (.ofNat (aa C))),(11,I (.ofNat i))],[],[],1,26⟩
def er (s:List UInt8) (C:List AV) (i k:Nat) (es:List AV):View:=⟨[(1,.str s),(9,.fsl false C),(10,I (.ofNat (aa C))),(11,I (.ofNat i))],[(5,.rsl true 0 0 k 1)],[(0,.cells es,.whole)],1,26⟩
def jm (n t:List UInt8):aX:=ap [(4,1,.res (.fptr [.str n,.str t] 0))] [] aH [] []
@[simp] abbrev g9 (C:List AV):=(I (Int.ofNat (aa C))=I (Int.ofNat (aa C))∧ah (I (Int.ofNat (aa C)))=true)
@[simp] abbrev hQ (C:List AV):=(AV.fsl false C=AV.fsl false C∧ah (AV.fsl false C)=true)
@[simp] abbrev hU (s:List UInt8):=(AV.str s=AV.str s∧ah (AV.str s)=true)
@[simp] abbrev uA:=(AV.nilsl=AV.nilsl∧true=true)
@[simp] abbrev zi (i:Nat):=(I (Int.ofNat i)=I (Int.ofNat i)∧ah (I (Int.ofNat i))=true)
theorem Fg (s:List UInt8) (C:List AV) (i j:Nat) (n t:List UInt8) (N:Prop) (Q:AExit→St→Prop):aI Tryz.prog opts0 40 (jm n t) (aD Tryz.prog 103 4) (fo s C i).st (bf 0 [] (fo s C j) N [] (fo s C i) Q)=
  (ab (aq (Int.ofNat i) (Int.ofNat (aa C))) (aC Tryz.prog 34 (AV.fsl false C) (I (Int.ofNat i))=some (AV.fptr [AV.str n,AV.str t] 0)∧ab (aA n s) ((((hU s)∧(AV.rsl true 15 0 (aa [I (Int.ofNat i)]) 1=AV.nilsl∧true=true)∧(hQ C)∧(g9 C)∧(I (ar IntKind.i64 (Int.ofNat i+1))=I (Int.ofNat j)∧ah (I (Int.ofNat j))=true)∧True)∧True∧True)∧N) ((((hU s)∧uA∧(hQ C)∧(g9 C)∧(I (ar IntKind.i64 (Int.ofNat i+1))=I (Int.ofNat j)∧ah (I (Int.ofNat j))=true)∧True)∧True∧True)∧N)) ((((hU s)∧uA∧(hQ C)∧(g9 C)∧(zi i)∧True)∧True∧True)∧Q (AExit.exit 0) (fo s C i).st)):=by kernel_rfl
theorem Ps (s:List UInt8) (C:List AV) (i j k:Nat) (es:List AV) (n t:List UInt8) (N:Prop) (Q:AExit→St→Prop):aI Tryz.prog opts0 40 (jm n t) (aD Tryz.prog 103 4) (fo s C i).st (bf 0 [(0,15)] (er s C j k es) N [] (fo s C i) Q)=
  (ab (aq (Int.ofNat i) (Int.ofNat (aa C))) (aC Tryz.prog 34 (AV.fsl false C) (I (Int.ofNat i))=some (AV.fptr [AV.str n,AV.str t] 0)∧ab (aA n s) ((((hU s)∧(hQ C)∧(g9 C)∧(I (ar IntKind.i64 (Int.ofNat i+1))=I (Int.ofNat j)∧ah (I (Int.ofNat j))=true)∧True)∧((true=true∧some 15=some 15∧0=0∧k=aa [I (Int.ofNat i)]∧1=1)∧True)∧(flat [I (Int.ofNat i)]=es∧ac es=true)∧True)∧N) ((((hU s)∧(hQ C)∧(g9 C)∧(I (ar IntKind.i64 (Int.ofNat i+1))=I (Int.ofNat j)∧ah (I (Int.ofNat j))=true)∧True)∧(False∧True)∧False∧True)∧N)) ((((hU s)∧uA∧(hQ C)∧(g9 C)∧(zi i)∧True)∧True∧True)∧Q (AExit.exit 0) (fo s C i).st)):=by kernel_rfl
@[simp] abbrev Fh (C es:List AV) (Q:AExit→St→Prop) (i k:Nat) (s:List UInt8):=((((hU s)∧(hQ C)∧(g9 C)∧(zi i)∧True)∧((true=true∧some 0=some 0∧0=0∧k=k∧1=1)∧True)∧(es=es∧ac es=true)∧True)∧Q (AExit.exit 0) (er s C i k es).st)
theorem Fi (s:List UInt8) (C:List AV) (i j k:Nat) (es:List AV) (n t:List UInt8) (N:Prop) (Q:AExit→St→Prop):aI Tryz.prog opts0 40 (jm n t) (aD Tryz.prog 103 4) (er s C i k es).st (bf 0 [(0,0)] (er s C j k es) N [(0,0)] (er s C i k es) Q)=
  (ab (aq (Int.ofNat i) (Int.ofNat (aa C))) (aC Tryz.prog 34 (AV.fsl false C) (I (Int.ofNat i))=some (AV.fptr [AV.str n,AV.str t] 0)∧ab (aA n s) (au (a8 1 [I (Int.ofNat i)]&&(((k+aa [I (Int.ofNat i)])*8).ble 140737488355328&&(bc (flat [I (Int.ofNat i)])&&true))) (au ((aa es).beq (k*1)) ((((hU s)∧(hQ C)∧(g9 C)∧(I (ar IntKind.i64 (Int.ofNat i+1))=I (Int.ofNat j)∧ah (I (Int.ofNat j))=true)∧True)∧((true=true∧some 0=some 15∧0=0∧k=k+aa [I (Int.ofNat i)]∧1=1)∧True)∧False∧True)∧N))) ((((hU s)∧(hQ C)∧(g9 C)∧(I (ar IntKind.i64 (Int.ofNat i+1))=I (Int.ofNat j)∧ah (I (Int.ofNat j))=true)∧True)∧((true=true∧some 0=some 0∧0=0∧k=k∧1=1)∧True)∧(es=es∧ac es=true)∧True)∧N)) (Fh C es Q i k s)):=by kernel_rfl
theorem Pt (s:List UInt8) (C:List AV) (i j k k':Nat) (es es':List AV) (n t:List UInt8) (N:Prop) (Q:AExit→St→Prop):aI Tryz.prog opts0 40 (jm n t) (aD Tryz.prog 103 4) (er s C i k es).st (bf 0 [(0,15)] (er s C j k' es') N [(0,0)] (er s C i k es) Q)=
  (ab (aq (Int.ofNat i) (Int.ofNat (aa C))) (aC Tryz.prog 34 (AV.fsl false C) (I (Int.ofNat i))=some (AV.fptr [AV.str n,AV.str t] 0)∧ab (aA n s) (au (a8 1 [I (Int.ofNat i)]&&(((k+aa [I (Int.ofNat i)])*8).ble 140737488355328&&(bc (flat [I (Int.ofNat i)])&&true))) (au ((aa es).beq (k*1)) ((((hU s)∧(hQ C)∧(g9 C)∧(I (ar IntKind.i64 (Int.ofNat i+1))=I (Int.ofNat j)∧ah (I (Int.ofNat j))=true)∧True)∧((true=true∧some 15=some 15∧0=0∧k'=k+aa [I (Int.ofNat i)]∧1=1)∧True)∧(es++flat [I (Int.ofNat i)]=es'∧ac es'=true)∧True)∧N))) ((((hU s)∧(hQ C)∧(g9 C)∧(I (ar IntKind.i64 (Int.ofNat i+1))=I (Int.ofNat j)∧ah (I (Int.ofNat j))=true)∧True)∧((true=true∧some 15=some 0∧0=0∧k'=k∧1=1)∧True)∧False∧True)∧N)) (Fh C es Q i k s)):=by kernel_rfl
def uB (s:List UInt8) (C:List AV) (F:View):bq:=fun st Q=>ck 0 [] (fo s C 0) st∧Q (.exit 0) F.st
@[simp] abbrev Fj (C:List AV) (s:List UInt8):=(((hU s)∧uA∧(hQ C)∧(g9 C)∧(I 0=I 0∧true=true)∧True)∧True∧True)
theorem Pu (o:Ob) (M N L:AV) (s:List UInt8) (C:List AV) (Q:AV→af→Nat→Prop):ax Tryz.prog opts0 40 (ap [] [(4,uB s C (fo s C (aa C)))] aH [] []) 103 [.agg (ae o M N L (.fsl false C)),.str s] [] 0 Q=
  ((Fj C s)∧Q AV.nilsl [] 3):=by kernel_rfl
theorem Pv (o:Ob) (M N L:AV) (s:List UInt8) (C:List AV) (k:Nat) (es:List AV) (Q:AV→af→Nat→Prop):ax Tryz.prog opts0 40 (ap [] [(4,uB s C (er s C (aa C) k es))] aH [] []) 103 [.agg (ae o M N L (.fsl false C)),.str s] [] 0 Q=
  ((Fj C s)∧Q (AV.rsl true 0 0 k 1) [(0,some (Blk.cells es))] 3):=by kernel_rfl
def b6 (s:List UInt8):List Cu→Nat→List Nat
 |[],_=>[]
 |c::r,k=>match aA c.name s with
  |true=>k::b6 s r (k+1)
  |false=>b6 s r (k+1)
theorem Fk (s:List UInt8) (c:Cu):∀ (l:List Cu) (k:Nat),b6 s (l++[c]) k=b6 s l k++(match aA c.name s with|true=>[k+l.length]|false=>[])
 |[],k=>by simp only[List.nil_append,b6];cases aA c.name s<;>simp
 |a::r,k=>by
  have ih:=Fk s c r (k+1)
  have e:k+1+r.length=k+(r.length+1):=by omega
  rw[e] at ih
  simp only[List.cons_append,b6,ih,List.length_cons]
  cases aA a.name s<;>simp
theorem lw {α:Type} {l:List α} {i:Nat} {c:α} (h:l[i]? =some c):l.take (i+1)=l.take i++[c]:=by rw[List.take_add_one,h];rfl
theorem Pw {α:Type} {l:List α} {i:Nat} {c:α} (h:l[i]? =some c):i<l.length:=by
 rcases Nat.lt_or_ge i l.length with h'|h'
 ·exact h'
 ·rw[List.getElem?_eq_none h'] at h;cases h
theorem Px {s:List UInt8} {l:List Cu} {i:Nat} {c:Cu} (h:l[i]? =some c):b6 s (l.take (i+1)) 0=b6 s (l.take i) 0++(match aA c.name s with|true=>[i]|false=>[]):=by
 rw[lw h,Fk,Nat.zero_add,List.length_take,Nat.min_eq_left (Nat.le_of_lt (Pw h))]
theorem uC (s:List UInt8):∀ (l:List Cu) (k:Nat),(b6 s l k).length≤l.length
 |[],_=>Nat.le_refl _
 |c::r,k=>by
  have:=uC s r (k+1)
  simp only[b6]
  split<;>simp<;>omega
theorem uE (s:List UInt8):∀ (l:List Cu) (k:Nat),∀x∈b6 s l k,k≤x∧x<k+l.length
 |[],_,x,h=>by cases h
 | c::r,k,x,h=>by
  have ih:=uE s r (k+1) x
  simp only[b6] at h
  simp only[List.length_cons]
  split at h
  ·rcases List.mem_cons.1 h with rfl|h
   ·omega
   ·have:=ih h;omega
  ·have:=ih h;omega
def lx (s:List UInt8) (C:List AV) (i:Nat) (p:List Nat):View:=match p with
 |[]=>fo s C i
 |_::_=>er s C i p.length (p.map nI)
theorem o0 {f:Bool} {l:List Cu} {i:Nat} {c:Cu} (hx:l[i]? =some c):aC Tryz.prog 34 (.fsl f (l.map aQ)) (.int .i64 (.ofNat i))=some (.fptr [.str c.name,.str c.text] 0):=
 fN (v:=aQ c) (e:=83) (sz:=2) (by kernel_rfl) (by kernel_rfl) (by rw[List.getElem?_map,hx];rfl) rfl
theorem j9:∀p:List Nat,ac (p.map nI)=true
 |[]=>rfl
 |_::t=>j9 t
theorem Fl:∀p:List Nat,flat (p.map nI)=p.map nI
 |[]=>rfl
 |x::t=>by simp only[List.map_cons,flat,Fl t];rfl
theorem Fm {s:List UInt8} {l:List Cu} {Q:AExit→St→Prop} (hb:l.length≤bd) (hq:Q (.exit 0) (lx s (l.map aQ) l.length (b6 s l 0)).st):
    ∀i,i≤l.length→ALp Tryz.prog opts0.glob 0 (aD Tryz.prog 103 4) (lx s (l.map aQ) i (b6 s (l.take i) 0)).st Q:=by
  have hlen:aa (l.map aQ)=l.length:=by rw[aE,List.length_map]
  have hcl:=m4 l
  have hb:l.length≤1099511627776:=hb
  refine rG _ ?_ (fun i hi ih=> ?_)
  · rw[List.take_length]
    cases hp:b6 s l 0 with
    | nil=>
      rw[hp] at hq
      refine ALp.round (A:=jm [] []) (V2:=fo s (l.map aQ) 0) (F:=fo s (l.map aQ) l.length) (lk:=[]) (lk':=[]) base0 ao (LsOk.no rfl) .refl ?_
      simp only[lx]
      rw[Fg]
      refine aj (fun h=> ?_) (fun _=>⟨by simp[ah,hcl],hq⟩)
      have h:=ltInt_iff.1 h
      simp only[hlen,Int.ofNat_eq_natCast] at h
      omega
    | cons a r=>
      rw[hp] at hq
      refine ALp.round (A:=jm [] []) (V2:=er s (l.map aQ) 0 (a::r).length ((a::r).map nI)) (F:=er s (l.map aQ) l.length (a::r).length ((a::r).map nI)) (lk:=[(0,0)]) (lk':=[(0,0)]) base0 ao (LsOk.no rfl) .refl ?_
      simp only[lx]
      rw[Fi]
      refine aj (fun h=> ?_) (fun _=>⟨by simp[ah,hcl,j9,ac,nI],hq⟩)
      have h:=ltInt_iff.1 h
      simp only[hlen,Int.ofNat_eq_natCast] at h
      omega
  · have g1:=List.getElem?_eq_getElem hi
    revert g1
    generalize l[i]=c
    intro g1
    have hs:=Px (s:=s) g1
    have hw:ar .i64 (Int.ofNat i+1)=Int.ofNat (i+1):=eQ (by simp;omega) (by simp;omega)
    have hno:aq (Int.ofNat i) (Int.ofNat (aa (l.map aQ)))=false→False:=fun h=>by
      have h:=ltInt_false.1 h
      simp only[hlen,Int.ofNat_eq_natCast] at h
      omega
    have hpl:(b6 s (l.take i) 0).length≤i:=by
      have:=uC s (l.take i) 0
      rw[List.length_take] at this
      omega
    rw[hs] at ih
    clear hs
    revert ih hpl
    generalize b6 s (l.take i) 0=p
    intro ih hpl
    cases hc:aA c.name s with
    | false=>
      rw[hc] at ih
      simp only[List.append_nil] at ih
      cases p with
      | nil=>
        refine ALp.round (A:=jm c.name c.text) (V2:=fo s (l.map aQ) (i+1)) (F:=fo s (l.map aQ) i) (lk:=[]) (lk':=[]) base0 ao (LsOk.no rfl) .refl ?_
        simp only[lx] at ih⊢
        rw[Fg]
        refine aj (fun _=>⟨o0 g1,aj (fun h=> ?_) (fun _=> ?_)⟩) (fun h=>(hno h).elim)
        · rw[hc] at h;cases h
        · rw[hw]
          exact ⟨by simp[ah,hcl],ih⟩
      | cons a r=>
        refine ALp.round (A:=jm c.name c.text) (V2:=er s (l.map aQ) (i+1) (a::r).length ((a::r).map nI)) (F:=er s (l.map aQ) i (a::r).length ((a::r).map nI)) (lk:=[(0,0)]) (lk':=[(0,0)]) base0 ao (LsOk.no rfl) .refl ?_
        simp only[lx] at ih⊢
        rw[Fi]
        refine aj (fun _=>⟨o0 g1,aj (fun h=> ?_) (fun _=> ?_)⟩) (fun h=>(hno h).elim)
        · rw[hc] at h;cases h
        · rw[hw]
          exact ⟨by simp[ah,hcl,j9,ac,nI],ih⟩
    | true=>
      rw[hc] at ih
      cases p with
      | nil=>
        refine ALp.round (A:=jm c.name c.text) (V2:=er s (l.map aQ) (i+1) 1 [nI i]) (F:=fo s (l.map aQ) i) (lk:=[(0,15)]) (lk':=[]) base0 ao (LsOk.no rfl) .refl ?_
        simp only[lx,List.nil_append] at ih⊢
        rw[Ps]
        refine aj (fun _=>⟨o0 g1,aj (fun _=> ?_) (fun h=> ?_)⟩) (fun h=>(hno h).elim)
        · rw[hw]
          exact ⟨by simp[ah,hcl,ac,nI,flat,AV.cells,aa],ih⟩
        · rw[hc] at h;cases h
      | cons a r=>
        refine ALp.round (A:=jm c.name c.text) (V2:=er s (l.map aQ) (i+1) ((a::r)++[i]).length (((a::r)++[i]).map nI)) (F:=er s (l.map aQ) i (a::r).length ((a::r).map nI)) (lk:=[(0,15)]) (lk':=[(0,0)]) base0 ao (LsOk.no rfl) .refl ?_
        have ih:ALp Tryz.prog opts0.glob 0 (aD Tryz.prog 103 4) (er s (l.map aQ) (i+1) ((a::r)++[i]).length (((a::r)++[i]).map nI)).st Q:=ih
        simp only[lx]
        rw[Pt]
        refine aj (fun _=>⟨o0 g1,aj (fun _=>aF ?_ (aF ?_ ⟨?_,ih⟩)) (fun h=> ?_)⟩) (fun h=>(hno h).elim)
        · simp[a8,aa,AV.cells,flat,bc]
          simp only[List.length_cons] at hpl
          omega
        · rw[beq_iff,aE,List.length_map,Nat.mul_one]
        · rw[hw]
          have:=j9 r
          simp[ah,hcl,ac,nI,flat,AV.cells,aa] at this⊢
          exact closed_snoc r i
        · rw[hc] at h;cases h
 where
  closed_snoc:∀ (r:List Nat) (i:Nat),ac (List.map nI r++[AV.int .i64 (i:Int)])=true
    |[],_=>rfl
    |_::t,i=>closed_snoc t i
theorem Fo:bu (cy Tryz.prog 103) 4=[aD Tryz.prog 103 4]:=by kernel_rfl
def Fp (b:Nat):List Nat→AV
 |[]=> .nilsl
 |p@(_::_)=> .rsl true b 0 p.length 1
def zj (b:Nat):List Nat→af
 |[]=>[]
 |p@(_::_)=>[(b,some (.cells (p.map nI)))]
theorem dY (o:Ob) {M N L C:AV} (hM:ah M=true) (hN:ah N=true) (hL:ah L=true) (hC:ah C=true):ac (ae o M N L C)=true:=by
 simp only[ae,ac,ah,hM,hN,hL,hC,Bool.and_self]
theorem Fq (o:Ob) {M N L:AV} (s:List UInt8) (_hM:ah M=true) (_hN:ah N=true) (_hL:ah L=true) (hb:o.cust.length≤bd):
  cw Tryz.prog opts0.glob 103 [.agg (ae o M N L (bo o)),.str s] [] 0 (Fp 0 (b6 s o.cust 0)) (zj 0 (b6 s o.cust 0)) 3:=by
 have hcl:=m4 o.cust
 have hlen:aa (o.cust.map aQ)=o.cust.length:=by rw[aE,List.length_map]
 cases hp:b6 s o.cust 0 with
 | nil=>
  refine tR (A:=ap [] [(4,uB s (o.cust.map aQ) (fo s (o.cust.map aQ) (aa (o.cust.map aQ))))] aH [] []) base0 ao
   (aw (LsOk.at1 rfl Fo fun st Q hs=> .seen base0.glob hs.1 (Fm (s:=s) hb (by rw[hp];have:=hs.2;rw[hlen] at this;exact this) 0 (Nat.zero_le _)))) ?_
  simp only[bo]
  rw[Pu]
  exact ⟨by simp[ah,hcl],rfl,rfl,rfl⟩
 | cons a r=>
  refine tR (A:=ap [] [(4,uB s (o.cust.map aQ) (er s (o.cust.map aQ) (aa (o.cust.map aQ)) (a::r).length ((a::r).map nI)))] aH [] []) base0 ao
   (aw (LsOk.at1 rfl Fo fun st Q hs=> .seen base0.glob hs.1 (Fm (s:=s) hb (by rw[hp];have:=hs.2;rw[hlen] at this;exact this) 0 (Nat.zero_le _)))) ?_
  simp only[bo]
  rw[Pv]
  exact ⟨by simp[ah,hcl],rfl,rfl,rfl⟩
theorem Py (o:Ob) {M N L:AV} (s:List UInt8) (nx:Nat) (hM:ah M=true) (hN:ah N=true) (hL:ah L=true) (hb:o.cust.length≤bd):
  cw Tryz.prog opts0.glob 103 [.agg (ae o M N L (bo o)),.str s] [] nx (Fp nx (b6 s o.cust 0)) (zj nx (b6 s o.cust 0)) (nx+3):=by
 have h0:=Fq o s hM hN hL hb
 revert h0
 generalize b6 s o.cust 0=p
 intro h0
 have hcl:ac [.agg (ae o M N L (bo o)),.str s]=true:=by simp only[ac,ah,dY o hM hN hL (m6 o),Bool.and_self]
 cases p with
 |nil=>exact yF base0.glob hcl h0 (.same _ rfl) fun i b2 hi=>by cases hi
 | cons a r=>
  refine yF base0.glob hcl h0 (.rsl _ _ _ _ _ _ (by rw[jT,if_pos (by omega)];simp)) fun i b2 hi=> ?_
  simp only[zj,hget] at hi
  split at hi
  ·rename_i he
   have he:=beq_iff.1 he
   simp only[Option.some.injEq] at hi
   subst he;subst hi
   exact ⟨0,_,by rw[jT,if_pos (by omega)];simp,rfl,RenL.same _ (j9 (a::r))⟩
  ·cases hi
end
end Go.Proofs.YtmnlofhodbnenaaGreatDoor
