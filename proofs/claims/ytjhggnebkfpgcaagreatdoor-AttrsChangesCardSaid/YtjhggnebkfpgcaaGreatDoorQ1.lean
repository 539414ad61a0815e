import Derived.Test.YtjhggnebkfpgcaaGreatDoorProg
import Derived.Test.YtjhggnebkfpgcaaGreatDoorG5
import Derived.KernelRfl
namespace Go.Proofs.YtjhggnebkfpgcaaGreatDoor
open Go Go.RowKit _root_.Go.Proofs.Tryz
open Go.Proofs.Abs
abbrev I (n:Int):AV:= .int .i64 n
def nameL:List (List UInt8):=[[85,110,105,113,117,101,32,73,100,101,110,116,105,102,105,101,114],[78,97,109,101],[79,98,106,101,99,116,32,84,121,112,101],[67,114,121,112,116,111,103,114,97,112,104,105,99,32,65,108,103,111,114,105,116,104,109],[67,114,121,112,116,111,103,114,97,112,104,105,99,32,76,101,110,103,116,104],[67,114,121,112,116,111,103,114,97,112,104,105,99,32,85,115,97,103,101,32,77,97,115,107],[83,116,97,116,101],[73,110,105,116,105,97,108,32,68,97,116,101],[65,99,116,105,118,97,116,105,111,110,32,68,97,116,101],[80,114,111,99,101,115,115,32,83,116,97,114,116,32,68,97,116,101],[80,114,111,116,101,99,116,32,83,116,111,112,32,68,97,116,101],[68,101,97,99,116,105,118,97,116,105,111,110,32,68,97,116,101],[68,101,115,116,114,111,121,32,68,97,116,101],[67,111,109,112,114,111,109,105,115,101,32,79,99,99,117,114,114,101,110,99,101,32,68,97,116,101],[67,111,109,112,114,111,109,105,115,101,32,68,97,116,101],[65,114,99,104,105,118,101,32,68,97,116,101],[76,97,115,116,32,67,104,97,110,103,101,32,68,97,116,101],[82,101,118,111,99,97,116,105,111,110,32,82,101,97,115,111,110],[76,105,110,107],[85,115,97,103,101,32,76,105,109,105,116,115],[120,45,97],[120,45,98],[120,45],[121]]
def vD (l:List Nat):List AV:=l.map fun n=> .int .u8 (.ofNat n)
def firL:List Nat:=List.replicate 128 240++List.replicate 66 241++List.replicate 30 2++[19]++List.replicate 12 3++[35]++List.replicate 2 3++[52]++List.replicate 3 4++[68]++List.replicate 11 241
def accL:List Nat:=[128,191,160,191,128,159,144,191,128,143]++List.replicate 22 0
def gl:aZ:=fun g=>match Nat.beq g 0 with
 |true=>some (nameL.map .str)
 | false=>match Nat.beq g 1 with
  |true=>some (vD firL)
  |false=>match Nat.beq g 2 with
   |true=>some (vD accL)
   |false=>none
theorem Tryz.mixed:Tryz.prog.follows .mixedOrders=true:=by kernel_rfl
noncomputable def opts0:bB:={how:=fun _=> .pure,summ:=fun _ _=>none,glob:=gl,lf:=100000}
theorem Al:∀g l,gl g=some l→ae l=true:=by
 intro g l h;unfold gl at h;split at h
 ·simp only[sInjQ] at h;subst h;kernel_rfl
 split at h
 ·simp only[sInjQ] at h;subst h;kernel_rfl
 split at h
 ·simp only[sInjQ] at h;subst h;kernel_rfl
 ·cases h
theorem base0:dQ prog opts0 40:=LQ Tryz.mixed (fun _ _ _ h=>by cases h) Al
theorem te:∀f args v,opts0.summ f args=some v→SemCall prog opts0.glob f args v:=fun _ _ _ h=>by cases h
noncomputable def bC:bz:=s7 (fun _ _=>none) (fun _=>none)
theorem cX:dH prog opts0 bC:=Mr te
noncomputable def aB (hint:List (Nat × Nat × eW)) (ls:List (Nat × bV)) (sem:fy) (pure all:List Nat):bz:=Ft prog opts0 40 (vt hint) (ll ls) sem (M2 pure all)
theorem ar {hint:List (Nat × Nat × eW)} {ls:List (Nat × bV)} {sem:fy} {pure all:List Nat}:dH prog opts0 (aB hint ls sem pure all):=M3 base0 te
set_option maxRecDepth 20000 in
theorem jc {A:bz} {f:FuncId} {args:List AV} {v r:AV} (hA:dH prog opts0 A) (hl:jL prog opts0.glob 0 A f) (hcl:ae args=true) (h:aH prog opts0 40 A f args [] 0 (fun u H _=>(∃d,bi 0 H d u=some r)∧ag r=true)) (hw:Wk r v):SemCall prog opts0.glob f args v:=(oL base0 hA hl hcl h).res hw
abbrev zL:List AV:=[AV.str [],I 0,I 0,I 0,I 0,AV.nilsl,I 0,AV.bool false,I 0,AV.bool false,I 0,AV.bool false,I 0,AV.bool false,I 0,AV.bool false,I 0,AV.bool false,I 0,AV.bool false,I 0,AV.bool false,I 0,AV.bool false,I 0,AV.bool false,I 0,I 0,AV.str [],AV.nilsl,AV.nilsl,AV.nilsl,AV.bool false,I 0,I 0,I 0,AV.bool false]
abbrev SC:=SemCall prog opts0.glob
noncomputable section
abbrev cv:Nat:=1099511627776
def am (t y n:Int) (D K:List AV):List AV:=[I t,I y,I n,.fsl false D,.fsl false K]
def qi (t y n t' y' n':Int) (D K D' K':List AV) (i:Nat):View:=⟨[(4,.bool false),(5,I (.ofNat i))],[(2,.ptr 0 0),(3,.ptr 1 0)],[(0,.cells (am t y n D K),.whole),(1,.cells (am t' y' n' D' K'),.whole)],2,62⟩
def smF:View:=⟨[(4,.bool false)],[],[],2,62⟩
def Am (c c':List AV) (r:Bool):bz:=zP (vt [(6,3,.res (.fptr c 0)),(6,8,.res (.fptr c' 0))]) (fun _=>none) (bP [(35,.bool r)])
abbrev oP (D K:List AV) (n t y:Int):=[I t,I y,I n,AV.fsl false D,AV.fsl false K]
abbrev oQ (D' K':List AV) (n' t' y':Int):=[I t',I y',I n',AV.fsl false D',AV.fsl false K']
@[simp] abbrev vE:=(AV.bool false=AV.bool false∧true=true)
@[simp] abbrev FE:=((some 0=some 0∧0=0)∧(some 1=some 1∧0=0)∧True)
theorem FF (t y n t' y' n' a b c a' b' c':Int) (D K D' K' E L E' L':List AV) (i:Nat) (r:Bool) (N:Prop) (Q:AExit→St→Prop):aP prog opts0 40 (Am (am a b c E L) (am a' b' c' E' L') r) (aJ prog 35 5) (qi t y n t' y' n' D K D' K' i).st (cb 0 [(0,0),(1,1)] (qi t y n t' y' n' D K D' K' (i+1)) N [] smF Q)=
 (ac (ay (Int.ofNat i) (Int.ofNat (ab K))) (aF prog 35 (.fsl false K) (I (Int.ofNat i))=some (.fptr [I a,I b,I c,.fsl false E,.fsl false L] 0)∧aF prog 35 (.fsl false K') (I (Int.ofNat i))=some (.fptr [I a',I b',I c',.fsl false E',.fsl false L'] 0)∧SC 35 [AV.agg [I a,I b,I c,.fsl false E,.fsl false L],.agg [I a',I b',I c',.fsl false E',.fsl false L']] (.bool r)∧ac (!r) (((vE∧True)∧True∧True)∧Q AExit.ret smF.st) (((vE∧(I (aj IntKind.i64 (Int.ofNat i+1))=I (Int.ofNat (i+1))∧ag (I (Int.ofNat (i+1)))=true)∧True)∧FE∧((oP D K n t y)=(oP D K n t y)∧ae (oP D K n t y)=true)∧((oQ D' K' n' t' y')=(oQ D' K' n' t' y')∧ae (oQ D' K' n' t' y')=true)∧True)∧N)) (((vE∧True)∧True∧True)∧Q (AExit.exit 0) smF.st)):=by kernel_rfl
theorem fO (l:List It):(ap l).length=l.length:=by simp[mL]
theorem bJ (t y n:Int) (d:List UInt8) (ks:List It):aX (.mk t y n d ks)= .agg (am t y n (ak d) (ap ks)):=rfl
theorem cQ {f:Bool} {ks:List It} {i:Nat} {t y n:Int} {d:List UInt8} {l:List It} (hx:ks[i]? =some (.mk t y n d l)):aF prog 35 (.fsl f (ap ks)) (.int .i64 (.ofNat i))=some (.fptr (am t y n (ak d) (ap l)) 0):=
 gC (v:=aX (.mk t y n d l)) (e:=37) (sz:=5) (by kernel_rfl) (by kernel_rfl) (by rw[mL,List.getElem?_map,hx];rfl) rfl
theorem FG {t y n t' y' n':Int} {D D':List AV} {ks ks':List It} {Q:AExit→St→Prop} (hD:ae D=true) (hD':ae D'=true) (hb:ks.length≤cv) (hl:ks.length=ks'.length)
  (ih:∀ (i:Nat) (x z:It),ks[i]? =some x→ks'[i]? =some z→SC 35 [aX x,aX z] (.bool (eY x z))):
  ∀ (m i:Nat),i+m=ks.length→ac (fz (ks.drop i) (ks'.drop i)) (Q (.exit 0) smF.st) (Q .ret smF.st)→ALp prog opts0.glob 0 (aJ prog 35 5) (qi t y n t' y' n' D (ap ks) D' (ap ks') i).st Q
 | 0,i,hi,hq=>by
  refine ALp.round (A:=Am (am 0 0 0 [] []) (am 0 0 0 [] []) true) (V1:=qi t y n t' y' n' D (ap ks) D' (ap ks') (i+1)) (F:=smF) (lk:=[(0,0),(1,1)]) (lk':=[]) base0 (zQ te) (LsOk.no rfl) .refl ?_;rw[FF];refine ai (fun h=> ?_) (fun _=> ?_)
  ·have h:=ltInt_iff.1 h;simp only[aM,fO,bh] at h;omega
  ·rw[List.drop_of_length_le (by omega),List.drop_of_length_le (by omega)] at hq;exact ⟨by simp,hq⟩
 | m+1,i,hi,hq=>by
  have h1:i<ks.length:=by omega
  have h2:i<ks'.length:=by omega
  rw[List.drop_eq_getElem_cons h1,List.drop_eq_getElem_cons h2,fz] at hq;have g1:ks[i]? =some ks[i]:=List.getElem?_eq_getElem h1;have g2:ks'[i]? =some ks'[i]:=List.getElem?_eq_getElem h2;have hs:=ih i _ _ g1 g2;revert hs g1 g2 hq;generalize ks[i]=x;generalize ks'[i]=z;intro hq g1 g2 hs;obtain ⟨a,b,c,e,l⟩:=x;obtain ⟨a',b',c',e',l'⟩:=z;refine ALp.round (A:=Am (am a b c (ak e) (ap l)) (am a' b' c' (ak e') (ap l')) (eY (.mk a b c e l) (.mk a' b' c' e' l'))) (V1:=qi t y n t' y' n' D (ap ks) D' (ap ks') (i+1)) (F:=smF) (lk:=[(0,0),(1,1)]) (lk':=[]) base0 (zQ te) (LsOk.no rfl) .refl ?_;rw[FF];refine ai (fun _=>⟨cQ g1,cQ g2,hs,ai (fun h=> ?_) (fun h=> ?_)⟩) (fun h=> ?_)
  ·rw[Bool.not_eq_true'] at h;rw[h] at hq;exact ⟨by simp,hq⟩
  ·rw[Bool.not_eq_false'] at h;rw[h] at hq;have hb:ks.length≤1099511627776:=hb;rw[eI (by simp;omega) (by simp;omega)];refine ⟨by simp[ag,ae,hD,hD',iP],FG hD hD' hb hl ih m (i+1) (by omega) hq⟩
  ·have h:=ltInt_false.1 h;simp only[aM,fO,bh] at h;omega
def FH (t y n t' y' n':Int) (D K D' K':List AV) (p:Prop) (r:Bool):bV:=fun s Q=>p∧dr 0 [(0,0),(1,1)] (qi t y n t' y' n' D K D' K' 0) s∧ac r (Q (.exit 0) smF.st) (Q .ret smF.st)
def FI (L:bV):bz:=zP (vt []) (ll [(5,L)]) aR
abbrev tf (D D' K K':List AV) (Q:AV→ah→Nat→Prop) (n n' t t' y y':Int):=(Q (AV.bool false) [(1,some (Blk.cells (oQ D' K' n' t' y'))),(0,some (Blk.cells (oP D K n t y)))] 41)
theorem Nk (t y n t' y' n':Int) (D K D' K':List AV) (p:Prop) (r:Bool) (Q:AV→ah→Nat→Prop):aH prog opts0 40 (FI (FH t y n t' y' n' D K D' K' p r)) 35 [.agg (am t y n D K),.agg (am t' y' n' D' K')] [] 0 Q=
 (ac (!ao t t') (tf D D' K K' Q n n' t t' y y') (ac (!ao y y') (tf D D' K K' Q n n' t t' y y') (ac (!ao n n') (tf D D' K K' Q n n' t t' y y') (aw (dV D).isSome (aw (dV D').isSome (ac (!aI (iN D) (iN D')) (tf D D' K K' Q n n' t t' y y') (ac (!ao (Int.ofNat (ab K)) (Int.ofNat (ab K'))) (tf D D' K K' Q n n' t t' y y') (p∧((vE∧(I 0=I 0∧true=true)∧True)∧FE∧((oP D K n t y)=(oP D K n t y)∧ae (oP D K n t y)=true)∧((oQ D' K' n' t' y')=(oQ D' K' n' t' y')∧ae (oQ D' K' n' t' y')=true)∧True)∧ac r (Q (.bool true) [] 3) (Q (.bool false) [] 2))))))))):=by kernel_rfl
theorem Nl:bW (dI prog 35) 5=[aJ prog 35 5]:=by kernel_rfl
theorem Nm {t y n t' y' n':Int} {d d':List UInt8} {ks ks':List It} (h:eX cv (.mk t y n d ks))
  (ih:∀ (i:Nat) (x z:It),ks[i]? =some x→ks'[i]? =some z→SC 35 [aX x,aX z] (.bool (eY x z))):
  SC 35 [aX (.mk t y n d ks),aX (.mk t' y' n' d' ks')] (.bool (eY (.mk t y n d ks) (.mk t' y' n' d' ks'))):=by
 simp only[eX] at h;obtain ⟨h3,h4,h5⟩:=h;refine oL (A:=FI (FH t y n t' y' n' (ak d) (ap ks) (ak d') (ap ks') (ks.length=ks'.length) (fz ks ks'))) base0 (zQ te)
  (aG (LsOk.at1 rfl Nl fun s Q hs=> .seen base0.glob hs.2.1 (FG (by simp) (by simp) h4 hs.1 ih ks.length 0 (by omega) (by simpa using hs.2.2)))) (by simp[ae,cG]) ?_
 rw[bJ,bJ,Nk];simp only[eY];refine ai (fun e=> ?_) (fun e=>ai (fun e2=> ?_) (fun e2=>ai (fun e3=> ?_) (fun e3=>aD (by simp) (aD (by simp) (ai (fun e4=> ?_) (fun e4=>ai (fun e5=> ?_) (fun e5=>⟨?_,by simp[ae,ag,iP],ai (fun e6=> ?_) (fun e6=> ?_)⟩)))))))
 ·exact lq (by simp_all)
 ·exact lq (by simp_all)
 ·exact lq (by simp_all)
 ·exact lq (by simp_all)
 ·have hne:fz ks ks'=false:=by
   cases hs:fz ks ks' with
   |false=>rfl
   |true=>
    rw[aM,aM,fO,fO,Fv hs,Bool.not_eq_true',beqInt_false] at e5;exact absurd rfl e5
  exact lq (by simp[hne])
 ·rw[Bool.not_eq_false',beqInt_iff,aM,aM,fO,fO] at e5;exact Int.ofNat.inj e5
 ·exact lq (by simp_all)
 ·exact lq (by simp_all)
mutual
theorem FJ:∀x z:It,eX cv x→SC 35 [aX x,aX z] (.bool (eY x z))
 | .mk _ _ _ _ ks,.mk _ _ _ _ _ks',h=>Nm h fun _i x z hx _=>FK ks x (List.mem_of_getElem? hx) z (okIs_iff.1 h.2.2 x (List.mem_of_getElem? hx))
theorem FK:∀ks:List It,∀x∈ks,∀z,eX cv x→SC 35 [aX x,aX z] (.bool (eY x z))
 |[],_,hx,_,_=>by cases hx
 |k::r,x,hx,z,h=>by
  have h1:=FJ k z;have h2:=FK r x;rcases List.mem_cons.1 hx with e|hx
  ·rw[e] at h⊢;exact h1 h
  ·exact h2 hx z h
end
end
theorem Nn (Q:AV→ah→Nat→Prop):aH prog opts0 40 bC 118 [.nilsl] [] 0 Q=
 (Q AV.nilsl [] 4):=by kernel_rfl
theorem Np (Q:AV→ah→Nat→Prop):aH prog opts0 40 bC 118 [.nesl] [] 0 Q=
 (Q (.fsl true []) [] 7):=by kernel_rfl
theorem Nq (a:AV) (es:List AV) (Q:AV→ah→Nat→Prop):aH prog opts0 40 bC 118 [.fsl false (a::es)] [] 0 Q=
 (aw (a7 1 (a::es)&&(((0+ab (a::es))*1).ble 140737488355328&&true)) (Q (.rsl true 5 0 (0+ab (a::es)) 1) [(5,some (Blk.cells (flat (a::es))))] 7)):=by kernel_rfl
theorem Nr {l:List AV} (hl:∀e∈l,eH 1 e) (hc:ae l=true) (hn:l.length≤cv):SC 118 [.fsl false l] (.fsl false l):=by
 cases l with
 |nil=>
  refine SemCall.empty (jc (A:=bC) (r:= .nilsl) cX (aG (LsOk.no rfl)) rfl ?_ .nil) (jc (A:=bC) (r:= .fsl true []) cX (aG (LsOk.no rfl)) rfl ?_ .full)
  ·rw[Nn];exact lr rfl
  ·rw[Np];exact lr rfl
 | cons a es=>
  have hcl:ae [.fsl false (a::es)]=true:=by rw[ae,ag,hc];rfl
  refine jc (A:=bC) (r:= .fsl false (a::es)) cX (aG (LsOk.no rfl)) hcl ?_ (.refl _);rw[Nq];have h1:a7 1 (a::es)=true:=allSize_iff.2 fun e he=>(hl e he).1;refine oblB_iff.2 ⟨?_, ?_⟩
  ·have hn:es.length+1≤1099511627776:=hn;simp only[Bool.and_eq_true,Nat.ble_eq,aM] at h1⊢
   first|exact ⟨h1,by omega⟩|exact ⟨h1,by simp only[lConQ];omega⟩|(simp_all;omega)
  ·exact vB (Frz.row rfl rfl rfl (by first|rfl|simp[aM]) hl hc) hc
theorem Nt (Q:AV→ah→Nat→Prop):aH prog opts0 40 bC 119 [.nilsl] [] 0 Q=
 (Q AV.nilsl [] 4):=by kernel_rfl
theorem Nu (Q:AV→ah→Nat→Prop):aH prog opts0 40 bC 119 [.nesl] [] 0 Q=
 (Q (.fsl true []) [] 7):=by kernel_rfl
theorem Nv (a:AV) (es:List AV) (Q:AV→ah→Nat→Prop):aH prog opts0 40 bC 119 [.fsl false (a::es)] [] 0 Q=
 (aw (a7 1 (a::es)&&(((0+ab (a::es))*16).ble 140737488355328&&true)) (Q (.rsl true 5 0 (0+ab (a::es)) 1) [(5,some (Blk.cells (flat (a::es))))] 7)):=by kernel_rfl
theorem Nw {l:List AV} (hl:∀e∈l,eH 1 e) (hc:ae l=true) (hn:l.length≤cv):SC 119 [.fsl false l] (.fsl false l):=by
 cases l with
 |nil=>
  refine SemCall.empty (jc (A:=bC) (r:= .nilsl) cX (aG (LsOk.no rfl)) rfl ?_ .nil) (jc (A:=bC) (r:= .fsl true []) cX (aG (LsOk.no rfl)) rfl ?_ .full)
  ·rw[Nt];exact lr rfl
  ·rw[Nu];exact lr rfl
 | cons a es=>
  have hcl:ae [.fsl false (a::es)]=true:=by rw[ae,ag,hc];rfl
  refine jc (A:=bC) (r:= .fsl false (a::es)) cX (aG (LsOk.no rfl)) hcl ?_ (.refl _);rw[Nv];have h1:a7 1 (a::es)=true:=allSize_iff.2 fun e he=>(hl e he).1;refine oblB_iff.2 ⟨?_, ?_⟩
  ·have hn:es.length+1≤1099511627776:=hn;simp only[Bool.and_eq_true,Nat.ble_eq,aM] at h1⊢
   first|exact ⟨h1,by omega⟩|exact ⟨h1,by simp only[lConQ];omega⟩|(simp_all;omega)
  ·exact vB (Frz.row rfl rfl rfl (by first|rfl|simp[aM]) hl hc) hc
theorem Ny (Q:AV→ah→Nat→Prop):aH prog opts0 40 bC 120 [.nilsl] [] 0 Q=
 (Q AV.nilsl [] 4):=by kernel_rfl
theorem Nz (Q:AV→ah→Nat→Prop):aH prog opts0 40 bC 120 [.nesl] [] 0 Q=
 (Q (.fsl true []) [] 7):=by kernel_rfl
theorem NA (a:AV) (es:List AV) (Q:AV→ah→Nat→Prop):aH prog opts0 40 bC 120 [.fsl false (a::es)] [] 0 Q=
 (aw (a7 2 (a::es)&&(((0+ab (a::es))*24).ble 140737488355328&&true)) (Q (.rsl true 5 0 (0+ab (a::es)) 2) [(5,some (Blk.cells (flat (a::es))))] 7)):=by kernel_rfl
theorem NC {l:List AV} (hl:∀e∈l,eH 2 e) (hc:ae l=true) (hn:l.length≤cv):SC 120 [.fsl false l] (.fsl false l):=by
 cases l with
 |nil=>
  refine SemCall.empty (jc (A:=bC) (r:= .nilsl) cX (aG (LsOk.no rfl)) rfl ?_ .nil) (jc (A:=bC) (r:= .fsl true []) cX (aG (LsOk.no rfl)) rfl ?_ .full)
  ·rw[Ny];exact lr rfl
  ·rw[Nz];exact lr rfl
 | cons a es=>
  have hcl:ae [.fsl false (a::es)]=true:=by rw[ae,ag,hc];rfl
  refine jc (A:=bC) (r:= .fsl false (a::es)) cX (aG (LsOk.no rfl)) hcl ?_ (.refl _);rw[NA];have h1:a7 2 (a::es)=true:=allSize_iff.2 fun e he=>(hl e he).1;refine oblB_iff.2 ⟨?_, ?_⟩
  ·have hn:es.length+1≤1099511627776:=hn;simp only[Bool.and_eq_true,Nat.ble_eq,aM] at h1⊢
   first|exact ⟨h1,by omega⟩|exact ⟨h1,by simp only[lConQ];omega⟩|(simp_all;omega)
  ·exact vB (Frz.row rfl rfl rfl (by first|rfl|simp[aM]) hl hc) hc
theorem ND (Q:AV→ah→Nat→Prop):aH prog opts0 40 bC 121 [.nilsl] [] 0 Q=
 (Q AV.nilsl [] 4):=by kernel_rfl
theorem NE (Q:AV→ah→Nat→Prop):aH prog opts0 40 bC 121 [.nesl] [] 0 Q=
 (Q (.fsl true []) [] 7):=by kernel_rfl
theorem NF (a:AV) (es:List AV) (Q:AV→ah→Nat→Prop):aH prog opts0 40 bC 121 [.fsl false (a::es)] [] 0 Q=
 (aw (a7 2 (a::es)&&(((0+ab (a::es))*32).ble 140737488355328&&true)) (Q (.rsl true 5 0 (0+ab (a::es)) 2) [(5,some (Blk.cells (flat (a::es))))] 7)):=by kernel_rfl
theorem NG {l:List AV} (hl:∀e∈l,eH 2 e) (hc:ae l=true) (hn:l.length≤cv):SC 121 [.fsl false l] (.fsl false l):=by
 cases l with
 |nil=>
  refine SemCall.empty (jc (A:=bC) (r:= .nilsl) cX (aG (LsOk.no rfl)) rfl ?_ .nil) (jc (A:=bC) (r:= .fsl true []) cX (aG (LsOk.no rfl)) rfl ?_ .full)
  ·rw[ND];exact lr rfl
  ·rw[NE];exact lr rfl
 | cons a es=>
  have hcl:ae [.fsl false (a::es)]=true:=by rw[ae,ag,hc];rfl
  refine jc (A:=bC) (r:= .fsl false (a::es)) cX (aG (LsOk.no rfl)) hcl ?_ (.refl _);rw[NF];have h1:a7 2 (a::es)=true:=allSize_iff.2 fun e he=>(hl e he).1;refine oblB_iff.2 ⟨?_, ?_⟩
  ·have hn:es.length+1≤1099511627776:=hn;simp only[Bool.and_eq_true,Nat.ble_eq,aM] at h1⊢
   first|exact ⟨h1,by omega⟩|exact ⟨h1,by simp only[lConQ];omega⟩|(simp_all;omega)
  ·exact vB (Frz.row rfl rfl rfl (by first|rfl|simp[aM]) hl hc) hc
noncomputable section
abbrev gD (D K:List AV) (n t y:Int):=[(0,some (Blk.cells [I t,I y,I n,AV.fsl false D,AV.fsl false K]))]
abbrev jd (D K:List AV) (Q:AV→ah→Nat→Prop) (n t y:Int):=(Q (AV.bool (ao n 0)) (gD D K n t y) 54)
abbrev mM (D K:List AV) (Q:AV→ah→Nat→Prop) (n t y:Int):=(Q (AV.bool false) (gD D K n t y) 54)
theorem NH (t y n tag kind:Int) (D K:List AV) (Q:AV→ah→Nat→Prop):aH prog opts0 40 bC 89 [.agg (am t y n D K),I tag,I kind] [] 0 Q=
 (ac (ao kind 7) (ac (ao t tag) (ac (ao y kind) (ac (ao kind 1) (ac (!ao kind 1) (jd D K Q n t y) (jd D K Q n t y)) (ac (ao (Int.ofNat (ab K)) 0) (ac (!ao kind 1) (jd D K Q n t y) (jd D K Q n t y)) (mM D K Q n t y))) (mM D K Q n t y)) (mM D K Q n t y)) (ac (ao t tag) (ac (ao y kind) (ac (ao kind 1) (ac (ao kind 8) (ac (!ao kind 1) (ac (!ao kind 8) (Q (.bool true) (gD D K n t y) 54) (jd D K Q n t y)) (jd D K Q n t y)) (ac (ao (Int.ofNat (ab D)) 0) (ac (!ao kind 1) (ac (!ao kind 8) (Q (.bool true) (gD D K n t y) 54) (jd D K Q n t y)) (jd D K Q n t y)) (mM D K Q n t y))) (ac (ao (Int.ofNat (ab K)) 0) (ac (ao kind 8) (ac (!ao kind 1) (ac (!ao kind 8) (Q (.bool true) (gD D K n t y) 54) (jd D K Q n t y)) (jd D K Q n t y)) (ac (ao (Int.ofNat (ab D)) 0) (ac (!ao kind 1) (ac (!ao kind 8) (Q (.bool true) (gD D K n t y) 54) (jd D K Q n t y)) (jd D K Q n t y)) (mM D K Q n t y))) (mM D K Q n t y))) (mM D K Q n t y)) (mM D K Q n t y))):=by kernel_rfl
abbrev mN (D K:List AV) (Q:AV→ah→Nat→Prop) (n t y:Int):=(Q (AV.bool (ao n 0)) (gD D K n t y) 48)
theorem NI (t y n tag kind:Int) (D K:List AV) (Q:AV→ah→Nat→Prop):aH prog opts0 40 bC 90 [.agg (am t y n D K),I tag,I kind] [] 0 Q=
 (ac (ao t tag) (ac (ao y kind) (ac (ao kind 1) (ac (ao kind 7) (ac (!ao kind 7) (ac (!ao kind 1) (Q (.bool true) (gD D K n t y) 48) (mN D K Q n t y)) (mN D K Q n t y)) (ac (ao (Int.ofNat (ab D)) 0) (ac (!ao kind 7) (ac (!ao kind 1) (Q (.bool true) (gD D K n t y) 48) (mN D K Q n t y)) (mN D K Q n t y)) (Q (.bool false) (gD D K n t y) 48))) (ac (ao (Int.ofNat (ab K)) 0) (ac (ao kind 7) (ac (!ao kind 7) (ac (!ao kind 1) (Q (.bool true) (gD D K n t y) 48) (mN D K Q n t y)) (mN D K Q n t y)) (ac (ao (Int.ofNat (ab D)) 0) (ac (!ao kind 7) (ac (!ao kind 1) (Q (.bool true) (gD D K n t y) 48) (mN D K Q n t y)) (mN D K Q n t y)) (Q (.bool false) (gD D K n t y) 48))) (Q (.bool false) (gD D K n t y) 48))) (Q (.bool false) (gD D K n t y) 48)) (Q (.bool false) (gD D K n t y) 48)):=by kernel_rfl
def vF (kind:Int):Bool:=ao kind 7||ao kind 8
def An (t y n tag kind:Int) (d k:Nat):Bool:=ao t tag&&(ao y kind&&((ao kind 1||ao (.ofNat k) 0)&&((vF kind||ao (.ofNat d) 0)&&((!ao kind 1&& !vF kind)||ao n 0))))
def dy:It→Int→Int→Bool
 | .mk t y n d k,tag,kind=>An t y n tag kind d.length k.length
theorem vG (x:It) (tag kind:Int):SC 89 [aX x,I tag,I kind] (.bool (dy x tag kind)):=by
 obtain ⟨t,y,n,d,ks⟩:=x;refine oL (A:=bC) base0 cX (aG (LsOk.no rfl)) (by simp[ae,cG,ag]) ?_;rw[bJ,NH];simp only[oM];simp only[aM,fO]
 repeat' refine ai (fun _=> ?_) (fun _=> ?_)
 all_goals exact lq (by simp_all [dy,An,vF])
def isI:It→Int→Int→Bool
 | .mk t y n d k,tag,kind=>ao t tag&&(ao y kind&&((ao kind 1||ao (.ofNat k.length) 0)&&((ao kind 7||ao (.ofNat d.length) 0)&&((!ao kind 7&& !ao kind 1)||ao n 0))))
theorem lv (x:It) (tag kind:Int):SC 90 [aX x,I tag,I kind] (.bool (isI x tag kind)):=by
 obtain ⟨t,y,n,d,ks⟩:=x;refine oL (A:=bC) base0 cX (aG (LsOk.no rfl)) (by simp[ae,cG,ag]) ?_;rw[bJ,NI];simp only[oM];simp only[aM,fO]
 repeat' refine ai (fun _=> ?_) (fun _=> ?_)
 all_goals exact lq (by simp_all [isI])
theorem lw (x:It) (tag:Int) {kind:Int} (h:kind≠8):isI x tag kind=dy x tag kind:=by
 have h8:ao kind 8=false:=beqInt_false.2 h;obtain ⟨t,y,n,d,ks⟩:=x;simp only[isI,dy,An,vF,h8,Bool.or_false];cases ao kind 1<;>cases ao kind 7<;>rfl
def FL:List AV:=[I 0,I 0,I 0,.nilsl,.nilsl]
theorem NJ (x:It):eH 5 (aX x):=by cases x;exact rflTwoQ
theorem NK {ks:List It}:∀e∈ap ks,eH 5 e:=fun e he=>by
 rw[mL] at he;obtain ⟨x,_,rfl⟩:=List.mem_map.1 he;exact NJ x
theorem NL (a b:List It):ap (a++b)=ap a++ap b:=by simp[mL]
theorem FM:∀l:List It,(flat (ap l)).length=l.length*5
 |[]=>rfl
 | .mk _ _ _ _ _::r=>by simp only[ap,flat,aX,AV.cells,List.length_append,FM r,lConQ,List.length_nil];omega
theorem Ao:∀ {l:List AV},ae l=true→(∀e∈l,ae e.cells=true)→ae (flat l)=true
  |[],_,_=>rfl
  | a::t,h,h2=>by
    simp only[ae,Bool.and_eq_true] at h;have:=Ao h.2 fun e he=>h2 e (by simp[he]);have h1:=h2 a (by simp);simp only[flat];exact closed_app h1 this
 where
  closed_app:∀ {a b:List AV},ae a=true→ae b=true→ae (a++b)=true
   |[],_,_,h=>h
   | x::r,_,h,h'=>by
     simp only[ae,Bool.and_eq_true] at h;simp only[List.cons_append,ae,h.1,closed_app h.2 h',Bool.and_self]
end
set_option maxRecDepth 20000
noncomputable section
theorem NM (n m:Int) (Q:AV→ah→Nat→Prop):aH prog opts0 40 bC 23 [I n,I m] [] 0 Q=
 (aw (!ao m 0) (ac (ay (n.tmod m) 0) (Q (I (aj IntKind.i64 (n.tmod m+m))) [] 13) (Q (I (n.tmod m)) [] 9))):=by kernel_rfl
theorem bu (n:Int) {m:Int} (h0:0<m) (h1:m≤4611686018427387904):SC 23 [I n,I m] (I (n%m)):=by
 refine oL (A:=bC) base0 cX (aG (LsOk.no rfl)) rfl ?_;rw[NM];have hm:=Int.tmod_lt_of_pos n h0;have hm':=Int.lt_tmod_of_pos n h0;have he:=Int.emod_nonneg n (Int.ne_of_gt h0);have hd:=Int.emod_lt_of_pos n h0;have key:n%m=if n.tmod m<0 then n.tmod m+m else n.tmod m:=by
  have e1:=Int.tmod_eq_emod (a:=n) (b:=m);split at e1
  ·rw[e1,if_neg (by omega)];omega
  ·have:(m.natAbs:Int)=m:=Int.natAbs_of_nonneg (by omega);split<;>omega
 refine aD (by rw[Bool.not_eq_true',beqInt_false];omega) ?_;refine ai (fun h=> ?_) (fun h=> ?_)
 ·have h:=ltInt_iff.1 h;rw[if_pos h] at key;exact Fz (by rw[eI (by omega) (by omega),key])
 ·have h:=ltInt_false.1 h;rw[if_neg (by omega)] at key;exact Fz key.symm
structure Rw where
 k:Int
 a:Int
 b:Int
 c:Int
def lx (r:Rw):List AV:=[I r.k,I r.a,I r.b,I r.c]
def aU (r:Rw):AV:= .agg (lx r)
def aO {α:Type} (l:List α) (d:α) (n:Int):α:=(l[(n%(l.length:Int)).toNat]?).getD d
def tg:List AV→Option AV
 |[.int _ n,.int _ m]=>some (I (n%m))
 |_=>none
theorem ti {n m:Int} (h:0<m):∃k:Nat,n%m=(k:Int)∧(k:Int)<m:=by
 have h1:=Int.emod_nonneg n (Int.ne_of_gt h);have h2:=Int.emod_lt_of_pos n h;exact ⟨(n%m).toNat,by omega,by omega⟩
theorem iq {α:Type} (l:List α) (d:α) (n:Int) (h:l≠[]):aO l d n∈l:=by
 have hp:0<l.length:=List.length_pos_iff.2 h;obtain ⟨k,h1,h2⟩:=ti (n:=n) (m:=(l.length:Int)) (by omega);have hk:k<l.length:=by omega
 unfold aO;rw[h1];have:(k:Int).toNat=k:=by omega
 rw[this,List.getElem?_eq_getElem hk];simp
def idL:List (List UInt8):=[[49],[50],[51],[52],[53],[54],[55],[49],[50],[51],[57,57],[120]]
def txL:List (List UInt8):=[[111,110,101],[116,119,111],[116,104,114,101,101],[102,111,117,114],[],[53],[49]]
def alL:List Int:=[3,3,4,0,101]
def vH:List Int:=[128,192,256,1024,2048,0,64]
def vI:List Int:=[396,12,4,0,384,2097152,8]
def FN (s:List UInt8):bz:=aB [(1,3,.res (.str s))] [] (fY [(23,tg)]) [] []
theorem NN (n:Int) (s:List UInt8) (Q:AV→ah→Nat→Prop):aH prog opts0 40 (FN s) 67 [I n] [] 0 Q=
 (SC 23 [I n,I 12] (I (n%12))∧bf prog 160 (.agg [AV.str [49],.str [50],.str [51],.str [52],.str [53],.str [54],.str [55],.str [49],.str [50],.str [51],.str [57,57],.str [120]]) (I (n%12))=some (.str s)∧Q (.str s) [] 6):=by kernel_rfl
def FO (k:Nat) (s:List UInt8):bz:=aB [(1,2,.res (.gptr 0 k)),(1,3,.ld (.str s))] [] (fY [(23,tg)]) [] []
theorem NO (n:Int) (k:Nat) (s:List UInt8) (Q:AV→Prop):aH prog opts0 40 (FO k s) 43 [I n] [] 0 (fun v _ _=>Q v)=
 (SC 23 [I n,I 24] (I (n%24))∧aF prog 135 (.gptr 0 0) (I (n%24))=some (.gptr 0 k)∧fW prog 9 (.gptr 0 k) opts0.glob=some (Eff.val (.str s))∧Q (.str s)):=by kernel_rfl
def FP (s i:List UInt8) (al le ma:Int):bz:=aB [(10,4,.res (.str s)),(15,4,.res (I al)),(17,4,.res (I le)),(19,4,.res (I ma))] [] (fY [(23,tg),(67,fun _=>some (.str i))]) [108,109] [110]
@[simp] abbrev qj (Q:AV→Prop) (r:Rw) (s:List UInt8):=(SC 23 [I r.2,I 7] (I (r.2%7))∧bf prog 154 (AV.agg [AV.str [111,110,101],AV.str [116,119,111],AV.str [116,104,114,101,101],AV.str [102,111,117,114],AV.str [],AV.str [53],AV.str [49]]) (I (r.2%7))=some (AV.str s)∧Q (AV.agg [I 4325387,I 7,I 0,AV.fsl false (ak s),AV.nilsl]))
@[simp] abbrev FQ (Q:AV→Prop) (r:Rw):=(SC 23 [I r.2,I 8] (I (r.2%8))∧Q (AV.agg [I 4325387,I 5,I (r.2%8),AV.nilsl,AV.nilsl]))
theorem NP (nm s i:List UInt8) (al le ma:Int) (r:Rw) (Q:AV→Prop):aH prog opts0 40 (FP s i al le ma) 60 [.str nm,aU r] [] 0 (fun v _ _=>Q v)=
 (SC 23 [I r.4,I 17] (I (r.4%17))∧ac (ao (r.4%17) 16) (Q (.agg [I 4325387,I 2,I (aj IntKind.i64 (aj IntKind.i32 r.2)),.nilsl,.nilsl])) (ac (aI nm [78,97,109,101]) (qj Q r s) (ac (aI nm mm) (qj Q r s) (ac (aI nm [120,45,97]) (qj Q r s) (ac (aI nm [120,45,98]) (qj Q r s) (ac (aI nm [120,45]) (qj Q r s) (ac (aI nm [121]) (qj Q r s) (ac (aI nm mj) (FQ Q r) (ac (aI nm [83,116,97,116,101]) (FQ Q r) (ac (aI nm ic) (SC 23 [I r.2,I 5] (I (r.2%5))∧bf prog 103 (.agg [I 3,I 3,I 4,I 0,I 101]) (I (r.2%5))=some (I al)∧Q (.agg [I 4325387,I 5,I al,.nilsl,.nilsl])) (ac (aI nm ig) (SC 23 [I r.2,I 7] (I (r.2%7))∧bf prog 155 (.agg [I 128,I 192,I 256,I 1024,I 2048,I 0,I 64]) (I (r.2%7))=some (I le)∧Q (.agg [I 4325387,I 2,I le,.nilsl,.nilsl])) (ac (aI nm gQ) (SC 23 [I r.2,I 7] (I (r.2%7))∧bf prog 155 (.agg [I 396,I 12,I 4,I 0,I 384,I 2097152,I 8]) (I (r.2%7))=some (I ma)∧Q (.agg [I 4325387,I 2,I ma,.nilsl,.nilsl])) (ac (aI nm ml) (SC 23 [I r.2,I 9] (I (r.2%9))∧Q (.agg [I 4325387,I 1,I 0,.nilsl,.fsl true [AV.agg [I 4325506,I 5,I (r.2%9),.nilsl,.nilsl]]])) (ac (aI nm [76,105,110,107]) (SC 23 [I r.2,I 12] (I (r.2%12))∧SC 67 [I r.3] (.str i)∧Q (.agg [I 4325387,I 1,I 0,.nilsl,.fsl true [AV.agg [I 4325451,I 5,I (aj IntKind.i64 (100+r.2%12)),.nilsl,.nilsl],.agg [I 4325452,I 7,I 0,.fsl false (ak i),.nilsl]]])) (ac (aI nm dt) (SC 23 [I r.2,I 60] (I (r.2%60))∧ac (ao (r.3.tmod 4) 0) (SC 23 [I r.3,I 70] (I (r.3%70))∧SC 23 [I r.3,I 3] (I (r.3%3))∧Q (.agg [I 4325387,I 1,I 0,.nilsl,.fsl true [AV.agg [I 4325527,I 3,I (r.2%60),.nilsl,.nilsl],.agg [I 4325526,I 3,I (r.3%70),.nilsl,.nilsl],.agg [I 4325528,I 5,I (aj IntKind.i64 (1+r.3%3)),.nilsl,.nilsl]]])) (SC 23 [I r.3,I 3] (I (r.3%3))∧Q (.agg [I 4325387,I 1,I 0,.nilsl,.fsl true [AV.agg [I 4325527,I 3,I (r.2%60),.nilsl,.nilsl],.agg [I 4325526,I 3,I (r.2%60),.nilsl,.nilsl],.agg [I 4325528,I 5,I (aj IntKind.i64 (1+r.3%3)),.nilsl,.nilsl]]]))) (SC 23 [I r.2,I 60] (I (r.2%60))∧Q (.agg [I 4325387,I 9,I (r.2%60),.nilsl,.nilsl]))))))))))))))))):=by kernel_rfl
def FR (nm:List UInt8) (v:List AV):bz:=aB [] [] (fY [(23,tg),(43,fun _=>some (.str nm)),(60,fun _=>some (.agg v))]) [] []
theorem NQ (nm:List UInt8) (t y n:Int) (D K:List AV) (r:Rw) (Q:AV→Prop):aH prog opts0 40 (FR nm (am t y n D K)) 16 [aU r] [] 0 (fun v _ _=>Q v)=
 (SC 43 [I r.1] (.str nm)∧ac (ao (r.3.tmod 3) 0) (SC 23 [I (aj IntKind.i64 (r.3.tdiv 3)),I 4] (I (aj IntKind.i64 (r.3.tdiv 3)%4))∧SC 60 [AV.str nm,.agg [I r.1,I r.2,I r.3,I r.4]] (.agg [I t,I y,I n,.fsl false D,.fsl false K])∧Q (.agg [AV.str nm,I (aj IntKind.i64 (r.3.tdiv 3)%4),I t,I y,I n,.fsl false D,.fsl false K])) (SC 60 [AV.str nm,.agg [I r.1,I r.2,I r.3,I r.4]] (.agg [I t,I y,I n,.fsl false D,.fsl false K])∧Q (.agg [AV.str nm,I 0,I t,I y,I n,.fsl false D,.fsl false K]))):=by kernel_rfl
theorem tj {n:Int} {m:Nat} (h:0<m) {p:Int→Prop} (hp:∀k:Nat,k<m→p (k:Int)):p (n%(m:Int)):=by
 obtain ⟨k,h1,h2⟩:=ti (n:=n) (m:=(m:Int)) (by omega);rw[h1];exact hp k (by omega)
theorem tk {m:Nat} {p:Nat→Prop} (h:∀k∈List.range m,p k):∀k:Nat,k<m→p k:=fun k hk=>h k (List.mem_range.2 hk)
theorem qk (n:Int):SC 67 [I n] (.str (aO idL [] n)):=by
 refine oL (A:=FN (aO idL [] n)) base0 ar (aG (LsOk.no rfl)) rfl ?_;rw[NN];refine And.intro (bu n (m:=12) (by decide) (by decide)) (And.intro ?_ (lr rfl));unfold aO;exact tj (m:=12) (p:=fun x=>bf prog 160 (.agg (idL.map .str)) (I x)=some (.str ((idL[x.toNat]?).getD []))) (by decide) (tk (by simp only[List.range,List.range.loop,List.forall_mem_cons];refine ⟨?_, ?_, ?_, ?_, ?_, ?_, ?_, ?_, ?_, ?_, ?_, ?_, ?_⟩<;>first|kernel_rfl|(intro _ h;cases h)))
theorem NR (n:Int):SC 43 [I n] (.str (aO nameL [] n)):=by
 refine bQ (A:=FO (n%24).toNat (aO nameL [] n)) base0 ar (aG (LsOk.no rfl)) rfl rfl ?_;rw[NO];refine And.intro (bu n (m:=24) (by decide) (by decide)) ?_;unfold aO;exact tj (m:=24) (p:=fun x=>aF prog 135 (.gptr 0 0) (I x)=some (.gptr 0 x.toNat)∧fW prog 9 (.gptr 0 x.toNat) opts0.glob=some (Eff.val (.str ((nameL[x.toNat]?).getD [])))∧AV.str ((nameL[x.toNat]?).getD [])= .str ((nameL[x.toNat]?).getD [])) (by decide) (tk (by simp only[List.range,List.range.loop,List.forall_mem_cons];refine ⟨?_, ?_, ?_, ?_, ?_, ?_, ?_, ?_, ?_, ?_, ?_, ?_, ?_, ?_, ?_, ?_, ?_, ?_, ?_, ?_, ?_, ?_, ?_, ?_, ?_⟩<;>first|exact ⟨by kernel_rfl,by kernel_rfl,by first|rfl|trivial⟩|(intro _ h;cases h)))
def bY (y n:Int) (d:List UInt8) (ks:List It):It:= .mk 4325387 y n d ks
def mO (t y n:Int) (d:List UInt8):It:= .mk t y n d []
def FS (s:List UInt8):Bool:=aI s [78,97,109,101]||(aI s [85,110,105,113,117,101,32,73,100,101,110,116,105,102,105,101,114]||(aI s [120,45,97]||(aI s [120,45,98]||(aI s [120,45]||aI s [121]))))
def mP (s:List UInt8) (r:Rw):It:=
 match ao (r.c%17) 16 with
 |true=>bY 2 (aj .i64 (aj .i32 r.a)) [] []
 |false=>match FS s with
 |true=>bY 7 0 (aO txL [] r.a) []
 |false=>match aI s [79,98,106,101,99,116,32,84,121,112,101]||aI s [83,116,97,116,101] with
 |true=>bY 5 (r.a%8) [] []
 |false=>match aI s [67,114,121,112,116,111,103,114,97,112,104,105,99,32,65,108,103,111,114,105,116,104,109] with
 |true=>bY 5 (aO alL 0 r.a) [] []
 |false=>match aI s [67,114,121,112,116,111,103,114,97,112,104,105,99,32,76,101,110,103,116,104] with
 |true=>bY 2 (aO vH 0 r.a) [] []
 |false=>match aI s [67,114,121,112,116,111,103,114,97,112,104,105,99,32,85,115,97,103,101,32,77,97,115,107] with
 |true=>bY 2 (aO vI 0 r.a) [] []
 |false=>match aI s [82,101,118,111,99,97,116,105,111,110,32,82,101,97,115,111,110] with
 |true=>bY 1 0 [] [mO 4325506 5 (r.a%9) []]
 |false=>match aI s [76,105,110,107] with
 |true=>bY 1 0 [] [mO 4325451 5 (aj .i64 (100+r.a%12)) [],mO 4325452 7 0 (aO idL [] r.b)]
 |false=>match aI s [85,115,97,103,101,32,76,105,109,105,116,115] with
 |true=>bY 1 0 [] [mO 4325527 3 (r.a%60) [],mO 4325526 3 (match ao (r.b.tmod 4) 0 with|true=>r.b%70|false=>r.a%60) [],mO 4325528 5 (aj .i64 (1+r.b%3)) []]
 |false=>bY 9 (r.a%60) [] []
theorem NS (s:List UInt8) (r:Rw):SC 60 [.str s,aU r] (aX (mP s r)):=by
 refine bG (A:=FP (aO txL [] r.a) (aO idL [] r.b) (aO alL 0 r.a) (aO vH 0 r.a) (aO vI 0 r.a)) base0 ar (aG (LsOk.no rfl)) rfl ?_;rw[NP s (aO txL [] r.a) (aO idL [] r.b) (aO alL 0 r.a) (aO vH 0 r.a) (aO vI 0 r.a) r (gB (aX (mP s r)))];have p:∀ (n:Int) {m:Int},0<m→m≤4611686018427387904→SC 23 [I n,I m] (I (n%m)):=fun n {m} h0 h1=>bu n h0 h1;have tx:bf prog 154 (.agg (txL.map .str)) (I (r.a%7))=some (.str (aO txL [] r.a)):=by
  unfold aO;exact tj (m:=7) (p:=fun x=>bf prog 154 (.agg (txL.map .str)) (I x)=some (.str ((txL[x.toNat]?).getD []))) (by decide) (tk (by simp only[List.range,List.range.loop,List.forall_mem_cons];refine ⟨?_, ?_, ?_, ?_, ?_, ?_, ?_, ?_⟩<;>first|kernel_rfl|(intro _ h;cases h)))
 have al:bf prog 103 (.agg (alL.map I)) (I (r.a%5))=some (I (aO alL 0 r.a)):=by
  unfold aO;exact tj (m:=5) (p:=fun x=>bf prog 103 (.agg (alL.map I)) (I x)=some (I ((alL[x.toNat]?).getD 0))) (by decide) (tk (by simp only[List.range,List.range.loop,List.forall_mem_cons];refine ⟨?_, ?_, ?_, ?_, ?_, ?_⟩<;>first|kernel_rfl|(intro _ h;cases h)))
 have se:∀ (L:List Int),L.length=7→bf prog 155 (.agg (L.map I)) (I (r.a%7))=some (I (aO L 0 r.a)):=fun L hL=>by
  match L,hL with
  |[a0,a1,a2,a3,a4,a5,a6],_=>
   unfold aO;exact tj (m:=7) (p:=fun x=>bf prog 155 (.agg ([a0,a1,a2,a3,a4,a5,a6].map I)) (I x)=some (I (([a0,a1,a2,a3,a4,a5,a6][x.toNat]?).getD 0))) (by decide) (tk (by simp only[List.range,List.range.loop,List.forall_mem_cons];refine ⟨?_, ?_, ?_, ?_, ?_, ?_, ?_, ?_⟩<;>first|kernel_rfl|(intro _ h;cases h)))
 have le:=se vH rfl;have ma:=se vI rfl;have hid:=qk r.b;refine And.intro (p _ (by decide) (by decide)) ?_;refine ai (fun e0=> ?_) (fun e0=> ?_)
 ·refine ⟨rfl, ?_⟩;simp only[mP,e0,bY,aX,ak,ap]
  (repeat (first|exact Wk.refl _|exact WkL.refl _|exact Wk.nil|exact Wk.row|exact WkE.refl _|exact WkL.nil|exact WkE.nil|apply Wk.agg|apply Wk.tuple|apply WkL.cons|apply Wk.rows|apply WkE.consA))
 repeat' refine ai (fun _=> ?_) (fun _=> ?_)
 all_goals
  try refine And.intro (p _ (by decide) (by decide)) ?_
  try refine And.intro (by assumption) ?_
  repeat' refine ai (fun _=> ?_) (fun _=> ?_)
  all_goals
   try refine And.intro (p _ (by decide) (by decide)) ?_
   try refine And.intro (p _ (by decide) (by decide)) ?_
   refine ⟨by simp[ag,ae], ?_⟩;simp only[mP,FS, *,Bool.or_true,Bool.true_or,Bool.or_false];simp only[bY,mO,aX,ap,ak]
   (repeat (first|exact Wk.refl _|exact WkL.refl _|exact Wk.nil|exact Wk.row|exact WkE.refl _|exact WkL.nil|exact WkE.nil|apply Wk.agg|apply Wk.tuple|apply WkL.cons|apply Wk.rows|apply WkE.consA))
structure At where
 name:List UInt8
 idx:Int
 v:It
def kl:It→List AV
 | .mk t y n d ks=>am t y n (ak d) (ap ks)
theorem NT (x:It):aX x= .agg (kl x):=by cases x;rfl
def ly (a:At):List AV:= .str a.name::I a.idx::kl a.v
def aK (a:At):AV:= .agg (ly a)
theorem NU (x:It):ae (kl x)=true:=by
 have:=cG x;rw[NT] at this;exact this
theorem fZ (a:At):ag (aK a)=true:=by simp only[aK,ly,ag,ae,NU,Bool.and_self]
def tl (r:Rw):At:=⟨aO nameL [] r.k,match ao (r.b.tmod 3) 0 with|true=>aj .i64 (r.b.tdiv 3)%4|false=>0,mP (aO nameL [] r.k) r⟩
theorem NV (r:Rw):SC 16 [aU r] (aK (tl r)):=by
 have hv:=NS (aO nameL [] r.k) r;have hn:=NR r.k;simp only[tl];revert hv hn;generalize aO nameL [] r.k=s;generalize mP s r=x;intro hv hn;obtain ⟨t,y,n,d,ks⟩:=x;have h:=NQ s t y n (ak d) (ap ks) r;refine bG (A:=FR s (am t y n (ak d) (ap ks))) base0 ar (aG (LsOk.no rfl)) rfl ?_;rw[h];refine And.intro hn (ai (fun e=>And.intro (bu _ (by decide) (by decide)) (And.intro hv ?_)) (fun e=>And.intro hv ?_))
 all_goals
  simp only[e,aK,ly,kl];exact kj (by simp[ag,ae,am,iP])
end
noncomputable section
inductive Kd where
 |uid|nam|typ|alg|len|mask|sta
 |dat (k:Nat)
 |why|lnk|lim
 |cus (s:List UInt8)
def Ap:Nat→List UInt8
 |0=>[73,110,105,116,105,97,108,32,68,97,116,101]
 |1=>[65,99,116,105,118,97,116,105,111,110,32,68,97,116,101]
 |2=>[80,114,111,99,101,115,115,32,83,116,97,114,116,32,68,97,116,101]
 |3=>[80,114,111,116,101,99,116,32,83,116,111,112,32,68,97,116,101]
 |4=>[68,101,97,99,116,105,118,97,116,105,111,110,32,68,97,116,101]
 |5=>[68,101,115,116,114,111,121,32,68,97,116,101]
 |6=>[67,111,109,112,114,111,109,105,115,101,32,79,99,99,117,114,114,101,110,99,101,32,68,97,116,101]
 |7=>[67,111,109,112,114,111,109,105,115,101,32,68,97,116,101]
 |8=>[65,114,99,104,105,118,101,32,68,97,116,101]
 |_=>[76,97,115,116,32,67,104,97,110,103,101,32,68,97,116,101]
def aC:Kd→List UInt8
 | .uid=>[85,110,105,113,117,101,32,73,100,101,110,116,105,102,105,101,114]
 | .nam=>[78,97,109,101]
 | .typ=>[79,98,106,101,99,116,32,84,121,112,101]
 | .alg=>[67,114,121,112,116,111,103,114,97,112,104,105,99,32,65,108,103,111,114,105,116,104,109]
 | .len=>[67,114,121,112,116,111,103,114,97,112,104,105,99,32,76,101,110,103,116,104]
 | .mask=>[67,114,121,112,116,111,103,114,97,112,104,105,99,32,85,115,97,103,101,32,77,97,115,107]
 | .sta=>[83,116,97,116,101]
 | .why=>[82,101,118,111,99,97,116,105,111,110,32,82,101,97,115,111,110]
 | .lnk=>[76,105,110,107]
 | .lim=>[85,115,97,103,101,32,76,105,109,105,116,115]
 | .dat k=>Ap k
 | .cus s=>s
def ci:Kd→Bool
 | .nam| .lnk| .cus _=>true
 |_=>false
def lz (k:Nat):Bool:=Nat.ble 1 k&&Nat.ble k 4
def dR:Kd→Bool
 | .nam| .lnk| .cus _| .alg| .len| .mask| .lim=>true
 | .dat k=>lz k
 |_=>false
def ir:Kd→Int
 | .uid| .nam| .cus _=>7
 | .typ| .alg| .sta=>5
 | .len| .mask=>2
 | .dat _=>9
 | .why| .lnk| .lim=>1
def bK (f:Nat):AV:= .func (.func f) [] []
def cM (f:Nat) (c:List AV):AV:= .func (.func f) [] c
def alw:AV:=bK 158
def vJ:AV:=bK 125
def Aq:AV:=bK 137
def mQ:Nat→AV
 |1|2=>vJ
 |3|4=>Aq
 |_=> .nilFunc
def f6:Kd→AV
 | .nam| .lnk| .cus _| .lim=>alw
 | .dat k=>mQ k
 |_=> .nilFunc
def f9:Kd→AV
 | .nam| .lnk| .cus _=>alw
 | .mask=>vJ
 | .lim=>bK 189
 | .dat k=>mQ k
 |_=> .nilFunc
def oR:Nat→AV
 |2=>vJ
 |3=>Aq
 |_=> .nilFunc
def gd:Kd→AV
 | .nam| .lnk| .cus _=>alw
 | .lim=>bK 189
 | .dat k=>oR k
 |_=> .nilFunc
def fh:Kd→AV
 | .alg=>bK 132
 | .len=>bK 133
 |_=>bK 124
def NW:Kd→Int
 | .alg=>100
 | .len=>100000
 |_=>1048575
def FT:Kd→Int
 | .mask=>0
 |_=>1
def NX (k:Kd):AV:=cM 161 [.fptr [fh k] 0,.fptr [I (FT k)] 0,.fptr [I (ir k)] 0]
def NY (k:Kd):AV:=cM 162 [.fptr [I (ir k)] 0,.fptr [I (FT k)] 0,.fptr [I (NW k)] 0]
def NZ (k:Kd):AV:=cM 164 [.fptr [fh k] 0]
def nI (k:Nat):AV:= .int .i64 (.ofNat k)
def g7:Kd→AV
 | .uid=>bK 127
 | .nam=>bK 166
 | .typ=>bK 130
 | .sta=>bK 134
 | .dat k=>cM 172 [.fptr [nI k] 0]
 | .why=>bK 138
 | .lnk=>bK 178
 | .lim=>bK 184
 | .cus s=>cM 150 [.fptr [.str s] 0]
 |k=>NX k
def fP:Kd→AV
 | .nam=>bK 167
 | .dat _=>bK 173
 | .lnk=>bK 179
 | .lim=>bK 185
 | .cus _=>bK 152
 | .uid| .typ| .sta| .why=> .nilFunc
 |k=>NY k
def fm:Kd→AV
 | .nam=>bK 168
 | .dat k=>cM 174 [.fptr [nI k] 0]
 | .lnk=>bK 180
 | .lim=>bK 187
 | .cus s=>cM 154 [.fptr [.str s] 0]
 | .uid| .typ| .sta| .why=> .nilFunc
 |k=>NZ k
def fD:Kd→AV
 | .nam=>bK 170
 | .dat k=>cM 175 [.fptr [nI k] 0]
 | .lnk=>bK 182
 | .lim=>bK 188
 | .cus s=>cM 156 [.fptr [.str s] 0]
 |_=> .nilFunc
def eL:Kd→AV
 | .nam=>bK 165
 | .lnk=>bK 177
 | .cus _=>bK 149
 |_=> .nilFunc
def eb (k:Kd):List AV:=[.str (aC k),I (ir k),.bool (ci k),.bool (dR k),f6 k,f9 k,gd k,g7 k,fP k,fm k,fD k,eL k]
def oT (k:Kd):AV:= .agg (eb k)
def FU:AV:= .agg [.str [],I 0,.bool false,.bool false,.nilFunc,.nilFunc,.nilFunc,.nilFunc,.nilFunc,.nilFunc,.nilFunc,.nilFunc]
def kinds:List Kd:=[.uid,.nam,.typ,.alg,.len,.mask,.sta,.dat 0,.dat 1,.dat 2,.dat 3,.dat 4,.dat 5,.dat 6,.dat 7,.dat 8,.dat 9,.why,.lnk,.lim]
abbrev FV:=[AV.str gQ,I 2,AV.bool false,AV.bool true,AV.nilFunc,AV.func (Fn.func 125) [] [],AV.nilFunc,AV.func (Fn.func 161) [] [AV.fptr [AV.func (Fn.func 124) [] []] 0,AV.fptr [I 0] 0,AV.fptr [I 2] 0],AV.func (Fn.func 162) [] [AV.fptr [I 2] 0,AV.fptr [I 0] 0,AV.fptr [I 1048575] 0],AV.func (Fn.func 164) [] [AV.fptr [AV.func (Fn.func 124) [] []] 0],AV.nilFunc,AV.nilFunc]
abbrev FW:=[AV.str ic,I 5,AV.bool false,AV.bool true,AV.nilFunc,AV.nilFunc,AV.nilFunc,AV.func (Fn.func 161) [] [AV.fptr [AV.func (Fn.func 132) [] []] 0,AV.fptr [I 1] 0,AV.fptr [I 5] 0],AV.func (Fn.func 162) [] [AV.fptr [I 5] 0,AV.fptr [I 1] 0,AV.fptr [I 100] 0],AV.func (Fn.func 164) [] [AV.fptr [AV.func (Fn.func 132) [] []] 0],AV.nilFunc,AV.nilFunc]
abbrev FX:=[AV.str ig,I 2,AV.bool false,AV.bool true,AV.nilFunc,AV.nilFunc,AV.nilFunc,AV.func (Fn.func 161) [] [AV.fptr [AV.func (Fn.func 133) [] []] 0,AV.fptr [I 1] 0,AV.fptr [I 2] 0],AV.func (Fn.func 162) [] [AV.fptr [I 2] 0,AV.fptr [I 1] 0,AV.fptr [I 100000] 0],AV.func (Fn.func 164) [] [AV.fptr [AV.func (Fn.func 133) [] []] 0],AV.nilFunc,AV.nilFunc]
abbrev FY:=[AV.str kN,I 9,AV.bool false,AV.bool true,AV.func (Fn.func 125) [] [],AV.func (Fn.func 125) [] [],AV.func (Fn.func 125) [] [],AV.func (Fn.func 172) [] [AV.fptr [I 2] 0],AV.func (Fn.func 173) [] [],AV.func (Fn.func 174) [] [AV.fptr [I 2] 0],AV.func (Fn.func 175) [] [AV.fptr [I 2] 0],AV.nilFunc]
abbrev FZ:=[AV.str kM,I 9,AV.bool false,AV.bool true,AV.func (Fn.func 137) [] [],AV.func (Fn.func 137) [] [],AV.func (Fn.func 137) [] [],AV.func (Fn.func 172) [] [AV.fptr [I 3] 0],AV.func (Fn.func 173) [] [],AV.func (Fn.func 174) [] [AV.fptr [I 3] 0],AV.func (Fn.func 175) [] [AV.fptr [I 3] 0],AV.nilFunc]
abbrev F2:=[AV.str pw,I 9,AV.bool false,AV.bool false,AV.nilFunc,AV.nilFunc,AV.nilFunc,AV.func (Fn.func 172) [] [AV.fptr [I 6] 0],AV.func (Fn.func 173) [] [],AV.func (Fn.func 174) [] [AV.fptr [I 6] 0],AV.func (Fn.func 175) [] [AV.fptr [I 6] 0],AV.nilFunc]
abbrev F3:=[AV.str py,I 9,AV.bool false,AV.bool true,AV.func (Fn.func 137) [] [],AV.func (Fn.func 137) [] [],AV.nilFunc,AV.func (Fn.func 172) [] [AV.fptr [I 4] 0],AV.func (Fn.func 173) [] [],AV.func (Fn.func 174) [] [AV.fptr [I 4] 0],AV.func (Fn.func 175) [] [AV.fptr [I 4] 0],AV.nilFunc]
abbrev F4:=[AV.str pu,I 9,AV.bool false,AV.bool true,AV.func (Fn.func 125) [] [],AV.func (Fn.func 125) [] [],AV.nilFunc,AV.func (Fn.func 172) [] [AV.fptr [I 1] 0],AV.func (Fn.func 173) [] [],AV.func (Fn.func 174) [] [AV.fptr [I 1] 0],AV.func (Fn.func 175) [] [AV.fptr [I 1] 0],AV.nilFunc]
abbrev F5:=[AV.str pA,I 9,AV.bool false,AV.bool false,AV.nilFunc,AV.nilFunc,AV.nilFunc,AV.func (Fn.func 172) [] [AV.fptr [I 9] 0],AV.func (Fn.func 173) [] [],AV.func (Fn.func 174) [] [AV.fptr [I 9] 0],AV.func (Fn.func 175) [] [AV.fptr [I 9] 0],AV.nilFunc]
abbrev F6:=[AV.str pv,I 9,AV.bool false,AV.bool false,AV.nilFunc,AV.nilFunc,AV.nilFunc,AV.func (Fn.func 172) [] [AV.fptr [I 7] 0],AV.func (Fn.func 173) [] [],AV.func (Fn.func 174) [] [AV.fptr [I 7] 0],AV.func (Fn.func 175) [] [AV.fptr [I 7] 0],AV.nilFunc]
abbrev F7:=[AV.str dt,I 1,AV.bool false,AV.bool true,AV.func (Fn.func 158) [] [],AV.func (Fn.func 189) [] [],AV.func (Fn.func 189) [] [],AV.func (Fn.func 184) [] [],AV.func (Fn.func 185) [] [],AV.func (Fn.func 187) [] [],AV.func (Fn.func 188) [] [],AV.nilFunc]
abbrev F8:=[AV.str px,I 9,AV.bool false,AV.bool false,AV.nilFunc,AV.nilFunc,AV.nilFunc,AV.func (Fn.func 172) [] [AV.fptr [I 5] 0],AV.func (Fn.func 173) [] [],AV.func (Fn.func 174) [] [AV.fptr [I 5] 0],AV.func (Fn.func 175) [] [AV.fptr [I 5] 0],AV.nilFunc]
abbrev F9:=[AV.str pz,I 9,AV.bool false,AV.bool false,AV.nilFunc,AV.nilFunc,AV.nilFunc,AV.func (Fn.func 172) [] [AV.fptr [I 0] 0],AV.func (Fn.func 173) [] [],AV.func (Fn.func 174) [] [AV.fptr [I 0] 0],AV.func (Fn.func 175) [] [AV.fptr [I 0] 0],AV.nilFunc]
abbrev Ga:=[AV.str pt,I 9,AV.bool false,AV.bool false,AV.nilFunc,AV.nilFunc,AV.nilFunc,AV.func (Fn.func 172) [] [AV.fptr [I 8] 0],AV.func (Fn.func 173) [] [],AV.func (Fn.func 174) [] [AV.fptr [I 8] 0],AV.func (Fn.func 175) [] [AV.fptr [I 8] 0],AV.nilFunc]
abbrev Gb:=[AV.str [76,105,110,107],I 1,AV.bool true,AV.bool true,AV.func (Fn.func 158) [] [],AV.func (Fn.func 158) [] [],AV.func (Fn.func 158) [] [],AV.func (Fn.func 178) [] [],AV.func (Fn.func 179) [] [],AV.func (Fn.func 180) [] [],AV.func (Fn.func 182) [] [],AV.func (Fn.func 177) [] []]
abbrev Gc:=[AV.str [78,97,109,101],I 7,AV.bool true,AV.bool true,AV.func (Fn.func 158) [] [],AV.func (Fn.func 158) [] [],AV.func (Fn.func 158) [] [],AV.func (Fn.func 166) [] [],AV.func (Fn.func 167) [] [],AV.func (Fn.func 168) [] [],AV.func (Fn.func 170) [] [],AV.func (Fn.func 165) [] []]
abbrev Gd:=[AV.str mm,I 7,AV.bool false,AV.bool false,AV.nilFunc,AV.nilFunc,AV.nilFunc,AV.func (Fn.func 127) [] [],AV.nilFunc,AV.nilFunc,AV.nilFunc,AV.nilFunc]
abbrev Gf:=[AV.str ml,I 1,AV.bool false,AV.bool false,AV.nilFunc,AV.nilFunc,AV.nilFunc,AV.func (Fn.func 138) [] [],AV.nilFunc,AV.nilFunc,AV.nilFunc,AV.nilFunc]
abbrev Gg:=[AV.str mj,I 5,AV.bool false,AV.bool false,AV.nilFunc,AV.nilFunc,AV.nilFunc,AV.func (Fn.func 130) [] [],AV.nilFunc,AV.nilFunc,AV.nilFunc,AV.nilFunc]
abbrev Gh:=[AV.str [83,116,97,116,101],I 5,AV.bool false,AV.bool false,AV.nilFunc,AV.nilFunc,AV.nilFunc,AV.func (Fn.func 134) [] [],AV.nilFunc,AV.nilFunc,AV.nilFunc,AV.nilFunc]
abbrev Gi:=(AV.fsl true [AV.agg Gd,AV.agg Gc,AV.agg Gg,AV.agg FW,AV.agg FX,AV.agg FV,AV.agg Gh,AV.agg F9,AV.agg F4,AV.agg FY,AV.agg FZ,AV.agg F3,AV.agg F8,AV.agg F2,AV.agg F6,AV.agg Ga,AV.agg F5,AV.agg Gf,AV.agg Gb,AV.agg F7])
theorem N0 (Q:AV→Prop):aH prog opts0 40 bC 91 [] [] 0 (fun v _ _=>Q v)=
 (Q Gi):=by kernel_rfl
theorem N3:SC 91 [] (.fsl true (kinds.map oT)):=by
 refine bG (A:=bC) base0 cX (aG (LsOk.no rfl)) rfl ?_;rw[N0];exact td rfl (by kernel_rfl)
abbrev Gj (s:List UInt8):=[AV.str s,I 7,AV.bool true,AV.bool true,AV.func (Fn.func 158) [] [],AV.func (Fn.func 158) [] [],AV.func (Fn.func 158) [] [],AV.func (Fn.func 150) [] [AV.ptr 0 0],AV.func (Fn.func 152) [] [],AV.func (Fn.func 154) [] [AV.ptr 0 0],AV.func (Fn.func 156) [] [AV.ptr 0 0],AV.func (Fn.func 149) [] []]
theorem N4 (s:List UInt8) (Q:AV→ah→Nat→Prop):aH prog opts0 40 bC 112 [.str s] [] 0 Q=
 (Q (.agg (Gj s)) [(1,some (Blk.cells (Gj s))),(0,some (Blk.cells [AV.str s]))] 24):=by kernel_rfl
theorem N5 (s:List UInt8):SC 112 [.str s] (oT (.cus s)):=by
 refine oL (A:=bC) base0 cX (aG (LsOk.no rfl)) rfl ?_;rw[N4];exact ⟨⟨6,rfl⟩,rfl⟩
def Gk (c:Bool) (s:List UInt8):bz:=aB [] [] (bP [(111,.bool c),(112,oT (.cus s)),(91,.fsl true (kinds.map oT))]) [] []
abbrev Gl (s:List UInt8):=[AV.str s,I 7,AV.bool true,AV.bool true,AV.func (Fn.func 158) [] [],AV.func (Fn.func 158) [] [],AV.func (Fn.func 158) [] [],AV.func (Fn.func 150) [] [AV.fptr [AV.str s] 0],AV.func (Fn.func 152) [] [],AV.func (Fn.func 154) [] [AV.fptr [AV.str s] 0],AV.func (Fn.func 156) [] [AV.fptr [AV.str s] 0],AV.func (Fn.func 149) [] []]
theorem N6 (c:Bool) (s:List UInt8) (Q:AV→Prop):aH prog opts0 40 (Gk c s) 61 [.str s] [] 0 (fun v _ _=>Q v)=
 (SC 111 [AV.str s] (.bool c)∧ac c (SC 112 [AV.str s] (.agg (Gl s))∧Q (.tuple [AV.agg (Gl s),.bool true])) (SC 91 [] Gi∧ac (aI mm s) (Q (.tuple [AV.agg Gd,.bool true])) (ac (aI [78,97,109,101] s) (Q (.tuple [AV.agg Gc,.bool true])) (ac (aI mj s) (Q (.tuple [AV.agg Gg,.bool true])) (ac (aI ic s) (Q (.tuple [AV.agg FW,.bool true])) (ac (aI ig s) (Q (.tuple [AV.agg FX,.bool true])) (ac (aI gQ s) (Q (.tuple [AV.agg FV,.bool true])) (ac (aI [83,116,97,116,101] s) (Q (.tuple [AV.agg Gh,.bool true])) (ac (aI pz s) (Q (.tuple [AV.agg F9,.bool true])) (ac (aI pu s) (Q (.tuple [AV.agg F4,.bool true])) (ac (aI kN s) (Q (.tuple [AV.agg FY,.bool true])) (ac (aI kM s) (Q (.tuple [AV.agg FZ,.bool true])) (ac (aI py s) (Q (.tuple [AV.agg F3,.bool true])) (ac (aI px s) (Q (.tuple [AV.agg F8,.bool true])) (ac (aI pw s) (Q (.tuple [AV.agg F2,.bool true])) (ac (aI pv s) (Q (.tuple [AV.agg F6,.bool true])) (ac (aI pt s) (Q (.tuple [AV.agg Ga,.bool true])) (ac (aI pA s) (Q (.tuple [AV.agg F5,.bool true])) (ac (aI ml s) (Q (.tuple [AV.agg Gf,.bool true])) (ac (aI [76,105,110,107] s) (Q (.tuple [AV.agg Gb,.bool true])) (ac (aI dt s) (Q (.tuple [AV.agg F7,.bool true])) (Q (.tuple [AV.agg [AV.str [],I 0,.bool false,.bool false,.nilFunc,.nilFunc,.nilFunc,.nilFunc,.nilFunc,.nilFunc,.nilFunc,.nilFunc],.bool false]))))))))))))))))))))))):=by kernel_rfl
def g8 (s:List UInt8):List Kd→Option Kd
 |[]=>none
 |k::r=>match aI (aC k) s with
  |true=>some k
  |false=>g8 s r
def ec (c:Bool) (s:List UInt8):Option Kd:=match c with
 |true=>some (.cus s)
 |false=>g8 s kinds
def km:Option Kd→AV
 |some k=> .tuple [oT k,.bool true]
 |none=> .tuple [FU,.bool false]
theorem Ar (k:Kd):ag (oT k)=true:=by
 cases k with
 |dat k=>
  have h1:ag (mQ k)=true:=by unfold mQ;split<;>rfl
  have h2:ag (oR k)=true:=by unfold oR;split<;>rfl
  simp[oT,eb,ag,ae,f6,f9,gd,h1,h2,g7,fP,fm,fD,eL,bK,cM,nI]
 |_=>rfl
set_option maxRecDepth 20000 in
theorem As {c:Bool} {s:List UInt8} (hc:SC 111 [.str s] (.bool c)):SC 61 [.str s] (km (ec c s)):=by
 refine bG (A:=Gk c s) base0 ar (aG (LsOk.no rfl)) rfl ?_;rw[N6];refine And.intro hc (ai (fun e=>And.intro (N5 s) ?_) (fun e=>And.intro N3 ?_))
 ·subst e;exact td rfl (by simp[ec,km,ag,ae,Ar])
 ·subst e;simp only[ec]
  repeat' refine ai (fun _=> ?_) (fun _=> ?_)
  all_goals
   simp only[kinds,g8,aC,Ap, *];exact td rfl (by simp[km,ag,ae,Ar,FU])
end
noncomputable def bg:bB:={how:=fun f=>match fX [119,120,121,193,194,191] f with|true=> .keep|false=> .pure,summ:=fun _ _=>none,glob:=gl,lf:=100000}
set_option maxRecDepth 20000 in
theorem aT {f:FuncId} {args:List AV} {v:AV} (hcl:ae args=true) (h:be prog bg 40 f args=some v) (hv:ag v=true):SC f args v:=
 Nf (O:=bg) Tryz.mixed (fun _ _ _ h=>by cases h) Al yP hcl h hv
def dG:List (List UInt8):=[[111,110,101],[116,119,111],[116,104,114,101,101],[102,111,117,114],[102,105,118,101],[],[53],[49],[50],[51],[52],[54],[55],[57,57],[120],[49,50,51,52,53,54,55,56],[109],[108,111,115,116]]
def qo (s:List UInt8):Bool:= !Nat.beq s.length 0
def eM:List UInt8→Bool
 |120::45::_=>true
 |_=>false
theorem N7:be prog bg 40 147 [.str [111,110,101]]=some (.bool true):=by kernel_rfl
theorem N8:be prog bg 40 117 [.str [111,110,101]]=some (.bool true):=by kernel_rfl
theorem N9:be prog bg 40 147 [.str [116,119,111]]=some (.bool true):=by kernel_rfl
theorem Oa:be prog bg 40 117 [.str [116,119,111]]=some (.bool true):=by kernel_rfl
theorem Oc:be prog bg 40 147 [.str [116,104,114,101,101]]=some (.bool true):=by kernel_rfl
theorem Od:be prog bg 40 117 [.str [116,104,114,101,101]]=some (.bool true):=by kernel_rfl
theorem Oe:be prog bg 40 147 [.str [102,111,117,114]]=some (.bool true):=by kernel_rfl
theorem Of:be prog bg 40 117 [.str [102,111,117,114]]=some (.bool true):=by kernel_rfl
theorem Og:be prog bg 40 147 [.str [102,105,118,101]]=some (.bool true):=by kernel_rfl
theorem Oh:be prog bg 40 117 [.str [102,105,118,101]]=some (.bool true):=by kernel_rfl
theorem Oi:be prog bg 40 147 [.str []]=some (.bool false):=by kernel_rfl
theorem Oj:be prog bg 40 117 [.str []]=some (.bool false):=by kernel_rfl
theorem Ok:be prog bg 40 147 [.str [53]]=some (.bool true):=by kernel_rfl
theorem Ol:be prog bg 40 117 [.str [53]]=some (.bool true):=by kernel_rfl
theorem Om:be prog bg 40 147 [.str [49]]=some (.bool true):=by kernel_rfl
theorem On:be prog bg 40 117 [.str [49]]=some (.bool true):=by kernel_rfl
theorem Oo:be prog bg 40 147 [.str [50]]=some (.bool true):=by kernel_rfl
theorem Oq:be prog bg 40 117 [.str [50]]=some (.bool true):=by kernel_rfl
theorem Ot:be prog bg 40 147 [.str [51]]=some (.bool true):=by kernel_rfl
theorem Ou:be prog bg 40 117 [.str [51]]=some (.bool true):=by kernel_rfl
theorem Ov:be prog bg 40 147 [.str [52]]=some (.bool true):=by kernel_rfl
theorem Ow:be prog bg 40 117 [.str [52]]=some (.bool true):=by kernel_rfl
theorem Ox:be prog bg 40 147 [.str [54]]=some (.bool true):=by kernel_rfl
theorem Oy:be prog bg 40 117 [.str [54]]=some (.bool true):=by kernel_rfl
theorem Oz:be prog bg 40 147 [.str [55]]=some (.bool true):=by kernel_rfl
theorem OA:be prog bg 40 117 [.str [55]]=some (.bool true):=by kernel_rfl
theorem OB:be prog bg 40 147 [.str [57,57]]=some (.bool true):=by kernel_rfl
theorem OC:be prog bg 40 117 [.str [57,57]]=some (.bool true):=by kernel_rfl
theorem OD:be prog bg 40 147 [.str [120]]=some (.bool true):=by kernel_rfl
theorem OE:be prog bg 40 117 [.str [120]]=some (.bool true):=by kernel_rfl
theorem OG:be prog bg 40 147 [.str [49,50,51,52,53,54,55,56]]=some (.bool true):=by kernel_rfl
theorem OH:be prog bg 40 117 [.str [49,50,51,52,53,54,55,56]]=some (.bool true):=by kernel_rfl
theorem OI:be prog bg 40 147 [.str [109]]=some (.bool true):=by kernel_rfl
theorem OJ:be prog bg 40 117 [.str [109]]=some (.bool true):=by kernel_rfl
theorem OK:be prog bg 40 147 [.str [108,111,115,116]]=some (.bool true):=by kernel_rfl
theorem OL:be prog bg 40 117 [.str [108,111,115,116]]=some (.bool true):=by kernel_rfl
theorem OM:be prog bg 40 111 [.str mm]=some (.bool false):=by kernel_rfl
theorem ON:be prog bg 40 114 [.str mm]=some (.bool false):=by kernel_rfl
theorem OO:be prog bg 40 111 [.str [78,97,109,101]]=some (.bool false):=by kernel_rfl
theorem OP:be prog bg 40 114 [.str [78,97,109,101]]=some (.bool false):=by kernel_rfl
theorem OQ:be prog bg 40 111 [.str mj]=some (.bool false):=by kernel_rfl
theorem OR:be prog bg 40 114 [.str mj]=some (.bool false):=by kernel_rfl
theorem OS:be prog bg 40 111 [.str ic]=some (.bool false):=by kernel_rfl
theorem OT:be prog bg 40 114 [.str ic]=some (.bool false):=by kernel_rfl
theorem OU:be prog bg 40 111 [.str ig]=some (.bool false):=by kernel_rfl
theorem OV:be prog bg 40 114 [.str ig]=some (.bool false):=by kernel_rfl
theorem OW:be prog bg 40 111 [.str gQ]=some (.bool false):=by kernel_rfl
theorem OX:be prog bg 40 114 [.str gQ]=some (.bool false):=by kernel_rfl
theorem OY:be prog bg 40 111 [.str [83,116,97,116,101]]=some (.bool false):=by kernel_rfl
theorem OZ:be prog bg 40 114 [.str [83,116,97,116,101]]=some (.bool false):=by kernel_rfl
theorem O0:be prog bg 40 111 [.str pz]=some (.bool false):=by kernel_rfl
theorem O1:be prog bg 40 114 [.str pz]=some (.bool false):=by kernel_rfl
theorem O2:be prog bg 40 111 [.str pu]=some (.bool false):=by kernel_rfl
theorem O3:be prog bg 40 114 [.str pu]=some (.bool false):=by kernel_rfl
theorem O4:be prog bg 40 111 [.str kN]=some (.bool false):=by kernel_rfl
theorem O5:be prog bg 40 114 [.str kN]=some (.bool false):=by kernel_rfl
theorem O6:be prog bg 40 111 [.str kM]=some (.bool false):=by kernel_rfl
theorem O7:be prog bg 40 114 [.str kM]=some (.bool false):=by kernel_rfl
theorem O8:be prog bg 40 111 [.str py]=some (.bool false):=by kernel_rfl
theorem O9:be prog bg 40 114 [.str py]=some (.bool false):=by kernel_rfl
theorem Pa:be prog bg 40 111 [.str px]=some (.bool false):=by kernel_rfl
theorem Pb:be prog bg 40 114 [.str px]=some (.bool false):=by kernel_rfl
theorem Pc:be prog bg 40 111 [.str pw]=some (.bool false):=by kernel_rfl
theorem Pd:be prog bg 40 114 [.str pw]=some (.bool false):=by kernel_rfl
theorem Pe:be prog bg 40 111 [.str pv]=some (.bool false):=by kernel_rfl
theorem Pf:be prog bg 40 114 [.str pv]=some (.bool false):=by kernel_rfl
theorem Pg:be prog bg 40 111 [.str pt]=some (.bool false):=by kernel_rfl
theorem Ph:be prog bg 40 114 [.str pt]=some (.bool false):=by kernel_rfl
theorem Pi:be prog bg 40 111 [.str pA]=some (.bool false):=by kernel_rfl
theorem Pj:be prog bg 40 114 [.str pA]=some (.bool false):=by kernel_rfl
theorem Pk:be prog bg 40 111 [.str ml]=some (.bool false):=by kernel_rfl
theorem Pl:be prog bg 40 114 [.str ml]=some (.bool false):=by kernel_rfl
theorem Pm:be prog bg 40 111 [.str [76,105,110,107]]=some (.bool false):=by kernel_rfl
theorem Pn:be prog bg 40 114 [.str [76,105,110,107]]=some (.bool false):=by kernel_rfl
theorem Po:be prog bg 40 111 [.str dt]=some (.bool false):=by kernel_rfl
theorem Pp:be prog bg 40 114 [.str dt]=some (.bool false):=by kernel_rfl
theorem Pq:be prog bg 40 111 [.str [120,45,97]]=some (.bool true):=by kernel_rfl
theorem Pr:be prog bg 40 114 [.str [120,45,97]]=some (.bool true):=by kernel_rfl
theorem Ps:be prog bg 40 111 [.str [120,45,98]]=some (.bool true):=by kernel_rfl
theorem Pt:be prog bg 40 114 [.str [120,45,98]]=some (.bool true):=by kernel_rfl
theorem Pu:be prog bg 40 111 [.str [120,45]]=some (.bool true):=by kernel_rfl
theorem Pv:be prog bg 40 114 [.str [120,45]]=some (.bool true):=by kernel_rfl
theorem Pw:be prog bg 40 111 [.str [121]]=some (.bool false):=by kernel_rfl
theorem Px:be prog bg 40 114 [.str [121]]=some (.bool false):=by kernel_rfl
theorem Py:∀s∈dG,SC 147 [.str s] (.bool (qo s)):=by
 simp only[dG,List.forall_mem_cons];exact ⟨aT rfl N7 rfl,aT rfl N9 rfl,aT rfl Oc rfl,aT rfl Oe rfl,aT rfl Og rfl,aT rfl Oi rfl,aT rfl Ok rfl,aT rfl Om rfl,aT rfl Oo rfl,aT rfl Ot rfl,aT rfl Ov rfl,aT rfl Ox rfl,aT rfl Oz rfl,aT rfl OB rfl,aT rfl OD rfl,aT rfl OG rfl,aT rfl OI rfl,aT rfl OK rfl,fun _ h=>by cases h⟩
theorem Gm:∀s∈dG,SC 117 [.str s] (.bool (qo s)):=by
 simp only[dG,List.forall_mem_cons];exact ⟨aT rfl N8 rfl,aT rfl Oa rfl,aT rfl Od rfl,aT rfl Of rfl,aT rfl Oh rfl,aT rfl Oj rfl,aT rfl Ol rfl,aT rfl On rfl,aT rfl Oq rfl,aT rfl Ou rfl,aT rfl Ow rfl,aT rfl Oy rfl,aT rfl OA rfl,aT rfl OC rfl,aT rfl OE rfl,aT rfl OH rfl,aT rfl OJ rfl,aT rfl OL rfl,fun _ h=>by cases h⟩
theorem Pz:∀s∈nameL,SC 111 [.str s] (.bool (eM s)):=by
 simp only[nameL,List.forall_mem_cons];exact ⟨aT rfl OM rfl,aT rfl OO rfl,aT rfl OQ rfl,aT rfl OS rfl,aT rfl OU rfl,aT rfl OW rfl,aT rfl OY rfl,aT rfl O0 rfl,aT rfl O2 rfl,aT rfl O4 rfl,aT rfl O6 rfl,aT rfl O8 rfl,aT rfl Pa rfl,aT rfl Pc rfl,aT rfl Pe rfl,aT rfl Pg rfl,aT rfl Pi rfl,aT rfl Pk rfl,aT rfl Pm rfl,aT rfl Po rfl,aT rfl Pq rfl,aT rfl Ps rfl,aT rfl Pu rfl,aT rfl Pw rfl,fun _ h=>by cases h⟩
theorem PA:∀s∈nameL,SC 114 [.str s] (.bool (eM s)):=by
 simp only[nameL,List.forall_mem_cons];exact ⟨aT rfl ON rfl,aT rfl OP rfl,aT rfl OR rfl,aT rfl OT rfl,aT rfl OV rfl,aT rfl OX rfl,aT rfl OZ rfl,aT rfl O1 rfl,aT rfl O3 rfl,aT rfl O5 rfl,aT rfl O7 rfl,aT rfl O9 rfl,aT rfl Pb rfl,aT rfl Pd rfl,aT rfl Pf rfl,aT rfl Ph rfl,aT rfl Pj rfl,aT rfl Pl rfl,aT rfl Pn rfl,aT rfl Pp rfl,aT rfl Pr rfl,aT rfl Pt rfl,aT rfl Pv rfl,aT rfl Px rfl,fun _ h=>by cases h⟩
set_option maxRecDepth 20000
def b8 {α:Type} (l:List α) (i:Nat) (x:α):List α:=l.take i++x::l.drop (i+1)
def cB {α:Type} (l:List α) (i:Nat):List α:=l.take i++l.drop (i+1)
theorem PB (l:List (List UInt8)) (i:Nat) (x:List UInt8) (h1:i≤l.length) (h2:l.length≤6) (h3:i<6):SC 169 [.fsl false (l.map .str),I (.ofNat i),.str x] (.fsl false ((b8 l i x).map .str)):=by
 rcases l with _|⟨_,_|⟨_,_|⟨_,_|⟨_,_|⟨_,_|⟨_,_|⟨_,_⟩⟩⟩⟩⟩⟩⟩
 all_goals rcases i with _|_|_|_|_|_|i
 all_goals first
  |(exfalso;simp only[lConQ,List.length_nil] at h1 h2;omega)
  |exact SemCall.emptyAt (aT rfl (by kernel_rfl) rfl) (aT rfl (by kernel_rfl) rfl)
  |exact aT rfl (by kernel_rfl) rfl
theorem PC (l:List (List UInt8)) (i:Nat) (h1:i<l.length) (h2:l.length≤6):SC 171 [.fsl false (l.map .str),I (.ofNat i)] (.fsl false ((cB l i).map .str)):=by
 rcases l with _|⟨_,_|⟨_,_|⟨_,_|⟨_,_|⟨_,_|⟨_,_|⟨_,_⟩⟩⟩⟩⟩⟩⟩
 all_goals rcases i with _|_|_|_|_|_|i
 all_goals first
  |(exfalso;simp only[lConQ,List.length_nil] at h1 h2;omega)
  |exact aT rfl (by kernel_rfl) rfl
theorem PD (l:List (Lk)) (i:Nat) (x:Lk) (h1:i≤l.length) (h2:l.length≤8) (h3:i<8):SC 181 [.fsl false (l.map aL),I (.ofNat i),aL x] (.fsl false ((b8 l i x).map aL)):=by
 rcases l with _|⟨_,_|⟨_,_|⟨_,_|⟨_,_|⟨_,_|⟨_,_|⟨_,_|⟨_,_|⟨_,_⟩⟩⟩⟩⟩⟩⟩⟩⟩
 all_goals rcases i with _|_|_|_|_|_|_|_|i
 all_goals first
  |(exfalso;simp only[lConQ,List.length_nil] at h1 h2;omega)
  |exact SemCall.emptyAt (aT rfl (by kernel_rfl) rfl) (aT rfl (by kernel_rfl) rfl)
  |exact aT rfl (by kernel_rfl) rfl
theorem PE (l:List (Lk)) (i:Nat) (h1:i<l.length) (h2:l.length≤8):SC 183 [.fsl false (l.map aL),I (.ofNat i)] (.fsl false ((cB l i).map aL)):=by
 rcases l with _|⟨_,_|⟨_,_|⟨_,_|⟨_,_|⟨_,_|⟨_,_|⟨_,_|⟨_,_|⟨_,_⟩⟩⟩⟩⟩⟩⟩⟩⟩
 all_goals rcases i with _|_|_|_|_|_|_|_|i
 all_goals first
  |(exfalso;simp only[lConQ,List.length_nil] at h1 h2;omega)
  |exact aT rfl (by kernel_rfl) rfl
theorem PF (l:List (Cu)) (i:Nat) (x:Cu) (h1:i≤l.length) (h2:l.length≤6) (h3:i<6):SC 155 [.fsl false (l.map az),I (.ofNat i),az x] (.fsl false ((b8 l i x).map az)):=by
 rcases l with _|⟨_,_|⟨_,_|⟨_,_|⟨_,_|⟨_,_|⟨_,_|⟨_,_⟩⟩⟩⟩⟩⟩⟩
 all_goals rcases i with _|_|_|_|_|_|i
 all_goals first
  |(exfalso;simp only[lConQ,List.length_nil] at h1 h2;omega)
  |exact SemCall.emptyAt (aT rfl (by kernel_rfl) rfl) (aT rfl (by kernel_rfl) rfl)
  |exact aT rfl (by kernel_rfl) rfl
theorem PG (l:List (Cu)) (i:Nat) (h1:i<l.length) (h2:l.length≤6):SC 157 [.fsl false (l.map az),I (.ofNat i)] (.fsl false ((cB l i).map az)):=by
 rcases l with _|⟨_,_|⟨_,_|⟨_,_|⟨_,_|⟨_,_|⟨_,_|⟨_,_⟩⟩⟩⟩⟩⟩⟩
 all_goals rcases i with _|_|_|_|_|_|i
 all_goals first
  |(exfalso;simp only[lConQ,List.length_nil] at h1 h2;omega)
  |exact aT rfl (by kernel_rfl) rfl
noncomputable section
theorem tm {p:Nat→Prop} (n:Nat) (hn:p n) (hs:∀i,i<n→p (i+1)→p i):∀i,i≤n→p i:=by
 intro i hi;obtain ⟨m,rfl⟩:∃m,n=i+m:=⟨n-i,by omega⟩;clear hi
 induction m generalizing i with
 |zero=>exact hn
 |succ m ih=>exact hs i (by omega) (ih (i+1) (by rw[show i+1+m=i+(m+1) by omega];exact hn) (by intro j hj;exact hs j (by omega)))
abbrev u8 (b:UInt8):AV:= .int .u8 (.ofNat b.toNat)
theorem Gn {f:Bool} {s:List UInt8} {i:Nat} {b:UInt8} (hx:s[i]? =some b):aF prog 23 (.fsl f (ak s)) (.int .i64 (.ofNat i))=some (.fptr [u8 b] 0):=
 gC (v:=u8 b) (e:=5) (sz:=1) (by kernel_rfl) (by kernel_rfl) (by rw[qc,List.getElem?_map,hx];rfl) rfl
def qp (D E:List AV) (i:Nat):View:=⟨[(0,.fsl false D),(1,.fsl false E),(4,.bool false),(12,I (.ofNat (ab D))),(13,I (.ofNat i))],[],[],0,26⟩
def eqF:View:=⟨[(4,.bool false)],[],[],0,26⟩
def Au (a b:UInt8):bz:=aB [(6,2,.res (.fptr [u8 a] 0)),(6,6,.res (.fptr [u8 b] 0))] [] aR [] []
@[simp] abbrev mR:=(AV.bool false=AV.bool false∧true=true)
@[simp] abbrev vK (D:List AV):=(I (Int.ofNat (ab D))=I (Int.ofNat (ab D))∧ag (I (Int.ofNat (ab D)))=true)
@[simp] abbrev vL (D:List AV):=(AV.fsl false D=AV.fsl false D∧ag (AV.fsl false D)=true)
@[simp] abbrev vM (E:List AV):=(AV.fsl false E=AV.fsl false E∧ag (AV.fsl false E)=true)
theorem Gp (D E:List AV) (i j:Nat) (a b:UInt8) (N:Prop) (Q:AExit→St→Prop):aP prog opts0 40 (Au a b) (aJ prog 84 5) (qp D E i).st (cb 0 [] (qp D E j) N [] eqF Q)=
 (ac (ay (Int.ofNat i) (Int.ofNat (ab D))) (aF prog 23 (.fsl false D) (I (Int.ofNat i))=some (.fptr [AV.int IntKind.u8 (Int.ofNat a.toNat)] 0)∧aF prog 23 (.fsl false E) (I (Int.ofNat i))=some (.fptr [AV.int IntKind.u8 (Int.ofNat b.toNat)] 0)∧ac (!ao (Int.ofNat a.toNat) (Int.ofNat b.toNat)) (((mR∧True)∧True∧True)∧Q AExit.ret eqF.st) ((((vL D)∧(vM E)∧mR∧(vK D)∧(I (aj IntKind.i64 (Int.ofNat i+1))=I (Int.ofNat j)∧ag (I (Int.ofNat j))=true)∧True)∧True∧True)∧N)) (((mR∧True)∧True∧True)∧Q (AExit.exit 0) eqF.st)):=by kernel_rfl
def Gq (D E:List AV) (p:Prop) (r:Bool):bV:=fun s Q=>p∧dr 0 [] (qp D E 0) s∧ac r (Q (.exit 0) eqF.st) (Q .ret eqF.st)
theorem PH (D E:List AV) (p:Prop) (r:Bool) (Q:AV→Prop):aH prog opts0 40 (aB [] [(5,Gq D E p r)] aR [] []) 84 [.fsl false D,.fsl false E] [] 0 (fun v _ _=>Q v)=
 (ac (!ao (Int.ofNat (ab D)) (Int.ofNat (ab E))) (Q (.bool false)) (p∧(((vL D)∧(vM E)∧mR∧(vK D)∧(I 0=I 0∧true=true)∧True)∧True∧True)∧ac r (Q (.bool true)) (Q (.bool false)))):=by kernel_rfl
theorem PI (a b:UInt8) (s t:List UInt8):aI (a::s) (b::t)=(Nat.beq a.toNat b.toNat&&aI s t):=by
 rw[Bool.eq_iff_iff,Bool.and_eq_true,beqBytes_iff,beqBytes_iff,beq_iff,List.cons.injEq];exact and_congr_left fun _=>⟨fun h=>by rw[h],fun h=>UInt8.toNat_inj.1 h⟩
theorem Gr (a b:Nat):ao (.ofNat a) (.ofNat b)=Nat.beq a b:=rfl
theorem PJ {s t:List UInt8} {Q:AExit→St→Prop} (hl:s.length=t.length) (hb:s.length≤cv):∀i,i≤s.length→(ac (aI (s.drop i) (t.drop i)) (Q (.exit 0) eqF.st) (Q .ret eqF.st)→ALp prog opts0.glob 0 (aJ prog 84 5) (qp (ak s) (ak t) i).st Q):=by
 refine tm _ (fun hq=> ?_) (fun i hi ih hq=> ?_)
 ·refine ALp.round (A:=Au 0 0) (V2:=qp (ak s) (ak t) 0) (F:=eqF) (lk:=[]) (lk':=[]) base0 ar (LsOk.no rfl) .refl ?_;rw[Gp];refine ai (fun h=> ?_) (fun _=> ?_)
  ·have h:=ltInt_iff.1 h;simp only[oM,bh] at h;omega
  ·rw[List.drop_of_length_le (by omega),List.drop_of_length_le (by omega)] at hq;exact ⟨by simp,hq⟩
 ·have h2:i<t.length:=by omega
  have g1:=List.getElem?_eq_getElem hi;have g2:=List.getElem?_eq_getElem h2;rw[List.drop_eq_getElem_cons hi,List.drop_eq_getElem_cons h2,PI] at hq;revert g1 g2 hq;generalize s[i]=a;generalize t[i]=b;intro hq g1 g2;refine ALp.round (A:=Au a b) (V2:=qp (ak s) (ak t) (i+1)) (F:=eqF) (lk:=[]) (lk':=[]) base0 ar (LsOk.no rfl) .refl ?_;rw[Gp];have hb:s.length≤1099511627776:=hb;refine ai (fun _=>⟨Gn g1,Gn g2,ai (fun h=> ?_) (fun h=> ?_)⟩) (fun h=> ?_)
  ·rw[Gr,Bool.not_eq_true'] at h;rw[h] at hq;exact ⟨by simp,hq⟩
  ·rw[Gr,Bool.not_eq_false'] at h;rw[h] at hq;rw[eI (by simp;omega) (by simp;omega)];exact ⟨by simp[ag],ih hq⟩
  ·have h:=ltInt_false.1 h;simp only[oM,bh] at h;omega
theorem PK:bW (dI prog 84) 5=[aJ prog 84 5]:=by kernel_rfl
theorem PL {s t:List UInt8} (h:aI s t=true):s.length=t.length:=by rw[beqBytes_iff.1 h]
theorem PM {s t:List UInt8} (hb:s.length≤cv):SC 84 [.fsl false (ak s),.fsl false (ak t)] (.bool (aI s t)):=by
 refine bQ (A:=aB [] [(5,Gq (ak s) (ak t) (s.length=t.length) (aI s t))] aR [] []) base0 ar
  (aG (LsOk.at1 rfl PK fun s Q hs=> .seen base0.glob hs.2.1 (PJ hs.1 hb 0 (by omega) (by simpa using hs.2.2)))) (by simp[ae,ag]) rfl ?_
 rw[PH];simp only[oM];refine ai (fun e=> ?_) (fun e=>⟨?_,by simp[ag],ai (fun e6=>by rw[e6]) (fun e6=>by rw[e6])⟩)
 ·refine congrArg AV.bool ?_;cases h:aI s t with
  |false=>rfl
  |true=>
   rw[PL h,Bool.not_eq_true',beqInt_false] at e;exact absurd rfl e
 ·rw[Bool.not_eq_false',beqInt_iff] at e;exact Int.ofNat.inj e
def qq (D E:List AV) (i:Nat):View:=⟨[(1,.fsl false E),(2,bK 33),(6,.bool false),(15,.fsl false D),(16,I (.ofNat (ab D))),(17,I (.ofNat i))],[],[],0,32⟩
def efF:View:=⟨[(6,.bool false)],[],[],0,32⟩
def Av (c c':List AV) (r:Bool):bz:=aB [(5,1,.res (.fptr c 0)),(6,2,.res (.fptr c' 0))] [] (bP [(33,.bool r)]) [] []
@[simp] abbrev Gs:=(AV.func (Fn.func 33) [] []=AV.func (Fn.func 33) [] []∧true=true)
theorem Gt (a b c a' b' c':Int) (D E F K F' K':List AV) (i j:Nat) (r:Bool) (N:Prop) (Q:AExit→St→Prop):aP prog opts0 40 (Av (am a b c F K) (am a' b' c' F' K') r) (aJ prog 85 5) (qq D E i).st (cb 0 [] (qq D E j) N [] efF Q)=
 (ac (ay (Int.ofNat i) (Int.ofNat (ab D))) (aF prog 35 (.fsl false D) (I (Int.ofNat i))=some (.fptr [I a,I b,I c,.fsl false F,.fsl false K] 0)∧aF prog 35 (.fsl false E) (I (Int.ofNat i))=some (.fptr [I a',I b',I c',.fsl false F',.fsl false K'] 0)∧SC 33 [AV.agg [I a,I b,I c,.fsl false F,.fsl false K],.agg [I a',I b',I c',.fsl false F',.fsl false K']] (.bool r)∧ac (!r) (((mR∧True)∧True∧True)∧Q AExit.ret efF.st) ((((vM E)∧Gs∧mR∧(vL D)∧(vK D)∧(I (aj IntKind.i64 (Int.ofNat i+1))=I (Int.ofNat j)∧ag (I (Int.ofNat j))=true)∧True)∧True∧True)∧N)) (((mR∧True)∧True∧True)∧Q (AExit.exit 0) efF.st)):=by kernel_rfl
def Gu (D E:List AV) (p:Prop) (r:Bool):bV:=fun s Q=>p∧dr 0 [] (qq D E 0) s∧ac r (Q (.exit 0) efF.st) (Q .ret efF.st)
theorem PN (D E:List AV) (p:Prop) (r:Bool) (Q:AV→Prop):aH prog opts0 40 (aB [] [(5,Gu D E p r)] aR [] []) 85 [.fsl false D,.fsl false E,bK 33] [] 0 (fun v _ _=>Q v)=
 (ac (!ao (Int.ofNat (ab D)) (Int.ofNat (ab E))) (Q (.bool false)) (p∧(((vM E)∧Gs∧mR∧(vL D)∧(vK D)∧(I 0=I 0∧true=true)∧True)∧True∧True)∧ac r (Q (.bool true)) (Q (.bool false)))):=by kernel_rfl
theorem PO (a b c a' b' c':Int) (F K F' K':List AV) (r r':Bool) (Q:AV→Prop):aH prog opts0 40 (aB [] [] (bP [(84,.bool r),(85,.bool r')]) [] []) 33 [.agg (am a b c F K),.agg (am a' b' c' F' K')] [] 0 (fun v _ _=>Q v)=
 (ac (ao a a') (ac (ao b b') (ac (ao c c') (SC 84 [AV.fsl false F,.fsl false F'] (.bool r)∧ac r (SC 85 [AV.fsl false K,.fsl false K',.func (Fn.func 33) [] []] (.bool r')∧Q (.bool r')) (Q (.bool false))) (Q (.bool false))) (Q (.bool false))) (Q (.bool false))):=by kernel_rfl
theorem PP {ks ks':List It} {Q:AExit→St→Prop} (hl:ks.length=ks'.length) (hb:ks.length≤cv)
  (ihs:∀ (i:Nat) (x z:It),ks[i]? =some x→ks'[i]? =some z→SC 33 [aX x,aX z] (.bool (eY x z))):
  ∀i,i≤ks.length→(ac (fz (ks.drop i) (ks'.drop i)) (Q (.exit 0) efF.st) (Q .ret efF.st)→ALp prog opts0.glob 0 (aJ prog 85 5) (qq (ap ks) (ap ks') i).st Q):=by
 refine tm _ (fun hq=> ?_) (fun i hi ih hq=> ?_)
 ·refine ALp.round (A:=Av (am 0 0 0 [] []) (am 0 0 0 [] []) true) (V2:=qq (ap ks) (ap ks') 0) (F:=efF) (lk:=[]) (lk':=[]) base0 ar (LsOk.no rfl) .refl ?_;rw[Gt];refine ai (fun h=> ?_) (fun _=> ?_)
  ·have h:=ltInt_iff.1 h;simp only[aM,fO,bh] at h;omega
  ·rw[List.drop_of_length_le (by omega),List.drop_of_length_le (by omega)] at hq;exact ⟨by simp,hq⟩
 ·have h2:i<ks'.length:=by omega
  have g1:=List.getElem?_eq_getElem hi;have g2:=List.getElem?_eq_getElem h2;rw[List.drop_eq_getElem_cons hi,List.drop_eq_getElem_cons h2,fz] at hq;have hs:=ihs i _ _ g1 g2;revert g1 g2 hq hs;generalize ks[i]=x;generalize ks'[i]=z;intro hq g1 g2 hs;obtain ⟨a,b,c,e,l⟩:=x;obtain ⟨a',b',c',e',l'⟩:=z;refine ALp.round (A:=Av (am a b c (ak e) (ap l)) (am a' b' c' (ak e') (ap l')) (eY (.mk a b c e l) (.mk a' b' c' e' l'))) (V2:=qq (ap ks) (ap ks') (i+1)) (F:=efF) (lk:=[]) (lk':=[]) base0 ar (LsOk.no rfl) .refl ?_;rw[Gt];have hb:ks.length≤1099511627776:=hb;refine ai (fun _=>⟨cQ g1,cQ g2,hs,ai (fun h=> ?_) (fun h=> ?_)⟩) (fun h=> ?_)
  ·rw[Bool.not_eq_true'] at h;rw[h] at hq;exact ⟨by simp,hq⟩
  ·rw[Bool.not_eq_false'] at h;rw[h] at hq;rw[eI (by simp;omega) (by simp;omega)];exact ⟨by simp[ag,iP],ih hq⟩
  ·have h:=ltInt_false.1 h;simp only[aM,fO,bh] at h;omega
theorem PQ:bW (dI prog 85) 5=[aJ prog 85 5]:=by kernel_rfl
theorem PR {ks ks':List It} (hb:ks.length≤cv)
  (ihs:∀ (i:Nat) (x z:It),ks[i]? =some x→ks'[i]? =some z→SC 33 [aX x,aX z] (.bool (eY x z))):
  SC 85 [.fsl false (ap ks),.fsl false (ap ks'),bK 33] (.bool (fz ks ks')):=by
 refine bQ (A:=aB [] [(5,Gu (ap ks) (ap ks') (ks.length=ks'.length) (fz ks ks'))] aR [] []) base0 ar
  (aG (LsOk.at1 rfl PQ fun s Q hs=> .seen base0.glob hs.2.1 (PP hs.1 hb ihs 0 (by omega) (by simpa using hs.2.2)))) (by simp[ae,ag,iP,bK]) rfl ?_
 rw[PN];simp only[aM,fO];refine ai (fun e=> ?_) (fun e=>⟨?_,by simp[ag,iP],ai (fun e6=>by rw[e6]) (fun e6=>by rw[e6])⟩)
 ·refine congrArg AV.bool ?_;cases h:fz ks ks' with
  |false=>rfl
  |true=>
   rw[Fv h,Bool.not_eq_true',beqInt_false] at e;exact absurd rfl e
 ·rw[Bool.not_eq_false',beqInt_iff] at e;exact Int.ofNat.inj e
theorem PS {t y n t' y' n':Int} {d d':List UInt8} {ks ks':List It} (h:eX cv (.mk t y n d ks))
  (ih:∀ (i:Nat) (x z:It),ks[i]? =some x→ks'[i]? =some z→SC 33 [aX x,aX z] (.bool (eY x z))):
  SC 33 [aX (.mk t y n d ks),aX (.mk t' y' n' d' ks')] (.bool (eY (.mk t y n d ks) (.mk t' y' n' d' ks'))):=by
 simp only[eX] at h;obtain ⟨h3,h4,h5⟩:=h;refine bQ (A:=aB [] [] (bP [(84,.bool (aI d d')),(85,.bool (fz ks ks'))]) [] []) base0 ar (aG (LsOk.no rfl)) (by simp[ae,cG]) rfl ?_;rw[bJ,bJ,PO];simp only[eY];refine ai (fun e=>ai (fun e2=>ai (fun e3=>⟨PM h3,ai (fun e4=>⟨PR h4 ih, ?_⟩) (fun e4=> ?_)⟩) (fun e3=> ?_)) (fun e2=> ?_)) (fun e=> ?_)
 all_goals simp only[*,Bool.true_and,Bool.false_and]
mutual
theorem Gv:∀x z:It,eX cv x→SC 33 [aX x,aX z] (.bool (eY x z))
 | .mk _ _ _ _ ks,.mk _ _ _ _ _ks',h=>PS h fun _i x z hx _=>Gw ks x (List.mem_of_getElem? hx) z (okIs_iff.1 h.2.2 x (List.mem_of_getElem? hx))
theorem Gw:∀ks:List It,∀x∈ks,∀z,eX cv x→SC 33 [aX x,aX z] (.bool (eY x z))
 |[],_,hx,_,_=>by cases hx
 |k::r,x,hx,z,h=>by
  have h1:=Gv k z;have h2:=Gw r x;rcases List.mem_cons.1 hx with e|hx
  ·rw[e] at h⊢;exact h1 h
  ·exact h2 hx z h
end
end
set_option maxRecDepth 20000
noncomputable section
def gE (s:List UInt8) (C:List AV) (i:Nat):View:=⟨[(1,.str s),(5,.nilsl),(9,.fsl false C),(10,I (.ofNat (ab C))),(11,I (.ofNat i))],[],[],1,26⟩
def fE (s:List UInt8) (C:List AV) (i k:Nat) (es:List AV):View:=⟨[(1,.str s),(9,.fsl false C),(10,I (.ofNat (ab C))),(11,I (.ofNat i))],[(5,.rsl true 0 0 k 1)],[(0,.cells es,.whole)],1,26⟩
def ko (n t:List UInt8):bz:=aB [(4,1,.res (.fptr [.str n,.str t] 0))] [] aR [] []
@[simp] abbrev je (C:List AV):=(I (Int.ofNat (ab C))=I (Int.ofNat (ab C))∧ag (I (Int.ofNat (ab C)))=true)
@[simp] abbrev jf (C:List AV):=(AV.fsl false C=AV.fsl false C∧ag (AV.fsl false C)=true)
@[simp] abbrev jg (s:List UInt8):=(AV.str s=AV.str s∧ag (AV.str s)=true)
@[simp] abbrev vN:=(AV.nilsl=AV.nilsl∧true=true)
@[simp] abbrev Aw (i:Nat):=(I (Int.ofNat i)=I (Int.ofNat i)∧ag (I (Int.ofNat i))=true)
theorem Gx (s:List UInt8) (C:List AV) (i j:Nat) (n t:List UInt8) (N:Prop) (Q:AExit→St→Prop):aP prog opts0 40 (ko n t) (aJ prog 151 4) (gE s C i).st (cb 0 [] (gE s C j) N [] (gE s C i) Q)=
 (ac (ay (Int.ofNat i) (Int.ofNat (ab C))) (aF prog 29 (.fsl false C) (I (Int.ofNat i))=some (.fptr [AV.str n,.str t] 0)∧ac (aI n s) ((((jg s)∧(AV.rsl true 15 0 (ab [I (Int.ofNat i)]) 1=AV.nilsl∧true=true)∧(jf C)∧(je C)∧(I (aj IntKind.i64 (Int.ofNat i+1))=I (Int.ofNat j)∧ag (I (Int.ofNat j))=true)∧True)∧True∧True)∧N) ((((jg s)∧vN∧(jf C)∧(je C)∧(I (aj IntKind.i64 (Int.ofNat i+1))=I (Int.ofNat j)∧ag (I (Int.ofNat j))=true)∧True)∧True∧True)∧N)) ((((jg s)∧vN∧(jf C)∧(je C)∧(Aw i)∧True)∧True∧True)∧Q (AExit.exit 0) (gE s C i).st)):=by kernel_rfl
theorem PT (s:List UInt8) (C:List AV) (i j k:Nat) (es:List AV) (n t:List UInt8) (N:Prop) (Q:AExit→St→Prop):aP prog opts0 40 (ko n t) (aJ prog 151 4) (gE s C i).st (cb 0 [(0,15)] (fE s C j k es) N [] (gE s C i) Q)=
 (ac (ay (Int.ofNat i) (Int.ofNat (ab C))) (aF prog 29 (.fsl false C) (I (Int.ofNat i))=some (.fptr [AV.str n,.str t] 0)∧ac (aI n s) ((((jg s)∧(jf C)∧(je C)∧(I (aj IntKind.i64 (Int.ofNat i+1))=I (Int.ofNat j)∧ag (I (Int.ofNat j))=true)∧True)∧((true=true∧some 15=some 15∧0=0∧k=ab [I (Int.ofNat i)]∧1=1)∧True)∧(flat [I (Int.ofNat i)]=es∧ae es=true)∧True)∧N) ((((jg s)∧(jf C)∧(je C)∧(I (aj IntKind.i64 (Int.ofNat i+1))=I (Int.ofNat j)∧ag (I (Int.ofNat j))=true)∧True)∧(False∧True)∧False∧True)∧N)) ((((jg s)∧vN∧(jf C)∧(je C)∧(Aw i)∧True)∧True∧True)∧Q (AExit.exit 0) (gE s C i).st)):=by kernel_rfl
@[simp] abbrev Gy (C es:List AV) (Q:AExit→St→Prop) (i k:Nat) (s:List UInt8):=((((jg s)∧(jf C)∧(je C)∧(Aw i)∧True)∧((true=true∧some 0=some 0∧0=0∧k=k∧1=1)∧True)∧(es=es∧ae es=true)∧True)∧Q (AExit.exit 0) (fE s C i k es).st)
theorem Gz (s:List UInt8) (C:List AV) (i j k:Nat) (es:List AV) (n t:List UInt8) (N:Prop) (Q:AExit→St→Prop):aP prog opts0 40 (ko n t) (aJ prog 151 4) (fE s C i k es).st (cb 0 [(0,0)] (fE s C j k es) N [(0,0)] (fE s C i k es) Q)=
 (ac (ay (Int.ofNat i) (Int.ofNat (ab C))) (aF prog 29 (.fsl false C) (I (Int.ofNat i))=some (.fptr [AV.str n,.str t] 0)∧ac (aI n s) (aw (a7 1 [I (Int.ofNat i)]&&(((k+ab [I (Int.ofNat i)])*8).ble 140737488355328&&(bq (flat [I (Int.ofNat i)])&&true))) (aw ((ab es).beq (k*1)) ((((jg s)∧(jf C)∧(je C)∧(I (aj IntKind.i64 (Int.ofNat i+1))=I (Int.ofNat j)∧ag (I (Int.ofNat j))=true)∧True)∧((true=true∧some 0=some 15∧0=0∧k=k+ab [I (Int.ofNat i)]∧1=1)∧True)∧False∧True)∧N))) ((((jg s)∧(jf C)∧(je C)∧(I (aj IntKind.i64 (Int.ofNat i+1))=I (Int.ofNat j)∧ag (I (Int.ofNat j))=true)∧True)∧((true=true∧some 0=some 0∧0=0∧k=k∧1=1)∧True)∧(es=es∧ae es=true)∧True)∧N)) (Gy C es Q i k s)):=by kernel_rfl
theorem PU (s:List UInt8) (C:List AV) (i j k k':Nat) (es es':List AV) (n t:List UInt8) (N:Prop) (Q:AExit→St→Prop):aP prog opts0 40 (ko n t) (aJ prog 151 4) (fE s C i k es).st (cb 0 [(0,15)] (fE s C j k' es') N [(0,0)] (fE s C i k es) Q)=
 (ac (ay (Int.ofNat i) (Int.ofNat (ab C))) (aF prog 29 (.fsl false C) (I (Int.ofNat i))=some (.fptr [AV.str n,.str t] 0)∧ac (aI n s) (aw (a7 1 [I (Int.ofNat i)]&&(((k+ab [I (Int.ofNat i)])*8).ble 140737488355328&&(bq (flat [I (Int.ofNat i)])&&true))) (aw ((ab es).beq (k*1)) ((((jg s)∧(jf C)∧(je C)∧(I (aj IntKind.i64 (Int.ofNat i+1))=I (Int.ofNat j)∧ag (I (Int.ofNat j))=true)∧True)∧((true=true∧some 15=some 15∧0=0∧k'=k+ab [I (Int.ofNat i)]∧1=1)∧True)∧(es++flat [I (Int.ofNat i)]=es'∧ae es'=true)∧True)∧N))) ((((jg s)∧(jf C)∧(je C)∧(I (aj IntKind.i64 (Int.ofNat i+1))=I (Int.ofNat j)∧ag (I (Int.ofNat j))=true)∧True)∧((true=true∧some 15=some 0∧0=0∧k'=k∧1=1)∧True)∧False∧True)∧N)) (Gy C es Q i k s)):=by kernel_rfl
def vO (s:List UInt8) (C:List AV) (F:View):bV:=fun st Q=>dr 0 [] (gE s C 0) st∧Q (.exit 0) F.st
@[simp] abbrev GA (C:List AV) (s:List UInt8):=(((jg s)∧vN∧(jf C)∧(je C)∧(I 0=I 0∧true=true)∧True)∧True∧True)
theorem PV (o:Ob) (M N L:AV) (s:List UInt8) (C:List AV) (Q:AV→ah→Nat→Prop):aH prog opts0 40 (aB [] [(4,vO s C (gE s C (ab C)))] aR [] []) 151 [.agg (aa o M N L (.fsl false C)),.str s] [] 0 Q=
 ((GA C s)∧Q AV.nilsl [] 3):=by kernel_rfl
theorem PW (o:Ob) (M N L:AV) (s:List UInt8) (C:List AV) (k:Nat) (es:List AV) (Q:AV→ah→Nat→Prop):aH prog opts0 40 (aB [] [(4,vO s C (fE s C (ab C) k es))] aR [] []) 151 [.agg (aa o M N L (.fsl false C)),.str s] [] 0 Q=
 ((GA C s)∧Q (.rsl true 0 0 k 1) [(0,some (Blk.cells es))] 3):=by kernel_rfl
def bT (s:List UInt8):List Cu→Nat→List Nat
 |[],_=>[]
 |c::r,k=>match aI c.name s with
  |true=>k::bT s r (k+1)
  |false=>bT s r (k+1)
theorem GB (s:List UInt8) (c:Cu):∀ (l:List Cu) (k:Nat),bT s (l++[c]) k=bT s l k++(match aI c.name s with|true=>[k+l.length]|false=>[])
 |[],k=>by simp only[List.nil_append,bT];cases aI c.name s<;>simp
 |a::r,k=>by
  have ih:=GB s c r (k+1);have e:k+1+r.length=k+(r.length+1):=by omega
  rw[e] at ih;simp only[List.cons_append,bT,ih,lConQ];cases aI a.name s<;>simp
theorem iR {α:Type} {l:List α} {i:Nat} {c:α} (h:l[i]? =some c):l.take (i+1)=l.take i++[c]:=by rw[List.take_add_one,h];rfl
theorem PX {α:Type} {l:List α} {i:Nat} {c:α} (h:l[i]? =some c):i<l.length:=by
 rcases Nat.lt_or_ge i l.length with h'|h'
 ·exact h'
 ·rw[List.getElem?_eq_none h'] at h;cases h
theorem PY {s:List UInt8} {l:List Cu} {i:Nat} {c:Cu} (h:l[i]? =some c):bT s (l.take (i+1)) 0=bT s (l.take i) 0++(match aI c.name s with|true=>[i]|false=>[]):=by
 rw[iR h,GB,Nat.zero_add,List.length_take,Nat.min_eq_left (Nat.le_of_lt (PX h))]
theorem vP (s:List UInt8):∀ (l:List Cu) (k:Nat),(bT s l k).length≤l.length
 |[],_=>Nat.le_refl _
 |c::r,k=>by
  have:=vP s r (k+1);simp only[bT];split<;>simp<;>omega
theorem tn (s:List UInt8):∀ (l:List Cu) (k:Nat),∀x∈bT s l k,k≤x∧x<k+l.length
 |[],_,x,h=>by cases h
 | c::r,k,x,h=>by
  have ih:=tn s r (k+1) x;simp only[bT] at h;simp only[lConQ];split at h
  ·rcases List.mem_cons.1 h with rfl|h
   ·omega
   ·have:=ih h;omega
  ·have:=ih h;omega
def mS (s:List UInt8) (C:List AV) (i:Nat) (p:List Nat):View:=match p with
 |[]=>gE s C i
 |_::_=>fE s C i p.length (p.map nI)
theorem qr {f:Bool} {l:List Cu} {i:Nat} {c:Cu} (hx:l[i]? =some c):aF prog 29 (.fsl f (l.map az)) (.int .i64 (.ofNat i))=some (.fptr [.str c.name,.str c.text] 0):=
 gC (v:=az c) (e:=101) (sz:=2) (by kernel_rfl) (by kernel_rfl) (by rw[List.getElem?_map,hx];rfl) rfl
theorem lA:∀p:List Nat,ae (p.map nI)=true
 |[]=>rfl
 |_::t=>lA t
theorem GC:∀p:List Nat,flat (p.map nI)=p.map nI
 |[]=>rfl
 |x::t=>by simp only[List.map_cons,flat,GC t];rfl
theorem GD {s:List UInt8} {l:List Cu} {Q:AExit→St→Prop} (hb:l.length≤cv) (hq:Q (.exit 0) (mS s (l.map az) l.length (bT s l 0)).st):
   ∀i,i≤l.length→ALp prog opts0.glob 0 (aJ prog 151 4) (mS s (l.map az) i (bT s (l.take i) 0)).st Q:=by
  have hlen:ab (l.map az)=l.length:=by rw[aM,List.length_map]
  have hcl:=iQ l;have hb:l.length≤1099511627776:=hb;refine tm _ ?_ (fun i hi ih=> ?_)
  · rw[List.take_length];cases hp:bT s l 0 with
    | nil=>
      rw[hp] at hq;refine ALp.round (A:=ko [] []) (V2:=gE s (l.map az) 0) (F:=gE s (l.map az) l.length) (lk:=[]) (lk':=[]) base0 ar (LsOk.no rfl) .refl ?_;simp only[mS];rw[Gx];refine ai (fun h=> ?_) (fun _=>⟨by simp[ag,hcl],hq⟩);have h:=ltInt_iff.1 h;simp only[hlen,bh] at h;omega
    | cons a r=>
      rw[hp] at hq;refine ALp.round (A:=ko [] []) (V2:=fE s (l.map az) 0 (a::r).length ((a::r).map nI)) (F:=fE s (l.map az) l.length (a::r).length ((a::r).map nI)) (lk:=[(0,0)]) (lk':=[(0,0)]) base0 ar (LsOk.no rfl) .refl ?_;simp only[mS];rw[Gz];refine ai (fun h=> ?_) (fun _=>⟨by simp[ag,hcl,lA,ae,nI],hq⟩);have h:=ltInt_iff.1 h;simp only[hlen,bh] at h;omega
  · have g1:=List.getElem?_eq_getElem hi;revert g1;generalize l[i]=c;intro g1;have hs:=PY (s:=s) g1;have hw:aj .i64 (Int.ofNat i+1)=Int.ofNat (i+1):=eI (by simp;omega) (by simp;omega);have hno:ay (Int.ofNat i) (Int.ofNat (ab (l.map az)))=false→False:=fun h=>by
     have h:=ltInt_false.1 h;simp only[hlen,bh] at h;omega
    have hpl:(bT s (l.take i) 0).length≤i:=by
     have:=vP s (l.take i) 0;rw[List.length_take] at this;omega
    rw[hs] at ih;clear hs;revert ih hpl;generalize bT s (l.take i) 0=p;intro ih hpl;cases hc:aI c.name s with
    | false=>
      rw[hc] at ih;simp only[List.append_nil] at ih;cases p with
      | nil=>
        refine ALp.round (A:=ko c.name c.text) (V2:=gE s (l.map az) (i+1)) (F:=gE s (l.map az) i) (lk:=[]) (lk':=[]) base0 ar (LsOk.no rfl) .refl ?_;simp only[mS] at ih⊢;rw[Gx];refine ai (fun _=>⟨qr g1,ai (fun h=> ?_) (fun _=> ?_)⟩) (fun h=>(hno h).elim)
        · rw[hc] at h;cases h
        · rw[hw];exact ⟨by simp[ag,hcl],ih⟩
      | cons a r=>
        refine ALp.round (A:=ko c.name c.text) (V2:=fE s (l.map az) (i+1) (a::r).length ((a::r).map nI)) (F:=fE s (l.map az) i (a::r).length ((a::r).map nI)) (lk:=[(0,0)]) (lk':=[(0,0)]) base0 ar (LsOk.no rfl) .refl ?_;simp only[mS] at ih⊢;rw[Gz];refine ai (fun _=>⟨qr g1,ai (fun h=> ?_) (fun _=> ?_)⟩) (fun h=>(hno h).elim)
        · rw[hc] at h;cases h
        · rw[hw];exact ⟨by simp[ag,hcl,lA,ae,nI],ih⟩
    | true=>
      rw[hc] at ih;cases p with
      | nil=>
        refine ALp.round (A:=ko c.name c.text) (V2:=fE s (l.map az) (i+1) 1 [nI i]) (F:=gE s (l.map az) i) (lk:=[(0,15)]) (lk':=[]) base0 ar (LsOk.no rfl) .refl ?_;simp only[mS,List.nil_append] at ih⊢;rw[PT];refine ai (fun _=>⟨qr g1,ai (fun _=> ?_) (fun h=> ?_)⟩) (fun h=>(hno h).elim)
        · rw[hw];exact ⟨by simp[ag,hcl,ae,nI,flat,AV.cells,ab],ih⟩
        · rw[hc] at h;cases h
      | cons a r=>
        refine ALp.round (A:=ko c.name c.text) (V2:=fE s (l.map az) (i+1) ((a::r)++[i]).length (((a::r)++[i]).map nI)) (F:=fE s (l.map az) i (a::r).length ((a::r).map nI)) (lk:=[(0,15)]) (lk':=[(0,0)]) base0 ar (LsOk.no rfl) .refl ?_;have ih:ALp prog opts0.glob 0 (aJ prog 151 4) (fE s (l.map az) (i+1) ((a::r)++[i]).length (((a::r)++[i]).map nI)).st Q:=ih;simp only[mS];rw[PU];refine ai (fun _=>⟨qr g1,ai (fun _=>aD ?_ (aD ?_ ⟨?_,ih⟩)) (fun h=> ?_)⟩) (fun h=>(hno h).elim)
        · simp[a7,ab,AV.cells,flat,bq];simp only[lConQ] at hpl;omega
        · rw[beq_iff,aM,List.length_map,Nat.mul_one]
        · rw[hw];have:=lA r;simp[ag,hcl,ae,nI,flat,AV.cells,ab] at this⊢;exact closed_snoc r i
        · rw[hc] at h;cases h
 where
  closed_snoc:∀ (r:List Nat) (i:Nat),ae (List.map nI r++[AV.int .i64 (i:Int)])=true
   |[],_=>rfl
   |_::t,i=>closed_snoc t i
theorem GE:bW (dI prog 151) 4=[aJ prog 151 4]:=by kernel_rfl
def GF (b:Nat):List Nat→AV
 |[]=> .nilsl
 |p@(_::_)=> .rsl true b 0 p.length 1
def Ax (b:Nat):List Nat→ah
 |[]=>[]
 |p@(_::_)=>[(b,some (.cells (p.map nI)))]
theorem c9 (o:Ob) {M N L C:AV} (hM:ag M=true) (hN:ag N=true) (hL:ag L=true) (hC:ag C=true):ae (aa o M N L C)=true:=by
 simp only[aa,ae,ag,hM,hN,hL,hC,Bool.and_self]
theorem GG (o:Ob) {M N L:AV} (s:List UInt8) (_hM:ag M=true) (_hN:ag N=true) (_hL:ag L=true) (hb:o.cust.length≤cv):
  dw prog opts0.glob 151 [.agg (aa o M N L (bD o)),.str s] [] 0 (GF 0 (bT s o.cust 0)) (Ax 0 (bT s o.cust 0)) 3:=by
 have hcl:=iQ o.cust;have hlen:ab (o.cust.map az)=o.cust.length:=by rw[aM,List.length_map]
 cases hp:bT s o.cust 0 with
 | nil=>
  refine zp (A:=aB [] [(4,vO s (o.cust.map az) (gE s (o.cust.map az) (ab (o.cust.map az))))] aR [] []) base0 ar
   (aG (LsOk.at1 rfl GE fun st Q hs=> .seen base0.glob hs.1 (GD (s:=s) hb (by rw[hp];have:=hs.2;rw[hlen] at this;exact this) 0 (Nat.zero_le _)))) ?_
  simp only[bD];rw[PV];exact ⟨by simp[ag,hcl],rfl,rfl,rfl⟩
 | cons a r=>
  refine zp (A:=aB [] [(4,vO s (o.cust.map az) (fE s (o.cust.map az) (ab (o.cust.map az)) (a::r).length ((a::r).map nI)))] aR [] []) base0 ar
   (aG (LsOk.at1 rfl GE fun st Q hs=> .seen base0.glob hs.1 (GD (s:=s) hb (by rw[hp];have:=hs.2;rw[hlen] at this;exact this) 0 (Nat.zero_le _)))) ?_
  simp only[bD];rw[PW];exact ⟨by simp[ag,hcl],rfl,rfl,rfl⟩
theorem PZ (o:Ob) {M N L:AV} (s:List UInt8) (nx:Nat) (hM:ag M=true) (hN:ag N=true) (hL:ag L=true) (hb:o.cust.length≤cv):
  dw prog opts0.glob 151 [.agg (aa o M N L (bD o)),.str s] [] nx (GF nx (bT s o.cust 0)) (Ax nx (bT s o.cust 0)) (nx+3):=by
 have h0:=GG o s hM hN hL hb;revert h0;generalize bT s o.cust 0=p;intro h0;have hcl:ae [.agg (aa o M N L (bD o)),.str s]=true:=by simp only[ae,ag,c9 o hM hN hL (fg o),Bool.and_self]
 cases p with
 |nil=>exact E9 base0.glob hcl h0 (.same _ rfl) fun i b2 hi=>by cases hi
 | cons a r=>
  refine E9 base0.glob hcl h0 (.rsl _ _ _ _ _ _ (by rw[s8,if_pos (by omega)];simp)) fun i b2 hi=> ?_;simp only[Ax,hget] at hi;split at hi
  ·rename_i he;have he:=beq_iff.1 he;simp only[sInjQ] at hi;subst he;subst hi;exact ⟨0,_,by rw[s8,if_pos (by omega)];simp,rfl,RenL.same _ (lA (a::r))⟩
  ·cases hi
end
noncomputable section
structure eZ where
 nm:List UInt8
 ty:Int
 many:Bool
 set:Bool
def cR (h:eZ) (A1 A2 A3 G R P D RM:AV):List AV:=[.str h.nm,I h.ty,.bool h.many,.bool h.set,A1,A2,A3,G,R,P,D,RM]
def GH (O O':List AV) (snd:Bool):fy:=fun f args _ _=>match args with
 | .ptr b _::_=>some (.part [b] (.tuple []) [(b,some (.cells O'))] 100)
 |_=>match Nat.beq f 82 with
  |true=>some (.val (.agg O))
  |false=>some (.val (.bool snd))
abbrev g9 (Da Ks:List AV) (n t y:Int):=[I t,I y,I n,AV.fsl false Da,AV.fsl false Ks]
abbrev lB (C' L' M' N':AV) (o':Ob):=(aY prog 33 (AV.agg (aa o' M' N' L' C')) 37)
abbrev lC:=(AV.tuple [AV.agg zL,I 7])
theorem P0 (h:eZ) (A1 A2 A3 G R D RM:AV) (pf:Nat) (pc:List AV) (o o':Ob) (M N L C M' N' L' C':AV) (an:List UInt8) (i t y n:Int) (Da Ks:List AV) (snd:Bool) (Q:AV→Prop):aH prog opts0 40 (aB [] [] (GH (aa o M N L C) (aa o' M' N' L' C') snd) [] []) 73 [.agg (cR h A1 A2 A3 G R (cM pf pc) D RM),.agg (aa o M N L C),.agg (.str an::I i::am t y n Da Ks)] [] 0 (fun v _ _=>Q v)=
 (SC 82 [AV.agg (aa o M N L C)] (.agg (aa o M N L C))∧aw (aY prog 33 (.agg (aa o M N L C)) 37) (dw prog opts0.glob pf (.ptr 1 0::I i::AV.agg (g9 Da Ks n t y)::pc) [(1,some (Blk.cells (aa o M N L C)))] 15 (.tuple []) [(1,some (Blk.cells (aa o' M' N' L' C')))] 115∧SC 26 [AV.agg (aa o' M' N' L' C')] (.bool snd)∧ac (!snd) (Q lC) (aw (lB C' L' M' N' o') (Q (.tuple [AV.agg (aa o' M' N' L' C'),I 0]))))):=by kernel_rfl
def vQ (G:List AV) (c:List AV):bz:=aB [(2,15,.res (.fptr c 0))] [] (fun _ _ _ _=>some (.val (.fsl false G))) [] []
theorem Ay (h:eZ) (A1 A2 A3 R P D RM:AV) (gf:Nat) (gc:List AV) (o:Ob) (M N L C:AV) (G:List AV) (t y n:Int) (Da Ks:List AV) (Q:AV→Prop):aH prog opts0 40 (vQ G (am t y n Da Ks)) 113 [.agg (cR h A1 A2 A3 (cM gf gc) R P D RM),.agg (aa o M N L C)] [] 0 (fun v _ _=>Q v)=
 (SC gf (.agg (aa o M N L C)::gc) (.fsl false G)∧ac (!h.3) (ac (ao (Int.ofNat (ab G)) 1) (ac (ao h.2 2) (aF prog 35 (.fsl false G) (I 0)=some (.fptr (g9 Da Ks n t y) 0)∧ac (ao n 0) (Q (I 0)) (Q (I (Int.ofNat (ab G))))) (Q (I (Int.ofNat (ab G))))) (Q (I (Int.ofNat (ab G))))) (Q (I (Int.ofNat (ab G))))):=by kernel_rfl
def oU (W:List AV) (G:List AV) (t y n:Int) (Da Ks:List AV) (but:Int) (i:Nat):View:=⟨[(3,I but),(8,.bool false),(14,.fsl false G),(15,I (.ofNat (ab G))),(16,I (.ofNat i))],[(4,.ptr 0 0),(6,.ptr 1 0)],[(0,.cells W,.whole),(1,.cells (am t y n Da Ks),.whole)],3,34⟩
def jh (b:Bool):View:=⟨[(8,.bool b)],[],[],3,34⟩
def vR (c:List AV) (r:Bool):bz:=aB [(3,1,.res (.fptr c 0))] [] (bP [(33,.bool r)]) [] []
@[simp] abbrev Az (A1 A2 A3 D Ge P R RM:AV) (h:eZ):=([AV.str h.1,I h.2,AV.bool h.3,AV.bool h.4,A1,A2,A3,Ge,R,P,D,RM]=[AV.str h.1,I h.2,AV.bool h.3,AV.bool h.4,A1,A2,A3,Ge,R,P,D,RM]∧ae [AV.str h.1,I h.2,AV.bool h.3,AV.bool h.4,A1,A2,A3,Ge,R,P,D,RM]=true)
@[simp] abbrev vS (G:List AV):=(I (Int.ofNat (ab G))=I (Int.ofNat (ab G))∧ag (I (Int.ofNat (ab G)))=true)
@[simp] abbrev vT (G:List AV):=(AV.fsl false G=AV.fsl false G∧ag (AV.fsl false G)=true)
@[simp] abbrev vU (Da Ks:List AV) (n t y:Int):=((g9 Da Ks n t y)=(g9 Da Ks n t y)∧ae (g9 Da Ks n t y)=true)
@[simp] abbrev AA:=((some 0=some 0∧0=0)∧(some 1=some 1∧0=0)∧True)
@[simp] abbrev vV:=(AV.bool false=AV.bool false∧true=true)
@[simp] abbrev vW (but:Int):=(I but=I but∧ag (I but)=true)
theorem AB (h:eZ) (A1 A2 A3 Ge R P D RM:AV) (G:List AV) (t y n:Int) (Da Ks:List AV) (but:Int) (i j:Nat) (a b c:Int) (E F:List AV) (r q:Bool) (N:Prop) (Q:AExit→St→Prop):aP prog opts0 40 (vR (am a b c E F) r) (aJ prog 72 3) (oU (cR h A1 A2 A3 Ge R P D RM) G t y n Da Ks but i).st (cb 0 [(0,0),(1,1)] (oU (cR h A1 A2 A3 Ge R P D RM) G t y n Da Ks but j) N [] (jh q) Q)=
 (ac (ay (Int.ofNat i) (Int.ofNat (ab G))) (aF prog 35 (.fsl false G) (I (Int.ofNat i))=some (.fptr [I a,I b,I c,.fsl false E,.fsl false F] 0)∧ac (!ao (Int.ofNat i) but) (ac h.3 (SC 33 [AV.agg [I a,I b,I c,.fsl false E,.fsl false F],.agg (g9 Da Ks n t y)] (.bool r)∧ac r ((((AV.bool true=AV.bool q∧ag (.bool q)=true)∧True)∧True∧True)∧Q AExit.ret (jh q).st) ((((vW but)∧vV∧(vT G)∧(vS G)∧(I (aj IntKind.i64 (Int.ofNat i+1))=I (Int.ofNat j)∧ag (I (Int.ofNat j))=true)∧True)∧AA∧(Az A1 A2 A3 D Ge P R RM h)∧(vU Da Ks n t y)∧True)∧N)) ((((vW but)∧vV∧(vT G)∧(vS G)∧(I (aj IntKind.i64 (Int.ofNat i+1))=I (Int.ofNat j)∧ag (I (Int.ofNat j))=true)∧True)∧AA∧(Az A1 A2 A3 D Ge P R RM h)∧(vU Da Ks n t y)∧True)∧N)) ((((vW but)∧vV∧(vT G)∧(vS G)∧(I (aj IntKind.i64 (Int.ofNat i+1))=I (Int.ofNat j)∧ag (I (Int.ofNat j))=true)∧True)∧AA∧(Az A1 A2 A3 D Ge P R RM h)∧(vU Da Ks n t y)∧True)∧N)) ((((AV.bool false=AV.bool q∧ag (.bool q)=true)∧True)∧True∧True)∧Q (AExit.exit 0) (jh q).st)):=by kernel_rfl
def GI (W:List AV) (G:List AV) (t y n:Int) (Da Ks:List AV) (but:Int) (q:Bool):bV:=fun s Q=>dr 0 [(0,0),(1,2)] (oU W G t y n Da Ks but 0) s∧ac q (Q .ret (jh true).st) (Q (.exit 0) (jh false).st)
theorem P1 (h:eZ) (A1 A2 A3 R P D RM:AV) (gf:Nat) (gc:List AV) (o:Ob) (M N L C:AV) (G:List AV) (t y n:Int) (Da Ks:List AV) (but:Int) (q:Bool) (Q:AV→Prop):aH prog opts0 40 (aB [] [(3,GI (cR h A1 A2 A3 (cM gf gc) R P D RM) G t y n Da Ks but q)] (fun _ _ _ _=>some (.val (.fsl false G))) [] []) 72 [.agg (cR h A1 A2 A3 (cM gf gc) R P D RM),.agg (aa o M N L C),.agg (am t y n Da Ks),I but] [] 0 (fun v _ _=>Q v)=
 (SC gf (.agg (aa o M N L C)::gc) (.fsl false G)∧(((vW but)∧vV∧(vT G)∧(vS G)∧(I 0=I 0∧true=true)∧True)∧((some 0=some 0∧0=0)∧(some 2=some 2∧0=0)∧True)∧([AV.str h.1,I h.2,.bool h.3,.bool h.4,A1,A2,A3,.func (Fn.func gf) [] gc,R,P,D,RM]=[AV.str h.1,I h.2,.bool h.3,.bool h.4,A1,A2,A3,.func (Fn.func gf) [] gc,R,P,D,RM]∧ae [AV.str h.1,I h.2,.bool h.3,.bool h.4,A1,A2,A3,.func (Fn.func gf) [] gc,R,P,D,RM]=true)∧(vU Da Ks n t y)∧True)∧ac q (Q (.bool true)) (Q (.bool false))):=by kernel_rfl
def vX (th:Int) (right room twice:Bool) (la:AV):fy:=fun f args _ _=>match args with
 | .agg a::rest=>match Nat.beq (ab a) 12 with
  | true=>match Nat.beq f 113 with
   |true=>some (.val (I th))
   |false=>match Nat.beq f 72 with
    |true=>some (.val (.bool twice))
    |false=>some (.val la)
  |false=>match rest with
   | .agg _::_=>some (.val (.bool right))
   |_=>some (.val (.bool room))
 |_=>none
abbrev lD (A1 A2 A3 D G P:AV) (h:eZ) (mf rf:Nat) (rc:List AV):=[AV.str h.1,I h.2,AV.bool h.3,AV.bool h.4,A1,A2,A3,G,AV.func (Fn.func rf) [] rc,P,D,AV.func (Fn.func mf) [] []]
abbrev gF (C' L' M' N':AV) (e:Int) (o':Ob):=(AV.tuple [AV.agg (aa o' M' N' L' C'),I e])
abbrev ji:=(AV.tuple [AV.agg zL,I 11])
abbrev mU (Da Ks:List AV) (an:List UInt8) (i n t y:Int):=[AV.str an,I i,I t,I y,I n,AV.fsl false Da,AV.fsl false Ks]
abbrev mV:=(AV.tuple [AV.agg zL,I 14])
abbrev mW (C L M N:AV) (Da Ks rc:List AV) (n t y:Int) (o:Ob):=(AV.agg (aa o M N L C)::AV.agg (g9 Da Ks n t y)::rc)
abbrev vY:=(AV.tuple [AV.agg zL,I 12])
theorem P2 (h:eZ) (A1 A2 A3 G P D:AV) (rf:Nat) (rc:List AV) (mf:Nat) (o o':Ob) (M N L C M' N' L' C':AV) (an:List UInt8) (i t y n:Int) (Da Ks:List AV) (th e:Int) (right room twice:Bool) (Q:AV→Prop):aH prog opts0 40 (aB [] [] (vX th right room twice (.tuple [.agg (aa o' M' N' L' C'),I e])) [70] []) 62 [.agg (cR h A1 A2 A3 G (cM rf rc) P D (bK mf)),.agg (aa o M N L C),.agg (.str an::I i::am t y n Da Ks)] [] 0 (fun v _ _=>Q v)=
 (SC 113 [AV.agg (lD A1 A2 A3 D G P h mf rf rc),.agg (aa o M N L C)] (I th)∧ac (!h.3) (ac (!h.3) (SC rf (mW C L M N Da Ks rc n t y o) (.bool right)∧SC mf [AV.agg (aa o M N L C)] (.bool room)∧SC 72 [AV.agg (lD A1 A2 A3 D G P h mf rf rc),.agg (aa o M N L C),.agg (g9 Da Ks n t y),I (Int.negSucc 0)] (.bool twice)∧ac (!ao i 0) (Q mV) (ac (ay 0 th) (Q ji) (ac (!right) (Q lC) (ac (!room) (Q vY) (ac twice (Q ji) (SC 73 [AV.agg (lD A1 A2 A3 D G P h mf rf rc),.agg (aa o M N L C),.agg (mU Da Ks an i n t y)] (gF C' L' M' N' e o')∧aw (lB C' L' M' N' o') (Q (gF C' L' M' N' e o')))))))) (SC rf (mW C L M N Da Ks rc n t y o) (.bool right)∧SC mf [AV.agg (aa o M N L C)] (.bool room)∧SC 72 [AV.agg (lD A1 A2 A3 D G P h mf rf rc),.agg (aa o M N L C),.agg (g9 Da Ks n t y),I (Int.negSucc 0)] (.bool twice)∧ac (!ao i 0) (Q mV) (ac (!right) (Q lC) (ac (!room) (Q vY) (ac twice (Q ji) (SC 73 [AV.agg (lD A1 A2 A3 D G P h mf rf rc),.agg (aa o M N L C),.agg (mU Da Ks an i n t y)] (gF C' L' M' N' e o')∧aw (lB C' L' M' N' o') (Q (gF C' L' M' N' e o')))))))) (ac (!h.3) (SC rf (mW C L M N Da Ks rc n t y o) (.bool right)∧SC mf [AV.agg (aa o M N L C)] (.bool room)∧SC 72 [AV.agg (lD A1 A2 A3 D G P h mf rf rc),.agg (aa o M N L C),.agg (g9 Da Ks n t y),I (Int.negSucc 0)] (.bool twice)∧ac (!ao i th) (Q mV) (ac (ay 0 th) (Q ji) (ac (!right) (Q lC) (ac (!room) (Q vY) (ac twice (Q ji) (SC 73 [AV.agg (lD A1 A2 A3 D G P h mf rf rc),.agg (aa o M N L C),.agg (mU Da Ks an i n t y)] (gF C' L' M' N' e o')∧aw (lB C' L' M' N' o') (Q (gF C' L' M' N' e o')))))))) (SC rf (mW C L M N Da Ks rc n t y o) (.bool right)∧SC mf [AV.agg (aa o M N L C)] (.bool room)∧SC 72 [AV.agg (lD A1 A2 A3 D G P h mf rf rc),.agg (aa o M N L C),.agg (g9 Da Ks n t y),I (Int.negSucc 0)] (.bool twice)∧ac (!ao i th) (Q mV) (ac (!right) (Q lC) (ac (!room) (Q vY) (ac twice (Q ji) (SC 73 [AV.agg (lD A1 A2 A3 D G P h mf rf rc),.agg (aa o M N L C),.agg (mU Da Ks an i n t y)] (gF C' L' M' N' e o')∧aw (lB C' L' M' N' o') (Q (gF C' L' M' N' e o'))))))))):=by kernel_rfl
abbrev lE (A1 A2 A3 D G P:AV) (h:eZ) (rc:List AV) (rf:Nat):=[AV.str h.1,I h.2,AV.bool h.3,AV.bool h.4,A1,A2,A3,G,AV.func (Fn.func rf) [] rc,P,D,AV.nilFunc]
theorem P3 (h:eZ) (A1 A2 A3 G P D:AV) (rf:Nat) (rc:List AV) (o o':Ob) (M N L C M' N' L' C':AV) (an:List UInt8) (i t y n:Int) (Da Ks:List AV) (th e:Int) (right room twice:Bool) (Q:AV→Prop):aH prog opts0 40 (aB [] [] (vX th right room twice (.tuple [.agg (aa o' M' N' L' C'),I e])) [70] []) 62 [.agg (cR h A1 A2 A3 G (cM rf rc) P D .nilFunc),.agg (aa o M N L C),.agg (.str an::I i::am t y n Da Ks)] [] 0 (fun v _ _=>Q v)=
 (SC 113 [AV.agg (lE A1 A2 A3 D G P h rc rf),.agg (aa o M N L C)] (I th)∧ac (!h.3) (ac (!h.3) (SC rf (mW C L M N Da Ks rc n t y o) (.bool right)∧SC 72 [AV.agg (lE A1 A2 A3 D G P h rc rf),.agg (aa o M N L C),.agg (g9 Da Ks n t y),I (Int.negSucc 0)] (.bool twice)∧ac (!ao i 0) (Q mV) (ac (ay 0 th) (Q ji) (ac (!right) (Q lC) (ac twice (Q ji) (SC 73 [AV.agg (lE A1 A2 A3 D G P h rc rf),.agg (aa o M N L C),.agg (mU Da Ks an i n t y)] (gF C' L' M' N' e o')∧aw (lB C' L' M' N' o') (Q (gF C' L' M' N' e o'))))))) (SC rf (mW C L M N Da Ks rc n t y o) (.bool right)∧SC 72 [AV.agg (lE A1 A2 A3 D G P h rc rf),.agg (aa o M N L C),.agg (g9 Da Ks n t y),I (Int.negSucc 0)] (.bool twice)∧ac (!ao i 0) (Q mV) (ac (!right) (Q lC) (ac twice (Q ji) (SC 73 [AV.agg (lE A1 A2 A3 D G P h rc rf),.agg (aa o M N L C),.agg (mU Da Ks an i n t y)] (gF C' L' M' N' e o')∧aw (lB C' L' M' N' o') (Q (gF C' L' M' N' e o'))))))) (ac (!h.3) (SC rf (mW C L M N Da Ks rc n t y o) (.bool right)∧SC 72 [AV.agg (lE A1 A2 A3 D G P h rc rf),.agg (aa o M N L C),.agg (g9 Da Ks n t y),I (Int.negSucc 0)] (.bool twice)∧ac (!ao i th) (Q mV) (ac (ay 0 th) (Q ji) (ac (!right) (Q lC) (ac twice (Q ji) (SC 73 [AV.agg (lE A1 A2 A3 D G P h rc rf),.agg (aa o M N L C),.agg (mU Da Ks an i n t y)] (gF C' L' M' N' e o')∧aw (lB C' L' M' N' o') (Q (gF C' L' M' N' e o'))))))) (SC rf (mW C L M N Da Ks rc n t y o) (.bool right)∧SC 72 [AV.agg (lE A1 A2 A3 D G P h rc rf),.agg (aa o M N L C),.agg (g9 Da Ks n t y),I (Int.negSucc 0)] (.bool twice)∧ac (!ao i th) (Q mV) (ac (!right) (Q lC) (ac twice (Q ji) (SC 73 [AV.agg (lE A1 A2 A3 D G P h rc rf),.agg (aa o M N L C),.agg (mU Da Ks an i n t y)] (gF C' L' M' N' e o')∧aw (lB C' L' M' N' o') (Q (gF C' L' M' N' e o')))))))):=by kernel_rfl
end
end Go.Proofs.YtjhggnebkfpgcaaGreatDoor
