import Derived.Test.YtjhggnebkfpgcaaGreatDoorProg
import Derived.Test.YtjhggnebkfpgcaaGreatDoorG5
import Derived.KernelRfl
namespace Go.Proofs.YtjhggnebkfpgcaaGreatDoor
open Go Go.RowKit
open Go.Proofs.Abs
abbrev I (n:Int):AV:= .int .i64 n
def nameL:List (List UInt8):=[[85,110,105,113,117,101,32,73,100,101,110,116,105,102,105,101,114],[78,97,109,101],[79,98,106,101,99,116,32,84,121,112,101],[67,114,121,112,116,111,103,114,97,112,104,105,99,32,65,108,103,111,114,105,116,104,109],[67,114,121,112,116,111,103,114,97,112,104,105,99,32,76,101,110,103,116,104],[67,114,121,112,116,111,103,114,97,112,104,105,99,32,85,115,97,103,101,32,77,97,115,107],[83,116,97,116,101],[73,110,105,116,105,97,108,32,68,97,116,101],[65,99,116,105,118,97,116,105,111,110,32,68,97,116,101],[80,114,111,99,101,115,115,32,83,116,97,114,116,32,68,97,116,101],[80,114,111,116,101,99,116,32,83,116,111,112,32,68,97,116,101],[68,101,97,99,116,105,118,97,116,105,111,110,32,68,97,116,101],[68,101,115,116,114,111,121,32,68,97,116,101],[67,111,109,112,114,111,109,105,115,101,32,79,99,99,117,114,114,101,110,99,101,32,68,97,116,101],[67,111,109,112,114,111,109,105,115,101,32,68,97,116,101],[65,114,99,104,105,118,101,32,68,97,116,101],[76,97,115,116,32,67,104,97,110,103,101,32,68,97,116,101],[82,101,118,111,99,97,116,105,111,110,32,82,101,97,115,111,110],[76,105,110,107],[85,115,97,103,101,32,76,105,109,105,116,115],[120,45,97],[120,45,98],[120,45],[121]]
def uL (l:List Nat):List AV:=l.map fun n=> .int .u8 (.ofNat n)
def firL:List Nat:=List.replicate 128 240++List.replicate 66 241++List.replicate 30 2++[19]++List.replicate 12 3++[35]++List.replicate 2 3++[52]++List.replicate 3 4++[68]++List.replicate 11 241
def accL:List Nat:=[128,191,160,191,128,159,144,191,128,143]++List.replicate 22 0
def gl:aQ:=fun g=>match Nat.beq g 0 with
 |true=>some (nameL.map .str)
 | false=>match Nat.beq g 1 with
  |true=>some (uL firL)
  |false=>match Nat.beq g 2 with
   |true=>some (uL accL)
   |false=>none
theorem Tryz.mixed:Tryz.prog.follows .mixedOrders=true:=by kernel_rfl
noncomputable def opts0:bi:={how:=fun _=> .pure,summ:=fun _ _=>none,glob:=gl,lf:=100000}
theorem zG:∀g l,gl g=some l→ad l=true:=by
 intro g l h
 unfold gl at h
 split at h
 ·simp only[Option.some.injEq] at h;subst h;kernel_rfl
 split at h
 ·simp only[Option.some.injEq] at h;subst h;kernel_rfl
 split at h
 ·simp only[Option.some.injEq] at h;subst h;kernel_rfl
 ·cases h
theorem base0:dp Tryz.prog opts0 40:=Mc Tryz.mixed (fun _ _ _ h=>by cases h) zG
theorem so:∀f args v,opts0.summ f args=some v→SemCall Tryz.prog opts0.glob f args v:=fun _ _ _ h=>by cases h
noncomputable def ej:be:=r7 (fun _ _=>none) (fun _=>none)
theorem jz:dq Tryz.prog opts0 ej:=MK so
noncomputable def aq (hint:List (Nat × Nat × ez)) (ls:List (Nat × bg)) (sem:dj) (pure all:List Nat):be:=Ek Tryz.prog opts0 40 (uA hint) (ko ls) sem (Nl pure all)
theorem am {hint:List (Nat × Nat × ez)} {ls:List (Nat × bg)} {sem:dj} {pure all:List Nat}:dq Tryz.prog opts0 (aq hint ls sem pure all):=Nm base0 so
abbrev zL:List AV:=[AV.str [],I 0,I 0,I 0,I 0,AV.nilsl,I 0,AV.bool false,I 0,AV.bool false,I 0,AV.bool false,I 0,AV.bool false,I 0,AV.bool false,I 0,AV.bool false,I 0,AV.bool false,I 0,AV.bool false,I 0,AV.bool false,I 0,AV.bool false,I 0,I 0,AV.str [],AV.nilsl,AV.nilsl,AV.nilsl,AV.bool false,I 0,I 0,I 0,AV.bool false]
abbrev SC:=SemCall Tryz.prog opts0.glob
noncomputable section
abbrev cD:Nat:=1099511627776
def ay (t y n:Int) (D K:List AV):List AV:=[I t,I y,I n,.fsl false D,.fsl false K]
def pc (t y n t' y' n':Int) (D K D' K':List AV) (i:Nat):View:=⟨[(4,.bool false),(5,I (.ofNat i))],[(2,.ptr 0 0),(3,.ptr 1 0)],[(0,.cells (ay t y n D K),.whole),(1,.cells (ay t' y' n' D' K'),.whole)],2,62⟩
def smF:View:=⟨[(4,.bool false)],[],[],2,62⟩
def zH (c c':List AV) (r:Bool):be:=zf (uA [(6,3,.res (.fptr c 0)),(6,8,.res (.fptr c' 0))]) (fun _=>none) (cz [(35,.bool r)])
abbrev nf (D K:List AV) (n t y:Int):=[I t,I y,I n,AV.fsl false D,AV.fsl false K]
abbrev ng (D' K':List AV) (n' t' y':Int):=[I t',I y',I n',AV.fsl false D',AV.fsl false K']
@[simp] abbrev uM:=(AV.bool false=AV.bool false∧true=true)
@[simp] abbrev Eu:=((some 0=some 0∧0=0)∧(some 1=some 1∧0=0)∧True)
theorem Ew (t y n t' y' n' a b c a' b' c':Int) (D K D' K' E L E' L':List AV) (i:Nat) (r:Bool) (N:Prop) (Q:AExit→St→Prop):aw Tryz.prog opts0 40 (zH (ay a b c E L) (ay a' b' c' E' L') r) (ah Tryz.prog 35 5) (pc t y n t' y' n' D K D' K' i).st (bf 0 [(0,0),(1,1)] (pc t y n t' y' n' D K D' K' (i+1)) N [] smF Q)=
  (ak (ar (Int.ofNat i) (Int.ofNat (ab K))) (ax Tryz.prog 35 (AV.fsl false K) (I (Int.ofNat i))=some (AV.fptr [I a,I b,I c,AV.fsl false E,AV.fsl false L] 0)∧ax Tryz.prog 35 (AV.fsl false K') (I (Int.ofNat i))=some (AV.fptr [I a',I b',I c',AV.fsl false E',AV.fsl false L'] 0)∧SC 35 [AV.agg [I a,I b,I c,AV.fsl false E,AV.fsl false L],AV.agg [I a',I b',I c',AV.fsl false E',AV.fsl false L']] (AV.bool r)∧ak (!r) (((uM∧True)∧True∧True)∧Q AExit.ret smF.st) (((uM∧(I (af IntKind.i64 (Int.ofNat i+1))=I (Int.ofNat (i+1))∧ac (I (Int.ofNat (i+1)))=true)∧True)∧Eu∧((nf D K n t y)=(nf D K n t y)∧ad (nf D K n t y)=true)∧((ng D' K' n' t' y')=(ng D' K' n' t' y')∧ad (ng D' K' n' t' y')=true)∧True)∧N)) (((uM∧True)∧True∧True)∧Q (AExit.exit 0) smF.st)):=by kernel_rfl
theorem gT (l:List It):(an l).length=l.length:=by simp[lr]
theorem pd (t y n:Int) (d:List UInt8) (ks:List It):bu (.mk t y n d ks)= .agg (ay t y n (ap d) (an ks)):=rfl
theorem lx {f:Bool} {ks:List It} {i:Nat} {t y n:Int} {d:List UInt8} {l:List It} (hx:ks[i]? =some (.mk t y n d l)):ax Tryz.prog 35 (.fsl f (an ks)) (.int .i64 (.ofNat i))=some (.fptr (ay t y n (ap d) (an l)) 0):=
 fY (v:=bu (.mk t y n d l)) (e:=37) (sz:=5) (by kernel_rfl) (by kernel_rfl) (by rw[lr,List.getElem?_map,hx];rfl) rfl
theorem Ex {t y n t' y' n':Int} {D D':List AV} {ks ks':List It} {Q:AExit→St→Prop} (hD:ad D=true) (hD':ad D'=true) (hb:ks.length≤cD) (hl:ks.length=ks'.length)
  (ih:∀ (i:Nat) (x z:It),ks[i]? =some x→ks'[i]? =some z→SC 35 [bu x,bu z] (.bool (dG x z))):
  ∀ (m i:Nat),i+m=ks.length→ak (eA (ks.drop i) (ks'.drop i)) (Q (.exit 0) smF.st) (Q .ret smF.st)→ALp Tryz.prog opts0.glob 0 (ah Tryz.prog 35 5) (pc t y n t' y' n' D (an ks) D' (an ks') i).st Q
 | 0,i,hi,hq=>by
  refine ALp.round (A:=zH (ay 0 0 0 [] []) (ay 0 0 0 [] []) true) (V1:=pc t y n t' y' n' D (an ks) D' (an ks') (i+1)) (F:=smF) (lk:=[(0,0),(1,1)]) (lk':=[]) base0 (zg so) (LsOk.no rfl) .refl ?_
  rw[Ew]
  refine az (fun h=> ?_) (fun _=> ?_)
  ·have h:=ltInt_iff.1 h
   simp only[aI,gT,Int.ofNat_eq_natCast] at h
   omega
  ·rw[List.drop_of_length_le (by omega),List.drop_of_length_le (by omega)] at hq
   exact ⟨by simp,hq⟩
 | m+1,i,hi,hq=>by
  have h1:i<ks.length:=by omega
  have h2:i<ks'.length:=by omega
  rw[List.drop_eq_getElem_cons h1,List.drop_eq_getElem_cons h2,eA] at hq
  have g1:ks[i]? =some ks[i]:=List.getElem?_eq_getElem h1
  have g2:ks'[i]? =some ks'[i]:=List.getElem?_eq_getElem h2
  have hs:=ih i _ _ g1 g2
  revert hs g1 g2 hq
  generalize ks[i]=x
  generalize ks'[i]=z
  intro hq g1 g2 hs
  obtain ⟨a,b,c,e,l⟩:=x
  obtain ⟨a',b',c',e',l'⟩:=z
  refine ALp.round (A:=zH (ay a b c (ap e) (an l)) (ay a' b' c' (ap e') (an l')) (dG (.mk a b c e l) (.mk a' b' c' e' l'))) (V1:=pc t y n t' y' n' D (an ks) D' (an ks') (i+1)) (F:=smF) (lk:=[(0,0),(1,1)]) (lk':=[]) base0 (zg so) (LsOk.no rfl) .refl ?_
  rw[Ew]
  refine az (fun _=>⟨lx g1,lx g2,hs,az (fun h=> ?_) (fun h=> ?_)⟩) (fun h=> ?_)
  ·rw[Bool.not_eq_true'] at h
   rw[h] at hq
   exact ⟨by simp,hq⟩
  ·rw[Bool.not_eq_false'] at h
   rw[h] at hq
   have hb:ks.length≤1099511627776:=hb
   rw[co (by simp;omega) (by simp;omega)]
   refine ⟨by simp[ac,ad,hD,hD',fF],Ex hD hD' hb hl ih m (i+1) (by omega) hq⟩
  ·have h:=ltInt_false.1 h
   simp only[aI,gT,Int.ofNat_eq_natCast] at h
   omega
def Ey (t y n t' y' n':Int) (D K D' K':List AV) (p:Prop) (r:Bool):bg:=fun s Q=>p∧bR 0 [(0,0),(1,1)] (pc t y n t' y' n' D K D' K' 0) s∧ak r (Q (.exit 0) smF.st) (Q .ret smF.st)
def Ez (L:bg):be:=zf (uA []) (ko [(5,L)]) aA
abbrev sp (D D' K K':List AV) (Q:AV→ae→Nat→Prop) (n n' t t' y y':Int):=(Q (AV.bool false) [(1,some (Blk.cells (ng D' K' n' t' y'))),(0,some (Blk.cells (nf D K n t y)))] 41)
theorem NF (t y n t' y' n':Int) (D K D' K':List AV) (p:Prop) (r:Bool) (Q:AV→ae→Nat→Prop):aL Tryz.prog opts0 40 (Ez (Ey t y n t' y' n' D K D' K' p r)) 35 [.agg (ay t y n D K),.agg (ay t' y' n' D' K')] [] 0 Q=
  (ak (!aF t t') (sp D D' K K' Q n n' t t' y y') (ak (!aF y y') (sp D D' K K' Q n n' t t' y y') (ak (!aF n n') (sp D D' K K' Q n n' t t' y y') (aC (e9 D).isSome (aC (e9 D').isSome (ak (!aB (oT D) (oT D')) (sp D D' K K' Q n n' t t' y y') (ak (!aF (Int.ofNat (ab K)) (Int.ofNat (ab K'))) (sp D D' K K' Q n n' t t' y y') (p∧((uM∧(I 0=I 0∧true=true)∧True)∧Eu∧((nf D K n t y)=(nf D K n t y)∧ad (nf D K n t y)=true)∧((ng D' K' n' t' y')=(ng D' K' n' t' y')∧ad (ng D' K' n' t' y')=true)∧True)∧ak r (Q (AV.bool true) [] 3) (Q (AV.bool false) [] 2))))))))):=by kernel_rfl
theorem NG:br (cy Tryz.prog 35) 5=[ah Tryz.prog 35 5]:=by kernel_rfl
theorem NH {t y n t' y' n':Int} {d d':List UInt8} {ks ks':List It} (h:dF cD (.mk t y n d ks))
  (ih:∀ (i:Nat) (x z:It),ks[i]? =some x→ks'[i]? =some z→SC 35 [bu x,bu z] (.bool (dG x z))):
  SC 35 [bu (.mk t y n d ks),bu (.mk t' y' n' d' ks')] (.bool (dG (.mk t y n d ks) (.mk t' y' n' d' ks'))):=by
 simp only[dF] at h
 obtain ⟨h3,h4,h5⟩:=h
 refine r5 (A:=Ez (Ey t y n t' y' n' (ap d) (an ks) (ap d') (an ks') (ks.length=ks'.length) (eA ks ks'))) base0 (zg so)
  (aN (LsOk.at1 rfl NG fun s Q hs=> .seen base0.glob hs.2.1 (Ex (by simp) (by simp) h4 hs.1 ih ks.length 0 (by omega) (by simpa using hs.2.2)))) (by simp[ad,sf]) ?_
 rw[pd,pd,NF]
 simp only[dG]
 refine az (fun e=> ?_) (fun e=>az (fun e2=> ?_) (fun e2=>az (fun e3=> ?_) (fun e3=>aH (by simp) (aH (by simp) (az (fun e4=> ?_) (fun e4=>az (fun e5=> ?_) (fun e5=>⟨?_,by simp[ad,ac,fF],az (fun e6=> ?_) (fun e6=> ?_)⟩)))))))
 ·exact nc (by simp_all)
 ·exact nc (by simp_all)
 ·exact nc (by simp_all)
 ·exact nc (by simp_all)
 ·have hne:eA ks ks'=false:=by
   cases hs:eA ks ks' with
   |false=>rfl
   |true=>
    rw[aI,aI,gT,gT,El hs,Bool.not_eq_true',beqInt_false] at e5
    exact absurd rfl e5
  exact nc (by simp[hne])
 ·rw[Bool.not_eq_false',beqInt_iff,aI,aI,gT,gT] at e5
  exact Int.ofNat.inj e5
 ·exact nc (by simp_all)
 ·exact nc (by simp_all)
mutual
theorem EA:∀x z:It,dF cD x→SC 35 [bu x,bu z] (.bool (dG x z))
 | .mk _ _ _ _ ks,.mk _ _ _ _ _ks',h=>NH h fun _i x z hx _=>EB ks x (List.mem_of_getElem? hx) z (okIs_iff.1 h.2.2 x (List.mem_of_getElem? hx))
theorem EB:∀ks:List It,∀x∈ks,∀z,dF cD x→SC 35 [bu x,bu z] (.bool (dG x z))
 |[],_,hx,_,_=>by cases hx
 |k::r,x,hx,z,h=>by
  have h1:=EA k z
  have h2:=EB r x
  rcases List.mem_cons.1 hx with e|hx
  ·rw[e] at h⊢;exact h1 h
  ·exact h2 hx z h
end
end
def isI:It→Int→Int→Bool
 | .mk t y n d k,tag,kind=>aF t tag&&(aF y kind&&((aF kind 1||aF (.ofNat k.length) 0)&&((aF kind 7||aF (.ofNat d.length) 0)&&((!aF kind 7&& !aF kind 1)||aF n 0))))
theorem NI (x:It):fc 5 (bu x):=by cases x;exact ⟨rfl,rfl⟩
theorem NJ {ks:List It}:∀e∈an ks,fc 5 e:=fun e he=>by
 rw[lr] at he
 obtain ⟨x,_,rfl⟩:=List.mem_map.1 he
 exact NI x
theorem EC:∀l:List It,(flat (an l)).length=l.length*5
 |[]=>rfl
 | .mk _ _ _ _ _::r=>by simp only[an,flat,bu,AV.cells,List.length_append,EC r,List.length_cons,List.length_nil];omega
theorem zI:∀ {l:List AV},ad l=true→(∀e∈l,ad e.cells=true)→ad (flat l)=true
  |[],_,_=>rfl
  | a::t,h,h2=>by
    simp only[ad,Bool.and_eq_true] at h
    have:=zI h.2 fun e he=>h2 e (by simp[he])
    have h1:=h2 a (by simp)
    simp only[flat]
    exact closed_app h1 this
 where
  closed_app:∀ {a b:List AV},ad a=true→ad b=true→ad (a++b)=true
    |[],_,_,h=>h
    | x::r,_,h,h'=>by
      simp only[ad,Bool.and_eq_true] at h
      simp only[List.cons_append,ad,h.1,closed_app h.2 h',Bool.and_self]
end Go.Proofs.YtjhggnebkfpgcaaGreatDoor
namespace Go.Proofs.YtjhggnebkfpgcaaGreatDoor
set_option maxRecDepth 20000
open Go Go.RowKit
open Go.Proofs.Abs
noncomputable section
theorem ED (n m:Int) (Q:AV→ae→Nat→Prop):aL Tryz.prog opts0 40 ej 23 [I n,I m] [] 0 Q=
  (aC (!aF m 0) (ak (ar (n.tmod m) 0) (Q (I (af IntKind.i64 (n.tmod m+m))) [] 13) (Q (I (n.tmod m)) [] 9))):=by kernel_rfl
theorem bm (n:Int) {m:Int} (h0:0<m) (h1:m≤4611686018427387904):SC 23 [I n,I m] (I (n%m)):=by
 refine r5 (A:=ej) base0 jz (aN (LsOk.no rfl)) rfl ?_
 rw[ED]
 have hm:=Int.tmod_lt_of_pos n h0
 have hm':=Int.lt_tmod_of_pos n h0
 have he:=Int.emod_nonneg n (Int.ne_of_gt h0)
 have hd:=Int.emod_lt_of_pos n h0
 have key:n%m=if n.tmod m<0 then n.tmod m+m else n.tmod m:=by
  have e1:=Int.tmod_eq_emod (a:=n) (b:=m)
  split at e1
  ·rw[e1,if_neg (by omega)];omega
  ·have:(m.natAbs:Int)=m:=Int.natAbs_of_nonneg (by omega)
   split<;>omega
 refine aH (by rw[Bool.not_eq_true',beqInt_false];omega) ?_
 refine az (fun h=> ?_) (fun h=> ?_)
 ·have h:=ltInt_iff.1 h
  rw[if_pos h] at key
  exact uG (by rw[co (by omega) (by omega),key])
 ·have h:=ltInt_false.1 h
  rw[if_neg (by omega)] at key
  exact uG key.symm
structure Rw where
 k:Int
 a:Int
 b:Int
 c:Int
def kq (r:Rw):List AV:=[I r.k,I r.a,I r.b,I r.c]
def aJ (r:Rw):AV:= .agg (kq r)
def aD {α:Type} (l:List α) (d:α) (n:Int):α:=(l[(n%(l.length:Int)).toNat]?).getD d
def ly:List AV→Option AV
 |[.int _ n,.int _ m]=>some (I (n%m))
 |_=>none
theorem pe {n m:Int} (h:0<m):∃k:Nat,n%m=(k:Int)∧(k:Int)<m:=by
 have h1:=Int.emod_nonneg n (Int.ne_of_gt h)
 have h2:=Int.emod_lt_of_pos n h
 exact ⟨(n%m).toNat,by omega,by omega⟩
theorem ig {α:Type} (l:List α) (d:α) (n:Int) (h:l≠[]):aD l d n∈l:=by
 have hp:0<l.length:=List.length_pos_iff.2 h
 obtain ⟨k,h1,h2⟩:=pe (n:=n) (m:=(l.length:Int)) (by omega)
 have hk:k<l.length:=by omega
 unfold aD
 rw[h1]
 have:(k:Int).toNat=k:=by omega
 rw[this,List.getElem?_eq_getElem hk]
 simp
def idL:List (List UInt8):=[[49],[50],[51],[52],[53],[54],[55],[49],[50],[51],[57,57],[120]]
def txL:List (List UInt8):=[[111,110,101],[116,119,111],[116,104,114,101,101],[102,111,117,114],[],[53],[49]]
def alL:List Int:=[3,3,4,0,101]
def uN:List Int:=[128,192,256,1024,2048,0,64]
def uO:List Int:=[396,12,4,0,384,2097152,8]
def EE (s:List UInt8):be:=aq [(1,3,.res (.str s))] [] (jy [(23,ly)]) [] []
theorem NK (n:Int) (s:List UInt8) (Q:AV→ae→Nat→Prop):aL Tryz.prog opts0 40 (EE s) 67 [I n] [] 0 Q=
  (SC 23 [I n,I 12] (I (n%12))∧aZ Tryz.prog 160 (AV.agg [AV.str [49],AV.str [50],AV.str [51],AV.str [52],AV.str [53],AV.str [54],AV.str [55],AV.str [49],AV.str [50],AV.str [51],AV.str [57,57],AV.str [120]]) (I (n%12))=some (AV.str s)∧Q (AV.str s) [] 6):=by kernel_rfl
def EF (k:Nat) (s:List UInt8):be:=aq [(1,2,.res (.gptr 0 k)),(1,3,.ld (.str s))] [] (jy [(23,ly)]) [] []
theorem NL (n:Int) (k:Nat) (s:List UInt8) (Q:AV→Prop):aL Tryz.prog opts0 40 (EF k s) 43 [I n] [] 0 (fun v _ _=>Q v)=
  (SC 23 [I n,I 24] (I (n%24))∧ax Tryz.prog 135 (AV.gptr 0 0) (I (n%24))=some (AV.gptr 0 k)∧eZ Tryz.prog 9 (AV.gptr 0 k) opts0.glob=some (Eff.val (AV.str s))∧Q (AV.str s)):=by kernel_rfl
def EG (s i:List UInt8) (al le ma:Int):be:=aq [(10,4,.res (.str s)),(15,4,.res (I al)),(17,4,.res (I le)),(19,4,.res (I ma))] [] (jy [(23,ly),(67,fun _=>some (.str i))]) [108,109] [110]
@[simp] abbrev pg (Q:AV→Prop) (r:Rw) (s:List UInt8):=(SC 23 [I r.2,I 7] (I (r.2%7))∧aZ Tryz.prog 154 (AV.agg [AV.str [111,110,101],AV.str [116,119,111],AV.str [116,104,114,101,101],AV.str [102,111,117,114],AV.str [],AV.str [53],AV.str [49]]) (I (r.2%7))=some (AV.str s)∧Q (AV.agg [I 4325387,I 7,I 0,AV.fsl false (ap s),AV.nilsl]))
@[simp] abbrev EH (Q:AV→Prop) (r:Rw):=(SC 23 [I r.2,I 8] (I (r.2%8))∧Q (AV.agg [I 4325387,I 5,I (r.2%8),AV.nilsl,AV.nilsl]))
theorem NM (nm s i:List UInt8) (al le ma:Int) (r:Rw) (Q:AV→Prop):aL Tryz.prog opts0 40 (EG s i al le ma) 60 [.str nm,aJ r] [] 0 (fun v _ _=>Q v)=
  (SC 23 [I r.4,I 17] (I (r.4%17))∧ak (aF (r.4%17) 16) (Q (AV.agg [I 4325387,I 2,I (af IntKind.i64 (af IntKind.i32 r.2)),AV.nilsl,AV.nilsl])) (ak (aB nm [78,97,109,101]) (pg Q r s) (ak (aB nm [85,110,105,113,117,101,32,73,100,101,110,116,105,102,105,101,114]) (pg Q r s) (ak (aB nm [120,45,97]) (pg Q r s) (ak (aB nm [120,45,98]) (pg Q r s) (ak (aB nm [120,45]) (pg Q r s) (ak (aB nm [121]) (pg Q r s) (ak (aB nm [79,98,106,101,99,116,32,84,121,112,101]) (EH Q r) (ak (aB nm [83,116,97,116,101]) (EH Q r) (ak (aB nm [67,114,121,112,116,111,103,114,97,112,104,105,99,32,65,108,103,111,114,105,116,104,109]) (SC 23 [I r.2,I 5] (I (r.2%5))∧aZ Tryz.prog 103 (AV.agg [I 3,I 3,I 4,I 0,I 101]) (I (r.2%5))=some (I al)∧Q (AV.agg [I 4325387,I 5,I al,AV.nilsl,AV.nilsl])) (ak (aB nm [67,114,121,112,116,111,103,114,97,112,104,105,99,32,76,101,110,103,116,104]) (SC 23 [I r.2,I 7] (I (r.2%7))∧aZ Tryz.prog 155 (AV.agg [I 128,I 192,I 256,I 1024,I 2048,I 0,I 64]) (I (r.2%7))=some (I le)∧Q (AV.agg [I 4325387,I 2,I le,AV.nilsl,AV.nilsl])) (ak (aB nm [67,114,121,112,116,111,103,114,97,112,104,105,99,32,85,115,97,103,101,32,77,97,115,107]) (SC 23 [I r.2,I 7] (I (r.2%7))∧aZ Tryz.prog 155 (AV.agg [I 396,I 12,I 4,I 0,I 384,I 2097152,I 8]) (I (r.2%7))=some (I ma)∧Q (AV.agg [I 4325387,I 2,I ma,AV.nilsl,AV.nilsl])) (ak (aB nm [82,101,118,111,99,97,116,105,111,110,32,82,101,97,115,111,110]) (SC 23 [I r.2,I 9] (I (r.2%9))∧Q (AV.agg [I 4325387,I 1,I 0,AV.nilsl,AV.fsl true [AV.agg [I 4325506,I 5,I (r.2%9),AV.nilsl,AV.nilsl]]])) (ak (aB nm [76,105,110,107]) (SC 23 [I r.2,I 12] (I (r.2%12))∧SC 67 [I r.3] (AV.str i)∧Q (AV.agg [I 4325387,I 1,I 0,AV.nilsl,AV.fsl true [AV.agg [I 4325451,I 5,I (af IntKind.i64 (100+r.2%12)),AV.nilsl,AV.nilsl],AV.agg [I 4325452,I 7,I 0,AV.fsl false (ap i),AV.nilsl]]])) (ak (aB nm [85,115,97,103,101,32,76,105,109,105,116,115]) (SC 23 [I r.2,I 60] (I (r.2%60))∧ak (aF (r.3.tmod 4) 0) (SC 23 [I r.3,I 70] (I (r.3%70))∧SC 23 [I r.3,I 3] (I (r.3%3))∧Q (AV.agg [I 4325387,I 1,I 0,AV.nilsl,AV.fsl true [AV.agg [I 4325527,I 3,I (r.2%60),AV.nilsl,AV.nilsl],AV.agg [I 4325526,I 3,I (r.3%70),AV.nilsl,AV.nilsl],AV.agg [I 4325528,I 5,I (af IntKind.i64 (1+r.3%3)),AV.nilsl,AV.nilsl]]])) (SC 23 [I r.3,I 3] (I (r.3%3))∧Q (AV.agg [I 4325387,I 1,I 0,AV.nilsl,AV.fsl true [AV.agg [I 4325527,I 3,I (r.2%60),AV.nilsl,AV.nilsl],AV.agg [I 4325526,I 3,I (r.2%60),AV.nilsl,AV.nilsl],AV.agg [I 4325528,I 5,I (af IntKind.i64 (1+r.3%3)),AV.nilsl,AV.nilsl]]]))) (SC 23 [I r.2,I 60] (I (r.2%60))∧Q (AV.agg [I 4325387,I 9,I (r.2%60),AV.nilsl,AV.nilsl]))))))))))))))))):=by kernel_rfl
def EI (nm:List UInt8) (v:List AV):be:=aq [] [] (jy [(23,ly),(43,fun _=>some (.str nm)),(60,fun _=>some (.agg v))]) [] []
theorem NN (nm:List UInt8) (t y n:Int) (D K:List AV) (r:Rw) (Q:AV→Prop):aL Tryz.prog opts0 40 (EI nm (ay t y n D K)) 16 [aJ r] [] 0 (fun v _ _=>Q v)=
  (SC 43 [I r.1] (AV.str nm)∧ak (aF (r.3.tmod 3) 0) (SC 23 [I (af IntKind.i64 (r.3.tdiv 3)),I 4] (I (af IntKind.i64 (r.3.tdiv 3)%4))∧SC 60 [AV.str nm,AV.agg [I r.1,I r.2,I r.3,I r.4]] (AV.agg [I t,I y,I n,AV.fsl false D,AV.fsl false K])∧Q (AV.agg [AV.str nm,I (af IntKind.i64 (r.3.tdiv 3)%4),I t,I y,I n,AV.fsl false D,AV.fsl false K])) (SC 60 [AV.str nm,AV.agg [I r.1,I r.2,I r.3,I r.4]] (AV.agg [I t,I y,I n,AV.fsl false D,AV.fsl false K])∧Q (AV.agg [AV.str nm,I 0,I t,I y,I n,AV.fsl false D,AV.fsl false K]))):=by kernel_rfl
theorem sq {n:Int} {m:Nat} (h:0<m) {p:Int→Prop} (hp:∀k:Nat,k<m→p (k:Int)):p (n%(m:Int)):=by
 obtain ⟨k,h1,h2⟩:=pe (n:=n) (m:=(m:Int)) (by omega)
 rw[h1]
 exact hp k (by omega)
theorem sr {m:Nat} {p:Nat→Prop} (h:∀k∈List.range m,p k):∀k:Nat,k<m→p k:=fun k hk=>h k (List.mem_range.2 hk)
theorem ph (n:Int):SC 67 [I n] (.str (aD idL [] n)):=by
 refine r5 (A:=EE (aD idL [] n)) base0 am (aN (LsOk.no rfl)) rfl ?_
 rw[NK]
 refine And.intro (bm n (m:=12) (by decide) (by decide)) (And.intro ?_ (Nu rfl))
 unfold aD
 exact sq (m:=12) (p:=fun x=>aZ Tryz.prog 160 (.agg (idL.map .str)) (I x)=some (.str ((idL[x.toNat]?).getD []))) (by decide) (sr (by simp only[List.range,List.range.loop,List.forall_mem_cons];refine ⟨?_, ?_, ?_, ?_, ?_, ?_, ?_, ?_, ?_, ?_, ?_, ?_, ?_⟩<;>first|kernel_rfl|(intro _ h;cases h)))
theorem NO (n:Int):SC 43 [I n] (.str (aD nameL [] n)):=by
 refine eB (A:=EF (n%24).toNat (aD nameL [] n)) base0 am (aN (LsOk.no rfl)) rfl rfl ?_
 rw[NL]
 refine And.intro (bm n (m:=24) (by decide) (by decide)) ?_
 unfold aD
 exact sq (m:=24) (p:=fun x=>ax Tryz.prog 135 (.gptr 0 0) (I x)=some (.gptr 0 x.toNat)∧eZ Tryz.prog 9 (.gptr 0 x.toNat) opts0.glob=some (Eff.val (.str ((nameL[x.toNat]?).getD [])))∧AV.str ((nameL[x.toNat]?).getD [])= .str ((nameL[x.toNat]?).getD [])) (by decide) (sr (by simp only[List.range,List.range.loop,List.forall_mem_cons];refine ⟨?_, ?_, ?_, ?_, ?_, ?_, ?_, ?_, ?_, ?_, ?_, ?_, ?_, ?_, ?_, ?_, ?_, ?_, ?_, ?_, ?_, ?_, ?_, ?_, ?_⟩<;>first|exact ⟨by kernel_rfl,by kernel_rfl,by first|rfl|trivial⟩|(intro _ h;cases h)))
def bO (y n:Int) (d:List UInt8) (ks:List It):It:= .mk 4325387 y n d ks
def nh (t y n:Int) (d:List UInt8):It:= .mk t y n d []
def EJ (s:List UInt8):Bool:=aB s [78,97,109,101]||(aB s [85,110,105,113,117,101,32,73,100,101,110,116,105,102,105,101,114]||(aB s [120,45,97]||(aB s [120,45,98]||(aB s [120,45]||aB s [121]))))
def pj (s:List UInt8) (r:Rw):It:=
 match aF (r.c%17) 16 with
 |true=>bO 2 (af .i64 (af .i32 r.a)) [] []
 |false=>match EJ s with
 |true=>bO 7 0 (aD txL [] r.a) []
 |false=>match aB s [79,98,106,101,99,116,32,84,121,112,101]||aB s [83,116,97,116,101] with
 |true=>bO 5 (r.a%8) [] []
 |false=>match aB s [67,114,121,112,116,111,103,114,97,112,104,105,99,32,65,108,103,111,114,105,116,104,109] with
 |true=>bO 5 (aD alL 0 r.a) [] []
 |false=>match aB s [67,114,121,112,116,111,103,114,97,112,104,105,99,32,76,101,110,103,116,104] with
 |true=>bO 2 (aD uN 0 r.a) [] []
 |false=>match aB s [67,114,121,112,116,111,103,114,97,112,104,105,99,32,85,115,97,103,101,32,77,97,115,107] with
 |true=>bO 2 (aD uO 0 r.a) [] []
 |false=>match aB s [82,101,118,111,99,97,116,105,111,110,32,82,101,97,115,111,110] with
 |true=>bO 1 0 [] [nh 4325506 5 (r.a%9) []]
 |false=>match aB s [76,105,110,107] with
 |true=>bO 1 0 [] [nh 4325451 5 (af .i64 (100+r.a%12)) [],nh 4325452 7 0 (aD idL [] r.b)]
 |false=>match aB s [85,115,97,103,101,32,76,105,109,105,116,115] with
 |true=>bO 1 0 [] [nh 4325527 3 (r.a%60) [],nh 4325526 3 (match aF (r.b.tmod 4) 0 with|true=>r.b%70|false=>r.a%60) [],nh 4325528 5 (af .i64 (1+r.b%3)) []]
 |false=>bO 9 (r.a%60) [] []
theorem NP (s:List UInt8) (r:Rw):SC 60 [.str s,aJ r] (bu (pj s r)):=by
 refine cY (A:=EG (aD txL [] r.a) (aD idL [] r.b) (aD alL 0 r.a) (aD uN 0 r.a) (aD uO 0 r.a)) base0 am (aN (LsOk.no rfl)) rfl ?_
 rw[NM s (aD txL [] r.a) (aD idL [] r.b) (aD alL 0 r.a) (aD uN 0 r.a) (aD uO 0 r.a) r (gw (bu (pj s r)))]
 have p:∀ (n:Int) {m:Int},0<m→m≤4611686018427387904→SC 23 [I n,I m] (I (n%m)):=fun n {m} h0 h1=>bm n h0 h1
 have tx:aZ Tryz.prog 154 (.agg (txL.map .str)) (I (r.a%7))=some (.str (aD txL [] r.a)):=by
  unfold aD
  exact sq (m:=7) (p:=fun x=>aZ Tryz.prog 154 (.agg (txL.map .str)) (I x)=some (.str ((txL[x.toNat]?).getD []))) (by decide) (sr (by simp only[List.range,List.range.loop,List.forall_mem_cons];refine ⟨?_, ?_, ?_, ?_, ?_, ?_, ?_, ?_⟩<;>first|kernel_rfl|(intro _ h;cases h)))
 have al:aZ Tryz.prog 103 (.agg (alL.map I)) (I (r.a%5))=some (I (aD alL 0 r.a)):=by
  unfold aD
  exact sq (m:=5) (p:=fun x=>aZ Tryz.prog 103 (.agg (alL.map I)) (I x)=some (I ((alL[x.toNat]?).getD 0))) (by decide) (sr (by simp only[List.range,List.range.loop,List.forall_mem_cons];refine ⟨?_, ?_, ?_, ?_, ?_, ?_⟩<;>first|kernel_rfl|(intro _ h;cases h)))
 have se:∀ (L:List Int),L.length=7→aZ Tryz.prog 155 (.agg (L.map I)) (I (r.a%7))=some (I (aD L 0 r.a)):=fun L hL=>by
  match L,hL with
  |[a0,a1,a2,a3,a4,a5,a6],_=>
   unfold aD
   exact sq (m:=7) (p:=fun x=>aZ Tryz.prog 155 (.agg ([a0,a1,a2,a3,a4,a5,a6].map I)) (I x)=some (I (([a0,a1,a2,a3,a4,a5,a6][x.toNat]?).getD 0))) (by decide) (sr (by simp only[List.range,List.range.loop,List.forall_mem_cons];refine ⟨?_, ?_, ?_, ?_, ?_, ?_, ?_, ?_⟩<;>first|kernel_rfl|(intro _ h;cases h)))
 have le:=se uN rfl
 have ma:=se uO rfl
 have hid:=ph r.b
 refine And.intro (p _ (by decide) (by decide)) ?_
 refine az (fun e0=> ?_) (fun e0=> ?_)
 ·refine ⟨rfl, ?_⟩
  simp only[pj,e0,bO,bu,ap,an]
  (repeat (first|exact Wk.refl _|exact WkL.refl _|exact Wk.nil|exact Wk.row|exact WkE.refl _|exact WkL.nil|exact WkE.nil|apply Wk.agg|apply Wk.tuple|apply WkL.cons|apply Wk.rows|apply WkE.consA))
 repeat' refine az (fun _=> ?_) (fun _=> ?_)
 all_goals
  try refine And.intro (p _ (by decide) (by decide)) ?_
  try refine And.intro (by assumption) ?_
  repeat' refine az (fun _=> ?_) (fun _=> ?_)
  all_goals
   try refine And.intro (p _ (by decide) (by decide)) ?_
   try refine And.intro (p _ (by decide) (by decide)) ?_
   refine ⟨by simp[ac,ad], ?_⟩
   simp only[pj,EJ, *,Bool.or_true,Bool.true_or,Bool.or_false]
   simp only[bO,nh,bu,an,ap]
   (repeat (first|exact Wk.refl _|exact WkL.refl _|exact Wk.nil|exact Wk.row|exact WkE.refl _|exact WkL.nil|exact WkE.nil|apply Wk.agg|apply Wk.tuple|apply WkL.cons|apply Wk.rows|apply WkE.consA))
structure At where
 name:List UInt8
 idx:Int
 v:It
def jA:It→List AV
 | .mk t y n d ks=>ay t y n (ap d) (an ks)
theorem NQ (x:It):bu x= .agg (jA x):=by cases x;rfl
def gU (a:At):List AV:= .str a.name::I a.idx::jA a.v
def ag (a:At):AV:= .agg (gU a)
theorem NR (x:It):ad (jA x)=true:=by
 have:=sf x
 rw[NQ] at this
 exact this
theorem jB (a:At):ac (ag a)=true:=by simp only[ag,gU,ac,ad,NR,Bool.and_self]
def jC (r:Rw):At:=⟨aD nameL [] r.k,match aF (r.b.tmod 3) 0 with|true=>af .i64 (r.b.tdiv 3)%4|false=>0,pj (aD nameL [] r.k) r⟩
theorem NS (r:Rw):SC 16 [aJ r] (ag (jC r)):=by
 have hv:=NP (aD nameL [] r.k) r
 have hn:=NO r.k
 simp only[jC]
 revert hv hn
 generalize aD nameL [] r.k=s
 generalize pj s r=x
 intro hv hn
 obtain ⟨t,y,n,d,ks⟩:=x
 have h:=NN s t y n (ap d) (an ks) r
 refine cY (A:=EI s (ay t y n (ap d) (an ks))) base0 am (aN (LsOk.no rfl)) rfl ?_
 rw[h]
 refine And.intro hn (az (fun e=>And.intro (bm _ (by decide) (by decide)) (And.intro hv ?_)) (fun e=>And.intro hv ?_))
 all_goals
  simp only[e,ag,gU,jA]
  exact o8 (by simp[ac,ad,ay,fF])
end
end Go.Proofs.YtjhggnebkfpgcaaGreatDoor
namespace Go.Proofs.YtjhggnebkfpgcaaGreatDoor
open Go Go.RowKit
open Go.Proofs.Abs
noncomputable section
inductive Kd where
 |uid|nam|typ|alg|len|mask|sta
 |dat (k:Nat)
 |why|lnk|lim
 |cus (s:List UInt8)
def zJ:Nat→List UInt8
 |0=>[73,110,105,116,105,97,108,32,68,97,116,101]
 |1=>[65,99,116,105,118,97,116,105,111,110,32,68,97,116,101]
 |2=>[80,114,111,99,101,115,115,32,83,116,97,114,116,32,68,97,116,101]
 |3=>[80,114,111,116,101,99,116,32,83,116,111,112,32,68,97,116,101]
 |4=>[68,101,97,99,116,105,118,97,116,105,111,110,32,68,97,116,101]
 |5=>[68,101,115,116,114,111,121,32,68,97,116,101]
 |6=>[67,111,109,112,114,111,109,105,115,101,32,79,99,99,117,114,114,101,110,99,101,32,68,97,116,101]
 |7=>[67,111,109,112,114,111,109,105,115,101,32,68,97,116,101]
 |8=>[65,114,99,104,105,118,101,32,68,97,116,101]
 |_=>[76,97,115,116,32,67,104,97,110,103,101,32,68,97,116,101]
def aM:Kd→List UInt8
 | .uid=>[85,110,105,113,117,101,32,73,100,101,110,116,105,102,105,101,114]
 | .nam=>[78,97,109,101]
 | .typ=>[79,98,106,101,99,116,32,84,121,112,101]
 | .alg=>[67,114,121,112,116,111,103,114,97,112,104,105,99,32,65,108,103,111,114,105,116,104,109]
 | .len=>[67,114,121,112,116,111,103,114,97,112,104,105,99,32,76,101,110,103,116,104]
 | .mask=>[67,114,121,112,116,111,103,114,97,112,104,105,99,32,85,115,97,103,101,32,77,97,115,107]
 | .sta=>[83,116,97,116,101]
 | .why=>[82,101,118,111,99,97,116,105,111,110,32,82,101,97,115,111,110]
 | .lnk=>[76,105,110,107]
 | .lim=>[85,115,97,103,101,32,76,105,109,105,116,115]
 | .dat k=>zJ k
 | .cus s=>s
def pm:Kd→Bool
 | .nam| .lnk| .cus _=>true
 |_=>false
def NT (k:Nat):Bool:=Nat.ble 1 k&&Nat.ble k 4
def gV:Kd→Bool
 | .nam| .lnk| .cus _| .alg| .len| .mask| .lim=>true
 | .dat k=>NT k
 |_=>false
def iT:Kd→Int
 | .uid| .nam| .cus _=>7
 | .typ| .alg| .sta=>5
 | .len| .mask=>2
 | .dat _=>9
 | .why| .lnk| .lim=>1
def cj (f:Nat):AV:= .func (.func f) [] []
def eD (f:Nat) (c:List AV):AV:= .func (.func f) [] c
def uP:AV:=cj 158
def zK:AV:=cj 125
def EK:AV:=cj 137
def pn:Nat→AV
 |1|2=>zK
 |3|4=>EK
 |_=> .nilFunc
def ni:Kd→AV
 | .nam| .lnk| .cus _| .lim=>uP
 | .dat k=>pn k
 |_=> .nilFunc
def nj:Kd→AV
 | .nam| .lnk| .cus _=>uP
 | .mask=>zK
 | .lim=>cj 189
 | .dat k=>pn k
 |_=> .nilFunc
def ss:Nat→AV
 |2=>zK
 |3=>EK
 |_=> .nilFunc
def nk:Kd→AV
 | .nam| .lnk| .cus _=>uP
 | .lim=>cj 189
 | .dat k=>ss k
 |_=> .nilFunc
def iU:Kd→AV
 | .alg=>cj 132
 | .len=>cj 133
 |_=>cj 124
def NU:Kd→Int
 | .alg=>100
 | .len=>100000
 |_=>1048575
def EL:Kd→Int
 | .mask=>0
 |_=>1
def NV (k:Kd):AV:=eD 161 [.fptr [iU k] 0,.fptr [I (EL k)] 0,.fptr [I (iT k)] 0]
def NW (k:Kd):AV:=eD 162 [.fptr [I (iT k)] 0,.fptr [I (EL k)] 0,.fptr [I (NU k)] 0]
def NX (k:Kd):AV:=eD 164 [.fptr [iU k] 0]
def nI (k:Nat):AV:= .int .i64 (.ofNat k)
def su:Kd→AV
 | .uid=>cj 127
 | .nam=>cj 166
 | .typ=>cj 130
 | .sta=>cj 134
 | .dat k=>eD 172 [.fptr [nI k] 0]
 | .why=>cj 138
 | .lnk=>cj 178
 | .lim=>cj 184
 | .cus s=>eD 150 [.fptr [.str s] 0]
 |k=>NV k
def nn:Kd→AV
 | .nam=>cj 167
 | .dat _=>cj 173
 | .lnk=>cj 179
 | .lim=>cj 185
 | .cus _=>cj 152
 | .uid| .typ| .sta| .why=> .nilFunc
 |k=>NW k
def np:Kd→AV
 | .nam=>cj 168
 | .dat k=>eD 174 [.fptr [nI k] 0]
 | .lnk=>cj 180
 | .lim=>cj 187
 | .cus s=>eD 154 [.fptr [.str s] 0]
 | .uid| .typ| .sta| .why=> .nilFunc
 |k=>NX k
def nq:Kd→AV
 | .nam=>cj 170
 | .dat k=>eD 175 [.fptr [nI k] 0]
 | .lnk=>cj 182
 | .lim=>cj 188
 | .cus s=>eD 156 [.fptr [.str s] 0]
 |_=> .nilFunc
def nr:Kd→AV
 | .nam=>cj 165
 | .lnk=>cj 177
 | .cus _=>cj 149
 |_=> .nilFunc
def gA (k:Kd):List AV:=[.str (aM k),I (iT k),.bool (pm k),.bool (gV k),ni k,nj k,nk k,su k,nn k,np k,nq k,nr k]
def nt (k:Kd):AV:= .agg (gA k)
def kr:AV:= .agg [.str [],I 0,.bool false,.bool false,.nilFunc,.nilFunc,.nilFunc,.nilFunc,.nilFunc,.nilFunc,.nilFunc,.nilFunc]
def kinds:List Kd:=[.uid,.nam,.typ,.alg,.len,.mask,.sta,.dat 0,.dat 1,.dat 2,.dat 3,.dat 4,.dat 5,.dat 6,.dat 7,.dat 8,.dat 9,.why,.lnk,.lim]
abbrev EM:=[AV.str [67,114,121,112,116,111,103,114,97,112,104,105,99,32,85,115,97,103,101,32,77,97,115,107],I 2,AV.bool false,AV.bool true,AV.nilFunc,AV.func (Fn.func 125) [] [],AV.nilFunc,AV.func (Fn.func 161) [] [AV.fptr [AV.func (Fn.func 124) [] []] 0,AV.fptr [I 0] 0,AV.fptr [I 2] 0],AV.func (Fn.func 162) [] [AV.fptr [I 2] 0,AV.fptr [I 0] 0,AV.fptr [I 1048575] 0],AV.func (Fn.func 164) [] [AV.fptr [AV.func (Fn.func 124) [] []] 0],AV.nilFunc,AV.nilFunc]
abbrev EN:=[AV.str [67,114,121,112,116,111,103,114,97,112,104,105,99,32,65,108,103,111,114,105,116,104,109],I 5,AV.bool false,AV.bool true,AV.nilFunc,AV.nilFunc,AV.nilFunc,AV.func (Fn.func 161) [] [AV.fptr [AV.func (Fn.func 132) [] []] 0,AV.fptr [I 1] 0,AV.fptr [I 5] 0],AV.func (Fn.func 162) [] [AV.fptr [I 5] 0,AV.fptr [I 1] 0,AV.fptr [I 100] 0],AV.func (Fn.func 164) [] [AV.fptr [AV.func (Fn.func 132) [] []] 0],AV.nilFunc,AV.nilFunc]
abbrev EO:=[AV.str [67,114,121,112,116,111,103,114,97,112,104,105,99,32,76,101,110,103,116,104],I 2,AV.bool false,AV.bool true,AV.nilFunc,AV.nilFunc,AV.nilFunc,AV.func (Fn.func 161) [] [AV.fptr [AV.func (Fn.func 133) [] []] 0,AV.fptr [I 1] 0,AV.fptr [I 2] 0],AV.func (Fn.func 162) [] [AV.fptr [I 2] 0,AV.fptr [I 1] 0,AV.fptr [I 100000] 0],AV.func (Fn.func 164) [] [AV.fptr [AV.func (Fn.func 133) [] []] 0],AV.nilFunc,AV.nilFunc]
abbrev EP:=[AV.str [80,114,111,99,101,115,115,32,83,116,97,114,116,32,68,97,116,101],I 9,AV.bool false,AV.bool true,AV.func (Fn.func 125) [] [],AV.func (Fn.func 125) [] [],AV.func (Fn.func 125) [] [],AV.func (Fn.func 172) [] [AV.fptr [I 2] 0],AV.func (Fn.func 173) [] [],AV.func (Fn.func 174) [] [AV.fptr [I 2] 0],AV.func (Fn.func 175) [] [AV.fptr [I 2] 0],AV.nilFunc]
abbrev EQ:=[AV.str [80,114,111,116,101,99,116,32,83,116,111,112,32,68,97,116,101],I 9,AV.bool false,AV.bool true,AV.func (Fn.func 137) [] [],AV.func (Fn.func 137) [] [],AV.func (Fn.func 137) [] [],AV.func (Fn.func 172) [] [AV.fptr [I 3] 0],AV.func (Fn.func 173) [] [],AV.func (Fn.func 174) [] [AV.fptr [I 3] 0],AV.func (Fn.func 175) [] [AV.fptr [I 3] 0],AV.nilFunc]
abbrev ER:=[AV.str [67,111,109,112,114,111,109,105,115,101,32,79,99,99,117,114,114,101,110,99,101,32,68,97,116,101],I 9,AV.bool false,AV.bool false,AV.nilFunc,AV.nilFunc,AV.nilFunc,AV.func (Fn.func 172) [] [AV.fptr [I 6] 0],AV.func (Fn.func 173) [] [],AV.func (Fn.func 174) [] [AV.fptr [I 6] 0],AV.func (Fn.func 175) [] [AV.fptr [I 6] 0],AV.nilFunc]
abbrev ET:=[AV.str [68,101,97,99,116,105,118,97,116,105,111,110,32,68,97,116,101],I 9,AV.bool false,AV.bool true,AV.func (Fn.func 137) [] [],AV.func (Fn.func 137) [] [],AV.nilFunc,AV.func (Fn.func 172) [] [AV.fptr [I 4] 0],AV.func (Fn.func 173) [] [],AV.func (Fn.func 174) [] [AV.fptr [I 4] 0],AV.func (Fn.func 175) [] [AV.fptr [I 4] 0],AV.nilFunc]
abbrev EU:=[AV.str [65,99,116,105,118,97,116,105,111,110,32,68,97,116,101],I 9,AV.bool false,AV.bool true,AV.func (Fn.func 125) [] [],AV.func (Fn.func 125) [] [],AV.nilFunc,AV.func (Fn.func 172) [] [AV.fptr [I 1] 0],AV.func (Fn.func 173) [] [],AV.func (Fn.func 174) [] [AV.fptr [I 1] 0],AV.func (Fn.func 175) [] [AV.fptr [I 1] 0],AV.nilFunc]
abbrev EV:=[AV.str [76,97,115,116,32,67,104,97,110,103,101,32,68,97,116,101],I 9,AV.bool false,AV.bool false,AV.nilFunc,AV.nilFunc,AV.nilFunc,AV.func (Fn.func 172) [] [AV.fptr [I 9] 0],AV.func (Fn.func 173) [] [],AV.func (Fn.func 174) [] [AV.fptr [I 9] 0],AV.func (Fn.func 175) [] [AV.fptr [I 9] 0],AV.nilFunc]
abbrev EW:=[AV.str [67,111,109,112,114,111,109,105,115,101,32,68,97,116,101],I 9,AV.bool false,AV.bool false,AV.nilFunc,AV.nilFunc,AV.nilFunc,AV.func (Fn.func 172) [] [AV.fptr [I 7] 0],AV.func (Fn.func 173) [] [],AV.func (Fn.func 174) [] [AV.fptr [I 7] 0],AV.func (Fn.func 175) [] [AV.fptr [I 7] 0],AV.nilFunc]
abbrev EX:=[AV.str [85,115,97,103,101,32,76,105,109,105,116,115],I 1,AV.bool false,AV.bool true,AV.func (Fn.func 158) [] [],AV.func (Fn.func 189) [] [],AV.func (Fn.func 189) [] [],AV.func (Fn.func 184) [] [],AV.func (Fn.func 185) [] [],AV.func (Fn.func 187) [] [],AV.func (Fn.func 188) [] [],AV.nilFunc]
abbrev EY:=[AV.str [68,101,115,116,114,111,121,32,68,97,116,101],I 9,AV.bool false,AV.bool false,AV.nilFunc,AV.nilFunc,AV.nilFunc,AV.func (Fn.func 172) [] [AV.fptr [I 5] 0],AV.func (Fn.func 173) [] [],AV.func (Fn.func 174) [] [AV.fptr [I 5] 0],AV.func (Fn.func 175) [] [AV.fptr [I 5] 0],AV.nilFunc]
abbrev EZ:=[AV.str [73,110,105,116,105,97,108,32,68,97,116,101],I 9,AV.bool false,AV.bool false,AV.nilFunc,AV.nilFunc,AV.nilFunc,AV.func (Fn.func 172) [] [AV.fptr [I 0] 0],AV.func (Fn.func 173) [] [],AV.func (Fn.func 174) [] [AV.fptr [I 0] 0],AV.func (Fn.func 175) [] [AV.fptr [I 0] 0],AV.nilFunc]
abbrev E8:=[AV.str [65,114,99,104,105,118,101,32,68,97,116,101],I 9,AV.bool false,AV.bool false,AV.nilFunc,AV.nilFunc,AV.nilFunc,AV.func (Fn.func 172) [] [AV.fptr [I 8] 0],AV.func (Fn.func 173) [] [],AV.func (Fn.func 174) [] [AV.fptr [I 8] 0],AV.func (Fn.func 175) [] [AV.fptr [I 8] 0],AV.nilFunc]
abbrev E9:=[AV.str [76,105,110,107],I 1,AV.bool true,AV.bool true,AV.func (Fn.func 158) [] [],AV.func (Fn.func 158) [] [],AV.func (Fn.func 158) [] [],AV.func (Fn.func 178) [] [],AV.func (Fn.func 179) [] [],AV.func (Fn.func 180) [] [],AV.func (Fn.func 182) [] [],AV.func (Fn.func 177) [] []]
abbrev Fa:=[AV.str [78,97,109,101],I 7,AV.bool true,AV.bool true,AV.func (Fn.func 158) [] [],AV.func (Fn.func 158) [] [],AV.func (Fn.func 158) [] [],AV.func (Fn.func 166) [] [],AV.func (Fn.func 167) [] [],AV.func (Fn.func 168) [] [],AV.func (Fn.func 170) [] [],AV.func (Fn.func 165) [] []]
abbrev Fb:=[AV.str [85,110,105,113,117,101,32,73,100,101,110,116,105,102,105,101,114],I 7,AV.bool false,AV.bool false,AV.nilFunc,AV.nilFunc,AV.nilFunc,AV.func (Fn.func 127) [] [],AV.nilFunc,AV.nilFunc,AV.nilFunc,AV.nilFunc]
abbrev Fd:=[AV.str [82,101,118,111,99,97,116,105,111,110,32,82,101,97,115,111,110],I 1,AV.bool false,AV.bool false,AV.nilFunc,AV.nilFunc,AV.nilFunc,AV.func (Fn.func 138) [] [],AV.nilFunc,AV.nilFunc,AV.nilFunc,AV.nilFunc]
abbrev Fe:=[AV.str [79,98,106,101,99,116,32,84,121,112,101],I 5,AV.bool false,AV.bool false,AV.nilFunc,AV.nilFunc,AV.nilFunc,AV.func (Fn.func 130) [] [],AV.nilFunc,AV.nilFunc,AV.nilFunc,AV.nilFunc]
abbrev Ff:=[AV.str [83,116,97,116,101],I 5,AV.bool false,AV.bool false,AV.nilFunc,AV.nilFunc,AV.nilFunc,AV.func (Fn.func 134) [] [],AV.nilFunc,AV.nilFunc,AV.nilFunc,AV.nilFunc]
abbrev Fg:=(AV.fsl true [AV.agg Fb,AV.agg Fa,AV.agg Fe,AV.agg EN,AV.agg EO,AV.agg EM,AV.agg Ff,AV.agg EZ,AV.agg EU,AV.agg EP,AV.agg EQ,AV.agg ET,AV.agg EY,AV.agg ER,AV.agg EW,AV.agg E8,AV.agg EV,AV.agg Fd,AV.agg E9,AV.agg EX])
theorem NY (Q:AV→Prop):aL Tryz.prog opts0 40 ej 91 [] [] 0 (fun v _ _=>Q v)=
  (Q Fg):=by kernel_rfl
theorem NZ:SC 91 [] (.fsl true (kinds.map nt)):=by
 refine cY (A:=ej) base0 jz (aN (LsOk.no rfl)) rfl ?_
 rw[NY]
 exact sk rfl (by kernel_rfl)
abbrev Fh (s:List UInt8):=[AV.str s,I 7,AV.bool true,AV.bool true,AV.func (Fn.func 158) [] [],AV.func (Fn.func 158) [] [],AV.func (Fn.func 158) [] [],AV.func (Fn.func 150) [] [AV.ptr 0 0],AV.func (Fn.func 152) [] [],AV.func (Fn.func 154) [] [AV.ptr 0 0],AV.func (Fn.func 156) [] [AV.ptr 0 0],AV.func (Fn.func 149) [] []]
theorem N0 (s:List UInt8) (Q:AV→ae→Nat→Prop):aL Tryz.prog opts0 40 ej 112 [.str s] [] 0 Q=
  (Q (AV.agg (Fh s)) [(1,some (Blk.cells (Fh s))),(0,some (Blk.cells [AV.str s]))] 24):=by kernel_rfl
theorem N3 (s:List UInt8):SC 112 [.str s] (nt (.cus s)):=by
 refine r5 (A:=ej) base0 jz (aN (LsOk.no rfl)) rfl ?_
 rw[N0]
 exact ⟨⟨6,rfl⟩,rfl⟩
def Fi (c:Bool) (s:List UInt8):be:=aq [] [] (cz [(111,.bool c),(112,nt (.cus s)),(91,.fsl true (kinds.map nt))]) [] []
abbrev Fj (s:List UInt8):=[AV.str s,I 7,AV.bool true,AV.bool true,AV.func (Fn.func 158) [] [],AV.func (Fn.func 158) [] [],AV.func (Fn.func 158) [] [],AV.func (Fn.func 150) [] [AV.fptr [AV.str s] 0],AV.func (Fn.func 152) [] [],AV.func (Fn.func 154) [] [AV.fptr [AV.str s] 0],AV.func (Fn.func 156) [] [AV.fptr [AV.str s] 0],AV.func (Fn.func 149) [] []]
theorem N4 (c:Bool) (s:List UInt8) (Q:AV→Prop):aL Tryz.prog opts0 40 (Fi c s) 61 [.str s] [] 0 (fun v _ _=>Q v)=
  (SC 111 [AV.str s] (AV.bool c)∧ak c (SC 112 [AV.str s] (AV.agg (Fj s))∧Q (AV.tuple [AV.agg (Fj s),AV.bool true])) (SC 91 [] Fg∧ak (aB [85,110,105,113,117,101,32,73,100,101,110,116,105,102,105,101,114] s) (Q (AV.tuple [AV.agg Fb,AV.bool true])) (ak (aB [78,97,109,101] s) (Q (AV.tuple [AV.agg Fa,AV.bool true])) (ak (aB [79,98,106,101,99,116,32,84,121,112,101] s) (Q (AV.tuple [AV.agg Fe,AV.bool true])) (ak (aB [67,114,121,112,116,111,103,114,97,112,104,105,99,32,65,108,103,111,114,105,116,104,109] s) (Q (AV.tuple [AV.agg EN,AV.bool true])) (ak (aB [67,114,121,112,116,111,103,114,97,112,104,105,99,32,76,101,110,103,116,104] s) (Q (AV.tuple [AV.agg EO,AV.bool true])) (ak (aB [67,114,121,112,116,111,103,114,97,112,104,105,99,32,85,115,97,103,101,32,77,97,115,107] s) (Q (AV.tuple [AV.agg EM,AV.bool true])) (ak (aB [83,116,97,116,101] s) (Q (AV.tuple [AV.agg Ff,AV.bool true])) (ak (aB [73,110,105,116,105,97,108,32,68,97,116,101] s) (Q (AV.tuple [AV.agg EZ,AV.bool true])) (ak (aB [65,99,116,105,118,97,116,105,111,110,32,68,97,116,101] s) (Q (AV.tuple [AV.agg EU,AV.bool true])) (ak (aB [80,114,111,99,101,115,115,32,83,116,97,114,116,32,68,97,116,101] s) (Q (AV.tuple [AV.agg EP,AV.bool true])) (ak (aB [80,114,111,116,101,99,116,32,83,116,111,112,32,68,97,116,101] s) (Q (AV.tuple [AV.agg EQ,AV.bool true])) (ak (aB [68,101,97,99,116,105,118,97,116,105,111,110,32,68,97,116,101] s) (Q (AV.tuple [AV.agg ET,AV.bool true])) (ak (aB [68,101,115,116,114,111,121,32,68,97,116,101] s) (Q (AV.tuple [AV.agg EY,AV.bool true])) (ak (aB [67,111,109,112,114,111,109,105,115,101,32,79,99,99,117,114,114,101,110,99,101,32,68,97,116,101] s) (Q (AV.tuple [AV.agg ER,AV.bool true])) (ak (aB [67,111,109,112,114,111,109,105,115,101,32,68,97,116,101] s) (Q (AV.tuple [AV.agg EW,AV.bool true])) (ak (aB [65,114,99,104,105,118,101,32,68,97,116,101] s) (Q (AV.tuple [AV.agg E8,AV.bool true])) (ak (aB [76,97,115,116,32,67,104,97,110,103,101,32,68,97,116,101] s) (Q (AV.tuple [AV.agg EV,AV.bool true])) (ak (aB [82,101,118,111,99,97,116,105,111,110,32,82,101,97,115,111,110] s) (Q (AV.tuple [AV.agg Fd,AV.bool true])) (ak (aB [76,105,110,107] s) (Q (AV.tuple [AV.agg E9,AV.bool true])) (ak (aB [85,115,97,103,101,32,76,105,109,105,116,115] s) (Q (AV.tuple [AV.agg EX,AV.bool true])) (Q (AV.tuple [AV.agg [AV.str [],I 0,AV.bool false,AV.bool false,AV.nilFunc,AV.nilFunc,AV.nilFunc,AV.nilFunc,AV.nilFunc,AV.nilFunc,AV.nilFunc,AV.nilFunc],AV.bool false]))))))))))))))))))))))):=by kernel_rfl
def gW (s:List UInt8):List Kd→Option Kd
 |[]=>none
 |k::r=>match aB (aM k) s with
  |true=>some k
  |false=>gW s r
def eb (c:Bool) (s:List UInt8):Option Kd:=match c with
 |true=>some (.cus s)
 |false=>gW s kinds
def nu:Option Kd→AV
 |some k=> .tuple [nt k,.bool true]
 |none=> .tuple [kr,.bool false]
theorem zM (k:Kd):ac (nt k)=true:=by
 cases k with
 |dat k=>
  have h1:ac (pn k)=true:=by unfold pn;split<;>rfl
  have h2:ac (ss k)=true:=by unfold ss;split<;>rfl
  simp[nt,gA,ac,ad,ni,nj,nk,h1,h2,su,nn,np,nq,nr,cj,eD,nI]
 |_=>rfl
set_option maxRecDepth 20000 in
theorem zN {c:Bool} {s:List UInt8} (hc:SC 111 [.str s] (.bool c)):SC 61 [.str s] (nu (eb c s)):=by
 refine cY (A:=Fi c s) base0 am (aN (LsOk.no rfl)) rfl ?_
 rw[N4]
 refine And.intro hc (az (fun e=>And.intro (N3 s) ?_) (fun e=>And.intro NZ ?_))
 ·subst e;exact sk rfl (by simp[eb,nu,ac,ad,zM])
 ·subst e
  simp only[eb]
  repeat' refine az (fun _=> ?_) (fun _=> ?_)
  all_goals
   simp only[kinds,gW,aM,zJ, *]
   exact sk rfl (by simp[nu,ac,ad,zM,kr])
end
noncomputable def bI:bi:={how:=fun f=>match fa [119,120,121,193,194,191] f with|true=> .keep|false=> .pure,summ:=fun _ _=>none,glob:=gl,lf:=100000}
set_option maxRecDepth 20000 in
theorem bL {f:FuncId} {args:List AV} {v:AV} (hcl:ad args=true) (h:bF Tryz.prog bI 40 f args=some v) (hv:ac v=true):SC f args v:=
 Nz (O:=bI) Tryz.mixed (fun _ _ _ h=>by cases h) zG yf hcl h hv
def ii:List (List UInt8):=[[111,110,101],[116,119,111],[116,104,114,101,101],[102,111,117,114],[102,105,118,101],[],[53],[49],[50],[51],[52],[54],[55],[57,57],[120],[49,50,51,52,53,54,55,56],[109],[108,111,115,116]]
def da:List UInt8→Bool
 |120::45::_=>true
 |_=>false
theorem N5:bF Tryz.prog bI 40 111 [.str [85,110,105,113,117,101,32,73,100,101,110,116,105,102,105,101,114]]=some (.bool false):=by kernel_rfl
theorem N6:bF Tryz.prog bI 40 114 [.str [85,110,105,113,117,101,32,73,100,101,110,116,105,102,105,101,114]]=some (.bool false):=by kernel_rfl
theorem N7:bF Tryz.prog bI 40 111 [.str [78,97,109,101]]=some (.bool false):=by kernel_rfl
theorem N8:bF Tryz.prog bI 40 114 [.str [78,97,109,101]]=some (.bool false):=by kernel_rfl
theorem N9:bF Tryz.prog bI 40 111 [.str [79,98,106,101,99,116,32,84,121,112,101]]=some (.bool false):=by kernel_rfl
theorem Oa:bF Tryz.prog bI 40 114 [.str [79,98,106,101,99,116,32,84,121,112,101]]=some (.bool false):=by kernel_rfl
theorem Oc:bF Tryz.prog bI 40 111 [.str [67,114,121,112,116,111,103,114,97,112,104,105,99,32,65,108,103,111,114,105,116,104,109]]=some (.bool false):=by kernel_rfl
theorem Od:bF Tryz.prog bI 40 114 [.str [67,114,121,112,116,111,103,114,97,112,104,105,99,32,65,108,103,111,114,105,116,104,109]]=some (.bool false):=by kernel_rfl
theorem Oe:bF Tryz.prog bI 40 111 [.str [67,114,121,112,116,111,103,114,97,112,104,105,99,32,76,101,110,103,116,104]]=some (.bool false):=by kernel_rfl
theorem Of:bF Tryz.prog bI 40 114 [.str [67,114,121,112,116,111,103,114,97,112,104,105,99,32,76,101,110,103,116,104]]=some (.bool false):=by kernel_rfl
theorem Og:bF Tryz.prog bI 40 111 [.str [67,114,121,112,116,111,103,114,97,112,104,105,99,32,85,115,97,103,101,32,77,97,115,107]]=some (.bool false):=by kernel_rfl
theorem Oh:bF Tryz.prog bI 40 114 [.str [67,114,121,112,116,111,103,114,97,112,104,105,99,32,85,115,97,103,101,32,77,97,115,107]]=some (.bool false):=by kernel_rfl
theorem Oi:bF Tryz.prog bI 40 111 [.str [83,116,97,116,101]]=some (.bool false):=by kernel_rfl
theorem Oj:bF Tryz.prog bI 40 114 [.str [83,116,97,116,101]]=some (.bool false):=by kernel_rfl
theorem Ok:bF Tryz.prog bI 40 111 [.str [73,110,105,116,105,97,108,32,68,97,116,101]]=some (.bool false):=by kernel_rfl
theorem Ol:bF Tryz.prog bI 40 114 [.str [73,110,105,116,105,97,108,32,68,97,116,101]]=some (.bool false):=by kernel_rfl
theorem Om:bF Tryz.prog bI 40 111 [.str [65,99,116,105,118,97,116,105,111,110,32,68,97,116,101]]=some (.bool false):=by kernel_rfl
theorem On:bF Tryz.prog bI 40 114 [.str [65,99,116,105,118,97,116,105,111,110,32,68,97,116,101]]=some (.bool false):=by kernel_rfl
theorem Oo:bF Tryz.prog bI 40 111 [.str [80,114,111,99,101,115,115,32,83,116,97,114,116,32,68,97,116,101]]=some (.bool false):=by kernel_rfl
theorem Oq:bF Tryz.prog bI 40 114 [.str [80,114,111,99,101,115,115,32,83,116,97,114,116,32,68,97,116,101]]=some (.bool false):=by kernel_rfl
theorem Ot:bF Tryz.prog bI 40 111 [.str [80,114,111,116,101,99,116,32,83,116,111,112,32,68,97,116,101]]=some (.bool false):=by kernel_rfl
theorem Ou:bF Tryz.prog bI 40 114 [.str [80,114,111,116,101,99,116,32,83,116,111,112,32,68,97,116,101]]=some (.bool false):=by kernel_rfl
theorem Ov:bF Tryz.prog bI 40 111 [.str [68,101,97,99,116,105,118,97,116,105,111,110,32,68,97,116,101]]=some (.bool false):=by kernel_rfl
theorem Ow:bF Tryz.prog bI 40 114 [.str [68,101,97,99,116,105,118,97,116,105,111,110,32,68,97,116,101]]=some (.bool false):=by kernel_rfl
theorem Ox:bF Tryz.prog bI 40 111 [.str [68,101,115,116,114,111,121,32,68,97,116,101]]=some (.bool false):=by kernel_rfl
theorem Oy:bF Tryz.prog bI 40 114 [.str [68,101,115,116,114,111,121,32,68,97,116,101]]=some (.bool false):=by kernel_rfl
theorem Oz:bF Tryz.prog bI 40 111 [.str [67,111,109,112,114,111,109,105,115,101,32,79,99,99,117,114,114,101,110,99,101,32,68,97,116,101]]=some (.bool false):=by kernel_rfl
theorem OA:bF Tryz.prog bI 40 114 [.str [67,111,109,112,114,111,109,105,115,101,32,79,99,99,117,114,114,101,110,99,101,32,68,97,116,101]]=some (.bool false):=by kernel_rfl
theorem OB:bF Tryz.prog bI 40 111 [.str [67,111,109,112,114,111,109,105,115,101,32,68,97,116,101]]=some (.bool false):=by kernel_rfl
theorem OC:bF Tryz.prog bI 40 114 [.str [67,111,109,112,114,111,109,105,115,101,32,68,97,116,101]]=some (.bool false):=by kernel_rfl
theorem OD:bF Tryz.prog bI 40 111 [.str [65,114,99,104,105,118,101,32,68,97,116,101]]=some (.bool false):=by kernel_rfl
theorem OE:bF Tryz.prog bI 40 114 [.str [65,114,99,104,105,118,101,32,68,97,116,101]]=some (.bool false):=by kernel_rfl
theorem OG:bF Tryz.prog bI 40 111 [.str [76,97,115,116,32,67,104,97,110,103,101,32,68,97,116,101]]=some (.bool false):=by kernel_rfl
theorem OH:bF Tryz.prog bI 40 114 [.str [76,97,115,116,32,67,104,97,110,103,101,32,68,97,116,101]]=some (.bool false):=by kernel_rfl
theorem OI:bF Tryz.prog bI 40 111 [.str [82,101,118,111,99,97,116,105,111,110,32,82,101,97,115,111,110]]=some (.bool false):=by kernel_rfl
theorem OJ:bF Tryz.prog bI 40 114 [.str [82,101,118,111,99,97,116,105,111,110,32,82,101,97,115,111,110]]=some (.bool false):=by kernel_rfl
theorem OK:bF Tryz.prog bI 40 111 [.str [76,105,110,107]]=some (.bool false):=by kernel_rfl
theorem OL:bF Tryz.prog bI 40 114 [.str [76,105,110,107]]=some (.bool false):=by kernel_rfl
theorem OM:bF Tryz.prog bI 40 111 [.str [85,115,97,103,101,32,76,105,109,105,116,115]]=some (.bool false):=by kernel_rfl
theorem ON:bF Tryz.prog bI 40 114 [.str [85,115,97,103,101,32,76,105,109,105,116,115]]=some (.bool false):=by kernel_rfl
theorem OO:bF Tryz.prog bI 40 111 [.str [120,45,97]]=some (.bool true):=by kernel_rfl
theorem OP:bF Tryz.prog bI 40 114 [.str [120,45,97]]=some (.bool true):=by kernel_rfl
theorem OQ:bF Tryz.prog bI 40 111 [.str [120,45,98]]=some (.bool true):=by kernel_rfl
theorem OR:bF Tryz.prog bI 40 114 [.str [120,45,98]]=some (.bool true):=by kernel_rfl
theorem OS:bF Tryz.prog bI 40 111 [.str [120,45]]=some (.bool true):=by kernel_rfl
theorem OT:bF Tryz.prog bI 40 114 [.str [120,45]]=some (.bool true):=by kernel_rfl
theorem OU:bF Tryz.prog bI 40 111 [.str [121]]=some (.bool false):=by kernel_rfl
theorem OV:bF Tryz.prog bI 40 114 [.str [121]]=some (.bool false):=by kernel_rfl
theorem uQ:∀s∈nameL,SC 111 [.str s] (.bool (da s)):=by
 simp only[nameL,List.forall_mem_cons]
 exact ⟨bL rfl N5 rfl,bL rfl N7 rfl,bL rfl N9 rfl,bL rfl Oc rfl,bL rfl Oe rfl,bL rfl Og rfl,bL rfl Oi rfl,bL rfl Ok rfl,bL rfl Om rfl,bL rfl Oo rfl,bL rfl Ot rfl,bL rfl Ov rfl,bL rfl Ox rfl,bL rfl Oz rfl,bL rfl OB rfl,bL rfl OD rfl,bL rfl OG rfl,bL rfl OI rfl,bL rfl OK rfl,bL rfl OM rfl,bL rfl OO rfl,bL rfl OQ rfl,bL rfl OS rfl,bL rfl OU rfl,fun _ h=>by cases h⟩
theorem Fk:∀s∈nameL,SC 114 [.str s] (.bool (da s)):=by
 simp only[nameL,List.forall_mem_cons]
 exact ⟨bL rfl N6 rfl,bL rfl N8 rfl,bL rfl Oa rfl,bL rfl Od rfl,bL rfl Of rfl,bL rfl Oh rfl,bL rfl Oj rfl,bL rfl Ol rfl,bL rfl On rfl,bL rfl Oq rfl,bL rfl Ou rfl,bL rfl Ow rfl,bL rfl Oy rfl,bL rfl OA rfl,bL rfl OC rfl,bL rfl OE rfl,bL rfl OH rfl,bL rfl OJ rfl,bL rfl OL rfl,bL rfl ON rfl,bL rfl OP rfl,bL rfl OR rfl,bL rfl OT rfl,bL rfl OV rfl,fun _ h=>by cases h⟩
def nv {α:Type} (l:List α) (i:Nat) (x:α):List α:=l.take i++x::l.drop (i+1)
noncomputable section
theorem uR {p:Nat→Prop} (n:Nat) (hn:p n) (hs:∀i,i<n→p (i+1)→p i):∀i,i≤n→p i:=by
 intro i hi
 obtain ⟨m,rfl⟩:∃m,n=i+m:=⟨n-i,by omega⟩
 clear hi
 induction m generalizing i with
 |zero=>exact hn
 |succ m ih=>exact hs i (by omega) (ih (i+1) (by rw[show i+1+m=i+(m+1) by omega];exact hn) (by intro j hj;exact hs j (by omega)))
abbrev u8 (b:UInt8):AV:= .int .u8 (.ofNat b.toNat)
theorem Fl {f:Bool} {s:List UInt8} {i:Nat} {b:UInt8} (hx:s[i]? =some b):ax Tryz.prog 23 (.fsl f (ap s)) (.int .i64 (.ofNat i))=some (.fptr [u8 b] 0):=
 fY (v:=u8 b) (e:=5) (sz:=1) (by kernel_rfl) (by kernel_rfl) (by rw[o3,List.getElem?_map,hx];rfl) rfl
def po (D E:List AV) (i:Nat):View:=⟨[(0,.fsl false D),(1,.fsl false E),(4,.bool false),(12,I (.ofNat (ab D))),(13,I (.ofNat i))],[],[],0,26⟩
def eqF:View:=⟨[(4,.bool false)],[],[],0,26⟩
def zP (a b:UInt8):be:=aq [(6,2,.res (.fptr [u8 a] 0)),(6,6,.res (.fptr [u8 b] 0))] [] aA [] []
@[simp] abbrev lz:=(AV.bool false=AV.bool false∧true=true)
@[simp] abbrev uS (D:List AV):=(I (Int.ofNat (ab D))=I (Int.ofNat (ab D))∧ac (I (Int.ofNat (ab D)))=true)
@[simp] abbrev uT (D:List AV):=(AV.fsl false D=AV.fsl false D∧ac (AV.fsl false D)=true)
@[simp] abbrev uU (E:List AV):=(AV.fsl false E=AV.fsl false E∧ac (AV.fsl false E)=true)
theorem Fm (D E:List AV) (i j:Nat) (a b:UInt8) (N:Prop) (Q:AExit→St→Prop):aw Tryz.prog opts0 40 (zP a b) (ah Tryz.prog 84 5) (po D E i).st (bf 0 [] (po D E j) N [] eqF Q)=
  (ak (ar (Int.ofNat i) (Int.ofNat (ab D))) (ax Tryz.prog 23 (AV.fsl false D) (I (Int.ofNat i))=some (AV.fptr [AV.int IntKind.u8 (Int.ofNat a.toNat)] 0)∧ax Tryz.prog 23 (AV.fsl false E) (I (Int.ofNat i))=some (AV.fptr [AV.int IntKind.u8 (Int.ofNat b.toNat)] 0)∧ak (!aF (Int.ofNat a.toNat) (Int.ofNat b.toNat)) (((lz∧True)∧True∧True)∧Q AExit.ret eqF.st) ((((uT D)∧(uU E)∧lz∧(uS D)∧(I (af IntKind.i64 (Int.ofNat i+1))=I (Int.ofNat j)∧ac (I (Int.ofNat j))=true)∧True)∧True∧True)∧N)) (((lz∧True)∧True∧True)∧Q (AExit.exit 0) eqF.st)):=by kernel_rfl
def Fo (D E:List AV) (p:Prop) (r:Bool):bg:=fun s Q=>p∧bR 0 [] (po D E 0) s∧ak r (Q (.exit 0) eqF.st) (Q .ret eqF.st)
theorem OW (D E:List AV) (p:Prop) (r:Bool) (Q:AV→Prop):aL Tryz.prog opts0 40 (aq [] [(5,Fo D E p r)] aA [] []) 84 [.fsl false D,.fsl false E] [] 0 (fun v _ _=>Q v)=
  (ak (!aF (Int.ofNat (ab D)) (Int.ofNat (ab E))) (Q (AV.bool false)) (p∧(((uT D)∧(uU E)∧lz∧(uS D)∧(I 0=I 0∧true=true)∧True)∧True∧True)∧ak r (Q (AV.bool true)) (Q (AV.bool false)))):=by kernel_rfl
theorem OX (a b:UInt8) (s t:List UInt8):aB (a::s) (b::t)=(Nat.beq a.toNat b.toNat&&aB s t):=by
 rw[Bool.eq_iff_iff,Bool.and_eq_true,beqBytes_iff,beqBytes_iff,beq_iff,List.cons.injEq]
 exact and_congr_left fun _=>⟨fun h=>by rw[h],fun h=>UInt8.toNat_inj.1 h⟩
theorem Fp (a b:Nat):aF (.ofNat a) (.ofNat b)=Nat.beq a b:=rfl
theorem OY {s t:List UInt8} {Q:AExit→St→Prop} (hl:s.length=t.length) (hb:s.length≤cD):∀i,i≤s.length→(ak (aB (s.drop i) (t.drop i)) (Q (.exit 0) eqF.st) (Q .ret eqF.st)→ALp Tryz.prog opts0.glob 0 (ah Tryz.prog 84 5) (po (ap s) (ap t) i).st Q):=by
 refine uR _ (fun hq=> ?_) (fun i hi ih hq=> ?_)
 ·refine ALp.round (A:=zP 0 0) (V2:=po (ap s) (ap t) 0) (F:=eqF) (lk:=[]) (lk':=[]) base0 am (LsOk.no rfl) .refl ?_
  rw[Fm]
  refine az (fun h=> ?_) (fun _=> ?_)
  ·have h:=ltInt_iff.1 h
   simp only[uv,Int.ofNat_eq_natCast] at h
   omega
  ·rw[List.drop_of_length_le (by omega),List.drop_of_length_le (by omega)] at hq
   exact ⟨by simp,hq⟩
 ·have h2:i<t.length:=by omega
  have g1:=List.getElem?_eq_getElem hi
  have g2:=List.getElem?_eq_getElem h2
  rw[List.drop_eq_getElem_cons hi,List.drop_eq_getElem_cons h2,OX] at hq
  revert g1 g2 hq
  generalize s[i]=a
  generalize t[i]=b
  intro hq g1 g2
  refine ALp.round (A:=zP a b) (V2:=po (ap s) (ap t) (i+1)) (F:=eqF) (lk:=[]) (lk':=[]) base0 am (LsOk.no rfl) .refl ?_
  rw[Fm]
  have hb:s.length≤1099511627776:=hb
  refine az (fun _=>⟨Fl g1,Fl g2,az (fun h=> ?_) (fun h=> ?_)⟩) (fun h=> ?_)
  ·rw[Fp,Bool.not_eq_true'] at h
   rw[h] at hq
   exact ⟨by simp,hq⟩
  ·rw[Fp,Bool.not_eq_false'] at h
   rw[h] at hq
   rw[co (by simp;omega) (by simp;omega)]
   exact ⟨by simp[ac],ih hq⟩
  ·have h:=ltInt_false.1 h
   simp only[uv,Int.ofNat_eq_natCast] at h
   omega
theorem OZ:br (cy Tryz.prog 84) 5=[ah Tryz.prog 84 5]:=by kernel_rfl
theorem O0 {s t:List UInt8} (h:aB s t=true):s.length=t.length:=by rw[beqBytes_iff.1 h]
theorem O1 {s t:List UInt8} (hb:s.length≤cD):SC 84 [.fsl false (ap s),.fsl false (ap t)] (.bool (aB s t)):=by
 refine eB (A:=aq [] [(5,Fo (ap s) (ap t) (s.length=t.length) (aB s t))] aA [] []) base0 am
  (aN (LsOk.at1 rfl OZ fun s Q hs=> .seen base0.glob hs.2.1 (OY hs.1 hb 0 (by omega) (by simpa using hs.2.2)))) (by simp[ad,ac]) rfl ?_
 rw[OW]
 simp only[uv]
 refine az (fun e=> ?_) (fun e=>⟨?_,by simp[ac],az (fun e6=>by rw[e6]) (fun e6=>by rw[e6])⟩)
 ·refine congrArg AV.bool ?_
  cases h:aB s t with
  |false=>rfl
  |true=>
   rw[O0 h,Bool.not_eq_true',beqInt_false] at e
   exact absurd rfl e
 ·rw[Bool.not_eq_false',beqInt_iff] at e
  exact Int.ofNat.inj e
def pp (D E:List AV) (i:Nat):View:=⟨[(1,.fsl false E),(2,cj 33),(6,.bool false),(15,.fsl false D),(16,I (.ofNat (ab D))),(17,I (.ofNat i))],[],[],0,32⟩
def efF:View:=⟨[(6,.bool false)],[],[],0,32⟩
def zQ (c c':List AV) (r:Bool):be:=aq [(5,1,.res (.fptr c 0)),(6,2,.res (.fptr c' 0))] [] (cz [(33,.bool r)]) [] []
@[simp] abbrev Fq:=(AV.func (Fn.func 33) [] []=AV.func (Fn.func 33) [] []∧true=true)
theorem Fr (a b c a' b' c':Int) (D E F K F' K':List AV) (i j:Nat) (r:Bool) (N:Prop) (Q:AExit→St→Prop):aw Tryz.prog opts0 40 (zQ (ay a b c F K) (ay a' b' c' F' K') r) (ah Tryz.prog 85 5) (pp D E i).st (bf 0 [] (pp D E j) N [] efF Q)=
  (ak (ar (Int.ofNat i) (Int.ofNat (ab D))) (ax Tryz.prog 35 (AV.fsl false D) (I (Int.ofNat i))=some (AV.fptr [I a,I b,I c,AV.fsl false F,AV.fsl false K] 0)∧ax Tryz.prog 35 (AV.fsl false E) (I (Int.ofNat i))=some (AV.fptr [I a',I b',I c',AV.fsl false F',AV.fsl false K'] 0)∧SC 33 [AV.agg [I a,I b,I c,AV.fsl false F,AV.fsl false K],AV.agg [I a',I b',I c',AV.fsl false F',AV.fsl false K']] (AV.bool r)∧ak (!r) (((lz∧True)∧True∧True)∧Q AExit.ret efF.st) ((((uU E)∧Fq∧lz∧(uT D)∧(uS D)∧(I (af IntKind.i64 (Int.ofNat i+1))=I (Int.ofNat j)∧ac (I (Int.ofNat j))=true)∧True)∧True∧True)∧N)) (((lz∧True)∧True∧True)∧Q (AExit.exit 0) efF.st)):=by kernel_rfl
def Fs (D E:List AV) (p:Prop) (r:Bool):bg:=fun s Q=>p∧bR 0 [] (pp D E 0) s∧ak r (Q (.exit 0) efF.st) (Q .ret efF.st)
theorem O2 (D E:List AV) (p:Prop) (r:Bool) (Q:AV→Prop):aL Tryz.prog opts0 40 (aq [] [(5,Fs D E p r)] aA [] []) 85 [.fsl false D,.fsl false E,cj 33] [] 0 (fun v _ _=>Q v)=
  (ak (!aF (Int.ofNat (ab D)) (Int.ofNat (ab E))) (Q (AV.bool false)) (p∧(((uU E)∧Fq∧lz∧(uT D)∧(uS D)∧(I 0=I 0∧true=true)∧True)∧True∧True)∧ak r (Q (AV.bool true)) (Q (AV.bool false)))):=by kernel_rfl
theorem O3 (a b c a' b' c':Int) (F K F' K':List AV) (r r':Bool) (Q:AV→Prop):aL Tryz.prog opts0 40 (aq [] [] (cz [(84,.bool r),(85,.bool r')]) [] []) 33 [.agg (ay a b c F K),.agg (ay a' b' c' F' K')] [] 0 (fun v _ _=>Q v)=
  (ak (aF a a') (ak (aF b b') (ak (aF c c') (SC 84 [AV.fsl false F,AV.fsl false F'] (AV.bool r)∧ak r (SC 85 [AV.fsl false K,AV.fsl false K',AV.func (Fn.func 33) [] []] (AV.bool r')∧Q (AV.bool r')) (Q (AV.bool false))) (Q (AV.bool false))) (Q (AV.bool false))) (Q (AV.bool false))):=by kernel_rfl
theorem O4 {ks ks':List It} {Q:AExit→St→Prop} (hl:ks.length=ks'.length) (hb:ks.length≤cD)
  (ihs:∀ (i:Nat) (x z:It),ks[i]? =some x→ks'[i]? =some z→SC 33 [bu x,bu z] (.bool (dG x z))):
  ∀i,i≤ks.length→(ak (eA (ks.drop i) (ks'.drop i)) (Q (.exit 0) efF.st) (Q .ret efF.st)→ALp Tryz.prog opts0.glob 0 (ah Tryz.prog 85 5) (pp (an ks) (an ks') i).st Q):=by
 refine uR _ (fun hq=> ?_) (fun i hi ih hq=> ?_)
 ·refine ALp.round (A:=zQ (ay 0 0 0 [] []) (ay 0 0 0 [] []) true) (V2:=pp (an ks) (an ks') 0) (F:=efF) (lk:=[]) (lk':=[]) base0 am (LsOk.no rfl) .refl ?_
  rw[Fr]
  refine az (fun h=> ?_) (fun _=> ?_)
  ·have h:=ltInt_iff.1 h
   simp only[aI,gT,Int.ofNat_eq_natCast] at h
   omega
  ·rw[List.drop_of_length_le (by omega),List.drop_of_length_le (by omega)] at hq
   exact ⟨by simp,hq⟩
 ·have h2:i<ks'.length:=by omega
  have g1:=List.getElem?_eq_getElem hi
  have g2:=List.getElem?_eq_getElem h2
  rw[List.drop_eq_getElem_cons hi,List.drop_eq_getElem_cons h2,eA] at hq
  have hs:=ihs i _ _ g1 g2
  revert g1 g2 hq hs
  generalize ks[i]=x
  generalize ks'[i]=z
  intro hq g1 g2 hs
  obtain ⟨a,b,c,e,l⟩:=x
  obtain ⟨a',b',c',e',l'⟩:=z
  refine ALp.round (A:=zQ (ay a b c (ap e) (an l)) (ay a' b' c' (ap e') (an l')) (dG (.mk a b c e l) (.mk a' b' c' e' l'))) (V2:=pp (an ks) (an ks') (i+1)) (F:=efF) (lk:=[]) (lk':=[]) base0 am (LsOk.no rfl) .refl ?_
  rw[Fr]
  have hb:ks.length≤1099511627776:=hb
  refine az (fun _=>⟨lx g1,lx g2,hs,az (fun h=> ?_) (fun h=> ?_)⟩) (fun h=> ?_)
  ·rw[Bool.not_eq_true'] at h
   rw[h] at hq
   exact ⟨by simp,hq⟩
  ·rw[Bool.not_eq_false'] at h
   rw[h] at hq
   rw[co (by simp;omega) (by simp;omega)]
   exact ⟨by simp[ac,fF],ih hq⟩
  ·have h:=ltInt_false.1 h
   simp only[aI,gT,Int.ofNat_eq_natCast] at h
   omega
theorem O5:br (cy Tryz.prog 85) 5=[ah Tryz.prog 85 5]:=by kernel_rfl
theorem O6 {ks ks':List It} (hb:ks.length≤cD)
  (ihs:∀ (i:Nat) (x z:It),ks[i]? =some x→ks'[i]? =some z→SC 33 [bu x,bu z] (.bool (dG x z))):
  SC 85 [.fsl false (an ks),.fsl false (an ks'),cj 33] (.bool (eA ks ks')):=by
 refine eB (A:=aq [] [(5,Fs (an ks) (an ks') (ks.length=ks'.length) (eA ks ks'))] aA [] []) base0 am
  (aN (LsOk.at1 rfl O5 fun s Q hs=> .seen base0.glob hs.2.1 (O4 hs.1 hb ihs 0 (by omega) (by simpa using hs.2.2)))) (by simp[ad,ac,fF,cj]) rfl ?_
 rw[O2]
 simp only[aI,gT]
 refine az (fun e=> ?_) (fun e=>⟨?_,by simp[ac,fF],az (fun e6=>by rw[e6]) (fun e6=>by rw[e6])⟩)
 ·refine congrArg AV.bool ?_
  cases h:eA ks ks' with
  |false=>rfl
  |true=>
   rw[El h,Bool.not_eq_true',beqInt_false] at e
   exact absurd rfl e
 ·rw[Bool.not_eq_false',beqInt_iff] at e
  exact Int.ofNat.inj e
theorem O7 {t y n t' y' n':Int} {d d':List UInt8} {ks ks':List It} (h:dF cD (.mk t y n d ks))
  (ih:∀ (i:Nat) (x z:It),ks[i]? =some x→ks'[i]? =some z→SC 33 [bu x,bu z] (.bool (dG x z))):
  SC 33 [bu (.mk t y n d ks),bu (.mk t' y' n' d' ks')] (.bool (dG (.mk t y n d ks) (.mk t' y' n' d' ks'))):=by
 simp only[dF] at h
 obtain ⟨h3,h4,h5⟩:=h
 refine eB (A:=aq [] [] (cz [(84,.bool (aB d d')),(85,.bool (eA ks ks'))]) [] []) base0 am (aN (LsOk.no rfl)) (by simp[ad,sf]) rfl ?_
 rw[pd,pd,O3]
 simp only[dG]
 refine az (fun e=>az (fun e2=>az (fun e3=>⟨O1 h3,az (fun e4=>⟨O6 h4 ih, ?_⟩) (fun e4=> ?_)⟩) (fun e3=> ?_)) (fun e2=> ?_)) (fun e=> ?_)
 all_goals simp only[*,Bool.true_and,Bool.false_and]
mutual
theorem Ft:∀x z:It,dF cD x→SC 33 [bu x,bu z] (.bool (dG x z))
 | .mk _ _ _ _ ks,.mk _ _ _ _ _ks',h=>O7 h fun _i x z hx _=>Fu ks x (List.mem_of_getElem? hx) z (okIs_iff.1 h.2.2 x (List.mem_of_getElem? hx))
theorem Fu:∀ks:List It,∀x∈ks,∀z,dF cD x→SC 33 [bu x,bu z] (.bool (dG x z))
 |[],_,hx,_,_=>by cases hx
 |k::r,x,hx,z,h=>by
  have h1:=Ft k z
  have h2:=Fu r x
  rcases List.mem_cons.1 hx with e|hx
  ·rw[e] at h⊢;exact h1 h
  ·exact h2 hx z h
end
end
end Go.Proofs.YtjhggnebkfpgcaaGreatDoor
namespace Go.Proofs.YtjhggnebkfpgcaaGreatDoor
set_option maxRecDepth 20000
open Go Go.RowKit
open Go.Proofs.Abs
noncomputable section
def fG (s:List UInt8) (C:List AV) (i:Nat):View:=⟨[(1,.str s),(5,.nilsl),(9,.fsl false C),(10,I (.ofNat (ab C))),(11,I (.ofNat i))],[],[],1,26⟩
def eE (s:List UInt8) (C:List AV) (i k:Nat) (es:List AV):View:=⟨[(1,.str s),(9,.fsl false C),(10,I (.ofNat (ab C))),(11,I (.ofNat i))],[(5,.rsl true 0 0 k 1)],[(0,.cells es,.whole)],1,26⟩
def jD (n t:List UInt8):be:=aq [(4,1,.res (.fptr [.str n,.str t] 0))] [] aA [] []
@[simp] abbrev ij (C:List AV):=(I (Int.ofNat (ab C))=I (Int.ofNat (ab C))∧ac (I (Int.ofNat (ab C)))=true)
@[simp] abbrev il (C:List AV):=(AV.fsl false C=AV.fsl false C∧ac (AV.fsl false C)=true)
@[simp] abbrev im (s:List UInt8):=(AV.str s=AV.str s∧ac (AV.str s)=true)
@[simp] abbrev uV:=(AV.nilsl=AV.nilsl∧true=true)
@[simp] abbrev zR (i:Nat):=(I (Int.ofNat i)=I (Int.ofNat i)∧ac (I (Int.ofNat i))=true)
theorem Fv (s:List UInt8) (C:List AV) (i j:Nat) (n t:List UInt8) (N:Prop) (Q:AExit→St→Prop):aw Tryz.prog opts0 40 (jD n t) (ah Tryz.prog 151 4) (fG s C i).st (bf 0 [] (fG s C j) N [] (fG s C i) Q)=
  (ak (ar (Int.ofNat i) (Int.ofNat (ab C))) (ax Tryz.prog 29 (AV.fsl false C) (I (Int.ofNat i))=some (AV.fptr [AV.str n,AV.str t] 0)∧ak (aB n s) ((((im s)∧(AV.rsl true 15 0 (ab [I (Int.ofNat i)]) 1=AV.nilsl∧true=true)∧(il C)∧(ij C)∧(I (af IntKind.i64 (Int.ofNat i+1))=I (Int.ofNat j)∧ac (I (Int.ofNat j))=true)∧True)∧True∧True)∧N) ((((im s)∧uV∧(il C)∧(ij C)∧(I (af IntKind.i64 (Int.ofNat i+1))=I (Int.ofNat j)∧ac (I (Int.ofNat j))=true)∧True)∧True∧True)∧N)) ((((im s)∧uV∧(il C)∧(ij C)∧(zR i)∧True)∧True∧True)∧Q (AExit.exit 0) (fG s C i).st)):=by kernel_rfl
theorem O8 (s:List UInt8) (C:List AV) (i j k:Nat) (es:List AV) (n t:List UInt8) (N:Prop) (Q:AExit→St→Prop):aw Tryz.prog opts0 40 (jD n t) (ah Tryz.prog 151 4) (fG s C i).st (bf 0 [(0,15)] (eE s C j k es) N [] (fG s C i) Q)=
  (ak (ar (Int.ofNat i) (Int.ofNat (ab C))) (ax Tryz.prog 29 (AV.fsl false C) (I (Int.ofNat i))=some (AV.fptr [AV.str n,AV.str t] 0)∧ak (aB n s) ((((im s)∧(il C)∧(ij C)∧(I (af IntKind.i64 (Int.ofNat i+1))=I (Int.ofNat j)∧ac (I (Int.ofNat j))=true)∧True)∧((true=true∧some 15=some 15∧0=0∧k=ab [I (Int.ofNat i)]∧1=1)∧True)∧(flat [I (Int.ofNat i)]=es∧ad es=true)∧True)∧N) ((((im s)∧(il C)∧(ij C)∧(I (af IntKind.i64 (Int.ofNat i+1))=I (Int.ofNat j)∧ac (I (Int.ofNat j))=true)∧True)∧(False∧True)∧False∧True)∧N)) ((((im s)∧uV∧(il C)∧(ij C)∧(zR i)∧True)∧True∧True)∧Q (AExit.exit 0) (fG s C i).st)):=by kernel_rfl
@[simp] abbrev Fw (C es:List AV) (Q:AExit→St→Prop) (i k:Nat) (s:List UInt8):=((((im s)∧(il C)∧(ij C)∧(zR i)∧True)∧((true=true∧some 0=some 0∧0=0∧k=k∧1=1)∧True)∧(es=es∧ad es=true)∧True)∧Q (AExit.exit 0) (eE s C i k es).st)
theorem Fx (s:List UInt8) (C:List AV) (i j k:Nat) (es:List AV) (n t:List UInt8) (N:Prop) (Q:AExit→St→Prop):aw Tryz.prog opts0 40 (jD n t) (ah Tryz.prog 151 4) (eE s C i k es).st (bf 0 [(0,0)] (eE s C j k es) N [(0,0)] (eE s C i k es) Q)=
  (ak (ar (Int.ofNat i) (Int.ofNat (ab C))) (ax Tryz.prog 29 (AV.fsl false C) (I (Int.ofNat i))=some (AV.fptr [AV.str n,AV.str t] 0)∧ak (aB n s) (aC (bo 1 [I (Int.ofNat i)]&&(((k+ab [I (Int.ofNat i)])*8).ble 140737488355328&&(aS (flat [I (Int.ofNat i)])&&true))) (aC ((ab es).beq (k*1)) ((((im s)∧(il C)∧(ij C)∧(I (af IntKind.i64 (Int.ofNat i+1))=I (Int.ofNat j)∧ac (I (Int.ofNat j))=true)∧True)∧((true=true∧some 0=some 15∧0=0∧k=k+ab [I (Int.ofNat i)]∧1=1)∧True)∧False∧True)∧N))) ((((im s)∧(il C)∧(ij C)∧(I (af IntKind.i64 (Int.ofNat i+1))=I (Int.ofNat j)∧ac (I (Int.ofNat j))=true)∧True)∧((true=true∧some 0=some 0∧0=0∧k=k∧1=1)∧True)∧(es=es∧ad es=true)∧True)∧N)) (Fw C es Q i k s)):=by kernel_rfl
theorem O9 (s:List UInt8) (C:List AV) (i j k k':Nat) (es es':List AV) (n t:List UInt8) (N:Prop) (Q:AExit→St→Prop):aw Tryz.prog opts0 40 (jD n t) (ah Tryz.prog 151 4) (eE s C i k es).st (bf 0 [(0,15)] (eE s C j k' es') N [(0,0)] (eE s C i k es) Q)=
  (ak (ar (Int.ofNat i) (Int.ofNat (ab C))) (ax Tryz.prog 29 (AV.fsl false C) (I (Int.ofNat i))=some (AV.fptr [AV.str n,AV.str t] 0)∧ak (aB n s) (aC (bo 1 [I (Int.ofNat i)]&&(((k+ab [I (Int.ofNat i)])*8).ble 140737488355328&&(aS (flat [I (Int.ofNat i)])&&true))) (aC ((ab es).beq (k*1)) ((((im s)∧(il C)∧(ij C)∧(I (af IntKind.i64 (Int.ofNat i+1))=I (Int.ofNat j)∧ac (I (Int.ofNat j))=true)∧True)∧((true=true∧some 15=some 15∧0=0∧k'=k+ab [I (Int.ofNat i)]∧1=1)∧True)∧(es++flat [I (Int.ofNat i)]=es'∧ad es'=true)∧True)∧N))) ((((im s)∧(il C)∧(ij C)∧(I (af IntKind.i64 (Int.ofNat i+1))=I (Int.ofNat j)∧ac (I (Int.ofNat j))=true)∧True)∧((true=true∧some 15=some 0∧0=0∧k'=k∧1=1)∧True)∧False∧True)∧N)) (Fw C es Q i k s)):=by kernel_rfl
def uW (s:List UInt8) (C:List AV) (F:View):bg:=fun st Q=>bR 0 [] (fG s C 0) st∧Q (.exit 0) F.st
@[simp] abbrev Fy (C:List AV) (s:List UInt8):=(((im s)∧uV∧(il C)∧(ij C)∧(I 0=I 0∧true=true)∧True)∧True∧True)
theorem Pa (o:Ob) (M N L:AV) (s:List UInt8) (C:List AV) (Q:AV→ae→Nat→Prop):aL Tryz.prog opts0 40 (aq [] [(4,uW s C (fG s C (ab C)))] aA [] []) 151 [.agg (aa o M N L (.fsl false C)),.str s] [] 0 Q=
  ((Fy C s)∧Q AV.nilsl [] 3):=by kernel_rfl
theorem Pb (o:Ob) (M N L:AV) (s:List UInt8) (C:List AV) (k:Nat) (es:List AV) (Q:AV→ae→Nat→Prop):aL Tryz.prog opts0 40 (aq [] [(4,uW s C (eE s C (ab C) k es))] aA [] []) 151 [.agg (aa o M N L (.fsl false C)),.str s] [] 0 Q=
  ((Fy C s)∧Q (AV.rsl true 0 0 k 1) [(0,some (Blk.cells es))] 3):=by kernel_rfl
def cK (s:List UInt8):List Cu→Nat→List Nat
 |[],_=>[]
 |c::r,k=>match aB c.name s with
  |true=>k::cK s r (k+1)
  |false=>cK s r (k+1)
theorem Fz (s:List UInt8) (c:Cu):∀ (l:List Cu) (k:Nat),cK s (l++[c]) k=cK s l k++(match aB c.name s with|true=>[k+l.length]|false=>[])
 |[],k=>by simp only[List.nil_append,cK];cases aB c.name s<;>simp
 |a::r,k=>by
  have ih:=Fz s c r (k+1)
  have e:k+1+r.length=k+(r.length+1):=by omega
  rw[e] at ih
  simp only[List.cons_append,cK,ih,List.length_cons]
  cases aB a.name s<;>simp
theorem fg {α:Type} {l:List α} {i:Nat} {c:α} (h:l[i]? =some c):l.take (i+1)=l.take i++[c]:=by rw[List.take_add_one,h];rfl
theorem Pc {α:Type} {l:List α} {i:Nat} {c:α} (h:l[i]? =some c):i<l.length:=by
 rcases Nat.lt_or_ge i l.length with h'|h'
 ·exact h'
 ·rw[List.getElem?_eq_none h'] at h;cases h
theorem Pd {s:List UInt8} {l:List Cu} {i:Nat} {c:Cu} (h:l[i]? =some c):cK s (l.take (i+1)) 0=cK s (l.take i) 0++(match aB c.name s with|true=>[i]|false=>[]):=by
 rw[fg h,Fz,Nat.zero_add,List.length_take,Nat.min_eq_left (Nat.le_of_lt (Pc h))]
theorem zS (s:List UInt8):∀ (l:List Cu) (k:Nat),(cK s l k).length≤l.length
 |[],_=>Nat.le_refl _
 |c::r,k=>by
  have:=zS s r (k+1)
  simp only[cK]
  split<;>simp<;>omega
theorem uX (s:List UInt8):∀ (l:List Cu) (k:Nat),∀x∈cK s l k,k≤x∧x<k+l.length
 |[],_,x,h=>by cases h
 | c::r,k,x,h=>by
  have ih:=uX s r (k+1) x
  simp only[cK] at h
  simp only[List.length_cons]
  split at h
  ·rcases List.mem_cons.1 h with rfl|h
   ·omega
   ·have:=ih h;omega
  ·have:=ih h;omega
def lA (s:List UInt8) (C:List AV) (i:Nat) (p:List Nat):View:=match p with
 |[]=>fG s C i
 |_::_=>eE s C i p.length (p.map nI)
theorem pq {f:Bool} {l:List Cu} {i:Nat} {c:Cu} (hx:l[i]? =some c):ax Tryz.prog 29 (.fsl f (l.map aT)) (.int .i64 (.ofNat i))=some (.fptr [.str c.name,.str c.text] 0):=
 fY (v:=aT c) (e:=101) (sz:=2) (by kernel_rfl) (by kernel_rfl) (by rw[List.getElem?_map,hx];rfl) rfl
theorem lB:∀p:List Nat,ad (p.map nI)=true
 |[]=>rfl
 |_::t=>lB t
theorem FA:∀p:List Nat,flat (p.map nI)=p.map nI
 |[]=>rfl
 |x::t=>by simp only[List.map_cons,flat,FA t];rfl
theorem FB {s:List UInt8} {l:List Cu} {Q:AExit→St→Prop} (hb:l.length≤cD) (hq:Q (.exit 0) (lA s (l.map aT) l.length (cK s l 0)).st):
    ∀i,i≤l.length→ALp Tryz.prog opts0.glob 0 (ah Tryz.prog 151 4) (lA s (l.map aT) i (cK s (l.take i) 0)).st Q:=by
  have hlen:ab (l.map aT)=l.length:=by rw[aI,List.length_map]
  have hcl:=lw l
  have hb:l.length≤1099511627776:=hb
  refine uR _ ?_ (fun i hi ih=> ?_)
  · rw[List.take_length]
    cases hp:cK s l 0 with
    | nil=>
      rw[hp] at hq
      refine ALp.round (A:=jD [] []) (V2:=fG s (l.map aT) 0) (F:=fG s (l.map aT) l.length) (lk:=[]) (lk':=[]) base0 am (LsOk.no rfl) .refl ?_
      simp only[lA]
      rw[Fv]
      refine az (fun h=> ?_) (fun _=>⟨by simp[ac,hcl],hq⟩)
      have h:=ltInt_iff.1 h
      simp only[hlen,Int.ofNat_eq_natCast] at h
      omega
    | cons a r=>
      rw[hp] at hq
      refine ALp.round (A:=jD [] []) (V2:=eE s (l.map aT) 0 (a::r).length ((a::r).map nI)) (F:=eE s (l.map aT) l.length (a::r).length ((a::r).map nI)) (lk:=[(0,0)]) (lk':=[(0,0)]) base0 am (LsOk.no rfl) .refl ?_
      simp only[lA]
      rw[Fx]
      refine az (fun h=> ?_) (fun _=>⟨by simp[ac,hcl,lB,ad,nI],hq⟩)
      have h:=ltInt_iff.1 h
      simp only[hlen,Int.ofNat_eq_natCast] at h
      omega
  · have g1:=List.getElem?_eq_getElem hi
    revert g1
    generalize l[i]=c
    intro g1
    have hs:=Pd (s:=s) g1
    have hw:af .i64 (Int.ofNat i+1)=Int.ofNat (i+1):=co (by simp;omega) (by simp;omega)
    have hno:ar (Int.ofNat i) (Int.ofNat (ab (l.map aT)))=false→False:=fun h=>by
      have h:=ltInt_false.1 h
      simp only[hlen,Int.ofNat_eq_natCast] at h
      omega
    have hpl:(cK s (l.take i) 0).length≤i:=by
      have:=zS s (l.take i) 0
      rw[List.length_take] at this
      omega
    rw[hs] at ih
    clear hs
    revert ih hpl
    generalize cK s (l.take i) 0=p
    intro ih hpl
    cases hc:aB c.name s with
    | false=>
      rw[hc] at ih
      simp only[List.append_nil] at ih
      cases p with
      | nil=>
        refine ALp.round (A:=jD c.name c.text) (V2:=fG s (l.map aT) (i+1)) (F:=fG s (l.map aT) i) (lk:=[]) (lk':=[]) base0 am (LsOk.no rfl) .refl ?_
        simp only[lA] at ih⊢
        rw[Fv]
        refine az (fun _=>⟨pq g1,az (fun h=> ?_) (fun _=> ?_)⟩) (fun h=>(hno h).elim)
        · rw[hc] at h;cases h
        · rw[hw]
          exact ⟨by simp[ac,hcl],ih⟩
      | cons a r=>
        refine ALp.round (A:=jD c.name c.text) (V2:=eE s (l.map aT) (i+1) (a::r).length ((a::r).map nI)) (F:=eE s (l.map aT) i (a::r).length ((a::r).map nI)) (lk:=[(0,0)]) (lk':=[(0,0)]) base0 am (LsOk.no rfl) .refl ?_
        simp only[lA] at ih⊢
        rw[Fx]
        refine az (fun _=>⟨pq g1,az (fun h=> ?_) (fun _=> ?_)⟩) (fun h=>(hno h).elim)
        · rw[hc] at h;cases h
        · rw[hw]
          exact ⟨by simp[ac,hcl,lB,ad,nI],ih⟩
    | true=>
      rw[hc] at ih
      cases p with
      | nil=>
        refine ALp.round (A:=jD c.name c.text) (V2:=eE s (l.map aT) (i+1) 1 [nI i]) (F:=fG s (l.map aT) i) (lk:=[(0,15)]) (lk':=[]) base0 am (LsOk.no rfl) .refl ?_
        simp only[lA,List.nil_append] at ih⊢
        rw[O8]
        refine az (fun _=>⟨pq g1,az (fun _=> ?_) (fun h=> ?_)⟩) (fun h=>(hno h).elim)
        · rw[hw]
          exact ⟨by simp[ac,hcl,ad,nI,flat,AV.cells,ab],ih⟩
        · rw[hc] at h;cases h
      | cons a r=>
        refine ALp.round (A:=jD c.name c.text) (V2:=eE s (l.map aT) (i+1) ((a::r)++[i]).length (((a::r)++[i]).map nI)) (F:=eE s (l.map aT) i (a::r).length ((a::r).map nI)) (lk:=[(0,15)]) (lk':=[(0,0)]) base0 am (LsOk.no rfl) .refl ?_
        have ih:ALp Tryz.prog opts0.glob 0 (ah Tryz.prog 151 4) (eE s (l.map aT) (i+1) ((a::r)++[i]).length (((a::r)++[i]).map nI)).st Q:=ih
        simp only[lA]
        rw[O9]
        refine az (fun _=>⟨pq g1,az (fun _=>aH ?_ (aH ?_ ⟨?_,ih⟩)) (fun h=> ?_)⟩) (fun h=>(hno h).elim)
        · simp[bo,ab,AV.cells,flat,aS]
          simp only[List.length_cons] at hpl
          omega
        · rw[beq_iff,aI,List.length_map,Nat.mul_one]
        · rw[hw]
          have:=lB r
          simp[ac,hcl,ad,nI,flat,AV.cells,ab] at this⊢
          exact closed_snoc r i
        · rw[hc] at h;cases h
 where
  closed_snoc:∀ (r:List Nat) (i:Nat),ad (List.map nI r++[AV.int .i64 (i:Int)])=true
    |[],_=>rfl
    |_::t,i=>closed_snoc t i
theorem FC:br (cy Tryz.prog 151) 4=[ah Tryz.prog 151 4]:=by kernel_rfl
def Pe (b:Nat):List Nat→AV
 |[]=> .nilsl
 |p@(_::_)=> .rsl true b 0 p.length 1
def Pf (b:Nat):List Nat→ae
 |[]=>[]
 |p@(_::_)=>[(b,some (.cells (p.map nI)))]
theorem sv (o:Ob) {M N L C:AV} (hM:ac M=true) (hN:ac N=true) (hL:ac L=true) (hC:ac C=true):ad (aa o M N L C)=true:=by
 simp only[aa,ad,ac,hM,hN,hL,hC,Bool.and_self]
theorem Pg (o:Ob) {M N L:AV} (s:List UInt8) (_hM:ac M=true) (_hN:ac N=true) (_hL:ac L=true) (hb:o.cust.length≤cD):
  BodySem Tryz.prog opts0.glob 151 [.agg (aa o M N L (cS o)),.str s] [] 0 (Pe 0 (cK s o.cust 0)) (Pf 0 (cK s o.cust 0)) 3:=by
 have hcl:=lw o.cust
 have hlen:ab (o.cust.map aT)=o.cust.length:=by rw[aI,List.length_map]
 cases hp:cK s o.cust 0 with
 | nil=>
  refine yO (A:=aq [] [(4,uW s (o.cust.map aT) (fG s (o.cust.map aT) (ab (o.cust.map aT))))] aA [] []) base0 am
   (aN (LsOk.at1 rfl FC fun st Q hs=> .seen base0.glob hs.1 (FB (s:=s) hb (by rw[hp];have:=hs.2;rw[hlen] at this;exact this) 0 (Nat.zero_le _)))) ?_
  simp only[cS]
  rw[Pa]
  exact ⟨by simp[ac,hcl],rfl,rfl,rfl⟩
 | cons a r=>
  refine yO (A:=aq [] [(4,uW s (o.cust.map aT) (eE s (o.cust.map aT) (ab (o.cust.map aT)) (a::r).length ((a::r).map nI)))] aA [] []) base0 am
   (aN (LsOk.at1 rfl FC fun st Q hs=> .seen base0.glob hs.1 (FB (s:=s) hb (by rw[hp];have:=hs.2;rw[hlen] at this;exact this) 0 (Nat.zero_le _)))) ?_
  simp only[cS]
  rw[Pb]
  exact ⟨by simp[ac,hcl],rfl,rfl,rfl⟩
end
end Go.Proofs.YtjhggnebkfpgcaaGreatDoor
namespace Go.Proofs.YtjhggnebkfpgcaaGreatDoor
open Go Go.RowKit
open Go.Proofs.Abs
structure fh where
 nm:List UInt8
 ty:Int
 many:Bool
 set:Bool
def b8 (h:fh) (A1 A2 A3 G R P D RM:AV):List AV:=[.str h.nm,I h.ty,.bool h.many,.bool h.set,A1,A2,A3,G,R,P,D,RM]
def uY (W:List AV):AV:= .tuple [.agg W,.bool true]
end Go.Proofs.YtjhggnebkfpgcaaGreatDoor
namespace Go.Proofs.YtjhggnebkfpgcaaGreatDoor
set_option maxRecDepth 20000
open Go Go.RowKit
open Go.Proofs.Abs
noncomputable section
def bM:It→Int| .mk _ _ n _ _=>n
def cL:It→List UInt8| .mk _ _ _ d _=>d
def cT:It→List It| .mk _ _ _ _ k=>k
def b9 (o:Ob):Nat→Dt
 |0=>o.d0
 |1=>o.d1
 |2=>o.d2
 |3=>o.d3
 |4=>o.d4
 |5=>o.d5
 |6=>o.d6
 |7=>o.d7
 |8=>o.d8
 |_=>o.d9
def aO (o:Ob) (d:Dt):Nat→Ob
 |0=>{o with d0:=d}
 |1=>{o with d1:=d}
 |2=>{o with d2:=d}
 |3=>{o with d3:=d}
 |4=>{o with d4:=d}
 |5=>{o with d5:=d}
 |6=>{o with d6:=d}
 |7=>{o with d7:=d}
 |8=>{o with d8:=d}
 |_=>{o with d9:=d}
def fm (s:List UInt8):It:=bO 7 0 s []
def du (y n:Int):It:=bO y n [] []
def fp (t y n:Int):It:= .mk t y n [] []
def fZ (ks:List It):It:=bO 1 0 [] ks
def pr (l:Lk):It:=fZ [fp 4325451 5 l.ty,.mk 4325452 7 0 l.id []]
def pt:List UInt8→List It
 |[]=>[]
 |s::t=>[.mk 4325504 7 0 (s::t) []]
def sw (o:Ob):It:=fZ (fp 4325506 5 o.why::pt o.msg)
def uZ (o:Ob):It:=fZ [fp 4325527 3 o.lt,fp 4325526 3 o.lc,fp 4325528 5 o.lu]
def cR (b:Bool) (x:It):List It:=match b with
 |true=>[x]
 |false=>[]
def aU (o:Ob):Kd→List It
 | .uid=>[fm o.id]
 | .nam=>o.names.map fm
 | .typ=>[du 5 o.ty]
 | .alg=>cR (!aF o.alg 0) (du 5 o.alg)
 | .len=>cR (!aF o.len 0) (du 2 o.len)
 | .mask=>[du 2 o.mask]
 | .sta=>[du 5 o.st]
 | .dat k=>cR (b9 o k).has (du 9 (b9 o k).t)
 | .why=>cR (!aF o.why 0) (sw o)
 | .lnk=>o.links.map pr
 | .lim=>cR o.lh (uZ o)
 | .cus s=>(o.cust.filter fun c=>aB c.name s).map fun c=>fm c.text
theorem zT {l:List AV} (h:ad l=true):ad [.agg l]=true:=by simp[ad,ac,h]
theorem iV {f:Bool} {l:List AV} (h:ad l=true):ac (.fsl f l)=true:=h
def zU (sz:Nat) (v:AV) (h:ae):Option (Nat × List AV):=match v with
 | .nilsl=>some (0,[])
 | .rsl _ id 0 len sz'=>match Nat.beq sz' sz,hget h id with
  |true,some (.cells c)=>some (len,c)
  |_,_=>none
 |_=>none
theorem Ph {sz:Nat} {v w:AV} {h:ae} {es:List AV} (e:zU sz v h=some (es.length,flat es)) (hg:∀e∈es,fc sz e) (hc:ad es=true) (hw:Wk (.fsl false es) w):sg w v h:=by
 unfold zU at e
 split at e
 ·have e:=congrArg Prod.fst (Option.some.inj e)
  have:es=[]:=List.eq_nil_of_length_eq_zero e.symm
  subst this
  exact ⟨.nilsl,⟨1,rfl⟩,rfl,Wk.nil.trans hw⟩
 ·split at e
  ·rename_i h1 h2
   have e:=Option.some.inj e
   have h1:=beq_iff.1 h1
   subst h1
   exact ⟨_,(Frz.row (es:=es) rfl h2 (congrArg Prod.snd e) (congrArg Prod.fst e) hg hc).out,iV hc,hw⟩
  ·cases e
 ·cases e
theorem FD {A:be} {f:FuncId} {args:List AV} {v:AV} {sz:Nat} {es:List AV} (hA:dq Tryz.prog opts0 A) (hl:jv Tryz.prog opts0.glob 0 A f) (hcl:ad args=true) (hg:∀e∈es,fc sz e) (hc:ad es=true) (hw:Wk (.fsl false es) v)
  (h:aL Tryz.prog opts0 40 A f args [] 0 (fun u H _=>zU sz u H=some (es.length,flat es))=(some (es.length,flat es)=some (es.length,flat es))):SC f args v:=by
 have h:=h.mpr rfl
 obtain ⟨fn,c,hfn,hc',hname,hsz,hw'⟩:=m8 base0 hA hl h
 refine zA base0 hfn hc' hname hsz hcl fun w I a hr=>wp_mono (hw'.out w I _ [] [] a w (fun _ _=>rfl) hr) ?_
 rintro e a' w' ⟨x,s',rfl,h2,hx,l,hl,hq⟩
 refine ⟨s',l, ?_,h2,hl,Ph hq hg hc hw⟩
 rcases hx with rfl|rfl
 ·exact .inl rfl
 ·exact .inr rfl
def ck:List Nat:=[128,92,131,176]
def pu:List Nat:=[124,132,133]
theorem Pi (o:Ob) (M N L C:AV) (Q:AV→Prop):aL Tryz.prog opts0 40 (aq [] [] aA ck []) 127 [.agg (aa o M N L C)] [] 0 (fun v _ _=>Q v)=
  (Q (AV.fsl true [AV.agg [I 4325387,I 7,I 0,AV.fsl false (ap o.1),AV.nilsl]])):=by kernel_rfl
theorem Pj (o:Ob) (M N L C:AV) (Q:AV→Prop):aL Tryz.prog opts0 40 (aq [] [] aA ck []) 130 [.agg (aa o M N L C)] [] 0 (fun v _ _=>Q v)=
  (Q (AV.fsl true [AV.agg [I 4325387,I 5,I o.2,AV.nilsl,AV.nilsl]])):=by kernel_rfl
theorem Pk (o:Ob) (M N L C:AV) (Q:AV→Prop):aL Tryz.prog opts0 40 (aq [] [] aA ck []) 134 [.agg (aa o M N L C)] [] 0 (fun v _ _=>Q v)=
  (Q (AV.fsl true [AV.agg [I 4325387,I 5,I o.7,AV.nilsl,AV.nilsl]])):=by kernel_rfl
theorem Pl (o:Ob) (M N L C:AV) (Q:AV→Prop):aL Tryz.prog opts0 40 (aq [] [] aA ck []) 184 [.agg (aa o M N L C)] [] 0 (fun v _ _=>Q v)=
  (ak (!o.23) (Q AV.nilsl) (Q (AV.fsl true [AV.agg [I 4325387,I 1,I 0,AV.nilsl,AV.fsl true [AV.agg [I 4325527,I 3,I o.24,AV.nilsl,AV.nilsl],AV.agg [I 4325526,I 3,I o.25,AV.nilsl,AV.nilsl],AV.agg [I 4325528,I 5,I o.26,AV.nilsl,AV.nilsl]]]]))):=by kernel_rfl
abbrev zV (o:Ob):=[AV.agg [I 4325506,I 5,I o.18,AV.nilsl,AV.nilsl]]
abbrev zW (o:Ob):=[I 4325387,I 1,I 0,AV.nilsl,AV.rsl true 16 0 (ab (zV o)+ab [AV.agg [I 4325504,I 7,I 0,AV.fsl false (ap o.19),AV.nilsl]]) 5]
abbrev sx (o:Ob):=[I 4325387,I 1,I 0,AV.nilsl,AV.fsl true (zV o)]
abbrev FE (C L M N:AV) (o:Ob):=[(29,some (Blk.cells (zW o))),(25,some (Blk.cells (zW o))),(16,some (Blk.cells (flat (zV o)++flat [AV.agg [I 4325504,I 7,I 0,AV.fsl false (ap o.19),AV.nilsl]]))),(0,some (Blk.cells (aa o M N L C)))]
theorem Pm (o:Ob) (M N L C:AV) (Q:AV→ae→Prop):aL Tryz.prog opts0 40 (aq [] [] aA ck []) 138 [.agg (aa o M N L C)] [] 0 (fun v H _=>Q v H)=
  (ak (!aB o.19 []) (ak (!!aF o.18 0) (Q AV.nilsl (FE C L M N o)) (Q (AV.fsl true [AV.agg (zW o)]) (FE C L M N o))) (ak (!!aF o.18 0) (Q AV.nilsl [(21,some (Blk.cells (sx o))),(17,some (Blk.cells (sx o))),(0,some (Blk.cells (aa o M N L C)))]) (Q (AV.fsl true [AV.agg (sx o)]) [(21,some (Blk.cells (sx o))),(17,some (Blk.cells (sx o))),(0,some (Blk.cells (aa o M N L C)))]))):=by kernel_rfl
theorem Pn (o:Ob) (M N L C:AV) (Q:AV→Prop):aL Tryz.prog opts0 40 (aq [] [] aA ck pu) 161 [.agg (aa o M N L C),.fptr [cj 132] 0,.fptr [I 1] 0,.fptr [I 5] 0] [] 0 (fun v _ _=>Q v)=
  (ak (!aF o.3 0) (Q (AV.fsl true [AV.agg [I 4325387,I 5,I o.3,AV.nilsl,AV.nilsl]])) (Q AV.nilsl)):=by kernel_rfl
theorem Po (o:Ob) (M N L C:AV) (Q:AV→Prop):aL Tryz.prog opts0 40 (aq [] [] aA ck pu) 161 [.agg (aa o M N L C),.fptr [cj 133] 0,.fptr [I 1] 0,.fptr [I 2] 0] [] 0 (fun v _ _=>Q v)=
  (ak (!aF o.4 0) (Q (AV.fsl true [AV.agg [I 4325387,I 2,I o.4,AV.nilsl,AV.nilsl]])) (Q AV.nilsl)):=by kernel_rfl
theorem Pp (o:Ob) (M N L C:AV) (Q:AV→Prop):aL Tryz.prog opts0 40 (aq [] [] aA ck pu) 161 [.agg (aa o M N L C),.fptr [cj 124] 0,.fptr [I 0] 0,.fptr [I 2] 0] [] 0 (fun v _ _=>Q v)=
  (ak (!aF o.5 0) (Q (AV.fsl true [AV.agg [I 4325387,I 2,I o.5,AV.nilsl,AV.nilsl]])) (Q (AV.fsl true [AV.agg [I 4325387,I 2,I o.5,AV.nilsl,AV.nilsl]]))):=by kernel_rfl
theorem Pq (o:Ob) (M N L C:AV) (Q:AV→Prop):aL Tryz.prog opts0 40 (aq [] [] aA ck []) 172 [.agg (aa o M N L C),.fptr [I 0] 0] [] 0 (fun v _ _=>Q v)=
  (ak (!o.d0.1) (Q AV.nilsl) (Q (AV.fsl true [AV.agg [I 4325387,I 9,I o.d0.2,AV.nilsl,AV.nilsl]]))):=by kernel_rfl
theorem Pr (o:Ob) (M N L C:AV) (Q:AV→Prop):aL Tryz.prog opts0 40 (aq [] [] aA ck []) 172 [.agg (aa o M N L C),.fptr [I 1] 0] [] 0 (fun v _ _=>Q v)=
  (ak (!o.d1.1) (Q AV.nilsl) (Q (AV.fsl true [AV.agg [I 4325387,I 9,I o.d1.2,AV.nilsl,AV.nilsl]]))):=by kernel_rfl
theorem Pt (o:Ob) (M N L C:AV) (Q:AV→Prop):aL Tryz.prog opts0 40 (aq [] [] aA ck []) 172 [.agg (aa o M N L C),.fptr [I 2] 0] [] 0 (fun v _ _=>Q v)=
  (ak (!o.d2.1) (Q AV.nilsl) (Q (AV.fsl true [AV.agg [I 4325387,I 9,I o.d2.2,AV.nilsl,AV.nilsl]]))):=by kernel_rfl
theorem Pu (o:Ob) (M N L C:AV) (Q:AV→Prop):aL Tryz.prog opts0 40 (aq [] [] aA ck []) 172 [.agg (aa o M N L C),.fptr [I 3] 0] [] 0 (fun v _ _=>Q v)=
  (ak (!o.d3.1) (Q AV.nilsl) (Q (AV.fsl true [AV.agg [I 4325387,I 9,I o.d3.2,AV.nilsl,AV.nilsl]]))):=by kernel_rfl
theorem Pv (o:Ob) (M N L C:AV) (Q:AV→Prop):aL Tryz.prog opts0 40 (aq [] [] aA ck []) 172 [.agg (aa o M N L C),.fptr [I 4] 0] [] 0 (fun v _ _=>Q v)=
  (ak (!o.d4.1) (Q AV.nilsl) (Q (AV.fsl true [AV.agg [I 4325387,I 9,I o.d4.2,AV.nilsl,AV.nilsl]]))):=by kernel_rfl
theorem Pw (o:Ob) (M N L C:AV) (Q:AV→Prop):aL Tryz.prog opts0 40 (aq [] [] aA ck []) 172 [.agg (aa o M N L C),.fptr [I 5] 0] [] 0 (fun v _ _=>Q v)=
  (ak (!o.d5.1) (Q AV.nilsl) (Q (AV.fsl true [AV.agg [I 4325387,I 9,I o.d5.2,AV.nilsl,AV.nilsl]]))):=by kernel_rfl
theorem Px (o:Ob) (M N L C:AV) (Q:AV→Prop):aL Tryz.prog opts0 40 (aq [] [] aA ck []) 172 [.agg (aa o M N L C),.fptr [I 6] 0] [] 0 (fun v _ _=>Q v)=
  (ak (!o.d6.1) (Q AV.nilsl) (Q (AV.fsl true [AV.agg [I 4325387,I 9,I o.d6.2,AV.nilsl,AV.nilsl]]))):=by kernel_rfl
theorem Py (o:Ob) (M N L C:AV) (Q:AV→Prop):aL Tryz.prog opts0 40 (aq [] [] aA ck []) 172 [.agg (aa o M N L C),.fptr [I 7] 0] [] 0 (fun v _ _=>Q v)=
  (ak (!o.d7.1) (Q AV.nilsl) (Q (AV.fsl true [AV.agg [I 4325387,I 9,I o.d7.2,AV.nilsl,AV.nilsl]]))):=by kernel_rfl
theorem Pz (o:Ob) (M N L C:AV) (Q:AV→Prop):aL Tryz.prog opts0 40 (aq [] [] aA ck []) 172 [.agg (aa o M N L C),.fptr [I 8] 0] [] 0 (fun v _ _=>Q v)=
  (ak (!o.d8.1) (Q AV.nilsl) (Q (AV.fsl true [AV.agg [I 4325387,I 9,I o.d8.2,AV.nilsl,AV.nilsl]]))):=by kernel_rfl
theorem PA (o:Ob) (M N L C:AV) (Q:AV→Prop):aL Tryz.prog opts0 40 (aq [] [] aA ck []) 172 [.agg (aa o M N L C),.fptr [I 9] 0] [] 0 (fun v _ _=>Q v)=
  (ak (!o.d9.1) (Q AV.nilsl) (Q (AV.fsl true [AV.agg [I 4325387,I 9,I o.d9.2,AV.nilsl,AV.nilsl]]))):=by kernel_rfl
def gB (x:List UInt8):AV:= .agg [I 4325387,I 7,I 0,.fsl false (ap x),.nilsl]
theorem sy:∀l:List (List UInt8),ad (l.map gB)=true
 |[]=>rfl
 |x::r=>by
  rw[List.map_cons,ad,sy r]
  simp[gB,ac,ad]
theorem FF:∀l:List (List UInt8),∀e∈l.map gB,fc 5 e:=fun l e he=>by
 obtain ⟨x,_,rfl⟩:=List.mem_map.1 he
 exact ⟨rfl,rfl⟩
theorem FG (l:List (List UInt8)):Wk (.fsl false (l.map gB)) (.fsl false (an (l.map fm))):=by
 rw[lr,List.map_map]
 refine Wk.rows (WkE.map fun x _=> ?_)
 simp only[gB,Function.comp,fm,bO,bu,an,AV.cells]
 (repeat (first|exact Wk.refl _|exact WkL.refl _|exact Wk.nil|exact Wk.row|exact WkE.refl _|exact WkL.nil|exact WkE.nil|apply Wk.agg|apply Wk.tuple|apply WkL.cons|apply Wk.rows|apply WkE.consA))
theorem PB (o:Ob) {M L C:AV} (hM:ac M=true) (hL:ac L=true) (hC:ac C=true) (l:List (List UInt8)) (h:l.length≤6):SC 166 [.agg (aa o M (.fsl false (l.map .str)) L C)] (.fsl false (an (l.map fm))):=by
 have hcl:ad [.agg (aa o M (.fsl false (l.map .str)) L C)]=true:=zT (sv o hM (iV (ea l)) hL hC)
 refine FD (A:=aq [] [] aA ck []) am (aN (LsOk.no rfl)) hcl (FF l) (sy l) (FG l) ?_
 clear hcl
 rcases l with _|⟨_,_|⟨_,_|⟨_,_|⟨_,_|⟨_,_|⟨_,_|⟨_,_⟩⟩⟩⟩⟩⟩⟩
 all_goals first
  |(exfalso;simp only[List.length_cons] at h;omega)
  |kernel_rfl
def sA (x:Lk):AV:= .agg [I 4325387,I 1,I 0,.nilsl,.fsl true [.agg [I 4325451,I 5,I x.ty,.nilsl,.nilsl],.agg [I 4325452,I 7,I 0,.fsl false (ap x.id),.nilsl]]]
theorem FH:∀l:List (Lk),ad (l.map sA)=true
 |[]=>rfl
 |x::r=>by
  rw[List.map_cons,ad,FH r]
  simp[sA,ac,ad]
theorem PC:∀l:List (Lk),∀e∈l.map sA,fc 5 e:=fun l e he=>by
 obtain ⟨x,_,rfl⟩:=List.mem_map.1 he
 exact ⟨rfl,rfl⟩
theorem PD (l:List (Lk)):Wk (.fsl false (l.map sA)) (.fsl false (an (l.map pr))):=by
 rw[lr,List.map_map]
 refine Wk.rows (WkE.map fun x _=> ?_)
 simp only[sA,Function.comp,pr,fZ,fp,bO,bu,an,AV.cells,ap]
 (repeat (first|exact Wk.refl _|exact WkL.refl _|exact Wk.nil|exact Wk.row|exact WkE.refl _|exact WkL.nil|exact WkE.nil|apply Wk.agg|apply Wk.tuple|apply WkL.cons|apply Wk.rows|apply WkE.consA))
theorem PE (o:Ob) {M N C:AV} (hM:ac M=true) (hL:ac N=true) (hC:ac C=true) (l:List (Lk)) (h:l.length≤8):SC 178 [.agg (aa o M N (.fsl false (l.map bE)) C)] (.fsl false (an (l.map pr))):=by
 have hcl:ad [.agg (aa o M N (.fsl false (l.map bE)) C)]=true:=zT (sv o hM hL (iV (o9 l)) hC)
 refine FD (A:=aq [] [] aA ck []) am (aN (LsOk.no rfl)) hcl (PC l) (FH l) (PD l) ?_
 clear hcl
 rcases l with _|⟨_,_|⟨_,_|⟨_,_|⟨_,_|⟨_,_|⟨_,_|⟨_,_|⟨_,_|⟨_,_⟩⟩⟩⟩⟩⟩⟩⟩⟩
 all_goals first
  |(exfalso;simp only[List.length_cons] at h;omega)
  |kernel_rfl
end
end Go.Proofs.YtjhggnebkfpgcaaGreatDoor
namespace Go.Proofs.YtjhggnebkfpgcaaGreatDoor
open Go Go.RowKit
open Go.Proofs.Abs
def sB:Kd→Nat
 | .uid=>127
 | .nam=>166
 | .typ=>130
 | .sta=>134
 | .dat _=>172
 | .why=>138
 | .lnk=>178
 | .lim=>184
 | .cus _=>150
 |_=>161
def sC:Kd→List AV
 | .dat k=>[.fptr [nI k] 0]
 | .cus s=>[.fptr [.str s] 0]
 | .alg=>[.fptr [iU .alg] 0,.fptr [I 1] 0,.fptr [I 5] 0]
 | .len=>[.fptr [iU .len] 0,.fptr [I 1] 0,.fptr [I 2] 0]
 | .mask=>[.fptr [iU .mask] 0,.fptr [I 0] 0,.fptr [I 2] 0]
 |_=>[]
theorem PF (k:Kd):su k=eD (sB k) (sC k):=by cases k<;>rfl
mutual
def sD:It→Prop
 | .mk _ _ _ d ks=>d∈ii∧zX ks
def zX:List It→Prop
 |[]=>True
 |k::r=>sD k∧zX r
end
theorem u0 {x:It} (h:sD x):cL x∈ii:=by cases x;exact h.1
end Go.Proofs.YtjhggnebkfpgcaaGreatDoor
namespace Go.Proofs.YtjhggnebkfpgcaaGreatDoor
set_option maxRecDepth 20000
open Go Go.RowKit
open Go.Proofs.Abs
noncomputable section
def lC (O P:List AV) (i:Nat):View:=⟨[(4,.nilsl),(9,.fsl false P),(10,I (.ofNat (ab P))),(11,I (.ofNat i))],[(2,.ptr 0 0)],[(0,.cells O,.whole)],2,27⟩
def f4 (O P:List AV) (i:Nat) (es:List AV):View:=⟨[(9,.fsl false P),(10,I (.ofNat (ab P))),(11,I (.ofNat i))],[(2,.ptr 0 0),(4,.rsl true 1 0 i 5)],[(0,.cells O,.whole),(1,.cells es,.whole)],2,27⟩
def pv (p:Nat) (n t:List UInt8):be:=aq [(4,0,.res (.fptr [nI p] 0)),(5,4,.res (.fptr [.str n,.str t] 0))] [] aA [92] []
@[simp] abbrev u1 (P:List AV):=(I (Int.ofNat (ab P))=I (Int.ofNat (ab P))∧ac (I (Int.ofNat (ab P)))=true)
@[simp] abbrev u3 (P:List AV):=(AV.fsl false P=AV.fsl false P∧ac (AV.fsl false P)=true)
@[simp] abbrev u4 (C L M N:AV) (o:Ob):=((aa o M N L C)=(aa o M N L C)∧ad (aa o M N L C)=true)
@[simp] abbrev u5:=(some 0=some 0∧0=0)
@[simp] abbrev zY (C L M N:AV) (P:List AV) (o:Ob):=(((AV.nilsl=AV.nilsl∧true=true)∧(u3 P)∧(u1 P)∧(I 0=I 0∧true=true)∧True)∧(u5∧True)∧(u4 C L M N o)∧True)
abbrev ny (t:List UInt8):=[AV.agg [I 4325387,I 7,I 0,AV.fsl false (ap t),AV.nilsl]]
theorem FI (o:Ob) (M N L C:AV) (P:List AV) (p:Nat) (n t:List UInt8) (es:List AV) (Nx:Prop) (Q:AExit→St→Prop):aw Tryz.prog opts0 40 (pv p n t) (ah Tryz.prog 150 4) (lC (aa o M N L C) P 0).st (bf 0 [(0,0),(1,15)] (f4 (aa o M N L C) P 1 es) Nx [(0,0)] (lC (aa o M N L C) P 0) Q)=
  (ak (ar 0 (Int.ofNat (ab P))) (ax Tryz.prog 190 (AV.fsl false P) (I 0)=some (AV.fptr [I (Int.ofNat p)] 0)∧ax Tryz.prog 29 C (I (Int.ofNat p))=some (AV.fptr [AV.str n,AV.str t] 0)∧(((u3 P)∧(u1 P)∧(I 1=I 1∧true=true)∧True)∧(u5∧(true=true∧some 15=some 15∧0=0∧1=ab (ny t)∧5=5)∧True)∧(u4 C L M N o)∧(flat (ny t)=es∧ad es=true)∧True)∧Nx) ((zY C L M N P o)∧Q (AExit.exit 0) (lC (aa o M N L C) P 0).st)):=by kernel_rfl
theorem FJ (o:Ob) (M N L C:AV) (P:List AV) (p i j:Nat) (n t:List UInt8) (es es':List AV) (Nx:Prop) (Q:AExit→St→Prop):aw Tryz.prog opts0 40 (pv p n t) (ah Tryz.prog 150 4) (f4 (aa o M N L C) P i es).st (bf 0 [(0,0),(1,15)] (f4 (aa o M N L C) P j es') Nx [(0,0),(1,1)] (f4 (aa o M N L C) P i es) Q)=
  (ak (ar (Int.ofNat i) (Int.ofNat (ab P))) (ax Tryz.prog 190 (AV.fsl false P) (I (Int.ofNat i))=some (AV.fptr [I (Int.ofNat p)] 0)∧ax Tryz.prog 29 C (I (Int.ofNat p))=some (AV.fptr [AV.str n,AV.str t] 0)∧aC (bo 5 (ny t)&&(((i+ab (ny t))*72).ble 140737488355328&&(aS (flat (ny t))&&true))) (aC ((ab es).beq (i*5)) ((((u3 P)∧(u1 P)∧(I (af IntKind.i64 (Int.ofNat i+1))=I (Int.ofNat j)∧ac (I (Int.ofNat j))=true)∧True)∧(u5∧(true=true∧some 15=some 15∧0=0∧j=i+ab (ny t)∧5=5)∧True)∧(u4 C L M N o)∧(es++flat (ny t)=es'∧ad es'=true)∧True)∧Nx))) ((((u3 P)∧(u1 P)∧(I (Int.ofNat i)=I (Int.ofNat i)∧ac (I (Int.ofNat i))=true)∧True)∧(u5∧(true=true∧some 1=some 1∧0=0∧i=i∧5=5)∧True)∧(u4 C L M N o)∧(es=es∧ad es=true)∧True)∧Q (AExit.exit 0) (f4 (aa o M N L C) P i es).st)):=by kernel_rfl
def u6 (O P:List AV) (F:View):bg:=fun st Q=>bR 0 [(0,0)] (lC O P 0) st∧Q (.exit 0) F.st
theorem PG (o:Ob) (M N L C:AV) (s:List UInt8) (P:List AV) (Q:AV→ae→Prop):aL Tryz.prog opts0 40 (aq [] [(4,u6 (aa o M N L C) P (lC (aa o M N L C) P 0))] (cz [(151,.fsl false P)]) [] []) 150 [.agg (aa o M N L C),.fptr [.str s] 0] [] 0 (fun v H _=>Q v H)=
  (SC 151 [AV.agg (aa o M N L C),AV.str s] (AV.fsl false P)∧(zY C L M N P o)∧Q AV.nilsl [(0,some (Blk.cells (aa o M N L C)))]):=by kernel_rfl
theorem PH (o:Ob) (M N L C:AV) (s:List UInt8) (P:List AV) (es:List AV) (Q:AV→ae→Prop):aL Tryz.prog opts0 40 (aq [] [(4,u6 (aa o M N L C) P (f4 (aa o M N L C) P (ab P) es))] (cz [(151,.fsl false P)]) [] []) 150 [.agg (aa o M N L C),.fptr [.str s] 0] [] 0 (fun v H _=>Q v H)=
  (SC 151 [AV.agg (aa o M N L C),AV.str s] (AV.fsl false P)∧(zY C L M N P o)∧Q (AV.rsl true 1 0 (ab P) 5) [(0,some (Blk.cells (aa o M N L C))),(1,some (Blk.cells es))]):=by kernel_rfl
theorem PI:∀p:List Nat,∀e∈p.map nI,fc 1 e:=fun p e he=>by
 obtain ⟨x,_,rfl⟩:=List.mem_map.1 he
 exact ⟨rfl,rfl⟩
theorem PJ (o:Ob) {M N L:AV} (s:List UInt8) (hM:ac M=true) (hN:ac N=true) (hL:ac L=true) (hb:o.cust.length≤cD):SC 151 [.agg (aa o M N L (cS o)),.str s] (.fsl false ((cK s o.cust 0).map nI)):=by
 have h0:=Pg o s hM hN hL hb
 revert h0
 generalize cK s o.cust 0=p
 intro h0
 have hcl:ad [.agg (aa o M N L (cS o)),.str s]=true:=by simp only[ad,ac,sv o hM hN hL (sn o),Bool.and_self]
 refine NC base0.glob hcl h0 ?_
 cases p with
 |nil=>exact ⟨.nilsl,⟨1,rfl⟩,rfl,.nil⟩
 |cons a r=>exact ⟨.fsl false ((a::r).map nI),Frz.out (Frz.row (es:=(a::r).map nI) rfl rfl (FA _).symm (by simp) (PI _) (lB _)),iV (lB _),.refl _⟩
def dI (l:List Cu) (p:Nat):List UInt8:=match l[p]? with
 |some c=>c.text
 |none=>[]
theorem FK (s:List UInt8):∀ (l pre:List Cu),(cK s l pre.length).map (dI (pre++l))=(l.filter fun c=>aB c.name s).map Cu.text
 |[],_=>rfl
 | c::r,pre=>by
  have ih:=FK s r (pre++[c])
  simp only[List.length_append,List.length_cons,List.length_nil,Nat.zero_add,List.append_assoc,List.cons_append,List.nil_append] at ih
  simp only[cK]
  cases hc:aB c.name s with
  |false=>simp only[List.filter_cons,hc,Bool.false_eq_true,if_false,ih]
  |true=>
   have:dI (pre++c::r) pre.length=c.text:=by simp[dI]
   simp only[List.filter_cons,hc,if_true,List.map_cons,ih,this]
theorem PK (l:List (List UInt8)):(flat (l.map gB)).length=l.length*5:=by
 induction l with
 |nil=>rfl
 |cons x r ih=>simp only[List.map_cons,flat,List.length_append,ih,gB,AV.cells,List.length_cons,List.length_nil];omega
theorem FL (l:List (List UInt8)):ad (flat (l.map gB))=true:=zI (sy l) fun e he=>by
 obtain ⟨x,_,rfl⟩:=List.mem_map.1 he
 simp[gB,AV.cells,ad,ac]
theorem FM {f:Bool} {l:List Nat} {i p:Nat} (hx:l[i]? =some p):ax Tryz.prog 190 (.fsl f (l.map nI)) (.int .i64 (.ofNat i))=some (.fptr [nI p] 0):=
 fY (v:=nI p) (e:=3) (sz:=1) (by kernel_rfl) (by kernel_rfl) (by rw[List.getElem?_map,hx];rfl) rfl
def fq (T:List (List UInt8)) (i:Nat):List AV:=flat ((T.take i).map gB)
theorem FN {T:List (List UInt8)} {i:Nat} {x:List UInt8} (h:T[i]? =some x):fq T i++flat [gB x]=fq T (i+1):=by
 rw[fq,fq,fg h,List.map_append,gv]
 rfl
theorem PM {T:List (List UInt8)} {i:Nat} (h:i≤T.length):(fq T i).length=i*5:=by rw[fq,PK,List.length_take,Nat.min_eq_left h]
theorem PN {o:Ob} {M N L:AV} {ps:List Nat} {Q:AExit→St→Prop} (hM:ac M=true) (hN:ac N=true) (hL:ac L=true) (hps:∀p∈ps,p<o.cust.length) (hb:ps.length≤cD)
  (hq:Q (.exit 0) (f4 (aa o M N L (cS o)) (ps.map nI) ps.length (fq (ps.map (dI o.cust)) ps.length)).st):
  ∀i,i≤ps.length→(0<i→ALp Tryz.prog opts0.glob 0 (ah Tryz.prog 150 4) (f4 (aa o M N L (cS o)) (ps.map nI) i (fq (ps.map (dI o.cust)) i)).st Q):=by
 have hO:=sv o hM hN hL (sn o)
 have hP:=lB ps
 have hlen:ab (ps.map nI)=ps.length:=by rw[aI,List.length_map]
 have hb:ps.length≤1099511627776:=hb
 have hE:∀i,ad (fq (ps.map (dI o.cust)) i)=true:=fun i=>FL _
 refine uR _ (fun _=> ?_) (fun i hi ih h0=> ?_)
 ·refine ALp.round (A:=pv 0 [] []) (V2:=f4 (aa o M N L (cS o)) (ps.map nI) 0 []) (F:=f4 (aa o M N L (cS o)) (ps.map nI) ps.length (fq (ps.map (dI o.cust)) ps.length)) (lk:=[(0,0),(1,15)]) (lk':=[(0,0),(1,1)]) base0 am (LsOk.no rfl) .refl ?_
  rw[FJ]
  refine az (fun h=> ?_) (fun _=>⟨⟨⟨⟨rfl,iV hP⟩,⟨rfl,rfl⟩,⟨rfl,rfl⟩,trivial⟩,⟨⟨rfl,rfl⟩,⟨rfl,rfl,rfl,rfl,rfl⟩,trivial⟩,⟨rfl,hO⟩,⟨rfl,hE _⟩,trivial⟩,hq⟩)
  have h:=ltInt_iff.1 h
  simp only[hlen,Int.ofNat_eq_natCast] at h
  omega
 ·have g1:=List.getElem?_eq_getElem hi
  have hp:=hps _ (List.getElem_mem hi)
  have hT:(ps.map (dI o.cust))[i]? =some (dI o.cust ps[i]):=by rw[List.getElem?_map,g1];rfl
  have hs:=FN hT
  revert g1 hp hs
  generalize ps[i]=p
  intro g1 hp hs
  have g2:=List.getElem?_eq_getElem hp
  have htx:dI o.cust p=(o.cust[p]).text:=by simp[dI,hp]
  rw[htx] at hs
  revert g2 hs
  generalize o.cust[p]=c
  intro hs g2
  have ih:=ih (by omega)
  refine ALp.round (A:=pv p c.name c.text) (V2:=f4 (aa o M N L (cS o)) (ps.map nI) (i+1) (fq (ps.map (dI o.cust)) (i+1))) (F:=f4 (aa o M N L (cS o)) (ps.map nI) i (fq (ps.map (dI o.cust)) i)) (lk:=[(0,0),(1,15)]) (lk':=[(0,0),(1,1)]) base0 am (LsOk.no rfl) .refl ?_
  rw[FJ]
  refine az (fun _=>⟨FM g1,pq g2,aH ?_ (aH ?_ ⟨⟨⟨⟨rfl,iV hP⟩,⟨rfl,rfl⟩,⟨?_,rfl⟩,trivial⟩,⟨⟨rfl,rfl⟩,⟨rfl,rfl,rfl,rfl,rfl⟩,trivial⟩,⟨rfl,hO⟩,⟨hs,hE _⟩,trivial⟩,ih⟩)⟩) (fun h=> ?_)
  ·have hi2:(i+1)*72≤140737488355328:=by omega
   simp only[Bool.and_eq_true,Nat.ble_eq]
   exact ⟨rfl,hi2,rfl,trivial⟩
  ·rw[beq_iff,aI,PM (by rw[List.length_map];omega)]
  ·rw[co (by simp;omega) (by simp;omega)];rfl
  ·have h:=ltInt_false.1 h
   simp only[hlen,Int.ofNat_eq_natCast] at h
   omega
theorem FO:br (cy Tryz.prog 150) 4=[ah Tryz.prog 150 4]:=by kernel_rfl
theorem PO (o:Ob) (s:List UInt8) (hb:o.cust.length≤cD):SC 150 [aj o,.fptr [.str s] 0] (.fsl false (an (aU o (.cus s)))):=by
 have hpl:=PJ o s (sm o) (uI o) (uJ o) hb
 have htx:=FK s o.cust []
 have hlt:=uX s o.cust 0
 have hln:=zS s o.cust 0
 simp only[List.length_nil,List.nil_append] at htx
 have hget:an (aU o (.cus s))=an (((o.cust.filter fun c=>aB c.name s).map Cu.text).map fm):=by rw[List.map_map];rfl
 rw[hget,←htx]
 clear hget htx
 revert hpl hlt hln
 generalize cK s o.cust 0=ps
 intro hpl hlt hln
 have hps:∀p∈ps,p<o.cust.length:=fun p hp=>by have:=hlt p hp;omega
 have hO:=dr o
 have hcl:ad [aj o,.fptr [.str s] 0]=true:=by simp only[ad,aj,ac,hO,Bool.and_self]
 cases ps with
 | nil=>
  refine dH (A:=aq [] [(4,u6 (ao o) [] (lC (ao o) [] 0))] (cz [(151,.fsl false [])]) [] []) base0 am
   (aN (LsOk.at1 rfl FO fun st Q hs=> .seen base0.glob hs.1 ?_)) hcl ?_
  ·refine ALp.round (A:=pv 0 [] []) (V2:=f4 (ao o) [] 1 []) (F:=lC (ao o) [] 0) (lk:=[(0,0),(1,15)]) (lk':=[(0,0)]) base0 am (LsOk.no rfl) .refl ?_
   simp only[ao]
   rw[FI]
   refine az (fun h=>by cases h) (fun _=>⟨⟨⟨⟨rfl,rfl⟩,⟨rfl,rfl⟩,⟨rfl,rfl⟩,⟨rfl,rfl⟩,trivial⟩,⟨⟨rfl,rfl⟩,trivial⟩,⟨rfl,hO⟩,trivial⟩,hs.2⟩)
  ·simp only[aj,ao]
   rw[PG]
   exact ⟨hpl,⟨⟨⟨rfl,rfl⟩,⟨rfl,rfl⟩,⟨rfl,rfl⟩,⟨rfl,rfl⟩,trivial⟩,⟨⟨rfl,rfl⟩,trivial⟩,⟨rfl,hO⟩,trivial⟩,.nilsl,⟨1,rfl⟩,rfl,.nil⟩
 | cons p r=>
  have hlen:ab ((p::r).map nI)=(p::r).length:=by rw[aI,List.length_map]
  have hP:=lB (p::r)
  have hb':(p::r).length≤cD:=Nat.le_trans hln hb
  refine dH (A:=aq [] [(4,u6 (ao o) ((p::r).map nI) (f4 (ao o) ((p::r).map nI) (ab ((p::r).map nI)) (fq ((p::r).map (dI o.cust)) (p::r).length)))] (cz [(151,.fsl false ((p::r).map nI))]) [] []) base0 am
   (aN (LsOk.at1 rfl FO fun st Q hs=> .seen base0.glob hs.1 ?_)) hcl ?_
  ·have hp:=hps p (by simp)
   have g2:=List.getElem?_eq_getElem hp
   have htx:dI o.cust p=(o.cust[p]).text:=by simp[dI,hp]
   have hT:((p::r).map (dI o.cust))[0]? =some (dI o.cust p):=rfl
   have hs1:=FN hT
   rw[htx] at hs1
   revert g2 hs1
   generalize o.cust[p]=c
   intro g2 hs1
   have hs1:flat [gB c.text]=fq ((p::r).map (dI o.cust)) 1:=hs1
   have hq:=hs.2
   rw[hlen] at hq
   refine ALp.round (A:=pv p c.name c.text) (V2:=f4 (ao o) ((p::r).map nI) 1 (fq ((p::r).map (dI o.cust)) 1)) (F:=lC (ao o) ((p::r).map nI) 0) (lk:=[(0,0),(1,15)]) (lk':=[(0,0)]) base0 am (LsOk.no rfl) .refl ?_
   have hnext:=PN (sm o) (uI o) (uJ o) hps hb' hq 1 (by simp) (by omega)
   simp only[ao]
   rw[FI]
   refine az (fun _=>⟨FM (i:=0) rfl,pq g2,⟨⟨⟨rfl,iV hP⟩,⟨rfl,rfl⟩,⟨rfl,rfl⟩,trivial⟩,⟨⟨rfl,rfl⟩,⟨rfl,rfl,rfl,rfl,rfl⟩,trivial⟩,⟨rfl,hO⟩,⟨hs1,FL _⟩,trivial⟩,hnext⟩) (fun h=> ?_)
   have h:=ltInt_false.1 h
   simp only[hlen,Int.ofNat_eq_natCast,List.length_cons] at h
   omega
  ·simp only[aj,ao]
   rw[PH]
   refine ⟨hpl,⟨⟨⟨rfl,rfl⟩,⟨rfl,iV hP⟩,⟨rfl,rfl⟩,⟨rfl,rfl⟩,trivial⟩,⟨⟨rfl,rfl⟩,trivial⟩,⟨rfl,hO⟩,trivial⟩,.fsl false (((p::r).map (dI o.cust)).map gB),Frz.out (Frz.row (c:=fq ((p::r).map (dI o.cust)) (p::r).length) (es:=((p::r).map (dI o.cust)).map gB) rfl rfl ?_ ?_ (FF _) (sy _)),iV (sy _),FG _⟩
   ·rw[fq,List.take_of_length_le (by simp)]
   ·rw[hlen,List.length_map,List.length_map]
end
end Go.Proofs.YtjhggnebkfpgcaaGreatDoor
namespace Go.Proofs.YtjhggnebkfpgcaaGreatDoor
open Go Go.RowKit
open Go.Proofs.Abs
end Go.Proofs.YtjhggnebkfpgcaaGreatDoor
