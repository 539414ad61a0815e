/- Bs, Same, Clone, Copied, Hand, Kinds, Texts, Put, TSame, Places, More, Ops. -/
import Derived.Test.YtjhggnebkfpgcaaGreatDoorProg
import Derived.Test.YtjhggnebkfpgcaaGreatDoorG5
import Derived.KernelRfl
namespace Go.Proofs.YtjhggnebkfpgcaaGreatDoor
open Go Go.RowKit
open Go.Proofs.Abs
abbrev I (n:Int):AV:= .int .i64 n
def nameL:List (List UInt8):=[[85,110,105,113,117,101,32,73,100,101,110,116,105,102,105,101,114],[78,97,109,101],[79,98,106,101,99,116,32,84,121,112,101],[67,114,121,112,116,111,103,114,97,112,104,105,99,32,65,108,103,111,114,105,116,104,109],[67,114,121,112,116,111,103,114,97,112,104,105,99,32,76,101,110,103,116,104],[67,114,121,112,116,111,103,114,97,112,104,105,99,32,85,115,97,103,101,32,77,97,115,107],[83,116,97,116,101],[73,110,105,116,105,97,108,32,68,97,116,101],[65,99,116,105,118,97,116,105,111,110,32,68,97,116,101],[80,114,111,99,101,115,115,32,83,116,97,114,116,32,68,97,116,101],[80,114,111,116,101,99,116,32,83,116,111,112,32,68,97,116,101],[68,101,97,99,116,105,118,97,116,105,111,110,32,68,97,116,101],[68,101,115,116,114,111,121,32,68,97,116,101],[67,111,109,112,114,111,109,105,115,101,32,79,99,99,117,114,114,101,110,99,101,32,68,97,116,101],[67,111,109,112,114,111,109,105,115,101,32,68,97,116,101],[65,114,99,104,105,118,101,32,68,97,116,101],[76,97,115,116,32,67,104,97,110,103,101,32,68,97,116,101],[82,101,118,111,99,97,116,105,111,110,32,82,101,97,115,111,110],[76,105,110,107],[85,115,97,103,101,32,76,105,109,105,116,115],[120,45,97],[120,45,98],[120,45],[121]]
def u8L (l:List Nat):List AV:=l.map fun n=> .int .u8 (.ofNat n)
def firL:List Nat:=List.replicate 128 240++List.replicate 66 241++List.replicate 30 2++[19]++List.replicate 12 3++[35]++List.replicate 2 3++[52]++List.replicate 3 4++[68]++List.replicate 11 241
def accL:List Nat:=[128,191,160,191,128,159,144,191,128,143]++List.replicate 22 0
def gl:Glob:=fun g=>match Nat.beq g 0 with
 |true=>some (nameL.map .str)
 | false=>match Nat.beq g 1 with
  |true=>some (u8L firL)
  |false=>match Nat.beq g 2 with
   |true=>some (u8L accL)
   |false=>none
theorem Tryz.mixed:Tryz.prog.follows .mixedOrders=true:=by kernel_rfl
noncomputable def opts0:Opts:={how:=fun _=> .pure,summ:=fun _ _=>none,glob:=gl,lf:=100000}
theorem gl_closed:∀g l,gl g=some l→closedAll l=true:=by
 intro g l h
 unfold gl at h
 split at h
 ·simp only[Option.some.injEq] at h;subst h;kernel_rfl
 split at h
 ·simp only[Option.some.injEq] at h;subst h;kernel_rfl
 split at h
 ·simp only[Option.some.injEq] at h;subst h;kernel_rfl
 ·cases h
theorem base0:Base Tryz.prog opts0 40:=base_of Tryz.mixed (fun _ _ _ h=>by cases h) gl_closed
theorem sum0:∀f args v,opts0.summ f args=some v→SemCall Tryz.prog opts0.glob f args v:=fun _ _ _ h=>by cases h
noncomputable def aid0:Aid:=aidOf (fun _ _=>none) (fun _=>none)
theorem aidOk0:AidOk Tryz.prog opts0 aid0:=aidOf_ok sum0
noncomputable def aidJ (hint:List (Nat × Nat × Hint)) (ls:List (Nat × LoopS)) (sem:SemT) (pure all:List Nat):Aid:=aidI Tryz.prog opts0 40 (manyH hint) (manyL ls) sem (manyI pure all)
theorem aidJ_ok {hint:List (Nat × Nat × Hint)} {ls:List (Nat × LoopS)} {sem:SemT} {pure all:List Nat}:AidOk Tryz.prog opts0 (aidJ hint ls sem pure all):=aidI_ok base0 sum0
abbrev zL:List AV:=[AV.str [],I 0,I 0,I 0,I 0,AV.nilsl,I 0,AV.bool false,I 0,AV.bool false,I 0,AV.bool false,I 0,AV.bool false,I 0,AV.bool false,I 0,AV.bool false,I 0,AV.bool false,I 0,AV.bool false,I 0,AV.bool false,I 0,AV.bool false,I 0,I 0,AV.str [],AV.nilsl,AV.nilsl,AV.nilsl,AV.bool false,I 0,I 0,I 0,AV.bool false]
abbrev SC:=SemCall Tryz.prog opts0.glob
noncomputable section
abbrev big:Nat:=1099511627776
def itF (t y n:Int) (D K:List AV):List AV:=[I t,I y,I n,.fsl false D,.fsl false K]
def smV (t y n t' y' n':Int) (D K D' K':List AV) (i:Nat):View:=⟨[(4,.bool false),(5,I (.ofNat i))],[(2,.ptr 0 0),(3,.ptr 1 0)],[(0,.cells (itF t y n D K),.whole),(1,.cells (itF t' y' n' D' K'),.whole)],2,62⟩
def smF:View:=⟨[(4,.bool false)],[],[],2,62⟩
def smA (c c':List AV) (r:Bool):Aid:=aidS (manyH [(6,3,.res (.fptr c 0)),(6,8,.res (.fptr c' 0))]) (fun _=>none) (manyS [(35,.bool r)])
abbrev yb2 (D K:List AV) (n t y:Int):=[I t,I y,I n,AV.fsl false D,AV.fsl false K]
abbrev yb3 (D' K':List AV) (n' t' y':Int):=[I t',I y',I n',AV.fsl false D',AV.fsl false K']
@[simp] abbrev yb4:=(AV.bool false=AV.bool false∧true=true)
@[simp] abbrev yb5:=((some 0=some 0∧0=0)∧(some 1=some 1∧0=0)∧True)
theorem sm_round (t y n t' y' n' a b c a' b' c':Int) (D K D' K' E L E' L':List AV) (i:Nat) (r:Bool) (N:Prop) (Q:AExit→St→Prop):wpK Tryz.prog opts0 40 (smA (itF a b c E L) (itF a' b' c' E' L') r) (lpCode Tryz.prog 35 5) (smV t y n t' y' n' D K D' K' i).st (roundP 0 [(0,0),(1,1)] (smV t y n t' y' n' D K D' K' (i+1)) N [] smF Q)=
  (mtB (ltInt (Int.ofNat i) (Int.ofNat (lenN K))) (indexAddrA Tryz.prog 35 (AV.fsl false K) (I (Int.ofNat i))=some (AV.fptr [I a,I b,I c,AV.fsl false E,AV.fsl false L] 0)∧indexAddrA Tryz.prog 35 (AV.fsl false K') (I (Int.ofNat i))=some (AV.fptr [I a',I b',I c',AV.fsl false E',AV.fsl false L'] 0)∧SC 35 [AV.agg [I a,I b,I c,AV.fsl false E,AV.fsl false L],AV.agg [I a',I b',I c',AV.fsl false E',AV.fsl false L']] (AV.bool r)∧mtB (!r) (((yb4∧True)∧True∧True)∧Q AExit.ret smF.st) (((yb4∧(I (wrapA IntKind.i64 (Int.ofNat i+1))=I (Int.ofNat (i+1))∧closedA (I (Int.ofNat (i+1)))=true)∧True)∧yb5∧((yb2 D K n t y)=(yb2 D K n t y)∧closedAll (yb2 D K n t y)=true)∧((yb3 D' K' n' t' y')=(yb3 D' K' n' t' y')∧closedAll (yb3 D' K' n' t' y')=true)∧True)∧N)) (((yb4∧True)∧True∧True)∧Q (AExit.exit 0) smF.st)):=by kernel_rfl
theorem its_length (l:List It):(itAs l).length=l.length:=by simp[itAs_map]
theorem itA_F (t y n:Int) (d:List UInt8) (ks:List It):itA (.mk t y n d ks)= .agg (itF t y n (toBytes d) (itAs ks)):=rfl
theorem idxI {f:Bool} {ks:List It} {i:Nat} {t y n:Int} {d:List UInt8} {l:List It} (hx:ks[i]? =some (.mk t y n d l)):indexAddrA Tryz.prog 35 (.fsl f (itAs ks)) (.int .i64 (.ofNat i))=some (.fptr (itF t y n (toBytes d) (itAs l)) 0):=
 fsl_index (v:=itA (.mk t y n d l)) (e:=37) (sz:=5) (by kernel_rfl) (by kernel_rfl) (by rw[itAs_map,List.getElem?_map,hx];rfl) rfl
theorem sm_loop {t y n t' y' n':Int} {D D':List AV} {ks ks':List It} {Q:AExit→St→Prop} (hD:closedAll D=true) (hD':closedAll D'=true) (hb:ks.length≤big) (hl:ks.length=ks'.length)
  (ih:∀ (i:Nat) (x z:It),ks[i]? =some x→ks'[i]? =some z→SC 35 [itA x,itA z] (.bool (sameI x z))):
  ∀ (m i:Nat),i+m=ks.length→mtB (sameIs (ks.drop i) (ks'.drop i)) (Q (.exit 0) smF.st) (Q .ret smF.st)→ALp Tryz.prog opts0.glob 0 (lpCode Tryz.prog 35 5) (smV t y n t' y' n' D (itAs ks) D' (itAs ks') i).st Q
 | 0,i,hi,hq=>by
  refine ALp.round (A:=smA (itF 0 0 0 [] []) (itF 0 0 0 [] []) true) (V1:=smV t y n t' y' n' D (itAs ks) D' (itAs ks') (i+1)) (F:=smF) (lk:=[(0,0),(1,1)]) (lk':=[]) base0 (aidS_ok sum0) (LsOk.no rfl) .refl ?_
  rw[sm_round]
  refine mtB_of (fun h=> ?_) (fun _=> ?_)
  ·have h:=ltInt_iff.1 h
   simp only[lenN_eq,its_length,Int.ofNat_eq_natCast] at h
   omega
  ·rw[List.drop_of_length_le (by omega),List.drop_of_length_le (by omega)] at hq
   exact ⟨by simp,hq⟩
 | m+1,i,hi,hq=>by
  have h1:i<ks.length:=by omega
  have h2:i<ks'.length:=by omega
  rw[List.drop_eq_getElem_cons h1,List.drop_eq_getElem_cons h2,sameIs] at hq
  have g1:ks[i]? =some ks[i]:=List.getElem?_eq_getElem h1
  have g2:ks'[i]? =some ks'[i]:=List.getElem?_eq_getElem h2
  have hs:=ih i _ _ g1 g2
  revert hs g1 g2 hq
  generalize ks[i]=x
  generalize ks'[i]=z
  intro hq g1 g2 hs
  obtain ⟨a,b,c,e,l⟩:=x
  obtain ⟨a',b',c',e',l'⟩:=z
  refine ALp.round (A:=smA (itF a b c (toBytes e) (itAs l)) (itF a' b' c' (toBytes e') (itAs l')) (sameI (.mk a b c e l) (.mk a' b' c' e' l'))) (V1:=smV t y n t' y' n' D (itAs ks) D' (itAs ks') (i+1)) (F:=smF) (lk:=[(0,0),(1,1)]) (lk':=[]) base0 (aidS_ok sum0) (LsOk.no rfl) .refl ?_
  rw[sm_round]
  refine mtB_of (fun _=>⟨idxI g1,idxI g2,hs,mtB_of (fun h=> ?_) (fun h=> ?_)⟩) (fun h=> ?_)
  ·rw[Bool.not_eq_true'] at h
   rw[h] at hq
   exact ⟨by simp,hq⟩
  ·rw[Bool.not_eq_false'] at h
   rw[h] at hq
   have hb:ks.length≤1099511627776:=hb
   rw[wrapA_i64 (by simp;omega) (by simp;omega)]
   refine ⟨by simp[closedA,closedAll,hD,hD',closed_its],sm_loop hD hD' hb hl ih m (i+1) (by omega) hq⟩
  ·have h:=ltInt_false.1 h
   simp only[lenN_eq,its_length,Int.ofNat_eq_natCast] at h
   omega
def smL (t y n t' y' n':Int) (D K D' K':List AV) (p:Prop) (r:Bool):LoopS:=fun s Q=>p∧seesK 0 [(0,0),(1,1)] (smV t y n t' y' n' D K D' K' 0) s∧mtB r (Q (.exit 0) smF.st) (Q .ret smF.st)
def smB (L:LoopS):Aid:=aidS (manyH []) (manyL [(5,L)]) noSem
abbrev yb1 (D D' K K':List AV) (Q:AV→Heap→Nat→Prop) (n n' t t' y y':Int):=(Q (AV.bool false) [(1,some (Blk.cells (yb3 D' K' n' t' y'))),(0,some (Blk.cells (yb2 D K n t y)))] 41)
theorem sm_fn (t y n t' y' n':Int) (D K D' K':List AV) (p:Prop) (r:Bool) (Q:AV→Heap→Nat→Prop):fnK Tryz.prog opts0 40 (smB (smL t y n t' y' n' D K D' K' p r)) 35 [.agg (itF t y n D K),.agg (itF t' y' n' D' K')] [] 0 Q=
  (mtB (!beqInt t t') (yb1 D D' K K' Q n n' t t' y y') (mtB (!beqInt y y') (yb1 D D' K K' Q n n' t t' y y') (mtB (!beqInt n n') (yb1 D D' K K' Q n n' t t' y y') (oblB (bytesOf D).isSome (oblB (bytesOf D').isSome (mtB (!beqBytes (strOf D) (strOf D')) (yb1 D D' K K' Q n n' t t' y y') (mtB (!beqInt (Int.ofNat (lenN K)) (Int.ofNat (lenN K'))) (yb1 D D' K K' Q n n' t t' y y') (p∧((yb4∧(I 0=I 0∧true=true)∧True)∧yb5∧((yb2 D K n t y)=(yb2 D K n t y)∧closedAll (yb2 D K n t y)=true)∧((yb3 D' K' n' t' y')=(yb3 D' K' n' t' y')∧closedAll (yb3 D' K' n' t' y')=true)∧True)∧mtB r (Q (AV.bool true) [] 3) (Q (AV.bool false) [] 2))))))))):=by kernel_rfl
theorem sm_at:loopsAt (fnCode Tryz.prog 35) 5=[lpCode Tryz.prog 35 5]:=by kernel_rfl
theorem sm_body {t y n t' y' n':Int} {d d':List UInt8} {ks ks':List It} (h:okI big (.mk t y n d ks))
  (ih:∀ (i:Nat) (x z:It),ks[i]? =some x→ks'[i]? =some z→SC 35 [itA x,itA z] (.bool (sameI x z))):
  SC 35 [itA (.mk t y n d ks),itA (.mk t' y' n' d' ks')] (.bool (sameI (.mk t y n d ks) (.mk t' y' n' d' ks'))):=by
 simp only[okI] at h
 obtain ⟨h3,h4,h5⟩:=h
 refine fnK_sem (A:=smB (smL t y n t' y' n' (toBytes d) (itAs ks) (toBytes d') (itAs ks') (ks.length=ks'.length) (sameIs ks ks'))) base0 (aidS_ok sum0)
  (fnLs_of (LsOk.at1 rfl sm_at fun s Q hs=> .seen base0.glob hs.2.1 (sm_loop (by simp) (by simp) h4 hs.1 ih ks.length 0 (by omega) (by simpa using hs.2.2)))) (by simp[closedAll,closed_it]) ?_
 rw[itA_F,itA_F,sm_fn]
 simp only[sameI]
 refine mtB_of (fun e=> ?_) (fun e=>mtB_of (fun e2=> ?_) (fun e2=>mtB_of (fun e3=> ?_) (fun e3=>oblB_of (by simp) (oblB_of (by simp) (mtB_of (fun e4=> ?_) (fun e4=>mtB_of (fun e5=> ?_) (fun e5=>⟨?_,by simp[closedAll,closedA,closed_its],mtB_of (fun e6=> ?_) (fun e6=> ?_)⟩)))))))
 ·exact fin_bool (by simp_all)
 ·exact fin_bool (by simp_all)
 ·exact fin_bool (by simp_all)
 ·exact fin_bool (by simp_all)
 ·have hne:sameIs ks ks'=false:=by
   cases hs:sameIs ks ks' with
   |false=>rfl
   |true=>
    rw[lenN_eq,lenN_eq,its_length,its_length,sameIs_length hs,Bool.not_eq_true',beqInt_false] at e5
    exact absurd rfl e5
  exact fin_bool (by simp[hne])
 ·rw[Bool.not_eq_false',beqInt_iff,lenN_eq,lenN_eq,its_length,its_length] at e5
  exact Int.ofNat.inj e5
 ·exact fin_bool (by simp_all)
 ·exact fin_bool (by simp_all)
mutual
theorem same_sem:∀x z:It,okI big x→SC 35 [itA x,itA z] (.bool (sameI x z))
 | .mk _ _ _ _ ks,.mk _ _ _ _ _ks',h=>sm_body h fun _i x z hx _=>same_sems ks x (List.mem_of_getElem? hx) z (okIs_iff.1 h.2.2 x (List.mem_of_getElem? hx))
theorem same_sems:∀ks:List It,∀x∈ks,∀z,okI big x→SC 35 [itA x,itA z] (.bool (sameI x z))
 |[],_,hx,_,_=>by cases hx
 |k::r,x,hx,z,h=>by
  have h1:=same_sem k z
  have h2:=same_sems r x
  rcases List.mem_cons.1 hx with e|hx
  ·rw[e] at h⊢;exact h1 h
  ·exact h2 hx z h
end
end
def isI:It→Int→Int→Bool
 | .mk t y n d k,tag,kind=>beqInt t tag&&(beqInt y kind&&((beqInt kind 1||beqInt (.ofNat k.length) 0)&&((beqInt kind 7||beqInt (.ofNat d.length) 0)&&((!beqInt kind 7&& !beqInt kind 1)||beqInt n 0))))
theorem closed_flat:∀ {l:List AV},closedAll l=true→(∀e∈l,closedAll e.cells=true)→closedAll (flat l)=true
  |[],_,_=>rfl
  | a::t,h,h2=>by
    simp only[closedAll,Bool.and_eq_true] at h
    have:=closed_flat h.2 fun e he=>h2 e (by simp[he])
    have h1:=h2 a (by simp)
    simp only[flat]
    exact closed_app h1 this
 where
  closed_app:∀ {a b:List AV},closedAll a=true→closedAll b=true→closedAll (a++b)=true
    |[],_,_,h=>h
    | x::r,_,h,h'=>by
      simp only[closedAll,Bool.and_eq_true] at h
      simp only[List.cons_append,closedAll,h.1,closed_app h.2 h',Bool.and_self]
theorem pick_fn (n m:Int) (Q:AV→Heap→Nat→Prop):fnK Tryz.prog opts0 40 aid0 23 [I n,I m] [] 0 Q=
  (oblB (!beqInt m 0) (mtB (ltInt (n.tmod m) 0) (Q (I (wrapA IntKind.i64 (n.tmod m+m))) [] 13) (Q (I (n.tmod m)) [] 9))):=by kernel_rfl
theorem pick_sem (n:Int) {m:Int} (h0:0<m) (h1:m≤4611686018427387904):SC 23 [I n,I m] (I (n%m)):=by
 refine fnK_sem (A:=aid0) base0 aidOk0 (fnLs_of (LsOk.no rfl)) rfl ?_
 rw[pick_fn]
 have hm:=Int.tmod_lt_of_pos n h0
 have hm':=Int.lt_tmod_of_pos n h0
 have he:=Int.emod_nonneg n (Int.ne_of_gt h0)
 have hd:=Int.emod_lt_of_pos n h0
 have key:n%m=if n.tmod m<0 then n.tmod m+m else n.tmod m:=by
  have e1:=Int.tmod_eq_emod (a:=n) (b:=m)
  split at e1
  ·rw[e1,if_neg (by omega)];omega
  ·have:(m.natAbs:Int)=m:=Int.natAbs_of_nonneg (by omega)
   split<;>omega
 refine oblB_of (by rw[Bool.not_eq_true',beqInt_false];omega) ?_
 refine mtB_of (fun h=> ?_) (fun h=> ?_)
 ·have h:=ltInt_iff.1 h
  rw[if_pos h] at key
  exact fin_int (by rw[wrapA_i64 (by omega) (by omega),key])
 ·have h:=ltInt_false.1 h
  rw[if_neg (by omega)] at key
  exact fin_int key.symm
structure Rw where
 k:Int
 a:Int
 b:Int
 c:Int
def rwC (r:Rw):List AV:=[I r.k,I r.a,I r.b,I r.c]
def rwA (r:Rw):AV:= .agg (rwC r)
def ofL {α:Type} (l:List α) (d:α) (n:Int):α:=(l[(n%(l.length:Int)).toNat]?).getD d
def pkF:List AV→Option AV
 |[.int _ n,.int _ m]=>some (I (n%m))
 |_=>none
theorem mod_nat {n m:Int} (h:0<m):∃k:Nat,n%m=(k:Int)∧(k:Int)<m:=by
 have h1:=Int.emod_nonneg n (Int.ne_of_gt h)
 have h2:=Int.emod_lt_of_pos n h
 exact ⟨(n%m).toNat,by omega,by omega⟩
theorem ofL_mem {α:Type} (l:List α) (d:α) (n:Int) (h:l≠[]):ofL l d n∈l:=by
 have hp:0<l.length:=List.length_pos_iff.2 h
 obtain ⟨k,h1,h2⟩:=mod_nat (n:=n) (m:=(l.length:Int)) (by omega)
 have hk:k<l.length:=by omega
 unfold ofL
 rw[h1]
 have:(k:Int).toNat=k:=by omega
 rw[this,List.getElem?_eq_getElem hk]
 simp
def idL:List (List UInt8):=[[49],[50],[51],[52],[53],[54],[55],[49],[50],[51],[57,57],[120]]
noncomputable def idA (s:List UInt8):Aid:=aidJ [(1,3,.res (.str s))] [] (manyF [(23,pkF)]) [] []
theorem id_fn (n:Int) (s:List UInt8) (Q:AV→Heap→Nat→Prop):fnK Tryz.prog opts0 40 (idA s) 67 [I n] [] 0 Q=
  (SC 23 [I n,I 12] (I (n%12))∧indexA Tryz.prog 160 (AV.agg [AV.str [49],AV.str [50],AV.str [51],AV.str [52],AV.str [53],AV.str [54],AV.str [55],AV.str [49],AV.str [50],AV.str [51],AV.str [57,57],AV.str [120]]) (I (n%12))=some (AV.str s)∧Q (AV.str s) [] 6):=by kernel_rfl
noncomputable def nmA (k:Nat) (s:List UInt8):Aid:=aidJ [(1,2,.res (.gptr 0 k)),(1,3,.ld (.str s))] [] (manyF [(23,pkF)]) [] []
theorem name_fn (n:Int) (k:Nat) (s:List UInt8) (Q:AV→Prop):fnK Tryz.prog opts0 40 (nmA k s) 43 [I n] [] 0 (fun v _ _=>Q v)=
  (SC 23 [I n,I 24] (I (n%24))∧indexAddrA Tryz.prog 135 (AV.gptr 0 0) (I (n%24))=some (AV.gptr 0 k)∧loadA Tryz.prog 9 (AV.gptr 0 k) opts0.glob=some (Eff.val (AV.str s))∧Q (AV.str s)):=by kernel_rfl
theorem mod_cases {n:Int} {m:Nat} (h:0<m) {p:Int→Prop} (hp:∀k:Nat,k<m→p (k:Int)):p (n%(m:Int)):=by
 obtain ⟨k,h1,h2⟩:=mod_nat (n:=n) (m:=(m:Int)) (by omega)
 rw[h1]
 exact hp k (by omega)
theorem lt_cases {m:Nat} {p:Nat→Prop} (h:∀k∈List.range m,p k):∀k:Nat,k<m→p k:=fun k hk=>h k (List.mem_range.2 hk)
theorem id_sem (n:Int):SC 67 [I n] (.str (ofL idL [] n)):=by
 refine fnK_sem (A:=idA (ofL idL [] n)) base0 aidJ_ok (fnLs_of (LsOk.no rfl)) rfl ?_
 rw[id_fn]
 refine And.intro (pick_sem n (m:=12) (by decide) (by decide)) (And.intro ?_ (fin_closed rfl))
 unfold ofL
 exact mod_cases (m:=12) (p:=fun x=>indexA Tryz.prog 160 (.agg (idL.map .str)) (I x)=some (.str ((idL[x.toNat]?).getD []))) (by decide) (lt_cases (by simp only[List.range,List.range.loop,List.forall_mem_cons];refine ⟨?_, ?_, ?_, ?_, ?_, ?_, ?_, ?_, ?_, ?_, ?_, ?_, ?_⟩<;>first|kernel_rfl|(intro _ h;cases h)))
theorem name_sem (n:Int):SC 43 [I n] (.str (ofL nameL [] n)):=by
 refine fnK_semV (A:=nmA (n%24).toNat (ofL nameL [] n)) base0 aidJ_ok (fnLs_of (LsOk.no rfl)) rfl rfl ?_
 rw[name_fn]
 refine And.intro (pick_sem n (m:=24) (by decide) (by decide)) ?_
 unfold ofL
 exact mod_cases (m:=24) (p:=fun x=>indexAddrA Tryz.prog 135 (.gptr 0 0) (I x)=some (.gptr 0 x.toNat)∧loadA Tryz.prog 9 (.gptr 0 x.toNat) opts0.glob=some (Eff.val (.str ((nameL[x.toNat]?).getD [])))∧AV.str ((nameL[x.toNat]?).getD [])= .str ((nameL[x.toNat]?).getD [])) (by decide) (lt_cases (by simp only[List.range,List.range.loop,List.forall_mem_cons];refine ⟨?_, ?_, ?_, ?_, ?_, ?_, ?_, ?_, ?_, ?_, ?_, ?_, ?_, ?_, ?_, ?_, ?_, ?_, ?_, ?_, ?_, ?_, ?_, ?_, ?_⟩<;>first|exact ⟨by kernel_rfl,by kernel_rfl,by first|rfl|trivial⟩|(intro _ h;cases h)))
def vlV (y n:Int) (d:List UInt8) (ks:List It):It:= .mk 4325387 y n d ks
structure At where
 name:List UInt8
 idx:Int
 v:It
def itC:It→List AV
 | .mk t y n d ks=>itF t y n (toBytes d) (itAs ks)
theorem itA_C (x:It):itA x= .agg (itC x):=by cases x;rfl
def atC (a:At):List AV:= .str a.name::I a.idx::itC a.v
def atA (a:At):AV:= .agg (atC a)
theorem closed_itC (x:It):closedAll (itC x)=true:=by
 have:=closed_it x
 rw[itA_C] at this
 exact this
theorem closed_atA (a:At):closedA (atA a)=true:=by simp only[atA,atC,closedA,closedAll,closed_itC,Bool.and_self]
noncomputable section
inductive Kd where
 |uid|nam|typ|alg|len|mask|sta
 |dat (k:Nat)
 |why|lnk|lim
 |cus (s:List UInt8)
def dateN:Nat→List UInt8
 |0=>[73,110,105,116,105,97,108,32,68,97,116,101]
 |1=>[65,99,116,105,118,97,116,105,111,110,32,68,97,116,101]
 |2=>[80,114,111,99,101,115,115,32,83,116,97,114,116,32,68,97,116,101]
 |3=>[80,114,111,116,101,99,116,32,83,116,111,112,32,68,97,116,101]
 |4=>[68,101,97,99,116,105,118,97,116,105,111,110,32,68,97,116,101]
 |5=>[68,101,115,116,114,111,121,32,68,97,116,101]
 |6=>[67,111,109,112,114,111,109,105,115,101,32,79,99,99,117,114,114,101,110,99,101,32,68,97,116,101]
 |7=>[67,111,109,112,114,111,109,105,115,101,32,68,97,116,101]
 |8=>[65,114,99,104,105,118,101,32,68,97,116,101]
 |_=>[76,97,115,116,32,67,104,97,110,103,101,32,68,97,116,101]
def nameK:Kd→List UInt8
 | .uid=>[85,110,105,113,117,101,32,73,100,101,110,116,105,102,105,101,114]
 | .nam=>[78,97,109,101]
 | .typ=>[79,98,106,101,99,116,32,84,121,112,101]
 | .alg=>[67,114,121,112,116,111,103,114,97,112,104,105,99,32,65,108,103,111,114,105,116,104,109]
 | .len=>[67,114,121,112,116,111,103,114,97,112,104,105,99,32,76,101,110,103,116,104]
 | .mask=>[67,114,121,112,116,111,103,114,97,112,104,105,99,32,85,115,97,103,101,32,77,97,115,107]
 | .sta=>[83,116,97,116,101]
 | .why=>[82,101,118,111,99,97,116,105,111,110,32,82,101,97,115,111,110]
 | .lnk=>[76,105,110,107]
 | .lim=>[85,115,97,103,101,32,76,105,109,105,116,115]
 | .dat k=>dateN k
 | .cus s=>s
def manyK:Kd→Bool
 | .nam| .lnk| .cus _=>true
 |_=>false
def setD (k:Nat):Bool:=Nat.ble 1 k&&Nat.ble k 4
def setK:Kd→Bool
 | .nam| .lnk| .cus _| .alg| .len| .mask| .lim=>true
 | .dat k=>setD k
 |_=>false
def typeK:Kd→Int
 | .uid| .nam| .cus _=>7
 | .typ| .alg| .sta=>5
 | .len| .mask=>2
 | .dat _=>9
 | .why| .lnk| .lim=>1
def fnA (f:Nat):AV:= .func (.func f) [] []
def fnC (f:Nat) (c:List AV):AV:= .func (.func f) [] c
def alw:AV:=fnA 158
def youngA:AV:=fnA 125
def usedA:AV:=fnA 137
def addD:Nat→AV
 |1|2=>youngA
 |3|4=>usedA
 |_=> .nilFunc
def addK:Kd→AV
 | .nam| .lnk| .cus _| .lim=>alw
 | .dat k=>addD k
 |_=> .nilFunc
def modK:Kd→AV
 | .nam| .lnk| .cus _=>alw
 | .mask=>youngA
 | .lim=>fnA 189
 | .dat k=>addD k
 |_=> .nilFunc
def remD:Nat→AV
 |2=>youngA
 |3=>usedA
 |_=> .nilFunc
def remK:Kd→AV
 | .nam| .lnk| .cus _=>alw
 | .lim=>fnA 189
 | .dat k=>remD k
 |_=> .nilFunc
def atF:Kd→AV
 | .alg=>fnA 132
 | .len=>fnA 133
 |_=>fnA 124
def mostK:Kd→Int
 | .alg=>100
 | .len=>100000
 |_=>1048575
def leastK:Kd→Int
 | .mask=>0
 |_=>1
def plG (k:Kd):AV:=fnC 161 [.fptr [atF k] 0,.fptr [I (leastK k)] 0,.fptr [I (typeK k)] 0]
def plR (k:Kd):AV:=fnC 162 [.fptr [I (typeK k)] 0,.fptr [I (leastK k)] 0,.fptr [I (mostK k)] 0]
def plP (k:Kd):AV:=fnC 164 [.fptr [atF k] 0]
def nI (k:Nat):AV:= .int .i64 (.ofNat k)
def getF:Kd→AV
 | .uid=>fnA 127
 | .nam=>fnA 166
 | .typ=>fnA 130
 | .sta=>fnA 134
 | .dat k=>fnC 172 [.fptr [nI k] 0]
 | .why=>fnA 138
 | .lnk=>fnA 178
 | .lim=>fnA 184
 | .cus s=>fnC 150 [.fptr [.str s] 0]
 |k=>plG k
def rightF:Kd→AV
 | .nam=>fnA 167
 | .dat _=>fnA 173
 | .lnk=>fnA 179
 | .lim=>fnA 185
 | .cus _=>fnA 152
 | .uid| .typ| .sta| .why=> .nilFunc
 |k=>plR k
def putF:Kd→AV
 | .nam=>fnA 168
 | .dat k=>fnC 174 [.fptr [nI k] 0]
 | .lnk=>fnA 180
 | .lim=>fnA 187
 | .cus s=>fnC 154 [.fptr [.str s] 0]
 | .uid| .typ| .sta| .why=> .nilFunc
 |k=>plP k
def dropF:Kd→AV
 | .nam=>fnA 170
 | .dat k=>fnC 175 [.fptr [nI k] 0]
 | .lnk=>fnA 182
 | .lim=>fnA 188
 | .cus s=>fnC 156 [.fptr [.str s] 0]
 |_=> .nilFunc
def roomF:Kd→AV
 | .nam=>fnA 165
 | .lnk=>fnA 177
 | .cus _=>fnA 149
 |_=> .nilFunc
def rowC (k:Kd):List AV:=[.str (nameK k),I (typeK k),.bool (manyK k),.bool (setK k),addK k,modK k,remK k,getF k,rightF k,putF k,dropF k,roomF k]
def rowA (k:Kd):AV:= .agg (rowC k)
def rowZ:AV:= .agg [.str [],I 0,.bool false,.bool false,.nilFunc,.nilFunc,.nilFunc,.nilFunc,.nilFunc,.nilFunc,.nilFunc,.nilFunc]
def kinds:List Kd:=[.uid,.nam,.typ,.alg,.len,.mask,.sta,.dat 0,.dat 1,.dat 2,.dat 3,.dat 4,.dat 5,.dat 6,.dat 7,.dat 8,.dat 9,.why,.lnk,.lim]
abbrev yf1:=[AV.str [67,114,121,112,116,111,103,114,97,112,104,105,99,32,85,115,97,103,101,32,77,97,115,107],I 2,AV.bool false,AV.bool true,AV.nilFunc,AV.func (Fn.func 125) [] [],AV.nilFunc,AV.func (Fn.func 161) [] [AV.fptr [AV.func (Fn.func 124) [] []] 0,AV.fptr [I 0] 0,AV.fptr [I 2] 0],AV.func (Fn.func 162) [] [AV.fptr [I 2] 0,AV.fptr [I 0] 0,AV.fptr [I 1048575] 0],AV.func (Fn.func 164) [] [AV.fptr [AV.func (Fn.func 124) [] []] 0],AV.nilFunc,AV.nilFunc]
abbrev yf2:=[AV.str [67,114,121,112,116,111,103,114,97,112,104,105,99,32,65,108,103,111,114,105,116,104,109],I 5,AV.bool false,AV.bool true,AV.nilFunc,AV.nilFunc,AV.nilFunc,AV.func (Fn.func 161) [] [AV.fptr [AV.func (Fn.func 132) [] []] 0,AV.fptr [I 1] 0,AV.fptr [I 5] 0],AV.func (Fn.func 162) [] [AV.fptr [I 5] 0,AV.fptr [I 1] 0,AV.fptr [I 100] 0],AV.func (Fn.func 164) [] [AV.fptr [AV.func (Fn.func 132) [] []] 0],AV.nilFunc,AV.nilFunc]
abbrev yf3:=[AV.str [67,114,121,112,116,111,103,114,97,112,104,105,99,32,76,101,110,103,116,104],I 2,AV.bool false,AV.bool true,AV.nilFunc,AV.nilFunc,AV.nilFunc,AV.func (Fn.func 161) [] [AV.fptr [AV.func (Fn.func 133) [] []] 0,AV.fptr [I 1] 0,AV.fptr [I 2] 0],AV.func (Fn.func 162) [] [AV.fptr [I 2] 0,AV.fptr [I 1] 0,AV.fptr [I 100000] 0],AV.func (Fn.func 164) [] [AV.fptr [AV.func (Fn.func 133) [] []] 0],AV.nilFunc,AV.nilFunc]
abbrev yf4:=[AV.str [80,114,111,99,101,115,115,32,83,116,97,114,116,32,68,97,116,101],I 9,AV.bool false,AV.bool true,AV.func (Fn.func 125) [] [],AV.func (Fn.func 125) [] [],AV.func (Fn.func 125) [] [],AV.func (Fn.func 172) [] [AV.fptr [I 2] 0],AV.func (Fn.func 173) [] [],AV.func (Fn.func 174) [] [AV.fptr [I 2] 0],AV.func (Fn.func 175) [] [AV.fptr [I 2] 0],AV.nilFunc]
abbrev yf5:=[AV.str [80,114,111,116,101,99,116,32,83,116,111,112,32,68,97,116,101],I 9,AV.bool false,AV.bool true,AV.func (Fn.func 137) [] [],AV.func (Fn.func 137) [] [],AV.func (Fn.func 137) [] [],AV.func (Fn.func 172) [] [AV.fptr [I 3] 0],AV.func (Fn.func 173) [] [],AV.func (Fn.func 174) [] [AV.fptr [I 3] 0],AV.func (Fn.func 175) [] [AV.fptr [I 3] 0],AV.nilFunc]
abbrev yf6:=[AV.str [67,111,109,112,114,111,109,105,115,101,32,79,99,99,117,114,114,101,110,99,101,32,68,97,116,101],I 9,AV.bool false,AV.bool false,AV.nilFunc,AV.nilFunc,AV.nilFunc,AV.func (Fn.func 172) [] [AV.fptr [I 6] 0],AV.func (Fn.func 173) [] [],AV.func (Fn.func 174) [] [AV.fptr [I 6] 0],AV.func (Fn.func 175) [] [AV.fptr [I 6] 0],AV.nilFunc]
abbrev yf7:=[AV.str [68,101,97,99,116,105,118,97,116,105,111,110,32,68,97,116,101],I 9,AV.bool false,AV.bool true,AV.func (Fn.func 137) [] [],AV.func (Fn.func 137) [] [],AV.nilFunc,AV.func (Fn.func 172) [] [AV.fptr [I 4] 0],AV.func (Fn.func 173) [] [],AV.func (Fn.func 174) [] [AV.fptr [I 4] 0],AV.func (Fn.func 175) [] [AV.fptr [I 4] 0],AV.nilFunc]
abbrev yf9:=[AV.str [65,99,116,105,118,97,116,105,111,110,32,68,97,116,101],I 9,AV.bool false,AV.bool true,AV.func (Fn.func 125) [] [],AV.func (Fn.func 125) [] [],AV.nilFunc,AV.func (Fn.func 172) [] [AV.fptr [I 1] 0],AV.func (Fn.func 173) [] [],AV.func (Fn.func 174) [] [AV.fptr [I 1] 0],AV.func (Fn.func 175) [] [AV.fptr [I 1] 0],AV.nilFunc]
abbrev yf10:=[AV.str [76,97,115,116,32,67,104,97,110,103,101,32,68,97,116,101],I 9,AV.bool false,AV.bool false,AV.nilFunc,AV.nilFunc,AV.nilFunc,AV.func (Fn.func 172) [] [AV.fptr [I 9] 0],AV.func (Fn.func 173) [] [],AV.func (Fn.func 174) [] [AV.fptr [I 9] 0],AV.func (Fn.func 175) [] [AV.fptr [I 9] 0],AV.nilFunc]
abbrev yf11:=[AV.str [67,111,109,112,114,111,109,105,115,101,32,68,97,116,101],I 9,AV.bool false,AV.bool false,AV.nilFunc,AV.nilFunc,AV.nilFunc,AV.func (Fn.func 172) [] [AV.fptr [I 7] 0],AV.func (Fn.func 173) [] [],AV.func (Fn.func 174) [] [AV.fptr [I 7] 0],AV.func (Fn.func 175) [] [AV.fptr [I 7] 0],AV.nilFunc]
abbrev yf12:=[AV.str [85,115,97,103,101,32,76,105,109,105,116,115],I 1,AV.bool false,AV.bool true,AV.func (Fn.func 158) [] [],AV.func (Fn.func 189) [] [],AV.func (Fn.func 189) [] [],AV.func (Fn.func 184) [] [],AV.func (Fn.func 185) [] [],AV.func (Fn.func 187) [] [],AV.func (Fn.func 188) [] [],AV.nilFunc]
abbrev yf14:=[AV.str [68,101,115,116,114,111,121,32,68,97,116,101],I 9,AV.bool false,AV.bool false,AV.nilFunc,AV.nilFunc,AV.nilFunc,AV.func (Fn.func 172) [] [AV.fptr [I 5] 0],AV.func (Fn.func 173) [] [],AV.func (Fn.func 174) [] [AV.fptr [I 5] 0],AV.func (Fn.func 175) [] [AV.fptr [I 5] 0],AV.nilFunc]
abbrev yf15:=[AV.str [73,110,105,116,105,97,108,32,68,97,116,101],I 9,AV.bool false,AV.bool false,AV.nilFunc,AV.nilFunc,AV.nilFunc,AV.func (Fn.func 172) [] [AV.fptr [I 0] 0],AV.func (Fn.func 173) [] [],AV.func (Fn.func 174) [] [AV.fptr [I 0] 0],AV.func (Fn.func 175) [] [AV.fptr [I 0] 0],AV.nilFunc]
abbrev yf16:=[AV.str [65,114,99,104,105,118,101,32,68,97,116,101],I 9,AV.bool false,AV.bool false,AV.nilFunc,AV.nilFunc,AV.nilFunc,AV.func (Fn.func 172) [] [AV.fptr [I 8] 0],AV.func (Fn.func 173) [] [],AV.func (Fn.func 174) [] [AV.fptr [I 8] 0],AV.func (Fn.func 175) [] [AV.fptr [I 8] 0],AV.nilFunc]
abbrev yf17:=[AV.str [76,105,110,107],I 1,AV.bool true,AV.bool true,AV.func (Fn.func 158) [] [],AV.func (Fn.func 158) [] [],AV.func (Fn.func 158) [] [],AV.func (Fn.func 178) [] [],AV.func (Fn.func 179) [] [],AV.func (Fn.func 180) [] [],AV.func (Fn.func 182) [] [],AV.func (Fn.func 177) [] []]
abbrev yf18:=[AV.str [78,97,109,101],I 7,AV.bool true,AV.bool true,AV.func (Fn.func 158) [] [],AV.func (Fn.func 158) [] [],AV.func (Fn.func 158) [] [],AV.func (Fn.func 166) [] [],AV.func (Fn.func 167) [] [],AV.func (Fn.func 168) [] [],AV.func (Fn.func 170) [] [],AV.func (Fn.func 165) [] []]
abbrev yf20:=[AV.str [85,110,105,113,117,101,32,73,100,101,110,116,105,102,105,101,114],I 7,AV.bool false,AV.bool false,AV.nilFunc,AV.nilFunc,AV.nilFunc,AV.func (Fn.func 127) [] [],AV.nilFunc,AV.nilFunc,AV.nilFunc,AV.nilFunc]
abbrev yf21:=[AV.str [82,101,118,111,99,97,116,105,111,110,32,82,101,97,115,111,110],I 1,AV.bool false,AV.bool false,AV.nilFunc,AV.nilFunc,AV.nilFunc,AV.func (Fn.func 138) [] [],AV.nilFunc,AV.nilFunc,AV.nilFunc,AV.nilFunc]
abbrev yf22:=[AV.str [79,98,106,101,99,116,32,84,121,112,101],I 5,AV.bool false,AV.bool false,AV.nilFunc,AV.nilFunc,AV.nilFunc,AV.func (Fn.func 130) [] [],AV.nilFunc,AV.nilFunc,AV.nilFunc,AV.nilFunc]
abbrev yf23:=[AV.str [83,116,97,116,101],I 5,AV.bool false,AV.bool false,AV.nilFunc,AV.nilFunc,AV.nilFunc,AV.func (Fn.func 134) [] [],AV.nilFunc,AV.nilFunc,AV.nilFunc,AV.nilFunc]
abbrev yf8:=(AV.fsl true [AV.agg yf20,AV.agg yf18,AV.agg yf22,AV.agg yf2,AV.agg yf3,AV.agg yf1,AV.agg yf23,AV.agg yf15,AV.agg yf9,AV.agg yf4,AV.agg yf5,AV.agg yf7,AV.agg yf14,AV.agg yf6,AV.agg yf11,AV.agg yf16,AV.agg yf10,AV.agg yf21,AV.agg yf17,AV.agg yf12])
theorem table_fn (Q:AV→Prop):fnK Tryz.prog opts0 40 aid0 91 [] [] 0 (fun v _ _=>Q v)=
  (Q yf8):=by kernel_rfl
theorem table_sem:SC 91 [] (.fsl true (kinds.map rowA)):=by
 refine fnK_semE (A:=aid0) base0 aidOk0 (fnLs_of (LsOk.no rfl)) rfl ?_
 rw[table_fn]
 exact end_eq rfl (by kernel_rfl)
abbrev yf19 (s:List UInt8):=[AV.str s,I 7,AV.bool true,AV.bool true,AV.func (Fn.func 158) [] [],AV.func (Fn.func 158) [] [],AV.func (Fn.func 158) [] [],AV.func (Fn.func 150) [] [AV.ptr 0 0],AV.func (Fn.func 152) [] [],AV.func (Fn.func 154) [] [AV.ptr 0 0],AV.func (Fn.func 156) [] [AV.ptr 0 0],AV.func (Fn.func 149) [] []]
theorem custom_fn (s:List UInt8) (Q:AV→Heap→Nat→Prop):fnK Tryz.prog opts0 40 aid0 112 [.str s] [] 0 Q=
  (Q (AV.agg (yf19 s)) [(1,some (Blk.cells (yf19 s))),(0,some (Blk.cells [AV.str s]))] 24):=by kernel_rfl
theorem custom_sem (s:List UInt8):SC 112 [.str s] (rowA (.cus s)):=by
 refine fnK_sem (A:=aid0) base0 aidOk0 (fnLs_of (LsOk.no rfl)) rfl ?_
 rw[custom_fn]
 exact ⟨⟨6,rfl⟩,rfl⟩
def fiA (c:Bool) (s:List UInt8):Aid:=aidJ [] [] (manyS [(111,.bool c),(112,rowA (.cus s)),(91,.fsl true (kinds.map rowA))]) [] []
abbrev yf13 (s:List UInt8):=[AV.str s,I 7,AV.bool true,AV.bool true,AV.func (Fn.func 158) [] [],AV.func (Fn.func 158) [] [],AV.func (Fn.func 158) [] [],AV.func (Fn.func 150) [] [AV.fptr [AV.str s] 0],AV.func (Fn.func 152) [] [],AV.func (Fn.func 154) [] [AV.fptr [AV.str s] 0],AV.func (Fn.func 156) [] [AV.fptr [AV.str s] 0],AV.func (Fn.func 149) [] []]
theorem find_fn (c:Bool) (s:List UInt8) (Q:AV→Prop):fnK Tryz.prog opts0 40 (fiA c s) 61 [.str s] [] 0 (fun v _ _=>Q v)=
  (SC 111 [AV.str s] (AV.bool c)∧mtB c (SC 112 [AV.str s] (AV.agg (yf13 s))∧Q (AV.tuple [AV.agg (yf13 s),AV.bool true])) (SC 91 [] yf8∧mtB (beqBytes [85,110,105,113,117,101,32,73,100,101,110,116,105,102,105,101,114] s) (Q (AV.tuple [AV.agg yf20,AV.bool true])) (mtB (beqBytes [78,97,109,101] s) (Q (AV.tuple [AV.agg yf18,AV.bool true])) (mtB (beqBytes [79,98,106,101,99,116,32,84,121,112,101] s) (Q (AV.tuple [AV.agg yf22,AV.bool true])) (mtB (beqBytes [67,114,121,112,116,111,103,114,97,112,104,105,99,32,65,108,103,111,114,105,116,104,109] s) (Q (AV.tuple [AV.agg yf2,AV.bool true])) (mtB (beqBytes [67,114,121,112,116,111,103,114,97,112,104,105,99,32,76,101,110,103,116,104] s) (Q (AV.tuple [AV.agg yf3,AV.bool true])) (mtB (beqBytes [67,114,121,112,116,111,103,114,97,112,104,105,99,32,85,115,97,103,101,32,77,97,115,107] s) (Q (AV.tuple [AV.agg yf1,AV.bool true])) (mtB (beqBytes [83,116,97,116,101] s) (Q (AV.tuple [AV.agg yf23,AV.bool true])) (mtB (beqBytes [73,110,105,116,105,97,108,32,68,97,116,101] s) (Q (AV.tuple [AV.agg yf15,AV.bool true])) (mtB (beqBytes [65,99,116,105,118,97,116,105,111,110,32,68,97,116,101] s) (Q (AV.tuple [AV.agg yf9,AV.bool true])) (mtB (beqBytes [80,114,111,99,101,115,115,32,83,116,97,114,116,32,68,97,116,101] s) (Q (AV.tuple [AV.agg yf4,AV.bool true])) (mtB (beqBytes [80,114,111,116,101,99,116,32,83,116,111,112,32,68,97,116,101] s) (Q (AV.tuple [AV.agg yf5,AV.bool true])) (mtB (beqBytes [68,101,97,99,116,105,118,97,116,105,111,110,32,68,97,116,101] s) (Q (AV.tuple [AV.agg yf7,AV.bool true])) (mtB (beqBytes [68,101,115,116,114,111,121,32,68,97,116,101] s) (Q (AV.tuple [AV.agg yf14,AV.bool true])) (mtB (beqBytes [67,111,109,112,114,111,109,105,115,101,32,79,99,99,117,114,114,101,110,99,101,32,68,97,116,101] s) (Q (AV.tuple [AV.agg yf6,AV.bool true])) (mtB (beqBytes [67,111,109,112,114,111,109,105,115,101,32,68,97,116,101] s) (Q (AV.tuple [AV.agg yf11,AV.bool true])) (mtB (beqBytes [65,114,99,104,105,118,101,32,68,97,116,101] s) (Q (AV.tuple [AV.agg yf16,AV.bool true])) (mtB (beqBytes [76,97,115,116,32,67,104,97,110,103,101,32,68,97,116,101] s) (Q (AV.tuple [AV.agg yf10,AV.bool true])) (mtB (beqBytes [82,101,118,111,99,97,116,105,111,110,32,82,101,97,115,111,110] s) (Q (AV.tuple [AV.agg yf21,AV.bool true])) (mtB (beqBytes [76,105,110,107] s) (Q (AV.tuple [AV.agg yf17,AV.bool true])) (mtB (beqBytes [85,115,97,103,101,32,76,105,109,105,116,115] s) (Q (AV.tuple [AV.agg yf12,AV.bool true])) (Q (AV.tuple [AV.agg [AV.str [],I 0,AV.bool false,AV.bool false,AV.nilFunc,AV.nilFunc,AV.nilFunc,AV.nilFunc,AV.nilFunc,AV.nilFunc,AV.nilFunc,AV.nilFunc],AV.bool false]))))))))))))))))))))))):=by kernel_rfl
def findL (s:List UInt8):List Kd→Option Kd
 |[]=>none
 |k::r=>match beqBytes (nameK k) s with
  |true=>some k
  |false=>findL s r
def findK (c:Bool) (s:List UInt8):Option Kd:=match c with
 |true=>some (.cus s)
 |false=>findL s kinds
def rowO:Option Kd→AV
 |some k=> .tuple [rowA k,.bool true]
 |none=> .tuple [rowZ,.bool false]
theorem closed_row (k:Kd):closedA (rowA k)=true:=by
 cases k with
 |dat k=>
  have h1:closedA (addD k)=true:=by unfold addD;split<;>rfl
  have h2:closedA (remD k)=true:=by unfold remD;split<;>rfl
  simp[rowA,rowC,closedA,closedAll,addK,modK,remK,h1,h2,getF,rightF,putF,dropF,roomF,fnA,fnC,nI]
 |_=>rfl
set_option maxRecDepth 20000 in
theorem find_sem {c:Bool} {s:List UInt8} (hc:SC 111 [.str s] (.bool c)):SC 61 [.str s] (rowO (findK c s)):=by
 refine fnK_semE (A:=fiA c s) base0 aidJ_ok (fnLs_of (LsOk.no rfl)) rfl ?_
 rw[find_fn]
 refine And.intro hc (mtB_of (fun e=>And.intro (custom_sem s) ?_) (fun e=>And.intro table_sem ?_))
 ·subst e;exact end_eq rfl (by simp[findK,rowO,closedA,closedAll,closed_row])
 ·subst e
  simp only[findK]
  repeat' refine mtB_of (fun _=> ?_) (fun _=> ?_)
  all_goals
   simp only[kinds,findL,nameK,dateN, *]
   exact end_eq rfl (by simp[rowO,closedA,closedAll,closed_row,rowZ])
end
noncomputable def optsK:Opts:={how:=fun f=>match memN [119,120,121,193,194,191] f with|true=> .keep|false=> .pure,summ:=fun _ _=>none,glob:=gl,lf:=100000}
set_option maxRecDepth 20000 in
theorem ansK {f:FuncId} {args:List AV} {v:AV} (hcl:closedAll args=true) (h:ansQ Tryz.prog optsK 40 f args=some v) (hv:closedA v=true):SC f args v:=
 ansQ_sem (O:=optsK) Tryz.mixed (fun _ _ _ h=>by cases h) gl_closed noCall_ok' hcl h hv
def texts:List (List UInt8):=[[111,110,101],[116,119,111],[116,104,114,101,101],[102,111,117,114],[102,105,118,101],[],[53],[49],[50],[51],[52],[54],[55],[57,57],[120],[49,50,51,52,53,54,55,56],[109],[108,111,115,116]]
def cusB:List UInt8→Bool
 |120::45::_=>true
 |_=>false
theorem cu0:ansQ Tryz.prog optsK 40 111 [.str [85,110,105,113,117,101,32,73,100,101,110,116,105,102,105,101,114]]=some (.bool false):=by kernel_rfl
theorem cv0:ansQ Tryz.prog optsK 40 114 [.str [85,110,105,113,117,101,32,73,100,101,110,116,105,102,105,101,114]]=some (.bool false):=by kernel_rfl
theorem cu1:ansQ Tryz.prog optsK 40 111 [.str [78,97,109,101]]=some (.bool false):=by kernel_rfl
theorem cv1:ansQ Tryz.prog optsK 40 114 [.str [78,97,109,101]]=some (.bool false):=by kernel_rfl
theorem cu2:ansQ Tryz.prog optsK 40 111 [.str [79,98,106,101,99,116,32,84,121,112,101]]=some (.bool false):=by kernel_rfl
theorem cv2:ansQ Tryz.prog optsK 40 114 [.str [79,98,106,101,99,116,32,84,121,112,101]]=some (.bool false):=by kernel_rfl
theorem cu3:ansQ Tryz.prog optsK 40 111 [.str [67,114,121,112,116,111,103,114,97,112,104,105,99,32,65,108,103,111,114,105,116,104,109]]=some (.bool false):=by kernel_rfl
theorem cv3:ansQ Tryz.prog optsK 40 114 [.str [67,114,121,112,116,111,103,114,97,112,104,105,99,32,65,108,103,111,114,105,116,104,109]]=some (.bool false):=by kernel_rfl
theorem cu4:ansQ Tryz.prog optsK 40 111 [.str [67,114,121,112,116,111,103,114,97,112,104,105,99,32,76,101,110,103,116,104]]=some (.bool false):=by kernel_rfl
theorem cv4:ansQ Tryz.prog optsK 40 114 [.str [67,114,121,112,116,111,103,114,97,112,104,105,99,32,76,101,110,103,116,104]]=some (.bool false):=by kernel_rfl
theorem cu5:ansQ Tryz.prog optsK 40 111 [.str [67,114,121,112,116,111,103,114,97,112,104,105,99,32,85,115,97,103,101,32,77,97,115,107]]=some (.bool false):=by kernel_rfl
theorem cv5:ansQ Tryz.prog optsK 40 114 [.str [67,114,121,112,116,111,103,114,97,112,104,105,99,32,85,115,97,103,101,32,77,97,115,107]]=some (.bool false):=by kernel_rfl
theorem cu6:ansQ Tryz.prog optsK 40 111 [.str [83,116,97,116,101]]=some (.bool false):=by kernel_rfl
theorem cv6:ansQ Tryz.prog optsK 40 114 [.str [83,116,97,116,101]]=some (.bool false):=by kernel_rfl
theorem cu7:ansQ Tryz.prog optsK 40 111 [.str [73,110,105,116,105,97,108,32,68,97,116,101]]=some (.bool false):=by kernel_rfl
theorem cv7:ansQ Tryz.prog optsK 40 114 [.str [73,110,105,116,105,97,108,32,68,97,116,101]]=some (.bool false):=by kernel_rfl
theorem cu8:ansQ Tryz.prog optsK 40 111 [.str [65,99,116,105,118,97,116,105,111,110,32,68,97,116,101]]=some (.bool false):=by kernel_rfl
theorem cv8:ansQ Tryz.prog optsK 40 114 [.str [65,99,116,105,118,97,116,105,111,110,32,68,97,116,101]]=some (.bool false):=by kernel_rfl
theorem cu9:ansQ Tryz.prog optsK 40 111 [.str [80,114,111,99,101,115,115,32,83,116,97,114,116,32,68,97,116,101]]=some (.bool false):=by kernel_rfl
theorem cv9:ansQ Tryz.prog optsK 40 114 [.str [80,114,111,99,101,115,115,32,83,116,97,114,116,32,68,97,116,101]]=some (.bool false):=by kernel_rfl
theorem cu10:ansQ Tryz.prog optsK 40 111 [.str [80,114,111,116,101,99,116,32,83,116,111,112,32,68,97,116,101]]=some (.bool false):=by kernel_rfl
theorem cv10:ansQ Tryz.prog optsK 40 114 [.str [80,114,111,116,101,99,116,32,83,116,111,112,32,68,97,116,101]]=some (.bool false):=by kernel_rfl
theorem cu11:ansQ Tryz.prog optsK 40 111 [.str [68,101,97,99,116,105,118,97,116,105,111,110,32,68,97,116,101]]=some (.bool false):=by kernel_rfl
theorem cv11:ansQ Tryz.prog optsK 40 114 [.str [68,101,97,99,116,105,118,97,116,105,111,110,32,68,97,116,101]]=some (.bool false):=by kernel_rfl
theorem cu12:ansQ Tryz.prog optsK 40 111 [.str [68,101,115,116,114,111,121,32,68,97,116,101]]=some (.bool false):=by kernel_rfl
theorem cv12:ansQ Tryz.prog optsK 40 114 [.str [68,101,115,116,114,111,121,32,68,97,116,101]]=some (.bool false):=by kernel_rfl
theorem cu13:ansQ Tryz.prog optsK 40 111 [.str [67,111,109,112,114,111,109,105,115,101,32,79,99,99,117,114,114,101,110,99,101,32,68,97,116,101]]=some (.bool false):=by kernel_rfl
theorem cv13:ansQ Tryz.prog optsK 40 114 [.str [67,111,109,112,114,111,109,105,115,101,32,79,99,99,117,114,114,101,110,99,101,32,68,97,116,101]]=some (.bool false):=by kernel_rfl
theorem cu14:ansQ Tryz.prog optsK 40 111 [.str [67,111,109,112,114,111,109,105,115,101,32,68,97,116,101]]=some (.bool false):=by kernel_rfl
theorem cv14:ansQ Tryz.prog optsK 40 114 [.str [67,111,109,112,114,111,109,105,115,101,32,68,97,116,101]]=some (.bool false):=by kernel_rfl
theorem cu15:ansQ Tryz.prog optsK 40 111 [.str [65,114,99,104,105,118,101,32,68,97,116,101]]=some (.bool false):=by kernel_rfl
theorem cv15:ansQ Tryz.prog optsK 40 114 [.str [65,114,99,104,105,118,101,32,68,97,116,101]]=some (.bool false):=by kernel_rfl
theorem cu16:ansQ Tryz.prog optsK 40 111 [.str [76,97,115,116,32,67,104,97,110,103,101,32,68,97,116,101]]=some (.bool false):=by kernel_rfl
theorem cv16:ansQ Tryz.prog optsK 40 114 [.str [76,97,115,116,32,67,104,97,110,103,101,32,68,97,116,101]]=some (.bool false):=by kernel_rfl
theorem cu17:ansQ Tryz.prog optsK 40 111 [.str [82,101,118,111,99,97,116,105,111,110,32,82,101,97,115,111,110]]=some (.bool false):=by kernel_rfl
theorem cv17:ansQ Tryz.prog optsK 40 114 [.str [82,101,118,111,99,97,116,105,111,110,32,82,101,97,115,111,110]]=some (.bool false):=by kernel_rfl
theorem cu18:ansQ Tryz.prog optsK 40 111 [.str [76,105,110,107]]=some (.bool false):=by kernel_rfl
theorem cv18:ansQ Tryz.prog optsK 40 114 [.str [76,105,110,107]]=some (.bool false):=by kernel_rfl
theorem cu19:ansQ Tryz.prog optsK 40 111 [.str [85,115,97,103,101,32,76,105,109,105,116,115]]=some (.bool false):=by kernel_rfl
theorem cv19:ansQ Tryz.prog optsK 40 114 [.str [85,115,97,103,101,32,76,105,109,105,116,115]]=some (.bool false):=by kernel_rfl
theorem cu20:ansQ Tryz.prog optsK 40 111 [.str [120,45,97]]=some (.bool true):=by kernel_rfl
theorem cv20:ansQ Tryz.prog optsK 40 114 [.str [120,45,97]]=some (.bool true):=by kernel_rfl
theorem cu21:ansQ Tryz.prog optsK 40 111 [.str [120,45,98]]=some (.bool true):=by kernel_rfl
theorem cv21:ansQ Tryz.prog optsK 40 114 [.str [120,45,98]]=some (.bool true):=by kernel_rfl
theorem cu22:ansQ Tryz.prog optsK 40 111 [.str [120,45]]=some (.bool true):=by kernel_rfl
theorem cv22:ansQ Tryz.prog optsK 40 114 [.str [120,45]]=some (.bool true):=by kernel_rfl
theorem cu23:ansQ Tryz.prog optsK 40 111 [.str [121]]=some (.bool false):=by kernel_rfl
theorem cv23:ansQ Tryz.prog optsK 40 114 [.str [121]]=some (.bool false):=by kernel_rfl
theorem cus_sem:∀s∈nameL,SC 111 [.str s] (.bool (cusB s)):=by
 simp only[nameL,List.forall_mem_cons]
 exact ⟨ansK rfl cu0 rfl,ansK rfl cu1 rfl,ansK rfl cu2 rfl,ansK rfl cu3 rfl,ansK rfl cu4 rfl,ansK rfl cu5 rfl,ansK rfl cu6 rfl,ansK rfl cu7 rfl,ansK rfl cu8 rfl,ansK rfl cu9 rfl,ansK rfl cu10 rfl,ansK rfl cu11 rfl,ansK rfl cu12 rfl,ansK rfl cu13 rfl,ansK rfl cu14 rfl,ansK rfl cu15 rfl,ansK rfl cu16 rfl,ansK rfl cu17 rfl,ansK rfl cu18 rfl,ansK rfl cu19 rfl,ansK rfl cu20 rfl,ansK rfl cu21 rfl,ansK rfl cu22 rfl,ansK rfl cu23 rfl,fun _ h=>by cases h⟩
theorem cusr_sem:∀s∈nameL,SC 114 [.str s] (.bool (cusB s)):=by
 simp only[nameL,List.forall_mem_cons]
 exact ⟨ansK rfl cv0 rfl,ansK rfl cv1 rfl,ansK rfl cv2 rfl,ansK rfl cv3 rfl,ansK rfl cv4 rfl,ansK rfl cv5 rfl,ansK rfl cv6 rfl,ansK rfl cv7 rfl,ansK rfl cv8 rfl,ansK rfl cv9 rfl,ansK rfl cv10 rfl,ansK rfl cv11 rfl,ansK rfl cv12 rfl,ansK rfl cv13 rfl,ansK rfl cv14 rfl,ansK rfl cv15 rfl,ansK rfl cv16 rfl,ansK rfl cv17 rfl,ansK rfl cv18 rfl,ansK rfl cv19 rfl,ansK rfl cv20 rfl,ansK rfl cv21 rfl,ansK rfl cv22 rfl,ansK rfl cv23 rfl,fun _ h=>by cases h⟩
def putL {α:Type} (l:List α) (i:Nat) (x:α):List α:=l.take i++x::l.drop (i+1)
def dropL {α:Type} (l:List α) (i:Nat):List α:=l.take i++l.drop (i+1)
theorem count_up {p:Nat→Prop} (n:Nat) (hn:p n) (hs:∀i,i<n→p (i+1)→p i):∀i,i≤n→p i:=by
 intro i hi
 obtain ⟨m,rfl⟩:∃m,n=i+m:=⟨n-i,by omega⟩
 clear hi
 induction m generalizing i with
 |zero=>exact hn
 |succ m ih=>exact hs i (by omega) (ih (i+1) (by rw[show i+1+m=i+(m+1) by omega];exact hn) (by intro j hj;exact hs j (by omega)))
abbrev u8 (b:UInt8):AV:= .int .u8 (.ofNat b.toNat)
noncomputable def eqF:View:=⟨[(4,.bool false)],[],[],0,26⟩
end Go.Proofs.YtjhggnebkfpgcaaGreatDoor
namespace Go.Proofs.YtjhggnebkfpgcaaGreatDoor
set_option maxRecDepth 20000
open Go Go.RowKit
open Go.Proofs.Abs
noncomputable section
def plV0 (s:List UInt8) (C:List AV) (i:Nat):View:=⟨[(1,.str s),(5,.nilsl),(9,.fsl false C),(10,I (.ofNat (lenN C))),(11,I (.ofNat i))],[],[],1,26⟩
def plV1 (s:List UInt8) (C:List AV) (i k:Nat) (es:List AV):View:=⟨[(1,.str s),(9,.fsl false C),(10,I (.ofNat (lenN C))),(11,I (.ofNat i))],[(5,.rsl true 0 0 k 1)],[(0,.cells es,.whole)],1,26⟩
def plA (n t:List UInt8):Aid:=aidJ [(4,1,.res (.fptr [.str n,.str t] 0))] [] noSem [] []
@[simp] abbrev yj1 (C:List AV):=(I (Int.ofNat (lenN C))=I (Int.ofNat (lenN C))∧closedA (I (Int.ofNat (lenN C)))=true)
@[simp] abbrev yj2 (C:List AV):=(AV.fsl false C=AV.fsl false C∧closedA (AV.fsl false C)=true)
@[simp] abbrev yj3 (s:List UInt8):=(AV.str s=AV.str s∧closedA (AV.str s)=true)
@[simp] abbrev yj5:=(AV.nilsl=AV.nilsl∧true=true)
@[simp] abbrev yj6 (i:Nat):=(I (Int.ofNat i)=I (Int.ofNat i)∧closedA (I (Int.ofNat i))=true)
theorem pl_00 (s:List UInt8) (C:List AV) (i j:Nat) (n t:List UInt8) (N:Prop) (Q:AExit→St→Prop):wpK Tryz.prog opts0 40 (plA n t) (lpCode Tryz.prog 151 4) (plV0 s C i).st (roundP 0 [] (plV0 s C j) N [] (plV0 s C i) Q)=
  (mtB (ltInt (Int.ofNat i) (Int.ofNat (lenN C))) (indexAddrA Tryz.prog 29 (AV.fsl false C) (I (Int.ofNat i))=some (AV.fptr [AV.str n,AV.str t] 0)∧mtB (beqBytes n s) ((((yj3 s)∧(AV.rsl true 15 0 (lenN [I (Int.ofNat i)]) 1=AV.nilsl∧true=true)∧(yj2 C)∧(yj1 C)∧(I (wrapA IntKind.i64 (Int.ofNat i+1))=I (Int.ofNat j)∧closedA (I (Int.ofNat j))=true)∧True)∧True∧True)∧N) ((((yj3 s)∧yj5∧(yj2 C)∧(yj1 C)∧(I (wrapA IntKind.i64 (Int.ofNat i+1))=I (Int.ofNat j)∧closedA (I (Int.ofNat j))=true)∧True)∧True∧True)∧N)) ((((yj3 s)∧yj5∧(yj2 C)∧(yj1 C)∧(yj6 i)∧True)∧True∧True)∧Q (AExit.exit 0) (plV0 s C i).st)):=by kernel_rfl
theorem pl_01 (s:List UInt8) (C:List AV) (i j k:Nat) (es:List AV) (n t:List UInt8) (N:Prop) (Q:AExit→St→Prop):wpK Tryz.prog opts0 40 (plA n t) (lpCode Tryz.prog 151 4) (plV0 s C i).st (roundP 0 [(0,15)] (plV1 s C j k es) N [] (plV0 s C i) Q)=
  (mtB (ltInt (Int.ofNat i) (Int.ofNat (lenN C))) (indexAddrA Tryz.prog 29 (AV.fsl false C) (I (Int.ofNat i))=some (AV.fptr [AV.str n,AV.str t] 0)∧mtB (beqBytes n s) ((((yj3 s)∧(yj2 C)∧(yj1 C)∧(I (wrapA IntKind.i64 (Int.ofNat i+1))=I (Int.ofNat j)∧closedA (I (Int.ofNat j))=true)∧True)∧((true=true∧some 15=some 15∧0=0∧k=lenN [I (Int.ofNat i)]∧1=1)∧True)∧(flat [I (Int.ofNat i)]=es∧closedAll es=true)∧True)∧N) ((((yj3 s)∧(yj2 C)∧(yj1 C)∧(I (wrapA IntKind.i64 (Int.ofNat i+1))=I (Int.ofNat j)∧closedA (I (Int.ofNat j))=true)∧True)∧(False∧True)∧False∧True)∧N)) ((((yj3 s)∧yj5∧(yj2 C)∧(yj1 C)∧(yj6 i)∧True)∧True∧True)∧Q (AExit.exit 0) (plV0 s C i).st)):=by kernel_rfl
@[simp] abbrev yj4 (C es:List AV) (Q:AExit→St→Prop) (i k:Nat) (s:List UInt8):=((((yj3 s)∧(yj2 C)∧(yj1 C)∧(yj6 i)∧True)∧((true=true∧some 0=some 0∧0=0∧k=k∧1=1)∧True)∧(es=es∧closedAll es=true)∧True)∧Q (AExit.exit 0) (plV1 s C i k es).st)
theorem pl_10 (s:List UInt8) (C:List AV) (i j k:Nat) (es:List AV) (n t:List UInt8) (N:Prop) (Q:AExit→St→Prop):wpK Tryz.prog opts0 40 (plA n t) (lpCode Tryz.prog 151 4) (plV1 s C i k es).st (roundP 0 [(0,0)] (plV1 s C j k es) N [(0,0)] (plV1 s C i k es) Q)=
  (mtB (ltInt (Int.ofNat i) (Int.ofNat (lenN C))) (indexAddrA Tryz.prog 29 (AV.fsl false C) (I (Int.ofNat i))=some (AV.fptr [AV.str n,AV.str t] 0)∧mtB (beqBytes n s) (oblB (allSize 1 [I (Int.ofNat i)]&&(((k+lenN [I (Int.ofNat i)])*8).ble 140737488355328&&(allOne (flat [I (Int.ofNat i)])&&true))) (oblB ((lenN es).beq (k*1)) ((((yj3 s)∧(yj2 C)∧(yj1 C)∧(I (wrapA IntKind.i64 (Int.ofNat i+1))=I (Int.ofNat j)∧closedA (I (Int.ofNat j))=true)∧True)∧((true=true∧some 0=some 15∧0=0∧k=k+lenN [I (Int.ofNat i)]∧1=1)∧True)∧False∧True)∧N))) ((((yj3 s)∧(yj2 C)∧(yj1 C)∧(I (wrapA IntKind.i64 (Int.ofNat i+1))=I (Int.ofNat j)∧closedA (I (Int.ofNat j))=true)∧True)∧((true=true∧some 0=some 0∧0=0∧k=k∧1=1)∧True)∧(es=es∧closedAll es=true)∧True)∧N)) (yj4 C es Q i k s)):=by kernel_rfl
theorem pl_11 (s:List UInt8) (C:List AV) (i j k k':Nat) (es es':List AV) (n t:List UInt8) (N:Prop) (Q:AExit→St→Prop):wpK Tryz.prog opts0 40 (plA n t) (lpCode Tryz.prog 151 4) (plV1 s C i k es).st (roundP 0 [(0,15)] (plV1 s C j k' es') N [(0,0)] (plV1 s C i k es) Q)=
  (mtB (ltInt (Int.ofNat i) (Int.ofNat (lenN C))) (indexAddrA Tryz.prog 29 (AV.fsl false C) (I (Int.ofNat i))=some (AV.fptr [AV.str n,AV.str t] 0)∧mtB (beqBytes n s) (oblB (allSize 1 [I (Int.ofNat i)]&&(((k+lenN [I (Int.ofNat i)])*8).ble 140737488355328&&(allOne (flat [I (Int.ofNat i)])&&true))) (oblB ((lenN es).beq (k*1)) ((((yj3 s)∧(yj2 C)∧(yj1 C)∧(I (wrapA IntKind.i64 (Int.ofNat i+1))=I (Int.ofNat j)∧closedA (I (Int.ofNat j))=true)∧True)∧((true=true∧some 15=some 15∧0=0∧k'=k+lenN [I (Int.ofNat i)]∧1=1)∧True)∧(es++flat [I (Int.ofNat i)]=es'∧closedAll es'=true)∧True)∧N))) ((((yj3 s)∧(yj2 C)∧(yj1 C)∧(I (wrapA IntKind.i64 (Int.ofNat i+1))=I (Int.ofNat j)∧closedA (I (Int.ofNat j))=true)∧True)∧((true=true∧some 15=some 0∧0=0∧k'=k∧1=1)∧True)∧False∧True)∧N)) (yj4 C es Q i k s)):=by kernel_rfl
def plL (s:List UInt8) (C:List AV) (F:View):LoopS:=fun st Q=>seesK 0 [] (plV0 s C 0) st∧Q (.exit 0) F.st
@[simp] abbrev yj7 (C:List AV) (s:List UInt8):=(((yj3 s)∧yj5∧(yj2 C)∧(yj1 C)∧(I 0=I 0∧true=true)∧True)∧True∧True)
theorem pl_fn0 (o:Ob) (M N L:AV) (s:List UInt8) (C:List AV) (Q:AV→Heap→Nat→Prop):fnK Tryz.prog opts0 40 (aidJ [] [(4,plL s C (plV0 s C (lenN C)))] noSem [] []) 151 [.agg (obF o M N L (.fsl false C)),.str s] [] 0 Q=
  ((yj7 C s)∧Q AV.nilsl [] 3):=by kernel_rfl
theorem pl_fn1 (o:Ob) (M N L:AV) (s:List UInt8) (C:List AV) (k:Nat) (es:List AV) (Q:AV→Heap→Nat→Prop):fnK Tryz.prog opts0 40 (aidJ [] [(4,plL s C (plV1 s C (lenN C) k es))] noSem [] []) 151 [.agg (obF o M N L (.fsl false C)),.str s] [] 0 Q=
  ((yj7 C s)∧Q (AV.rsl true 0 0 k 1) [(0,some (Blk.cells es))] 3):=by kernel_rfl
def placesL (s:List UInt8):List Cu→Nat→List Nat
 |[],_=>[]
 |c::r,k=>match beqBytes c.name s with
  |true=>k::placesL s r (k+1)
  |false=>placesL s r (k+1)
theorem placesL_snoc (s:List UInt8) (c:Cu):∀ (l:List Cu) (k:Nat),placesL s (l++[c]) k=placesL s l k++(match beqBytes c.name s with|true=>[k+l.length]|false=>[])
 |[],k=>by simp only[List.nil_append,placesL];cases beqBytes c.name s<;>simp
 |a::r,k=>by
  have ih:=placesL_snoc s c r (k+1)
  have e:k+1+r.length=k+(r.length+1):=by omega
  rw[e] at ih
  simp only[List.cons_append,placesL,ih,List.length_cons]
  cases beqBytes a.name s<;>simp
theorem take_snoc {α:Type} {l:List α} {i:Nat} {c:α} (h:l[i]? =some c):l.take (i+1)=l.take i++[c]:=by rw[List.take_add_one,h];rfl
theorem lt_of_some {α:Type} {l:List α} {i:Nat} {c:α} (h:l[i]? =some c):i<l.length:=by
 rcases Nat.lt_or_ge i l.length with h'|h'
 ·exact h'
 ·rw[List.getElem?_eq_none h'] at h;cases h
theorem placesL_succ {s:List UInt8} {l:List Cu} {i:Nat} {c:Cu} (h:l[i]? =some c):placesL s (l.take (i+1)) 0=placesL s (l.take i) 0++(match beqBytes c.name s with|true=>[i]|false=>[]):=by
 rw[take_snoc h,placesL_snoc,Nat.zero_add,List.length_take,Nat.min_eq_left (Nat.le_of_lt (lt_of_some h))]
theorem placesL_len (s:List UInt8):∀ (l:List Cu) (k:Nat),(placesL s l k).length≤l.length
 |[],_=>Nat.le_refl _
 |c::r,k=>by
  have:=placesL_len s r (k+1)
  simp only[placesL]
  split<;>simp<;>omega
theorem placesL_lt (s:List UInt8):∀ (l:List Cu) (k:Nat),∀x∈placesL s l k,k≤x∧x<k+l.length
 |[],_,x,h=>by cases h
 | c::r,k,x,h=>by
  have ih:=placesL_lt s r (k+1) x
  simp only[placesL] at h
  simp only[List.length_cons]
  split at h
  ·rcases List.mem_cons.1 h with rfl|h
   ·omega
   ·have:=ih h;omega
  ·have:=ih h;omega
def plV (s:List UInt8) (C:List AV) (i:Nat) (p:List Nat):View:=match p with
 |[]=>plV0 s C i
 |_::_=>plV1 s C i p.length (p.map nI)
theorem idxC {f:Bool} {l:List Cu} {i:Nat} {c:Cu} (hx:l[i]? =some c):indexAddrA Tryz.prog 29 (.fsl f (l.map cuA)) (.int .i64 (.ofNat i))=some (.fptr [.str c.name,.str c.text] 0):=
 fsl_index (v:=cuA c) (e:=101) (sz:=2) (by kernel_rfl) (by kernel_rfl) (by rw[List.getElem?_map,hx];rfl) rfl
theorem closed_nIs:∀p:List Nat,closedAll (p.map nI)=true
 |[]=>rfl
 |_::t=>closed_nIs t
theorem flat_nIs:∀p:List Nat,flat (p.map nI)=p.map nI
 |[]=>rfl
 |x::t=>by simp only[List.map_cons,flat,flat_nIs t];rfl
theorem pl_loop {s:List UInt8} {l:List Cu} {Q:AExit→St→Prop} (hb:l.length≤big) (hq:Q (.exit 0) (plV s (l.map cuA) l.length (placesL s l 0)).st):
    ∀i,i≤l.length→ALp Tryz.prog opts0.glob 0 (lpCode Tryz.prog 151 4) (plV s (l.map cuA) i (placesL s (l.take i) 0)).st Q:=by
  have hlen:lenN (l.map cuA)=l.length:=by rw[lenN_eq,List.length_map]
  have hcl:=closed_cus l
  have hb:l.length≤1099511627776:=hb
  refine count_up _ ?_ (fun i hi ih=> ?_)
  · rw[List.take_length]
    cases hp:placesL s l 0 with
    | nil=>
      rw[hp] at hq
      refine ALp.round (A:=plA [] []) (V1:=plV0 s (l.map cuA) 0) (V2:=plV0 s (l.map cuA) 0) (F:=plV0 s (l.map cuA) l.length) (lk:=[]) (lk':=[]) base0 aidJ_ok (LsOk.no rfl) .refl ?_
      simp only[plV]
      rw[pl_00]
      refine mtB_of (fun h=> ?_) (fun _=>⟨by simp[closedA,hcl],hq⟩)
      have h:=ltInt_iff.1 h
      simp only[hlen,Int.ofNat_eq_natCast] at h
      omega
    | cons a r=>
      rw[hp] at hq
      refine ALp.round (A:=plA [] []) (V1:=plV1 s (l.map cuA) 0 (a::r).length ((a::r).map nI)) (V2:=plV1 s (l.map cuA) 0 (a::r).length ((a::r).map nI)) (F:=plV1 s (l.map cuA) l.length (a::r).length ((a::r).map nI)) (lk:=[(0,0)]) (lk':=[(0,0)]) base0 aidJ_ok (LsOk.no rfl) .refl ?_
      simp only[plV]
      rw[pl_10]
      refine mtB_of (fun h=> ?_) (fun _=>⟨by simp[closedA,hcl,closed_nIs,closedAll,nI],hq⟩)
      have h:=ltInt_iff.1 h
      simp only[hlen,Int.ofNat_eq_natCast] at h
      omega
  · have g1:=List.getElem?_eq_getElem hi
    revert g1
    generalize l[i]=c
    intro g1
    have hs:=placesL_succ (s:=s) g1
    have hw:wrapA .i64 (Int.ofNat i+1)=Int.ofNat (i+1):=wrapA_i64 (by simp;omega) (by simp;omega)
    have hno:ltInt (Int.ofNat i) (Int.ofNat (lenN (l.map cuA)))=false→False:=fun h=>by
      have h:=ltInt_false.1 h
      simp only[hlen,Int.ofNat_eq_natCast] at h
      omega
    have hpl:(placesL s (l.take i) 0).length≤i:=by
      have:=placesL_len s (l.take i) 0
      rw[List.length_take] at this
      omega
    rw[hs] at ih
    clear hs
    revert ih hpl
    generalize placesL s (l.take i) 0=p
    intro ih hpl
    cases hc:beqBytes c.name s with
    | false=>
      rw[hc] at ih
      simp only[List.append_nil] at ih
      cases p with
      | nil=>
        refine ALp.round (A:=plA c.name c.text) (V1:=plV0 s (l.map cuA) (i+1)) (V2:=plV0 s (l.map cuA) (i+1)) (F:=plV0 s (l.map cuA) i) (lk:=[]) (lk':=[]) base0 aidJ_ok (LsOk.no rfl) .refl ?_
        simp only[plV] at ih⊢
        rw[pl_00]
        refine mtB_of (fun _=>⟨idxC g1,mtB_of (fun h=> ?_) (fun _=> ?_)⟩) (fun h=>(hno h).elim)
        · rw[hc] at h;cases h
        · rw[hw]
          exact ⟨by simp[closedA,hcl],ih⟩
      | cons a r=>
        refine ALp.round (A:=plA c.name c.text) (V1:=plV1 s (l.map cuA) (i+1) (a::r).length ((a::r).map nI)) (V2:=plV1 s (l.map cuA) (i+1) (a::r).length ((a::r).map nI)) (F:=plV1 s (l.map cuA) i (a::r).length ((a::r).map nI)) (lk:=[(0,0)]) (lk':=[(0,0)]) base0 aidJ_ok (LsOk.no rfl) .refl ?_
        simp only[plV] at ih⊢
        rw[pl_10]
        refine mtB_of (fun _=>⟨idxC g1,mtB_of (fun h=> ?_) (fun _=> ?_)⟩) (fun h=>(hno h).elim)
        · rw[hc] at h;cases h
        · rw[hw]
          exact ⟨by simp[closedA,hcl,closed_nIs,closedAll,nI],ih⟩
    | true=>
      rw[hc] at ih
      cases p with
      | nil=>
        refine ALp.round (A:=plA c.name c.text) (V1:=plV1 s (l.map cuA) (i+1) 1 [nI i]) (V2:=plV1 s (l.map cuA) (i+1) 1 [nI i]) (F:=plV0 s (l.map cuA) i) (lk:=[(0,15)]) (lk':=[]) base0 aidJ_ok (LsOk.no rfl) .refl ?_
        simp only[plV,List.nil_append] at ih⊢
        rw[pl_01]
        refine mtB_of (fun _=>⟨idxC g1,mtB_of (fun _=> ?_) (fun h=> ?_)⟩) (fun h=>(hno h).elim)
        · rw[hw]
          exact ⟨by simp[closedA,hcl,closedAll,nI,flat,AV.cells,lenN],ih⟩
        · rw[hc] at h;cases h
      | cons a r=>
        refine ALp.round (A:=plA c.name c.text) (V1:=plV1 s (l.map cuA) (i+1) ((a::r)++[i]).length (((a::r)++[i]).map nI)) (V2:=plV1 s (l.map cuA) (i+1) ((a::r)++[i]).length (((a::r)++[i]).map nI)) (F:=plV1 s (l.map cuA) i (a::r).length ((a::r).map nI)) (lk:=[(0,15)]) (lk':=[(0,0)]) base0 aidJ_ok (LsOk.no rfl) .refl ?_
        have ih:ALp Tryz.prog opts0.glob 0 (lpCode Tryz.prog 151 4) (plV1 s (l.map cuA) (i+1) ((a::r)++[i]).length (((a::r)++[i]).map nI)).st Q:=ih
        simp only[plV]
        rw[pl_11]
        refine mtB_of (fun _=>⟨idxC g1,mtB_of (fun _=>oblB_of ?_ (oblB_of ?_ ⟨?_,ih⟩)) (fun h=> ?_)⟩) (fun h=>(hno h).elim)
        · simp[allSize,lenN,AV.cells,flat,allOne]
          simp only[List.length_cons] at hpl
          omega
        · rw[beq_iff,lenN_eq,List.length_map,Nat.mul_one]
        · rw[hw]
          have:=closed_nIs r
          simp[closedA,hcl,closedAll,nI,flat,AV.cells,lenN] at this⊢
          exact closed_snoc r i
        · rw[hc] at h;cases h
 where
  closed_snoc:∀ (r:List Nat) (i:Nat),closedAll (List.map nI r++[AV.int .i64 (i:Int)])=true
    |[],_=>rfl
    |_::t,i=>closed_snoc t i
theorem pl_at:loopsAt (fnCode Tryz.prog 151) 4=[lpCode Tryz.prog 151 4]:=by kernel_rfl
def plcR (b:Nat):List Nat→AV
 |[]=> .nilsl
 |p@(_::_)=> .rsl true b 0 p.length 1
def plcH (b:Nat):List Nat→Heap
 |[]=>[]
 |p@(_::_)=>[(b,some (.cells (p.map nI)))]
theorem closed_obF (o:Ob) {M N L C:AV} (hM:closedA M=true) (hN:closedA N=true) (hL:closedA L=true) (hC:closedA C=true):closedAll (obF o M N L C)=true:=by
 simp only[obF,closedAll,closedA,hM,hN,hL,hC,Bool.and_self]
theorem places_body0 (o:Ob) {M N L:AV} (s:List UInt8) (_hM:closedA M=true) (_hN:closedA N=true) (_hL:closedA L=true) (hb:o.cust.length≤big):
  BodySem Tryz.prog opts0.glob 151 [.agg (obF o M N L (cusA o)),.str s] [] 0 (plcR 0 (placesL s o.cust 0)) (plcH 0 (placesL s o.cust 0)) 3:=by
 have hcl:=closed_cus o.cust
 have hlen:lenN (o.cust.map cuA)=o.cust.length:=by rw[lenN_eq,List.length_map]
 cases hp:placesL s o.cust 0 with
 | nil=>
  refine fnK_bodySem (A:=aidJ [] [(4,plL s (o.cust.map cuA) (plV0 s (o.cust.map cuA) (lenN (o.cust.map cuA))))] noSem [] []) base0 aidJ_ok
   (fnLs_of (LsOk.at1 rfl pl_at fun st Q hs=> .seen base0.glob hs.1 (pl_loop (s:=s) hb (by rw[hp];have:=hs.2;rw[hlen] at this;exact this) 0 (Nat.zero_le _)))) ?_
  simp only[cusA]
  rw[pl_fn0]
  exact ⟨by simp[closedA,hcl],rfl,rfl,rfl⟩
 | cons a r=>
  refine fnK_bodySem (A:=aidJ [] [(4,plL s (o.cust.map cuA) (plV1 s (o.cust.map cuA) (lenN (o.cust.map cuA)) (a::r).length ((a::r).map nI)))] noSem [] []) base0 aidJ_ok
   (fnLs_of (LsOk.at1 rfl pl_at fun st Q hs=> .seen base0.glob hs.1 (pl_loop (s:=s) hb (by rw[hp];have:=hs.2;rw[hlen] at this;exact this) 0 (Nat.zero_le _)))) ?_
  simp only[cusA]
  rw[pl_fn1]
  exact ⟨by simp[closedA,hcl],rfl,rfl,rfl⟩
end
end Go.Proofs.YtjhggnebkfpgcaaGreatDoor
namespace Go.Proofs.YtjhggnebkfpgcaaGreatDoor
open Go Go.RowKit
open Go.Proofs.Abs
structure RowH where
 nm:List UInt8
 ty:Int
 many:Bool
 set:Bool
def rowW (h:RowH) (A1 A2 A3 G R P D RM:AV):List AV:=[.str h.nm,I h.ty,.bool h.many,.bool h.set,A1,A2,A3,G,R,P,D,RM]
def fiT (W:List AV):AV:= .tuple [.agg W,.bool true]
end Go.Proofs.YtjhggnebkfpgcaaGreatDoor
