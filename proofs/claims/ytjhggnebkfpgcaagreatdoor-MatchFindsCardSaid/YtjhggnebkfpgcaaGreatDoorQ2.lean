import Derived.Test.YtjhggnebkfpgcaaGreatDoorQ1
import Derived.KernelRfl
import Derived.Test.YtjhggnebkfpgcaaGreatDoorG5
namespace Go.Proofs.YtjhggnebkfpgcaaGreatDoor
open Go Go.RowKit
open Go.Proofs.Abs
structure lD (o:Ob):Prop where
 n:o.names.length≤6
 l:o.links.length≤8
 c:o.cust.length≤6
 m:o.mat.length≤cD
def pw:Kd→Bool
 | .dat k=>Nat.blt k 10
 |_=>true
theorem sE (o:Ob):ad [aj o]=true:=zT (dr o)
theorem ec (o:Ob) {c:List AV} (h:ad c=true):ad (aj o::c)=true:=by
 have:=dr o
 simp only[ad,aj,ac,this,h,Bool.and_self]
theorem PP (o:Ob):SC 127 [aj o] (.fsl false (an (aU o .uid))):=by
 refine cY (A:=aq [] [] aA ck []) base0 am (aN (LsOk.no rfl)) (sE o) ?_
 simp only[aj,ao]
 rw[Pi]
 refine ⟨by simp[ad,ac], ?_⟩
 simp only[aU,fm,bO,an,bu]
 (repeat (first|exact Wk.refl _|exact WkL.refl _|exact Wk.nil|exact Wk.row|exact WkE.refl _|exact WkL.nil|exact WkE.nil|apply Wk.agg|apply Wk.tuple|apply WkL.cons|apply Wk.rows|apply WkE.consA))
theorem PQ (o:Ob):SC 130 [aj o] (.fsl false (an (aU o .typ))):=by
 refine cY (A:=aq [] [] aA ck []) base0 am (aN (LsOk.no rfl)) (sE o) ?_
 simp only[aj,ao]
 rw[Pj]
 refine ⟨by simp[ad,ac], ?_⟩
 simp only[aU,du,bO,an,bu,ap]
 (repeat (first|exact Wk.refl _|exact WkL.refl _|exact Wk.nil|exact Wk.row|exact WkE.refl _|exact WkL.nil|exact WkE.nil|apply Wk.agg|apply Wk.tuple|apply WkL.cons|apply Wk.rows|apply WkE.consA))
theorem PR (o:Ob):SC 134 [aj o] (.fsl false (an (aU o .sta))):=by
 refine cY (A:=aq [] [] aA ck []) base0 am (aN (LsOk.no rfl)) (sE o) ?_
 simp only[aj,ao]
 rw[Pk]
 refine ⟨by simp[ad,ac], ?_⟩
 simp only[aU,du,bO,an,bu,ap]
 (repeat (first|exact Wk.refl _|exact WkL.refl _|exact Wk.nil|exact Wk.row|exact WkE.refl _|exact WkL.nil|exact WkE.nil|apply Wk.agg|apply Wk.tuple|apply WkL.cons|apply Wk.rows|apply WkE.consA))
theorem PS (o:Ob):SC 161 [aj o,.fptr [iU .alg] 0,.fptr [I 1] 0,.fptr [I 5] 0] (.fsl false (an (aU o .alg))):=by
 refine cY (A:=aq [] [] aA ck pu) base0 am (aN (LsOk.no rfl)) (ec o rfl) ?_
 simp only[aj,ao,iU]
 rw[Pn]
 refine az (fun e=> ?_) (fun e=> ?_)
 all_goals
  refine ⟨by simp[ad,ac], ?_⟩
  simp only[aU,cR,du,bO,an,bu,ap,e]
  (repeat (first|exact Wk.refl _|exact WkL.refl _|exact Wk.nil|exact Wk.row|exact WkE.refl _|exact WkL.nil|exact WkE.nil|apply Wk.agg|apply Wk.tuple|apply WkL.cons|apply Wk.rows|apply WkE.consA))
theorem PT (o:Ob):SC 161 [aj o,.fptr [iU .len] 0,.fptr [I 1] 0,.fptr [I 2] 0] (.fsl false (an (aU o .len))):=by
 refine cY (A:=aq [] [] aA ck pu) base0 am (aN (LsOk.no rfl)) (ec o rfl) ?_
 simp only[aj,ao,iU]
 rw[Po]
 refine az (fun e=> ?_) (fun e=> ?_)
 all_goals
  refine ⟨by simp[ad,ac], ?_⟩
  simp only[aU,cR,du,bO,an,bu,ap,e]
  (repeat (first|exact Wk.refl _|exact WkL.refl _|exact Wk.nil|exact Wk.row|exact WkE.refl _|exact WkL.nil|exact WkE.nil|apply Wk.agg|apply Wk.tuple|apply WkL.cons|apply Wk.rows|apply WkE.consA))
theorem PU (o:Ob):SC 161 [aj o,.fptr [iU .mask] 0,.fptr [I 0] 0,.fptr [I 2] 0] (.fsl false (an (aU o .mask))):=by
 refine cY (A:=aq [] [] aA ck pu) base0 am (aN (LsOk.no rfl)) (ec o rfl) ?_
 simp only[aj,ao,iU]
 rw[Pp]
 refine az (fun e=> ?_) (fun e=> ?_)
 all_goals
  refine ⟨by simp[ad,ac], ?_⟩
  simp only[aU,du,bO,an,bu,ap]
  (repeat (first|exact Wk.refl _|exact WkL.refl _|exact Wk.nil|exact Wk.row|exact WkE.refl _|exact WkL.nil|exact WkE.nil|apply Wk.agg|apply Wk.tuple|apply WkL.cons|apply Wk.rows|apply WkE.consA))
theorem PV (o:Ob):SC 172 [aj o,.fptr [nI 0] 0] (.fsl false (an (aU o (.dat 0)))):=by
 refine cY (A:=aq [] [] aA ck []) base0 am (aN (LsOk.no rfl)) (ec o rfl) ?_
 have h:=Pq o (gz o) (fe o) (ff o) (cS o) (gw (.fsl false (an (aU o (.dat 0)))))
 simp only[aj,ao]
 rw[show (nI 0:AV)=I 0 from rfl,h]
 refine az (fun e=> ?_) (fun e=> ?_)
 all_goals
  refine ⟨by simp[ad,ac], ?_⟩
  first|rw[Bool.not_eq_true'] at e|rw[Bool.not_eq_false'] at e
  simp only[aU,cR,b9,du,bO,an,bu,ap,e]
  (repeat (first|exact Wk.refl _|exact WkL.refl _|exact Wk.nil|exact Wk.row|exact WkE.refl _|exact WkL.nil|exact WkE.nil|apply Wk.agg|apply Wk.tuple|apply WkL.cons|apply Wk.rows|apply WkE.consA))
theorem PW (o:Ob):SC 172 [aj o,.fptr [nI 1] 0] (.fsl false (an (aU o (.dat 1)))):=by
 refine cY (A:=aq [] [] aA ck []) base0 am (aN (LsOk.no rfl)) (ec o rfl) ?_
 have h:=Pr o (gz o) (fe o) (ff o) (cS o) (gw (.fsl false (an (aU o (.dat 1)))))
 simp only[aj,ao]
 rw[show (nI 1:AV)=I 1 from rfl,h]
 refine az (fun e=> ?_) (fun e=> ?_)
 all_goals
  refine ⟨by simp[ad,ac], ?_⟩
  first|rw[Bool.not_eq_true'] at e|rw[Bool.not_eq_false'] at e
  simp only[aU,cR,b9,du,bO,an,bu,ap,e]
  (repeat (first|exact Wk.refl _|exact WkL.refl _|exact Wk.nil|exact Wk.row|exact WkE.refl _|exact WkL.nil|exact WkE.nil|apply Wk.agg|apply Wk.tuple|apply WkL.cons|apply Wk.rows|apply WkE.consA))
theorem PX (o:Ob):SC 172 [aj o,.fptr [nI 2] 0] (.fsl false (an (aU o (.dat 2)))):=by
 refine cY (A:=aq [] [] aA ck []) base0 am (aN (LsOk.no rfl)) (ec o rfl) ?_
 have h:=Pt o (gz o) (fe o) (ff o) (cS o) (gw (.fsl false (an (aU o (.dat 2)))))
 simp only[aj,ao]
 rw[show (nI 2:AV)=I 2 from rfl,h]
 refine az (fun e=> ?_) (fun e=> ?_)
 all_goals
  refine ⟨by simp[ad,ac], ?_⟩
  first|rw[Bool.not_eq_true'] at e|rw[Bool.not_eq_false'] at e
  simp only[aU,cR,b9,du,bO,an,bu,ap,e]
  (repeat (first|exact Wk.refl _|exact WkL.refl _|exact Wk.nil|exact Wk.row|exact WkE.refl _|exact WkL.nil|exact WkE.nil|apply Wk.agg|apply Wk.tuple|apply WkL.cons|apply Wk.rows|apply WkE.consA))
theorem PY (o:Ob):SC 172 [aj o,.fptr [nI 3] 0] (.fsl false (an (aU o (.dat 3)))):=by
 refine cY (A:=aq [] [] aA ck []) base0 am (aN (LsOk.no rfl)) (ec o rfl) ?_
 have h:=Pu o (gz o) (fe o) (ff o) (cS o) (gw (.fsl false (an (aU o (.dat 3)))))
 simp only[aj,ao]
 rw[show (nI 3:AV)=I 3 from rfl,h]
 refine az (fun e=> ?_) (fun e=> ?_)
 all_goals
  refine ⟨by simp[ad,ac], ?_⟩
  first|rw[Bool.not_eq_true'] at e|rw[Bool.not_eq_false'] at e
  simp only[aU,cR,b9,du,bO,an,bu,ap,e]
  (repeat (first|exact Wk.refl _|exact WkL.refl _|exact Wk.nil|exact Wk.row|exact WkE.refl _|exact WkL.nil|exact WkE.nil|apply Wk.agg|apply Wk.tuple|apply WkL.cons|apply Wk.rows|apply WkE.consA))
theorem PZ (o:Ob):SC 172 [aj o,.fptr [nI 4] 0] (.fsl false (an (aU o (.dat 4)))):=by
 refine cY (A:=aq [] [] aA ck []) base0 am (aN (LsOk.no rfl)) (ec o rfl) ?_
 have h:=Pv o (gz o) (fe o) (ff o) (cS o) (gw (.fsl false (an (aU o (.dat 4)))))
 simp only[aj,ao]
 rw[show (nI 4:AV)=I 4 from rfl,h]
 refine az (fun e=> ?_) (fun e=> ?_)
 all_goals
  refine ⟨by simp[ad,ac], ?_⟩
  first|rw[Bool.not_eq_true'] at e|rw[Bool.not_eq_false'] at e
  simp only[aU,cR,b9,du,bO,an,bu,ap,e]
  (repeat (first|exact Wk.refl _|exact WkL.refl _|exact Wk.nil|exact Wk.row|exact WkE.refl _|exact WkL.nil|exact WkE.nil|apply Wk.agg|apply Wk.tuple|apply WkL.cons|apply Wk.rows|apply WkE.consA))
theorem P0 (o:Ob):SC 172 [aj o,.fptr [nI 5] 0] (.fsl false (an (aU o (.dat 5)))):=by
 refine cY (A:=aq [] [] aA ck []) base0 am (aN (LsOk.no rfl)) (ec o rfl) ?_
 have h:=Pw o (gz o) (fe o) (ff o) (cS o) (gw (.fsl false (an (aU o (.dat 5)))))
 simp only[aj,ao]
 rw[show (nI 5:AV)=I 5 from rfl,h]
 refine az (fun e=> ?_) (fun e=> ?_)
 all_goals
  refine ⟨by simp[ad,ac], ?_⟩
  first|rw[Bool.not_eq_true'] at e|rw[Bool.not_eq_false'] at e
  simp only[aU,cR,b9,du,bO,an,bu,ap,e]
  (repeat (first|exact Wk.refl _|exact WkL.refl _|exact Wk.nil|exact Wk.row|exact WkE.refl _|exact WkL.nil|exact WkE.nil|apply Wk.agg|apply Wk.tuple|apply WkL.cons|apply Wk.rows|apply WkE.consA))
theorem P1 (o:Ob):SC 172 [aj o,.fptr [nI 6] 0] (.fsl false (an (aU o (.dat 6)))):=by
 refine cY (A:=aq [] [] aA ck []) base0 am (aN (LsOk.no rfl)) (ec o rfl) ?_
 have h:=Px o (gz o) (fe o) (ff o) (cS o) (gw (.fsl false (an (aU o (.dat 6)))))
 simp only[aj,ao]
 rw[show (nI 6:AV)=I 6 from rfl,h]
 refine az (fun e=> ?_) (fun e=> ?_)
 all_goals
  refine ⟨by simp[ad,ac], ?_⟩
  first|rw[Bool.not_eq_true'] at e|rw[Bool.not_eq_false'] at e
  simp only[aU,cR,b9,du,bO,an,bu,ap,e]
  (repeat (first|exact Wk.refl _|exact WkL.refl _|exact Wk.nil|exact Wk.row|exact WkE.refl _|exact WkL.nil|exact WkE.nil|apply Wk.agg|apply Wk.tuple|apply WkL.cons|apply Wk.rows|apply WkE.consA))
theorem P2 (o:Ob):SC 172 [aj o,.fptr [nI 7] 0] (.fsl false (an (aU o (.dat 7)))):=by
 refine cY (A:=aq [] [] aA ck []) base0 am (aN (LsOk.no rfl)) (ec o rfl) ?_
 have h:=Py o (gz o) (fe o) (ff o) (cS o) (gw (.fsl false (an (aU o (.dat 7)))))
 simp only[aj,ao]
 rw[show (nI 7:AV)=I 7 from rfl,h]
 refine az (fun e=> ?_) (fun e=> ?_)
 all_goals
  refine ⟨by simp[ad,ac], ?_⟩
  first|rw[Bool.not_eq_true'] at e|rw[Bool.not_eq_false'] at e
  simp only[aU,cR,b9,du,bO,an,bu,ap,e]
  (repeat (first|exact Wk.refl _|exact WkL.refl _|exact Wk.nil|exact Wk.row|exact WkE.refl _|exact WkL.nil|exact WkE.nil|apply Wk.agg|apply Wk.tuple|apply WkL.cons|apply Wk.rows|apply WkE.consA))
theorem P3 (o:Ob):SC 172 [aj o,.fptr [nI 8] 0] (.fsl false (an (aU o (.dat 8)))):=by
 refine cY (A:=aq [] [] aA ck []) base0 am (aN (LsOk.no rfl)) (ec o rfl) ?_
 have h:=Pz o (gz o) (fe o) (ff o) (cS o) (gw (.fsl false (an (aU o (.dat 8)))))
 simp only[aj,ao]
 rw[show (nI 8:AV)=I 8 from rfl,h]
 refine az (fun e=> ?_) (fun e=> ?_)
 all_goals
  refine ⟨by simp[ad,ac], ?_⟩
  first|rw[Bool.not_eq_true'] at e|rw[Bool.not_eq_false'] at e
  simp only[aU,cR,b9,du,bO,an,bu,ap,e]
  (repeat (first|exact Wk.refl _|exact WkL.refl _|exact Wk.nil|exact Wk.row|exact WkE.refl _|exact WkL.nil|exact WkE.nil|apply Wk.agg|apply Wk.tuple|apply WkL.cons|apply Wk.rows|apply WkE.consA))
theorem P4 (o:Ob):SC 172 [aj o,.fptr [nI 9] 0] (.fsl false (an (aU o (.dat 9)))):=by
 refine cY (A:=aq [] [] aA ck []) base0 am (aN (LsOk.no rfl)) (ec o rfl) ?_
 have h:=PA o (gz o) (fe o) (ff o) (cS o) (gw (.fsl false (an (aU o (.dat 9)))))
 simp only[aj,ao]
 rw[show (nI 9:AV)=I 9 from rfl,h]
 refine az (fun e=> ?_) (fun e=> ?_)
 all_goals
  refine ⟨by simp[ad,ac], ?_⟩
  first|rw[Bool.not_eq_true'] at e|rw[Bool.not_eq_false'] at e
  simp only[aU,cR,b9,du,bO,an,bu,ap,e]
  (repeat (first|exact Wk.refl _|exact WkL.refl _|exact Wk.nil|exact Wk.row|exact WkE.refl _|exact WkL.nil|exact WkE.nil|apply Wk.agg|apply Wk.tuple|apply WkL.cons|apply Wk.rows|apply WkE.consA))
theorem P5 (o:Ob):SC 184 [aj o] (.fsl false (an (aU o .lim))):=by
 refine cY (A:=aq [] [] aA ck []) base0 am (aN (LsOk.no rfl)) (sE o) ?_
 simp only[aj,ao]
 rw[Pl]
 refine az (fun e=> ?_) (fun e=> ?_)
 all_goals
  refine ⟨by simp[ad,ac], ?_⟩
  first|rw[Bool.not_eq_true'] at e|rw[Bool.not_eq_false'] at e
  simp only[aU,cR,uZ,fZ,fp,bO,an,bu,ap,e]
  (repeat (first|exact Wk.refl _|exact WkL.refl _|exact Wk.nil|exact Wk.row|exact WkE.refl _|exact WkL.nil|exact WkE.nil|apply Wk.agg|apply Wk.tuple|apply WkL.cons|apply Wk.rows|apply WkE.consA))
theorem P6 (o:Ob):SC 138 [aj o] (.fsl false (an (aU o .why))):=by
 refine dH (A:=aq [] [] aA ck []) base0 am (aN (LsOk.no rfl)) (sE o) ?_
 simp only[aj,ao]
 rw[Pm]
 refine az (fun e=>az (fun e2=> ?_) (fun e2=> ?_)) (fun e=>az (fun e2=> ?_) (fun e2=> ?_))
 ·refine ⟨.nilsl,⟨1,rfl⟩,rfl, ?_⟩
  rw[Bool.not_eq_true'] at e2
  simp only[aU,cR,e2,an]
  exact .nil
 ·rw[Bool.not_eq_false'] at e2
  have hm:pt o.msg=[.mk 4325504 7 0 o.msg []]:=by
   cases hm:o.msg with
   |nil=>rw[hm] at e;cases e
   |cons a r=>rfl
  refine ⟨.fsl true [.agg [I 4325387,I 1,I 0,.nilsl,.fsl false [.agg [I 4325506,I 5,I o.why,.nilsl,.nilsl],.agg [I 4325504,I 7,I 0,.fsl false (ap o.msg),.nilsl]]]],Frz.out (Frz.fsl (FrzL.cons (Frz.agg (FrzL.cons (Frz.closed _ rfl) (FrzL.cons (Frz.closed _ rfl) (FrzL.cons (Frz.closed _ rfl) (FrzL.cons (Frz.closed _ rfl) (FrzL.cons (Frz.row (es:=[.agg [I 4325506,I 5,I o.why,.nilsl,.nilsl],.agg [I 4325504,I 7,I 0,.fsl false (ap o.msg),.nilsl]]) rfl rfl rfl rfl ?_ ?_) FrzL.nil)))))) FrzL.nil)), ?_, ?_⟩
  ·simp only[List.forall_mem_cons];exact ⟨⟨rfl,rfl⟩,⟨rfl,rfl⟩,fun _ h=>by cases h⟩
  ·simp[ad,ac]
  ·simp[ad,ac]
  ·simp only[aU,cR,e2,sw,hm,fZ,fp,bO,an,bu,ap]
   (repeat (first|exact Wk.refl _|exact WkL.refl _|exact Wk.nil|exact Wk.row|exact WkE.refl _|exact WkL.nil|exact WkE.nil|apply Wk.agg|apply Wk.tuple|apply WkL.cons|apply Wk.rows|apply WkE.consA))
 ·refine ⟨.nilsl,⟨1,rfl⟩,rfl, ?_⟩
  rw[Bool.not_eq_true'] at e2
  simp only[aU,cR,e2,an]
  exact .nil
 ·rw[Bool.not_eq_false'] at e2
  have hm:pt o.msg=[]:=by
   cases hm:o.msg with
   |nil=>rfl
   |cons a r=>rw[hm] at e;cases e
  refine ⟨_,Frz.out (Frz.closed _ ?_), ?_, ?_⟩
  ·simp[ad,ac]
  ·simp[ad,ac]
  ·simp only[aU,cR,e2,sw,hm,fZ,fp,bO,an,bu,ap]
   (repeat (first|exact Wk.refl _|exact WkL.refl _|exact Wk.nil|exact Wk.row|exact WkE.refl _|exact WkL.nil|exact WkE.nil|apply Wk.agg|apply Wk.tuple|apply WkL.cons|apply Wk.rows|apply WkE.consA))
theorem P7 {k:Kd} (hk:pw k=true) {o:Ob} (ho:lD o):SC (sB k) (aj o::sC k) (.fsl false (an (aU o k))):=by
 cases k with
 |uid=>exact PP o
 |nam=>exact PB o (sm o) (uJ o) (sn o) o.names ho.n
 |typ=>exact PQ o
 |alg=>exact PS o
 |len=>exact PT o
 |mask=>exact PU o
 |sta=>exact PR o
 |why=>exact P6 o
 |lnk=>exact PE o (sm o) (uI o) (sn o) o.links ho.l
 |lim=>exact P5 o
 |cus s=>exact PO o s (by have:=ho.c;show _≤1099511627776;omega)
 |dat k=>
  match k,hk with
  |0,_=>exact PV o
  |1,_=>exact PW o
  |2,_=>exact PX o
  |3,_=>exact PY o
  |4,_=>exact PZ o
  |5,_=>exact P0 o
  |6,_=>exact P1 o
  |7,_=>exact P2 o
  |8,_=>exact P3 o
  |9,_=>exact P4 o
  |k+10,hk=>exact absurd (blt_iff.1 hk) (by omega)
def nz (o:Ob) (s:List UInt8) (i:Nat):Nat:=((cK s o.cust 0++[o.cust.length])[i]?).getD 0
def nA (v:It) (i:Nat):It:=((cT v)[i]?).getD v
def P8 (o:Ob) (i:Nat) (v:It):Kd→Ob
 | .nam=>{o with names:=nv o.names i (cL v)}
 | .alg=>{o with alg:=bM v}
 | .len=>{o with len:=bM v}
 | .mask=>{o with mask:=bM v}
 | .dat k=>aO o ⟨true,bM v⟩ k
 | .lnk=>{o with links:=nv o.links i ⟨bM (nA v 0),cL (nA v 1)⟩}
 | .lim=>{o with lh:=true,lt:=bM (nA v 0),lc:=bM (nA v 1),lu:=bM (nA v 2)}
 | .cus s=>{o with cust:=nv o.cust (nz o s i) ⟨s,cL v⟩}
 |_=>o
def P9 (o:Ob) (j:Nat):Kd→Prop
 | .nam=>j≤o.names.length∧j<6
 | .lnk=>j≤o.links.length∧j<8
 | .cus s=>j<(cK s o.cust 0).length∨j=(cK s o.cust 0).length∧o.cust.length<6
 |_=>True
theorem Qa {o:Ob} {s:List UInt8} {j:Nat} (h:j≤(cK s o.cust 0).length):(cK s o.cust 0++[o.cust.length])[j]? =some (nz o s j)∧nz o s j≤o.cust.length∧(j<(cK s o.cust 0).length→nz o s j<o.cust.length):=by
 have hj:j<(cK s o.cust 0++[o.cust.length]).length:=by simp;omega
 have e:=List.getElem?_eq_getElem hj
 have e2:(cK s o.cust 0++[o.cust.length])[j]? =some (nz o s j):=by rw[e,nz,e];rfl
 refine ⟨e2, ?_,fun hlt=> ?_⟩
 ·have hm:=List.mem_of_getElem? e2
  rcases List.mem_append.1 hm with hm|hm
  ·have:=uX s o.cust 0 _ hm;omega
  ·simp at hm;omega
 ·rw[List.getElem?_append_left hlt] at e2
  have:=uX s o.cust 0 _ (List.mem_of_getElem? e2)
  omega
theorem Qb:eY Tryz.prog 89=some true:=by kernel_rfl
def ku (k:Kd):fh:=⟨aM k,iT k,pm k,gV k⟩
theorem u7 (k:Kd):gA k=b8 (ku k) (ni k) (nj k) (nk k) (su k) (nn k) (np k) (nq k) (nr k):=rfl
theorem Qc (k:Kd):gA k=b8 (ku k) (ni k) (nj k) (nk k) (eD (sB k) (sC k)) (nn k) (np k) (nq k) (nr k):=by rw[u7,PF]
theorem FP (k:Kd):ad (gA k)=true:=zM k
theorem Qd (k:Kd) (o:Ob) {c:List AV} (h:ad c=true):ad (.agg (gA k)::aj o::c)=true:=by
 have h1:=FP k
 have h2:=ec o h
 rw[ad,ac,h1,h2];rfl
def lE (v:It) (but:Int):List It→Nat→Bool
 |[],_=>false
 |x::r,i=>(!aF (.ofNat i) but&&dG x v)||lE v but r (i+1)
structure nB (o:Ob) (k:Kd):Prop where
 n:(aU o k).length≤1000
 i:∀x∈aU o k,dF cD x
def jE:Dt:=⟨false,0⟩
def zO:Ob:=⟨[],0,0,0,0,[],0,jE,jE,jE,jE,jE,jE,jE,jE,jE,jE,0,[],[],[],[],false,0,0,0,false⟩
theorem px (s:List UInt8) (i t y n:Int) (d:List UInt8) (ks:List It):ag ⟨s,i,.mk t y n d ks⟩= .agg (.str s::I i::ay t y n (ap d) (an ks)):=rfl
theorem zZ (k:Kd):nu (some k)=uY (gA k):=rfl
theorem z2 (k:Kd):cQ Tryz.prog 89 (.agg (gA k)) 12=true:=by
 have h:aS (gA k)=true:=by
  cases k with
  |dat k=>
   have h1:(pn k).one=true:=by unfold pn;split<;>rfl
   have h2:(ss k).one=true:=by unfold ss;split<;>rfl
   simp only[gA,aS,ni,nj,nk,h1,h2,su,nn,np,nq,nr,cj,eD,En,Em,Eo,Bool.true_and,Bool.and_true]
   rfl
  |_=>rfl
 exact Ep Qb rfl h
inductive Wh where
 |nil|uP|young|used|full
def cU (p:Ob × Int) (now:Int):Ob × Int:=match aF p.2 0 with
 |false=>(zO,p.2)
 |true=>({p.1 with d9:=⟨true,now⟩},0)
end Go.Proofs.YtjhggnebkfpgcaaGreatDoor
namespace Go.Proofs.YtjhggnebkfpgcaaGreatDoor
set_option maxRecDepth 20000
open Go Go.RowKit
open Go.Proofs.Abs
noncomputable section
def io (i n:Int) (Ls W:List AV):View:=⟨[(11,.fsl false Ls),(12,I n),(13,I i),(5,.nilsl)],[(2,.ptr 0 0)],[(0,.cells W,.whole)],1,28⟩
def f5 (i n:Int) (k:Nat) (Ls W es:List AV):View:=⟨[(11,.fsl false Ls),(12,I n),(13,I i)],[(2,.ptr 0 0),(5,.rsl true 1 0 k 7)],[(0,.cells W,.whole),(1,.cells es,.whole)],2,28⟩
def py (x:List AV) (ls:List (Nat × bg)):be:=aq [(4,1,.res (.fptr x 0))] ls aA [] []
@[simp] abbrev u9 (a d g m p r re ro:AV) (h:fh):=([AV.str h.1,I h.2,AV.bool h.3,AV.bool h.4,a,m,re,g,r,p,d,ro]=[AV.str h.1,I h.2,AV.bool h.3,AV.bool h.4,a,m,re,g,r,p,d,ro]∧ad [AV.str h.1,I h.2,AV.bool h.3,AV.bool h.4,a,m,re,g,r,p,d,ro]=true)
abbrev nC (D K:List AV) (h:fh) (i q t y:Int):=[AV.agg [AV.str h.1,I i,I t,I y,I q,AV.fsl false D,AV.fsl false K]]
@[simp] abbrev sF (Ls:List AV):=(AV.fsl false Ls=AV.fsl false Ls∧ac (AV.fsl false Ls)=true)
@[simp] abbrev sG:=(some 0=some 0∧0=0)
@[simp] abbrev va (n:Int):=(I n=I n∧ac (I n)=true)
theorem FQ (h:fh) (a m re g r p d ro:AV) (i n j:Int) (Ls D K:List AV) (t y q:Int) (es:List AV) (N:Prop) (Q:AExit→St→Prop):aw Tryz.prog opts0 40 (py (ay t y q D K) []) (ah Tryz.prog 83 4) (io i n Ls (b8 h a m re g r p d ro)).st (bf 0 [(0,0),(1,15)] (f5 j n 1 Ls (b8 h a m re g r p d ro) es) N [(0,0)] (io i n Ls (b8 h a m re g r p d ro)) Q)=
  (ak (ar i n) (ax Tryz.prog 35 (AV.fsl false Ls) (I i)=some (AV.fptr [I t,I y,I q,AV.fsl false D,AV.fsl false K] 0)∧(((sF Ls)∧(va n)∧(I (af IntKind.i64 (i+1))=I j∧ac (I j)=true)∧True)∧(sG∧(true=true∧some 15=some 15∧0=0∧1=ab (nC D K h i q t y)∧7=7)∧True)∧(u9 a d g m p r re ro h)∧(flat (nC D K h i q t y)=es∧ad es=true)∧True)∧N) ((((sF Ls)∧(va n)∧(I i=I i∧ac (I i)=true)∧(AV.nilsl=AV.nilsl∧true=true)∧True)∧(sG∧True)∧(u9 a d g m p r re ro h)∧True)∧Q (AExit.exit 0) (io i n Ls (b8 h a m re g r p d ro)).st)):=by kernel_rfl
theorem FR (h:fh) (a m re g r p d ro:AV) (i n j:Int) (k k':Nat) (Ls D K:List AV) (t y q:Int) (es es':List AV) (N:Prop) (Q:AExit→St→Prop):aw Tryz.prog opts0 40 (py (ay t y q D K) []) (ah Tryz.prog 83 4) (f5 i n k Ls (b8 h a m re g r p d ro) es).st (bf 0 [(0,0),(1,16)] (f5 j n k' Ls (b8 h a m re g r p d ro) es') N [(0,0),(1,1)] (f5 i n k Ls (b8 h a m re g r p d ro) es) Q)=
  (ak (ar i n) (ax Tryz.prog 35 (AV.fsl false Ls) (I i)=some (AV.fptr [I t,I y,I q,AV.fsl false D,AV.fsl false K] 0)∧aC (bo 7 (nC D K h i q t y)&&(((k+ab (nC D K h i q t y))*96).ble 140737488355328&&(aS (flat (nC D K h i q t y))&&true))) (aC ((ab es).beq (k*7)) ((((sF Ls)∧(va n)∧(I (af IntKind.i64 (i+1))=I j∧ac (I j)=true)∧True)∧(sG∧(true=true∧some 16=some 16∧0=0∧k'=k+ab (nC D K h i q t y)∧7=7)∧True)∧(u9 a d g m p r re ro h)∧(es++flat (nC D K h i q t y)=es'∧ad es'=true)∧True)∧N))) ((((sF Ls)∧(va n)∧(I i=I i∧ac (I i)=true)∧True)∧(sG∧(true=true∧some 1=some 1∧0=0∧k=k∧7=7)∧True)∧(u9 a d g m p r re ro h)∧(es=es∧ad es=true)∧True)∧Q (AExit.exit 0) (f5 i n k Ls (b8 h a m re g r p d ro) es).st)):=by kernel_rfl
def FT (i n:Int) (Ls W:List AV):bg:=fun st Q=>bR 0 [(0,0)] (io 0 n Ls W) st∧Q (.exit 0) (io i n Ls W).st
def FU (i n:Int) (k:Nat) (Ls W es:List AV):bg:=fun st Q=>bR 0 [(0,0)] (io 0 n Ls W) st∧Q (.exit 0) (f5 i n k Ls W es).st
def vb (Ls:List AV) (ls:List (Nat × bg)):be:=aq [] ls (fun _ args _ _=>match args with| .agg _::_=>some (.val (.fsl false Ls))|_=>none) [] []
abbrev sH (a d m p r re ro:AV) (c:List AV) (g:Nat) (h:fh):=[AV.str h.1,I h.2,AV.bool h.3,AV.bool h.4,a,m,re,AV.func (Fn.func g) [] c,r,p,d,ro]
@[simp] abbrev FV (Ls c:List AV) (a d m p r re ro:AV) (g:Nat) (h:fh):=(((sF Ls)∧(I (Int.ofNat (ab Ls))=I (Int.ofNat (ab Ls))∧ac (I (Int.ofNat (ab Ls)))=true)∧(I 0=I 0∧true=true)∧(AV.nilsl=AV.nilsl∧true=true)∧True)∧(sG∧True)∧((sH a d m p r re ro c g h)=(sH a d m p r re ro c g h)∧ad (sH a d m p r re ro c g h)=true)∧True)
theorem Qe (h:fh) (a m re r p d ro:AV) (g:Nat) (c:List AV) (i:Int) (Ls:List AV) (o:Ob) (M N L C:AV) (Q:AV→ae→Prop):aL Tryz.prog opts0 40 (vb Ls [(4,FT i (.ofNat (ab Ls)) Ls (b8 h a m re (eD g c) r p d ro))]) 83 [.agg (b8 h a m re (eD g c) r p d ro),.agg (aa o M N L C)] [] 0 (fun v H _=>Q v H)=
  (SC g (AV.agg (aa o M N L C)::c) (AV.fsl false Ls)∧(FV Ls c a d m p r re ro g h)∧Q AV.nilsl [(0,some (Blk.cells (sH a d m p r re ro c g h)))]):=by kernel_rfl
theorem Qf (h:fh) (a m re r p d ro:AV) (g:Nat) (c:List AV) (i:Int) (k:Nat) (Ls es:List AV) (o:Ob) (M N L C:AV) (Q:AV→ae→Prop):aL Tryz.prog opts0 40 (vb Ls [(4,FU i (.ofNat (ab Ls)) k Ls (b8 h a m re (eD g c) r p d ro) es)]) 83 [.agg (b8 h a m re (eD g c) r p d ro),.agg (aa o M N L C)] [] 0 (fun v H _=>Q v H)=
  (SC g (AV.agg (aa o M N L C)::c) (AV.fsl false Ls)∧(FV Ls c a d m p r re ro g h)∧Q (AV.rsl true 1 0 k 7) [(0,some (Blk.cells (sH a d m p r re ro c g h))),(1,some (Blk.cells es))]):=by kernel_rfl
def bS (s:List UInt8):List It→Nat→List At
 |[],_=>[]
 |v::r,i=>⟨s,.ofNat i,v⟩::bS s r (i+1)
theorem sI (s:List UInt8):∀ (l:List It) (i:Nat),(bS s l i).length=l.length
 |[],_=>rfl
 |_::r,i=>congrArg (· +1) (sI s r (i+1))
theorem mJ:∀l:List At,(flat (l.map ag)).length=l.length*7
 |[]=>rfl
 |⟨_,_,⟨_,_,_,_,_⟩⟩::r=>by
  have ih:=mJ r
  rw[List.length_cons,Nat.succ_mul,←ih]
  rfl
theorem bP:∀l:List At,ad (l.map ag)=true
 |[]=>rfl
 |a::r=>by rw[List.map_cons,ad,jB,bP r];rfl
theorem lF:∀l:List At,ad (flat (l.map ag))=true
 |[]=>rfl
 |a::r=>by
  have h:=jB a
  rw[List.map_cons,flat,dh,lF r,Bool.and_true]
  exact h
theorem z6 (a:At):fc 7 (ag a):=by
 obtain ⟨s,i,⟨t,y,n,d,ks⟩⟩:=a
 exact ⟨rfl,rfl⟩
section
variable {h:fh} {a m re g r p d ro:AV} {l:List It}
theorem Qg (hW:ad (b8 h a m re g r p d ro)=true) (hb:l.length≤1000) {Q:AExit→St→Prop}:∀ (z:Nat) (pre:List At),pre.length+z=l.length→Q (.exit 0) (f5 (.ofNat l.length) (.ofNat l.length) l.length (an l) (b8 h a m re g r p d ro) (flat ((pre++bS h.nm (l.drop pre.length) pre.length).map ag))).st→ALp Tryz.prog opts0.glob 0 (ah Tryz.prog 83 4) (f5 (.ofNat pre.length) (.ofNat l.length) pre.length (an l) (b8 h a m re g r p d ro) (flat (pre.map ag))).st Q:=by
 have hL:ac (.fsl false (an l))=true:=fF l
 intro z
 induction z with
 | zero=>
  intro pre hz hq
  rw[Nat.add_zero] at hz
  rw[List.drop_of_length_le (by omega),show bS h.nm [] pre.length=[] from rfl,List.append_nil] at hq
  have hz':Int.ofNat pre.length=Int.ofNat l.length:=by rw[hz]
  refine ALp.round (A:=py (ay 0 0 0 [] []) []) (V2:=f5 (.ofNat pre.length) (.ofNat l.length) pre.length (an l) (b8 h a m re g r p d ro) (flat (pre.map ag))) (F:=f5 (.ofNat pre.length) (.ofNat l.length) pre.length (an l) (b8 h a m re g r p d ro) (flat (pre.map ag))) (lk:=[(0,0),(1,16)]) (lk':=[(0,0),(1,1)]) base0 am (LsOk.no rfl) .refl ?_
  rw[FR]
  refine az (fun e=> ?_) (fun _=>⟨⟨⟨⟨rfl,hL⟩,⟨rfl,rfl⟩,⟨rfl,rfl⟩,trivial⟩,⟨⟨rfl,rfl⟩,⟨rfl,rfl,rfl,rfl,rfl⟩,trivial⟩,⟨rfl,hW⟩,⟨rfl,lF pre⟩,trivial⟩, ?_⟩)
  ·have e:=ltInt_iff.1 e
   omega
  ·rw[←hz] at hq
   rw[←hz']
   exact hq
 | succ z ih=>
  intro pre hz hq
  have hi:pre.length<l.length:=by omega
  have g1:=List.getElem?_eq_getElem hi
  rw[List.drop_eq_getElem_cons hi] at hq
  revert g1 hq
  generalize l[pre.length]=x
  obtain ⟨t,y,q,dd,ks⟩:=x
  intro hq g1
  have hn:=ih (pre++[⟨h.nm,.ofNat pre.length,.mk t y q dd ks⟩]) (by simp;omega) (by
   rw[List.append_assoc,List.length_append]
   exact hq)
  have e1:(pre++[(⟨h.nm,.ofNat pre.length,.mk t y q dd ks⟩:At)]).length=pre.length+1:=by simp
  have e2:flat ((pre++[(⟨h.nm,.ofNat pre.length,.mk t y q dd ks⟩:At)]).map ag)=flat (pre.map ag)++flat [.agg [.str h.nm,I (.ofNat pre.length),I t,I y,I q,.fsl false (ap dd),.fsl false (an ks)]]:=by rw[List.map_append,gv];rfl
  rw[e1] at hn
  have hw:af .i64 (Int.ofNat pre.length+1)=Int.ofNat (pre.length+1):=co (by simp;omega) (by simp;omega)
  refine ALp.round (A:=py (ay t y q (ap dd) (an ks)) []) (V2:=f5 (.ofNat (pre.length+1)) (.ofNat l.length) (pre.length+1) (an l) (b8 h a m re g r p d ro) (flat ((pre++[(⟨h.nm,.ofNat pre.length,.mk t y q dd ks⟩:At)]).map ag))) (F:=f5 (.ofNat pre.length) (.ofNat l.length) pre.length (an l) (b8 h a m re g r p d ro) (flat (pre.map ag))) (lk:=[(0,0),(1,16)]) (lk':=[(0,0),(1,1)]) base0 am (LsOk.no rfl) .refl ?_
  rw[FR,hw]
  refine az (fun _=>⟨lx g1,aH ?_ (aH ?_ ⟨⟨⟨⟨rfl,hL⟩,⟨rfl,rfl⟩,⟨rfl,rfl⟩,trivial⟩,⟨⟨rfl,rfl⟩,⟨rfl,rfl,rfl,rfl,rfl⟩,trivial⟩,⟨rfl,hW⟩,⟨e2.symm,lF _⟩,trivial⟩,hn⟩)⟩) (fun e=> ?_)
  ·simp[bo,aS,flat,AV.cells,ab];omega
  ·simp[aI,mJ]
  ·have e:=ltInt_false.1 e
   simp only[Int.ofNat_eq_natCast] at e
   omega
theorem Qh (hW:ad (b8 h a m re g r p d ro)=true) (hl:l=[]) {Q:AExit→St→Prop} (hq:Q (.exit 0) (io 0 (.ofNat l.length) (an l) (b8 h a m re g r p d ro)).st):ALp Tryz.prog opts0.glob 0 (ah Tryz.prog 83 4) (io 0 (.ofNat l.length) (an l) (b8 h a m re g r p d ro)).st Q:=by
 have hL:ac (.fsl false (an l))=true:=fF l
 refine ALp.round (A:=py (ay 0 0 0 [] []) []) (V2:=f5 0 (.ofNat l.length) 1 (an l) (b8 h a m re g r p d ro) []) (F:=io 0 (.ofNat l.length) (an l) (b8 h a m re g r p d ro)) (lk:=[(0,0),(1,15)]) (lk':=[(0,0)]) base0 am (LsOk.no rfl) .refl ?_
 rw[FQ]
 refine az (fun e=> ?_) (fun _=>⟨⟨⟨⟨rfl,hL⟩,⟨rfl,rfl⟩,⟨rfl,rfl⟩,⟨rfl,rfl⟩,trivial⟩,⟨⟨rfl,rfl⟩,trivial⟩,⟨rfl,hW⟩,trivial⟩,hq⟩)
 have e:=ltInt_iff.1 e
 subst hl
 simp at e
theorem Qi (hW:ad (b8 h a m re g r p d ro)=true) (hb:l.length≤1000) (hl:0<l.length) {Q:AExit→St→Prop} (hq:Q (.exit 0) (f5 (.ofNat l.length) (.ofNat l.length) l.length (an l) (b8 h a m re g r p d ro) (flat ((bS h.nm l 0).map ag))).st):ALp Tryz.prog opts0.glob 0 (ah Tryz.prog 83 4) (io 0 (.ofNat l.length) (an l) (b8 h a m re g r p d ro)).st Q:=by
 have hL:ac (.fsl false (an l))=true:=fF l
 match l,hb,hl,hL,hq with
 |⟨t,y,q,dd,ks⟩::rs,hb,hl,hL,hq=>
  have hn:=Qg (l:=⟨t,y,q,dd,ks⟩::rs) hW hb (Q:=Q) rs.length [⟨h.nm,.ofNat 0,.mk t y q dd ks⟩] (by simp;omega) hq
  refine ALp.round (A:=py (ay t y q (ap dd) (an ks)) []) (V2:=f5 (.ofNat 1) (.ofNat (rs.length+1)) 1 (an (⟨t,y,q,dd,ks⟩::rs)) (b8 h a m re g r p d ro) (flat ([(⟨h.nm,.ofNat 0,.mk t y q dd ks⟩:At)].map ag))) (F:=io 0 (.ofNat (rs.length+1)) (an (⟨t,y,q,dd,ks⟩::rs)) (b8 h a m re g r p d ro)) (lk:=[(0,0),(1,15)]) (lk':=[(0,0)]) base0 am (LsOk.no rfl) .refl ?_
  have hw:af .i64 (0+1)=Int.ofNat 1:=rfl
  show aw Tryz.prog opts0 40 _ _ (io 0 (.ofNat (rs.length+1)) (an (⟨t,y,q,dd,ks⟩::rs)) (b8 h a m re g r p d ro)).st _
  rw[FQ,hw]
  refine az (fun _=>⟨lx (i:=0) rfl,⟨⟨⟨rfl,hL⟩,⟨rfl,rfl⟩,⟨rfl,rfl⟩,trivial⟩,⟨⟨rfl,rfl⟩,⟨rfl,rfl,rfl,rfl,rfl⟩,trivial⟩,⟨rfl,hW⟩,⟨rfl,lF _⟩,trivial⟩,hn⟩) (fun e=> ?_)
  have e:=ltInt_false.1 e
  simp only[Int.ofNat_eq_natCast] at e
  omega
end
theorem FW:br (cy Tryz.prog 83) 4=[ah Tryz.prog 83 4]:=by kernel_rfl
theorem Qj {k:Kd} (hk:pw k=true) {o:Ob} (ho:lD o) (hg:nB o k):SC 83 [.agg (gA k),aj o] (.fsl false ((bS (aM k) (aU o k) 0).map ag)):=by
 have hget:=P7 hk ho
 have hcl:=Qd k o (c:=[]) rfl
 have hW:=FP k
 have hb:=hg.n
 rw[Qc] at hcl hW⊢
 have hnm:aM k=(ku k).nm:=rfl
 rw[hnm]
 revert hget hb
 generalize aU o k=l
 intro hget hb
 simp only[aj,ao] at hget hcl⊢
 match l,hget,hb with
 | [],hget,hb=>
  refine dH (A:=vb (an []) [(4,FT 0 (.ofNat (ab (an []))) (an []) (b8 (ku k) (ni k) (nj k) (nk k) (eD (sB k) (sC k)) (nn k) (np k) (nq k) (nr k)))]) base0 am
   (aN (LsOk.at1 rfl FW fun st Q hs=> .seen base0.glob hs.1 (Qh (l:=[]) hW rfl hs.2))) hcl ?_
  rw[Qe]
  exact ⟨hget,⟨⟨⟨rfl,rfl⟩,⟨rfl,rfl⟩,⟨rfl,rfl⟩,⟨rfl,rfl⟩,trivial⟩,⟨⟨rfl,rfl⟩,trivial⟩,⟨rfl,hW⟩,trivial⟩,.nilsl,(Frz.closed _ rfl).out,rfl,.nil⟩
 | x::r,hget,hb=>
  have hlen:ab (an (x::r))=(x::r).length:=by rw[aI,gT]
  have ht:=sI (ku k).nm (x::r) 0
  have hln:ad (an (x::r))=true:=fF _
  refine dH (A:=vb (an (x::r)) [(4,FU (.ofNat (x::r).length) (.ofNat (ab (an (x::r)))) (x::r).length (an (x::r)) (b8 (ku k) (ni k) (nj k) (nk k) (eD (sB k) (sC k)) (nn k) (np k) (nq k) (nr k)) (flat ((bS (ku k).nm (x::r) 0).map ag)))]) base0 am
   (aN (LsOk.at1 rfl FW fun st Q hs=> .seen base0.glob hs.1 (by
    have h2:=hs.2
    have h1:=Qi (l:=x::r) hW hb (by simp) (Q:=Q)
    rw[hlen] at h2⊢
    exact h1 h2))) hcl ?_
  rw[Qf]
  refine ⟨hget,⟨⟨⟨rfl,hln⟩,⟨rfl,rfl⟩,⟨rfl,rfl⟩,⟨rfl,rfl⟩,trivial⟩,⟨⟨rfl,rfl⟩,trivial⟩,⟨rfl,hW⟩,trivial⟩,.fsl false ((bS (ku k).nm (x::r) 0).map ag),(Frz.row rfl rfl rfl (by rw[List.length_map,ht]) (fun e he=>by obtain ⟨a,_,rfl⟩:=List.mem_map.1 he;exact z6 a) (bP _)).out,bP _,.refl _⟩
end
end Go.Proofs.YtjhggnebkfpgcaaGreatDoor
namespace Go.Proofs.YtjhggnebkfpgcaaGreatDoor
open Go Go.RowKit
open Go.Proofs.Abs
noncomputable section
def jF (row:AV) (f:Bool) (Ls:List AV):be:=aq [] [] (jy [(61,fun _=>some (.tuple [row,.bool f])),(83,fun _=>some (.fsl false Ls))]) [] []
abbrev sJ (a d g m p r re ro:AV) (h:fh):=[AV.str h.1,I h.2,AV.bool h.3,AV.bool h.4,a,m,re,g,r,p,d,ro]
theorem Qk (h:fh) (a m re g r p d ro:AV) (Ls:List AV) (s:List UInt8) (o:Ob) (M N L C:AV) (Q:AV→Prop):aL Tryz.prog opts0 40 (jF (.agg (b8 h a m re g r p d ro)) true Ls) 32 [.agg (aa o M N L C),.str s] [] 0 (fun v _ _=>Q v)=
  (SC 61 [AV.str s] (AV.tuple [AV.agg (sJ a d g m p r re ro h),AV.bool true])∧aC (cQ Tryz.prog 89 (AV.agg (sJ a d g m p r re ro h)) 12) (SC 83 [AV.agg (sJ a d g m p r re ro h),AV.agg (aa o M N L C)] (AV.fsl false Ls)∧Q (AV.fsl false Ls))):=by kernel_rfl
theorem Ql (h:fh) (a m re g r p d ro:AV) (Ls:List AV) (s:List UInt8) (o:Ob) (M N L C:AV) (Q:AV→Prop):aL Tryz.prog opts0 40 (jF (.agg (b8 h a m re g r p d ro)) false Ls) 32 [.agg (aa o M N L C),.str s] [] 0 (fun v _ _=>Q v)=
  (SC 61 [AV.str s] (AV.tuple [AV.agg (sJ a d g m p r re ro h),AV.bool false])∧aC (cQ Tryz.prog 89 (AV.agg (sJ a d g m p r re ro h)) 12) (Q AV.nilsl)):=by kernel_rfl
theorem z7 {s:List UInt8}:∀ {l:List Kd} {k:Kd},gW s l=some k→k∈l∧aM k=s
 |[],_,h=>by cases h
 | a::r,k,h=>by
  simp only[gW] at h
  split at h
  ·rename_i e
   cases h
   exact ⟨by simp,beqBytes_iff.1 e⟩
  ·obtain ⟨h1,h2⟩:=z7 h
   exact ⟨by simp[h1],h2⟩
theorem FX {c:Bool} {s:List UInt8} {k:Kd} (h:eb c s=some k):pw k=true∧aM k=s:=by
 unfold eb at h
 split at h
 ·cases h;exact ⟨rfl,rfl⟩
 ·obtain ⟨h1,h2⟩:=z7 h
  exact ⟨(by decide:∀k∈kinds,pw k=true) k h1,h2⟩
def fu (c:Bool) (o:Ob) (s:List UInt8):List At:=match eb c s with
 |none=>[]
 |some k=>bS s (aU o k) 0
theorem z8:cQ Tryz.prog 89 kr 12=true:=by kernel_rfl
set_option maxRecDepth 20000 in
theorem FY {c:Bool} {o:Ob} (ho:lD o) {s:List UInt8} (hc:SC 111 [.str s] (.bool c)) (hg:∀k,nB o k):SC 32 [aj o,.str s] (.fsl false ((fu c o s).map ag)):=by
 have hf:=zN hc
 have hcl:=ec o (c:=[.str s]) rfl
 unfold fu
 cases hk:eb c s with
 |none=>
  dsimp only
  rw[hk] at hf
  refine cY (A:=jF kr false []) base0 am (aN (LsOk.no rfl)) hcl ?_
  have e:kr= .agg (b8 ⟨[],0,false,false⟩ .nilFunc .nilFunc .nilFunc .nilFunc .nilFunc .nilFunc .nilFunc .nilFunc):=rfl
  rw[nu,e] at hf
  have hz:=z8
  rw[e] at hz⊢
  simp only[aj,ao]
  rw[Ql]
  exact ⟨hf,aH hz ⟨rfl,.nil⟩⟩
 |some k=>
  dsimp only
  rw[hk] at hf
  obtain ⟨h1,h2⟩:=FX hk
  have hof:=Qj h1 ho (hg k)
  have hfit:=z2 k
  rw[h2] at hof
  refine cY (A:=jF (.agg (gA k)) true ((bS s (aU o k) 0).map ag)) base0 am (aN (LsOk.no rfl)) hcl ?_
  rw[zZ,uY] at hf
  rw[u7] at hf hof hfit⊢
  simp only[aj,ao] at hof⊢
  rw[Qk]
  exact ⟨hf,aH hfit ⟨hof,o8 (bP _)⟩⟩
end
noncomputable section
def oS (v:Int) (d:Nat) (is:Option oV) (id:List UInt8):dj:=fun f args _ nx=>match Nat.beq f 23 with
 | true=>match Nat.ble nx 23 with
  |true=>some (.val (I v))
  | false=>match args with
   |[.int _ n,.int _ m]=>match Int.rec (motive:=fun _=>Bool) (fun k=>Nat.ble v.toNat 2&&Nat.beq k 10) (fun _=>false) (match Nat.ble v.toNat 2 with|true=>m|false=>0) with
    |true=>some (.val (I (.ofNat d)))
    |false=>some (.val (I (n%m)))
   |_=>none
 |false=>match Nat.beq f 69 with
  |true=>is
  |false=>some (.val (.str id))
def zC:List AV:=aa ⟨[],0,0,0,0,[],0,⟨false,0⟩,⟨false,0⟩,⟨false,0⟩,⟨false,0⟩,⟨false,0⟩,⟨false,0⟩,⟨false,0⟩,⟨false,0⟩,⟨false,0⟩,⟨false,0⟩,0,[],[],[],[],false,0,0,0,false⟩ .nilsl .nilsl .nilsl .nilsl
def oW (i:Int) (Rs:List AV) (O:List AV) (hs:Heap2):View:=⟨[(1,.fsl false Rs),(6,I i)],[(4,.ptr 4 0),(5,.ptr 0 0)],[(0,.cells O,.rel),(4,.cells zC,.whole)]++hs,6,229⟩
def Qm (y:Rw):List (Nat × Nat × ez):=[(4,3,.res (.bool true)),(4,6,.res (.bool true)),(6,2,.res (.fptr (kq y) 0))]
def oA (v:Int) (d:Nat) (y:Rw) (hint:List (Nat × Nat × ez)) (ls:List (Nat × bg)) (is:Option oV) (id:List UInt8):be:=aq (Qm y++hint) ls (oS v d is id) [] []
@[simp] abbrev bC (Rs:List AV):=(AV.fsl false Rs=AV.fsl false Rs∧ac (AV.fsl false Rs)=true)
@[simp] abbrev vc:=(some 4=some 4∧0=0)
@[simp] abbrev vd:=(some 0=some 0∧0=0)
@[simp] abbrev bX:=(vc∧vd∧True)
abbrev bY (y:Rw):=(AV.fptr [I y.1,I y.2,I y.3,I y.4] 0)
abbrev cM (BC BL BN:Option Blk) (C L M N:AV) (Rs:List AV) (i:Int) (o:Ob):=(aE (oW i Rs (aa o M N L C) []) [(1,BN),(2,BL),(3,BC)])
abbrev cN (C L M N:AV) (Rs:List AV) (j:Int) (o':Ob):=(oW j Rs (aa o' M N L C) [])
theorem Qn (y:Rw) (i j:Int) (Rs:List AV) (o o':Ob) (M N L C:AV) (BN BL BC:Option Blk) (Nx:Prop) (Q:AExit→St→Prop):aw Tryz.prog opts0 40 (oA 0 0 y [] [] none []) (ah Tryz.prog 22 5) (cM BC BL BN C L M N Rs i o) (roundO 0 [(0,0),(1,1),(2,2),(3,3),(4,4)] (cN C L M N Rs j o') [(1,BN),(2,BL),(3,BC)] Nx [] (oW i Rs [] []) [] Q)=
  (aG Tryz.prog BinOp.lss 3 (Operand.tmp 55) (Operand.tmp 57) (I i) (I (Int.ofNat (ab Rs)))=some (AV.bool true)∧aG Tryz.prog BinOp.lss 3 (Operand.tmp 60) (Operand.const (Value.int IntKind.i64 10)) (I i) (I 10)=some (AV.bool true)∧ax Tryz.prog 22 (AV.fsl false Rs) (I i)=some (bY y)∧SC 23 [I y.1,I 9] (I 0)∧SC 23 [I y.2,I 10] (I 0)∧SC 23 [I y.3,I 60] (I (y.3%60))∧((((bC Rs)∧(I (af IntKind.i64 (i+1))=I j∧ac (I j)=true)∧True)∧bX∧bt [(0,0),(1,1),(2,2),(3,3),(4,4)] (aa o' M N L C) (aa {o with d0:=⟨true,(y.3%60)⟩} M N L C)∧(zL=zL∧true=true)∧True)∧(BN=BN∧ai BN)∧(BL=BL∧ai BL)∧(BC=BC∧ai BC)∧True)∧Nx):=by kernel_rfl
theorem Qo (y:Rw) (i j:Int) (Rs:List AV) (o o':Ob) (M N L C:AV) (BN BL BC:Option Blk) (Nx:Prop) (Q:AExit→St→Prop):aw Tryz.prog opts0 40 (oA 0 1 y [] [] none []) (ah Tryz.prog 22 5) (cM BC BL BN C L M N Rs i o) (roundO 0 [(0,0),(1,1),(2,2),(3,3),(4,4)] (cN C L M N Rs j o') [(1,BN),(2,BL),(3,BC)] Nx [] (oW i Rs [] []) [] Q)=
  (aG Tryz.prog BinOp.lss 3 (Operand.tmp 55) (Operand.tmp 57) (I i) (I (Int.ofNat (ab Rs)))=some (AV.bool true)∧aG Tryz.prog BinOp.lss 3 (Operand.tmp 60) (Operand.const (Value.int IntKind.i64 10)) (I i) (I 10)=some (AV.bool true)∧ax Tryz.prog 22 (AV.fsl false Rs) (I i)=some (bY y)∧SC 23 [I y.1,I 9] (I 0)∧SC 23 [I y.2,I 10] (I 1)∧SC 23 [I y.3,I 60] (I (y.3%60))∧((((bC Rs)∧(I (af IntKind.i64 (i+1))=I j∧ac (I j)=true)∧True)∧bX∧bt [(0,0),(1,1),(2,2),(3,3),(4,4)] (aa o' M N L C) (aa {o with d1:=⟨true,(y.3%60)⟩} M N L C)∧(zL=zL∧true=true)∧True)∧(BN=BN∧ai BN)∧(BL=BL∧ai BL)∧(BC=BC∧ai BC)∧True)∧Nx):=by kernel_rfl
theorem Qp (y:Rw) (i j:Int) (Rs:List AV) (o o':Ob) (M N L C:AV) (BN BL BC:Option Blk) (Nx:Prop) (Q:AExit→St→Prop):aw Tryz.prog opts0 40 (oA 0 2 y [] [] none []) (ah Tryz.prog 22 5) (cM BC BL BN C L M N Rs i o) (roundO 0 [(0,0),(1,1),(2,2),(3,3),(4,4)] (cN C L M N Rs j o') [(1,BN),(2,BL),(3,BC)] Nx [] (oW i Rs [] []) [] Q)=
  (aG Tryz.prog BinOp.lss 3 (Operand.tmp 55) (Operand.tmp 57) (I i) (I (Int.ofNat (ab Rs)))=some (AV.bool true)∧aG Tryz.prog BinOp.lss 3 (Operand.tmp 60) (Operand.const (Value.int IntKind.i64 10)) (I i) (I 10)=some (AV.bool true)∧ax Tryz.prog 22 (AV.fsl false Rs) (I i)=some (bY y)∧SC 23 [I y.1,I 9] (I 0)∧SC 23 [I y.2,I 10] (I 2)∧SC 23 [I y.3,I 60] (I (y.3%60))∧((((bC Rs)∧(I (af IntKind.i64 (i+1))=I j∧ac (I j)=true)∧True)∧bX∧bt [(0,0),(1,1),(2,2),(3,3),(4,4)] (aa o' M N L C) (aa {o with d2:=⟨true,(y.3%60)⟩} M N L C)∧(zL=zL∧true=true)∧True)∧(BN=BN∧ai BN)∧(BL=BL∧ai BL)∧(BC=BC∧ai BC)∧True)∧Nx):=by kernel_rfl
theorem Qq (y:Rw) (i j:Int) (Rs:List AV) (o o':Ob) (M N L C:AV) (BN BL BC:Option Blk) (Nx:Prop) (Q:AExit→St→Prop):aw Tryz.prog opts0 40 (oA 0 3 y [] [] none []) (ah Tryz.prog 22 5) (cM BC BL BN C L M N Rs i o) (roundO 0 [(0,0),(1,1),(2,2),(3,3),(4,4)] (cN C L M N Rs j o') [(1,BN),(2,BL),(3,BC)] Nx [] (oW i Rs [] []) [] Q)=
  (aG Tryz.prog BinOp.lss 3 (Operand.tmp 55) (Operand.tmp 57) (I i) (I (Int.ofNat (ab Rs)))=some (AV.bool true)∧aG Tryz.prog BinOp.lss 3 (Operand.tmp 60) (Operand.const (Value.int IntKind.i64 10)) (I i) (I 10)=some (AV.bool true)∧ax Tryz.prog 22 (AV.fsl false Rs) (I i)=some (bY y)∧SC 23 [I y.1,I 9] (I 0)∧SC 23 [I y.2,I 10] (I 3)∧SC 23 [I y.3,I 60] (I (y.3%60))∧((((bC Rs)∧(I (af IntKind.i64 (i+1))=I j∧ac (I j)=true)∧True)∧bX∧bt [(0,0),(1,1),(2,2),(3,3),(4,4)] (aa o' M N L C) (aa {o with d3:=⟨true,(y.3%60)⟩} M N L C)∧(zL=zL∧true=true)∧True)∧(BN=BN∧ai BN)∧(BL=BL∧ai BL)∧(BC=BC∧ai BC)∧True)∧Nx):=by kernel_rfl
theorem Qr (y:Rw) (i j:Int) (Rs:List AV) (o o':Ob) (M N L C:AV) (BN BL BC:Option Blk) (Nx:Prop) (Q:AExit→St→Prop):aw Tryz.prog opts0 40 (oA 0 4 y [] [] none []) (ah Tryz.prog 22 5) (cM BC BL BN C L M N Rs i o) (roundO 0 [(0,0),(1,1),(2,2),(3,3),(4,4)] (cN C L M N Rs j o') [(1,BN),(2,BL),(3,BC)] Nx [] (oW i Rs [] []) [] Q)=
  (aG Tryz.prog BinOp.lss 3 (Operand.tmp 55) (Operand.tmp 57) (I i) (I (Int.ofNat (ab Rs)))=some (AV.bool true)∧aG Tryz.prog BinOp.lss 3 (Operand.tmp 60) (Operand.const (Value.int IntKind.i64 10)) (I i) (I 10)=some (AV.bool true)∧ax Tryz.prog 22 (AV.fsl false Rs) (I i)=some (bY y)∧SC 23 [I y.1,I 9] (I 0)∧SC 23 [I y.2,I 10] (I 4)∧SC 23 [I y.3,I 60] (I (y.3%60))∧((((bC Rs)∧(I (af IntKind.i64 (i+1))=I j∧ac (I j)=true)∧True)∧bX∧bt [(0,0),(1,1),(2,2),(3,3),(4,4)] (aa o' M N L C) (aa {o with d4:=⟨true,(y.3%60)⟩} M N L C)∧(zL=zL∧true=true)∧True)∧(BN=BN∧ai BN)∧(BL=BL∧ai BL)∧(BC=BC∧ai BC)∧True)∧Nx):=by kernel_rfl
theorem Qs (y:Rw) (i j:Int) (Rs:List AV) (o o':Ob) (M N L C:AV) (BN BL BC:Option Blk) (Nx:Prop) (Q:AExit→St→Prop):aw Tryz.prog opts0 40 (oA 0 5 y [] [] none []) (ah Tryz.prog 22 5) (cM BC BL BN C L M N Rs i o) (roundO 0 [(0,0),(1,1),(2,2),(3,3),(4,4)] (cN C L M N Rs j o') [(1,BN),(2,BL),(3,BC)] Nx [] (oW i Rs [] []) [] Q)=
  (aG Tryz.prog BinOp.lss 3 (Operand.tmp 55) (Operand.tmp 57) (I i) (I (Int.ofNat (ab Rs)))=some (AV.bool true)∧aG Tryz.prog BinOp.lss 3 (Operand.tmp 60) (Operand.const (Value.int IntKind.i64 10)) (I i) (I 10)=some (AV.bool true)∧ax Tryz.prog 22 (AV.fsl false Rs) (I i)=some (bY y)∧SC 23 [I y.1,I 9] (I 0)∧SC 23 [I y.2,I 10] (I 5)∧SC 23 [I y.3,I 60] (I (y.3%60))∧((((bC Rs)∧(I (af IntKind.i64 (i+1))=I j∧ac (I j)=true)∧True)∧bX∧bt [(0,0),(1,1),(2,2),(3,3),(4,4)] (aa o' M N L C) (aa {o with d5:=⟨true,(y.3%60)⟩} M N L C)∧(zL=zL∧true=true)∧True)∧(BN=BN∧ai BN)∧(BL=BL∧ai BL)∧(BC=BC∧ai BC)∧True)∧Nx):=by kernel_rfl
theorem Qt (y:Rw) (i j:Int) (Rs:List AV) (o o':Ob) (M N L C:AV) (BN BL BC:Option Blk) (Nx:Prop) (Q:AExit→St→Prop):aw Tryz.prog opts0 40 (oA 0 6 y [] [] none []) (ah Tryz.prog 22 5) (cM BC BL BN C L M N Rs i o) (roundO 0 [(0,0),(1,1),(2,2),(3,3),(4,4)] (cN C L M N Rs j o') [(1,BN),(2,BL),(3,BC)] Nx [] (oW i Rs [] []) [] Q)=
  (aG Tryz.prog BinOp.lss 3 (Operand.tmp 55) (Operand.tmp 57) (I i) (I (Int.ofNat (ab Rs)))=some (AV.bool true)∧aG Tryz.prog BinOp.lss 3 (Operand.tmp 60) (Operand.const (Value.int IntKind.i64 10)) (I i) (I 10)=some (AV.bool true)∧ax Tryz.prog 22 (AV.fsl false Rs) (I i)=some (bY y)∧SC 23 [I y.1,I 9] (I 0)∧SC 23 [I y.2,I 10] (I 6)∧SC 23 [I y.3,I 60] (I (y.3%60))∧((((bC Rs)∧(I (af IntKind.i64 (i+1))=I j∧ac (I j)=true)∧True)∧bX∧bt [(0,0),(1,1),(2,2),(3,3),(4,4)] (aa o' M N L C) (aa {o with d6:=⟨true,(y.3%60)⟩} M N L C)∧(zL=zL∧true=true)∧True)∧(BN=BN∧ai BN)∧(BL=BL∧ai BL)∧(BC=BC∧ai BC)∧True)∧Nx):=by kernel_rfl
theorem Qu (y:Rw) (i j:Int) (Rs:List AV) (o o':Ob) (M N L C:AV) (BN BL BC:Option Blk) (Nx:Prop) (Q:AExit→St→Prop):aw Tryz.prog opts0 40 (oA 0 7 y [] [] none []) (ah Tryz.prog 22 5) (cM BC BL BN C L M N Rs i o) (roundO 0 [(0,0),(1,1),(2,2),(3,3),(4,4)] (cN C L M N Rs j o') [(1,BN),(2,BL),(3,BC)] Nx [] (oW i Rs [] []) [] Q)=
  (aG Tryz.prog BinOp.lss 3 (Operand.tmp 55) (Operand.tmp 57) (I i) (I (Int.ofNat (ab Rs)))=some (AV.bool true)∧aG Tryz.prog BinOp.lss 3 (Operand.tmp 60) (Operand.const (Value.int IntKind.i64 10)) (I i) (I 10)=some (AV.bool true)∧ax Tryz.prog 22 (AV.fsl false Rs) (I i)=some (bY y)∧SC 23 [I y.1,I 9] (I 0)∧SC 23 [I y.2,I 10] (I 7)∧SC 23 [I y.3,I 60] (I (y.3%60))∧((((bC Rs)∧(I (af IntKind.i64 (i+1))=I j∧ac (I j)=true)∧True)∧bX∧bt [(0,0),(1,1),(2,2),(3,3),(4,4)] (aa o' M N L C) (aa {o with d7:=⟨true,(y.3%60)⟩} M N L C)∧(zL=zL∧true=true)∧True)∧(BN=BN∧ai BN)∧(BL=BL∧ai BL)∧(BC=BC∧ai BC)∧True)∧Nx):=by kernel_rfl
theorem Qv (y:Rw) (i j:Int) (Rs:List AV) (o o':Ob) (M N L C:AV) (BN BL BC:Option Blk) (Nx:Prop) (Q:AExit→St→Prop):aw Tryz.prog opts0 40 (oA 0 8 y [] [] none []) (ah Tryz.prog 22 5) (cM BC BL BN C L M N Rs i o) (roundO 0 [(0,0),(1,1),(2,2),(3,3),(4,4)] (cN C L M N Rs j o') [(1,BN),(2,BL),(3,BC)] Nx [] (oW i Rs [] []) [] Q)=
  (aG Tryz.prog BinOp.lss 3 (Operand.tmp 55) (Operand.tmp 57) (I i) (I (Int.ofNat (ab Rs)))=some (AV.bool true)∧aG Tryz.prog BinOp.lss 3 (Operand.tmp 60) (Operand.const (Value.int IntKind.i64 10)) (I i) (I 10)=some (AV.bool true)∧ax Tryz.prog 22 (AV.fsl false Rs) (I i)=some (bY y)∧SC 23 [I y.1,I 9] (I 0)∧SC 23 [I y.2,I 10] (I 8)∧SC 23 [I y.3,I 60] (I (y.3%60))∧((((bC Rs)∧(I (af IntKind.i64 (i+1))=I j∧ac (I j)=true)∧True)∧bX∧bt [(0,0),(1,1),(2,2),(3,3),(4,4)] (aa o' M N L C) (aa {o with d8:=⟨true,(y.3%60)⟩} M N L C)∧(zL=zL∧true=true)∧True)∧(BN=BN∧ai BN)∧(BL=BL∧ai BL)∧(BC=BC∧ai BC)∧True)∧Nx):=by kernel_rfl
theorem Qw (y:Rw) (i j:Int) (Rs:List AV) (o o':Ob) (M N L C:AV) (BN BL BC:Option Blk) (Nx:Prop) (Q:AExit→St→Prop):aw Tryz.prog opts0 40 (oA 0 9 y [] [] none []) (ah Tryz.prog 22 5) (cM BC BL BN C L M N Rs i o) (roundO 0 [(0,0),(1,1),(2,2),(3,3),(4,4)] (cN C L M N Rs j o') [(1,BN),(2,BL),(3,BC)] Nx [] (oW i Rs [] []) [] Q)=
  (aG Tryz.prog BinOp.lss 3 (Operand.tmp 55) (Operand.tmp 57) (I i) (I (Int.ofNat (ab Rs)))=some (AV.bool true)∧aG Tryz.prog BinOp.lss 3 (Operand.tmp 60) (Operand.const (Value.int IntKind.i64 10)) (I i) (I 10)=some (AV.bool true)∧ax Tryz.prog 22 (AV.fsl false Rs) (I i)=some (bY y)∧SC 23 [I y.1,I 9] (I 0)∧SC 23 [I y.2,I 10] (I 9)∧SC 23 [I y.3,I 60] (I (y.3%60))∧((((bC Rs)∧(I (af IntKind.i64 (i+1))=I j∧ac (I j)=true)∧True)∧bX∧bt [(0,0),(1,1),(2,2),(3,3),(4,4)] (aa o' M N L C) (aa {o with d9:=⟨true,(y.3%60)⟩} M N L C)∧(zL=zL∧true=true)∧True)∧(BN=BN∧ai BN)∧(BL=BL∧ai BL)∧(BC=BC∧ai BC)∧True)∧Nx):=by kernel_rfl
theorem Qx (y:Rw) (i j:Int) (Rs:List AV) (o o':Ob) (M N L C:AV) (BN BL BC:Option Blk) (Nx:Prop) (Q:AExit→St→Prop):aw Tryz.prog opts0 40 (oA 1 0 y [] [] none []) (ah Tryz.prog 22 5) (cM BC BL BN C L M N Rs i o) (roundO 0 [(0,0),(1,1),(2,2),(3,3),(4,4)] (cN C L M N Rs j o') [(1,BN),(2,BL),(3,BC)] Nx [] (oW i Rs [] []) [] Q)=
  (aG Tryz.prog BinOp.lss 3 (Operand.tmp 55) (Operand.tmp 57) (I i) (I (Int.ofNat (ab Rs)))=some (AV.bool true)∧aG Tryz.prog BinOp.lss 3 (Operand.tmp 60) (Operand.const (Value.int IntKind.i64 10)) (I i) (I 10)=some (AV.bool true)∧ax Tryz.prog 22 (AV.fsl false Rs) (I i)=some (bY y)∧SC 23 [I y.1,I 9] (I 1)∧SC 23 [I y.2,I 10] (I 0)∧SC 23 [I y.3,I 60] (I (y.3%60))∧((((bC Rs)∧(I (af IntKind.i64 (i+1))=I j∧ac (I j)=true)∧True)∧bX∧bt [(0,0),(1,1),(2,2),(3,3),(4,4)] (aa o' M N L C) (aa {o with d0:=⟨true,(y.3%60)⟩} M N L C)∧(zL=zL∧true=true)∧True)∧(BN=BN∧ai BN)∧(BL=BL∧ai BL)∧(BC=BC∧ai BC)∧True)∧Nx):=by kernel_rfl
theorem Qy (y:Rw) (i j:Int) (Rs:List AV) (o o':Ob) (M N L C:AV) (BN BL BC:Option Blk) (Nx:Prop) (Q:AExit→St→Prop):aw Tryz.prog opts0 40 (oA 1 1 y [] [] none []) (ah Tryz.prog 22 5) (cM BC BL BN C L M N Rs i o) (roundO 0 [(0,0),(1,1),(2,2),(3,3),(4,4)] (cN C L M N Rs j o') [(1,BN),(2,BL),(3,BC)] Nx [] (oW i Rs [] []) [] Q)=
  (aG Tryz.prog BinOp.lss 3 (Operand.tmp 55) (Operand.tmp 57) (I i) (I (Int.ofNat (ab Rs)))=some (AV.bool true)∧aG Tryz.prog BinOp.lss 3 (Operand.tmp 60) (Operand.const (Value.int IntKind.i64 10)) (I i) (I 10)=some (AV.bool true)∧ax Tryz.prog 22 (AV.fsl false Rs) (I i)=some (bY y)∧SC 23 [I y.1,I 9] (I 1)∧SC 23 [I y.2,I 10] (I 1)∧SC 23 [I y.3,I 60] (I (y.3%60))∧((((bC Rs)∧(I (af IntKind.i64 (i+1))=I j∧ac (I j)=true)∧True)∧bX∧bt [(0,0),(1,1),(2,2),(3,3),(4,4)] (aa o' M N L C) (aa {o with d1:=⟨true,(y.3%60)⟩} M N L C)∧(zL=zL∧true=true)∧True)∧(BN=BN∧ai BN)∧(BL=BL∧ai BL)∧(BC=BC∧ai BC)∧True)∧Nx):=by kernel_rfl
theorem Qz (y:Rw) (i j:Int) (Rs:List AV) (o o':Ob) (M N L C:AV) (BN BL BC:Option Blk) (Nx:Prop) (Q:AExit→St→Prop):aw Tryz.prog opts0 40 (oA 1 2 y [] [] none []) (ah Tryz.prog 22 5) (cM BC BL BN C L M N Rs i o) (roundO 0 [(0,0),(1,1),(2,2),(3,3),(4,4)] (cN C L M N Rs j o') [(1,BN),(2,BL),(3,BC)] Nx [] (oW i Rs [] []) [] Q)=
  (aG Tryz.prog BinOp.lss 3 (Operand.tmp 55) (Operand.tmp 57) (I i) (I (Int.ofNat (ab Rs)))=some (AV.bool true)∧aG Tryz.prog BinOp.lss 3 (Operand.tmp 60) (Operand.const (Value.int IntKind.i64 10)) (I i) (I 10)=some (AV.bool true)∧ax Tryz.prog 22 (AV.fsl false Rs) (I i)=some (bY y)∧SC 23 [I y.1,I 9] (I 1)∧SC 23 [I y.2,I 10] (I 2)∧SC 23 [I y.3,I 60] (I (y.3%60))∧((((bC Rs)∧(I (af IntKind.i64 (i+1))=I j∧ac (I j)=true)∧True)∧bX∧bt [(0,0),(1,1),(2,2),(3,3),(4,4)] (aa o' M N L C) (aa {o with d2:=⟨true,(y.3%60)⟩} M N L C)∧(zL=zL∧true=true)∧True)∧(BN=BN∧ai BN)∧(BL=BL∧ai BL)∧(BC=BC∧ai BC)∧True)∧Nx):=by kernel_rfl
theorem QA (y:Rw) (i j:Int) (Rs:List AV) (o o':Ob) (M N L C:AV) (BN BL BC:Option Blk) (Nx:Prop) (Q:AExit→St→Prop):aw Tryz.prog opts0 40 (oA 1 3 y [] [] none []) (ah Tryz.prog 22 5) (cM BC BL BN C L M N Rs i o) (roundO 0 [(0,0),(1,1),(2,2),(3,3),(4,4)] (cN C L M N Rs j o') [(1,BN),(2,BL),(3,BC)] Nx [] (oW i Rs [] []) [] Q)=
  (aG Tryz.prog BinOp.lss 3 (Operand.tmp 55) (Operand.tmp 57) (I i) (I (Int.ofNat (ab Rs)))=some (AV.bool true)∧aG Tryz.prog BinOp.lss 3 (Operand.tmp 60) (Operand.const (Value.int IntKind.i64 10)) (I i) (I 10)=some (AV.bool true)∧ax Tryz.prog 22 (AV.fsl false Rs) (I i)=some (bY y)∧SC 23 [I y.1,I 9] (I 1)∧SC 23 [I y.2,I 10] (I 3)∧SC 23 [I y.3,I 60] (I (y.3%60))∧((((bC Rs)∧(I (af IntKind.i64 (i+1))=I j∧ac (I j)=true)∧True)∧bX∧bt [(0,0),(1,1),(2,2),(3,3),(4,4)] (aa o' M N L C) (aa {o with d3:=⟨true,(y.3%60)⟩} M N L C)∧(zL=zL∧true=true)∧True)∧(BN=BN∧ai BN)∧(BL=BL∧ai BL)∧(BC=BC∧ai BC)∧True)∧Nx):=by kernel_rfl
theorem QB (y:Rw) (i j:Int) (Rs:List AV) (o o':Ob) (M N L C:AV) (BN BL BC:Option Blk) (Nx:Prop) (Q:AExit→St→Prop):aw Tryz.prog opts0 40 (oA 1 4 y [] [] none []) (ah Tryz.prog 22 5) (cM BC BL BN C L M N Rs i o) (roundO 0 [(0,0),(1,1),(2,2),(3,3),(4,4)] (cN C L M N Rs j o') [(1,BN),(2,BL),(3,BC)] Nx [] (oW i Rs [] []) [] Q)=
  (aG Tryz.prog BinOp.lss 3 (Operand.tmp 55) (Operand.tmp 57) (I i) (I (Int.ofNat (ab Rs)))=some (AV.bool true)∧aG Tryz.prog BinOp.lss 3 (Operand.tmp 60) (Operand.const (Value.int IntKind.i64 10)) (I i) (I 10)=some (AV.bool true)∧ax Tryz.prog 22 (AV.fsl false Rs) (I i)=some (bY y)∧SC 23 [I y.1,I 9] (I 1)∧SC 23 [I y.2,I 10] (I 4)∧SC 23 [I y.3,I 60] (I (y.3%60))∧((((bC Rs)∧(I (af IntKind.i64 (i+1))=I j∧ac (I j)=true)∧True)∧bX∧bt [(0,0),(1,1),(2,2),(3,3),(4,4)] (aa o' M N L C) (aa {o with d4:=⟨true,(y.3%60)⟩} M N L C)∧(zL=zL∧true=true)∧True)∧(BN=BN∧ai BN)∧(BL=BL∧ai BL)∧(BC=BC∧ai BC)∧True)∧Nx):=by kernel_rfl
theorem QC (y:Rw) (i j:Int) (Rs:List AV) (o o':Ob) (M N L C:AV) (BN BL BC:Option Blk) (Nx:Prop) (Q:AExit→St→Prop):aw Tryz.prog opts0 40 (oA 1 5 y [] [] none []) (ah Tryz.prog 22 5) (cM BC BL BN C L M N Rs i o) (roundO 0 [(0,0),(1,1),(2,2),(3,3),(4,4)] (cN C L M N Rs j o') [(1,BN),(2,BL),(3,BC)] Nx [] (oW i Rs [] []) [] Q)=
  (aG Tryz.prog BinOp.lss 3 (Operand.tmp 55) (Operand.tmp 57) (I i) (I (Int.ofNat (ab Rs)))=some (AV.bool true)∧aG Tryz.prog BinOp.lss 3 (Operand.tmp 60) (Operand.const (Value.int IntKind.i64 10)) (I i) (I 10)=some (AV.bool true)∧ax Tryz.prog 22 (AV.fsl false Rs) (I i)=some (bY y)∧SC 23 [I y.1,I 9] (I 1)∧SC 23 [I y.2,I 10] (I 5)∧SC 23 [I y.3,I 60] (I (y.3%60))∧((((bC Rs)∧(I (af IntKind.i64 (i+1))=I j∧ac (I j)=true)∧True)∧bX∧bt [(0,0),(1,1),(2,2),(3,3),(4,4)] (aa o' M N L C) (aa {o with d5:=⟨true,(y.3%60)⟩} M N L C)∧(zL=zL∧true=true)∧True)∧(BN=BN∧ai BN)∧(BL=BL∧ai BL)∧(BC=BC∧ai BC)∧True)∧Nx):=by kernel_rfl
theorem QD (y:Rw) (i j:Int) (Rs:List AV) (o o':Ob) (M N L C:AV) (BN BL BC:Option Blk) (Nx:Prop) (Q:AExit→St→Prop):aw Tryz.prog opts0 40 (oA 1 6 y [] [] none []) (ah Tryz.prog 22 5) (cM BC BL BN C L M N Rs i o) (roundO 0 [(0,0),(1,1),(2,2),(3,3),(4,4)] (cN C L M N Rs j o') [(1,BN),(2,BL),(3,BC)] Nx [] (oW i Rs [] []) [] Q)=
  (aG Tryz.prog BinOp.lss 3 (Operand.tmp 55) (Operand.tmp 57) (I i) (I (Int.ofNat (ab Rs)))=some (AV.bool true)∧aG Tryz.prog BinOp.lss 3 (Operand.tmp 60) (Operand.const (Value.int IntKind.i64 10)) (I i) (I 10)=some (AV.bool true)∧ax Tryz.prog 22 (AV.fsl false Rs) (I i)=some (bY y)∧SC 23 [I y.1,I 9] (I 1)∧SC 23 [I y.2,I 10] (I 6)∧SC 23 [I y.3,I 60] (I (y.3%60))∧((((bC Rs)∧(I (af IntKind.i64 (i+1))=I j∧ac (I j)=true)∧True)∧bX∧bt [(0,0),(1,1),(2,2),(3,3),(4,4)] (aa o' M N L C) (aa {o with d6:=⟨true,(y.3%60)⟩} M N L C)∧(zL=zL∧true=true)∧True)∧(BN=BN∧ai BN)∧(BL=BL∧ai BL)∧(BC=BC∧ai BC)∧True)∧Nx):=by kernel_rfl
theorem QE (y:Rw) (i j:Int) (Rs:List AV) (o o':Ob) (M N L C:AV) (BN BL BC:Option Blk) (Nx:Prop) (Q:AExit→St→Prop):aw Tryz.prog opts0 40 (oA 1 7 y [] [] none []) (ah Tryz.prog 22 5) (cM BC BL BN C L M N Rs i o) (roundO 0 [(0,0),(1,1),(2,2),(3,3),(4,4)] (cN C L M N Rs j o') [(1,BN),(2,BL),(3,BC)] Nx [] (oW i Rs [] []) [] Q)=
  (aG Tryz.prog BinOp.lss 3 (Operand.tmp 55) (Operand.tmp 57) (I i) (I (Int.ofNat (ab Rs)))=some (AV.bool true)∧aG Tryz.prog BinOp.lss 3 (Operand.tmp 60) (Operand.const (Value.int IntKind.i64 10)) (I i) (I 10)=some (AV.bool true)∧ax Tryz.prog 22 (AV.fsl false Rs) (I i)=some (bY y)∧SC 23 [I y.1,I 9] (I 1)∧SC 23 [I y.2,I 10] (I 7)∧SC 23 [I y.3,I 60] (I (y.3%60))∧((((bC Rs)∧(I (af IntKind.i64 (i+1))=I j∧ac (I j)=true)∧True)∧bX∧bt [(0,0),(1,1),(2,2),(3,3),(4,4)] (aa o' M N L C) (aa {o with d7:=⟨true,(y.3%60)⟩} M N L C)∧(zL=zL∧true=true)∧True)∧(BN=BN∧ai BN)∧(BL=BL∧ai BL)∧(BC=BC∧ai BC)∧True)∧Nx):=by kernel_rfl
theorem QF (y:Rw) (i j:Int) (Rs:List AV) (o o':Ob) (M N L C:AV) (BN BL BC:Option Blk) (Nx:Prop) (Q:AExit→St→Prop):aw Tryz.prog opts0 40 (oA 1 8 y [] [] none []) (ah Tryz.prog 22 5) (cM BC BL BN C L M N Rs i o) (roundO 0 [(0,0),(1,1),(2,2),(3,3),(4,4)] (cN C L M N Rs j o') [(1,BN),(2,BL),(3,BC)] Nx [] (oW i Rs [] []) [] Q)=
  (aG Tryz.prog BinOp.lss 3 (Operand.tmp 55) (Operand.tmp 57) (I i) (I (Int.ofNat (ab Rs)))=some (AV.bool true)∧aG Tryz.prog BinOp.lss 3 (Operand.tmp 60) (Operand.const (Value.int IntKind.i64 10)) (I i) (I 10)=some (AV.bool true)∧ax Tryz.prog 22 (AV.fsl false Rs) (I i)=some (bY y)∧SC 23 [I y.1,I 9] (I 1)∧SC 23 [I y.2,I 10] (I 8)∧SC 23 [I y.3,I 60] (I (y.3%60))∧((((bC Rs)∧(I (af IntKind.i64 (i+1))=I j∧ac (I j)=true)∧True)∧bX∧bt [(0,0),(1,1),(2,2),(3,3),(4,4)] (aa o' M N L C) (aa {o with d8:=⟨true,(y.3%60)⟩} M N L C)∧(zL=zL∧true=true)∧True)∧(BN=BN∧ai BN)∧(BL=BL∧ai BL)∧(BC=BC∧ai BC)∧True)∧Nx):=by kernel_rfl
theorem QG (y:Rw) (i j:Int) (Rs:List AV) (o o':Ob) (M N L C:AV) (BN BL BC:Option Blk) (Nx:Prop) (Q:AExit→St→Prop):aw Tryz.prog opts0 40 (oA 1 9 y [] [] none []) (ah Tryz.prog 22 5) (cM BC BL BN C L M N Rs i o) (roundO 0 [(0,0),(1,1),(2,2),(3,3),(4,4)] (cN C L M N Rs j o') [(1,BN),(2,BL),(3,BC)] Nx [] (oW i Rs [] []) [] Q)=
  (aG Tryz.prog BinOp.lss 3 (Operand.tmp 55) (Operand.tmp 57) (I i) (I (Int.ofNat (ab Rs)))=some (AV.bool true)∧aG Tryz.prog BinOp.lss 3 (Operand.tmp 60) (Operand.const (Value.int IntKind.i64 10)) (I i) (I 10)=some (AV.bool true)∧ax Tryz.prog 22 (AV.fsl false Rs) (I i)=some (bY y)∧SC 23 [I y.1,I 9] (I 1)∧SC 23 [I y.2,I 10] (I 9)∧SC 23 [I y.3,I 60] (I (y.3%60))∧((((bC Rs)∧(I (af IntKind.i64 (i+1))=I j∧ac (I j)=true)∧True)∧bX∧bt [(0,0),(1,1),(2,2),(3,3),(4,4)] (aa o' M N L C) (aa {o with d9:=⟨true,(y.3%60)⟩} M N L C)∧(zL=zL∧true=true)∧True)∧(BN=BN∧ai BN)∧(BL=BL∧ai BL)∧(BC=BC∧ai BC)∧True)∧Nx):=by kernel_rfl
theorem QH (y:Rw) (i j:Int) (Rs:List AV) (o o':Ob) (M N L C:AV) (BN BL BC:Option Blk) (Nx:Prop) (Q:AExit→St→Prop):aw Tryz.prog opts0 40 (oA 2 0 y [] [] none []) (ah Tryz.prog 22 5) (cM BC BL BN C L M N Rs i o) (roundO 0 [(0,0),(1,1),(2,2),(3,3),(4,4)] (cN C L M N Rs j o') [(1,BN),(2,BL),(3,BC)] Nx [] (oW i Rs [] []) [] Q)=
  (aG Tryz.prog BinOp.lss 3 (Operand.tmp 55) (Operand.tmp 57) (I i) (I (Int.ofNat (ab Rs)))=some (AV.bool true)∧aG Tryz.prog BinOp.lss 3 (Operand.tmp 60) (Operand.const (Value.int IntKind.i64 10)) (I i) (I 10)=some (AV.bool true)∧ax Tryz.prog 22 (AV.fsl false Rs) (I i)=some (bY y)∧SC 23 [I y.1,I 9] (I 2)∧SC 23 [I y.2,I 10] (I 0)∧SC 23 [I y.3,I 60] (I (y.3%60))∧((((bC Rs)∧(I (af IntKind.i64 (i+1))=I j∧ac (I j)=true)∧True)∧bX∧bt [(0,0),(1,1),(2,2),(3,3),(4,4)] (aa o' M N L C) (aa {o with d0:=⟨true,(y.3%60)⟩} M N L C)∧(zL=zL∧true=true)∧True)∧(BN=BN∧ai BN)∧(BL=BL∧ai BL)∧(BC=BC∧ai BC)∧True)∧Nx):=by kernel_rfl
theorem QI (y:Rw) (i j:Int) (Rs:List AV) (o o':Ob) (M N L C:AV) (BN BL BC:Option Blk) (Nx:Prop) (Q:AExit→St→Prop):aw Tryz.prog opts0 40 (oA 2 1 y [] [] none []) (ah Tryz.prog 22 5) (cM BC BL BN C L M N Rs i o) (roundO 0 [(0,0),(1,1),(2,2),(3,3),(4,4)] (cN C L M N Rs j o') [(1,BN),(2,BL),(3,BC)] Nx [] (oW i Rs [] []) [] Q)=
  (aG Tryz.prog BinOp.lss 3 (Operand.tmp 55) (Operand.tmp 57) (I i) (I (Int.ofNat (ab Rs)))=some (AV.bool true)∧aG Tryz.prog BinOp.lss 3 (Operand.tmp 60) (Operand.const (Value.int IntKind.i64 10)) (I i) (I 10)=some (AV.bool true)∧ax Tryz.prog 22 (AV.fsl false Rs) (I i)=some (bY y)∧SC 23 [I y.1,I 9] (I 2)∧SC 23 [I y.2,I 10] (I 1)∧SC 23 [I y.3,I 60] (I (y.3%60))∧((((bC Rs)∧(I (af IntKind.i64 (i+1))=I j∧ac (I j)=true)∧True)∧bX∧bt [(0,0),(1,1),(2,2),(3,3),(4,4)] (aa o' M N L C) (aa {o with d1:=⟨true,(y.3%60)⟩} M N L C)∧(zL=zL∧true=true)∧True)∧(BN=BN∧ai BN)∧(BL=BL∧ai BL)∧(BC=BC∧ai BC)∧True)∧Nx):=by kernel_rfl
theorem QJ (y:Rw) (i j:Int) (Rs:List AV) (o o':Ob) (M N L C:AV) (BN BL BC:Option Blk) (Nx:Prop) (Q:AExit→St→Prop):aw Tryz.prog opts0 40 (oA 2 2 y [] [] none []) (ah Tryz.prog 22 5) (cM BC BL BN C L M N Rs i o) (roundO 0 [(0,0),(1,1),(2,2),(3,3),(4,4)] (cN C L M N Rs j o') [(1,BN),(2,BL),(3,BC)] Nx [] (oW i Rs [] []) [] Q)=
  (aG Tryz.prog BinOp.lss 3 (Operand.tmp 55) (Operand.tmp 57) (I i) (I (Int.ofNat (ab Rs)))=some (AV.bool true)∧aG Tryz.prog BinOp.lss 3 (Operand.tmp 60) (Operand.const (Value.int IntKind.i64 10)) (I i) (I 10)=some (AV.bool true)∧ax Tryz.prog 22 (AV.fsl false Rs) (I i)=some (bY y)∧SC 23 [I y.1,I 9] (I 2)∧SC 23 [I y.2,I 10] (I 2)∧SC 23 [I y.3,I 60] (I (y.3%60))∧((((bC Rs)∧(I (af IntKind.i64 (i+1))=I j∧ac (I j)=true)∧True)∧bX∧bt [(0,0),(1,1),(2,2),(3,3),(4,4)] (aa o' M N L C) (aa {o with d2:=⟨true,(y.3%60)⟩} M N L C)∧(zL=zL∧true=true)∧True)∧(BN=BN∧ai BN)∧(BL=BL∧ai BL)∧(BC=BC∧ai BC)∧True)∧Nx):=by kernel_rfl
theorem QK (y:Rw) (i j:Int) (Rs:List AV) (o o':Ob) (M N L C:AV) (BN BL BC:Option Blk) (Nx:Prop) (Q:AExit→St→Prop):aw Tryz.prog opts0 40 (oA 2 3 y [] [] none []) (ah Tryz.prog 22 5) (cM BC BL BN C L M N Rs i o) (roundO 0 [(0,0),(1,1),(2,2),(3,3),(4,4)] (cN C L M N Rs j o') [(1,BN),(2,BL),(3,BC)] Nx [] (oW i Rs [] []) [] Q)=
  (aG Tryz.prog BinOp.lss 3 (Operand.tmp 55) (Operand.tmp 57) (I i) (I (Int.ofNat (ab Rs)))=some (AV.bool true)∧aG Tryz.prog BinOp.lss 3 (Operand.tmp 60) (Operand.const (Value.int IntKind.i64 10)) (I i) (I 10)=some (AV.bool true)∧ax Tryz.prog 22 (AV.fsl false Rs) (I i)=some (bY y)∧SC 23 [I y.1,I 9] (I 2)∧SC 23 [I y.2,I 10] (I 3)∧SC 23 [I y.3,I 60] (I (y.3%60))∧((((bC Rs)∧(I (af IntKind.i64 (i+1))=I j∧ac (I j)=true)∧True)∧bX∧bt [(0,0),(1,1),(2,2),(3,3),(4,4)] (aa o' M N L C) (aa {o with d3:=⟨true,(y.3%60)⟩} M N L C)∧(zL=zL∧true=true)∧True)∧(BN=BN∧ai BN)∧(BL=BL∧ai BL)∧(BC=BC∧ai BC)∧True)∧Nx):=by kernel_rfl
theorem QL (y:Rw) (i j:Int) (Rs:List AV) (o o':Ob) (M N L C:AV) (BN BL BC:Option Blk) (Nx:Prop) (Q:AExit→St→Prop):aw Tryz.prog opts0 40 (oA 2 4 y [] [] none []) (ah Tryz.prog 22 5) (cM BC BL BN C L M N Rs i o) (roundO 0 [(0,0),(1,1),(2,2),(3,3),(4,4)] (cN C L M N Rs j o') [(1,BN),(2,BL),(3,BC)] Nx [] (oW i Rs [] []) [] Q)=
  (aG Tryz.prog BinOp.lss 3 (Operand.tmp 55) (Operand.tmp 57) (I i) (I (Int.ofNat (ab Rs)))=some (AV.bool true)∧aG Tryz.prog BinOp.lss 3 (Operand.tmp 60) (Operand.const (Value.int IntKind.i64 10)) (I i) (I 10)=some (AV.bool true)∧ax Tryz.prog 22 (AV.fsl false Rs) (I i)=some (bY y)∧SC 23 [I y.1,I 9] (I 2)∧SC 23 [I y.2,I 10] (I 4)∧SC 23 [I y.3,I 60] (I (y.3%60))∧((((bC Rs)∧(I (af IntKind.i64 (i+1))=I j∧ac (I j)=true)∧True)∧bX∧bt [(0,0),(1,1),(2,2),(3,3),(4,4)] (aa o' M N L C) (aa {o with d4:=⟨true,(y.3%60)⟩} M N L C)∧(zL=zL∧true=true)∧True)∧(BN=BN∧ai BN)∧(BL=BL∧ai BL)∧(BC=BC∧ai BC)∧True)∧Nx):=by kernel_rfl
theorem QM (y:Rw) (i j:Int) (Rs:List AV) (o o':Ob) (M N L C:AV) (BN BL BC:Option Blk) (Nx:Prop) (Q:AExit→St→Prop):aw Tryz.prog opts0 40 (oA 2 5 y [] [] none []) (ah Tryz.prog 22 5) (cM BC BL BN C L M N Rs i o) (roundO 0 [(0,0),(1,1),(2,2),(3,3),(4,4)] (cN C L M N Rs j o') [(1,BN),(2,BL),(3,BC)] Nx [] (oW i Rs [] []) [] Q)=
  (aG Tryz.prog BinOp.lss 3 (Operand.tmp 55) (Operand.tmp 57) (I i) (I (Int.ofNat (ab Rs)))=some (AV.bool true)∧aG Tryz.prog BinOp.lss 3 (Operand.tmp 60) (Operand.const (Value.int IntKind.i64 10)) (I i) (I 10)=some (AV.bool true)∧ax Tryz.prog 22 (AV.fsl false Rs) (I i)=some (bY y)∧SC 23 [I y.1,I 9] (I 2)∧SC 23 [I y.2,I 10] (I 5)∧SC 23 [I y.3,I 60] (I (y.3%60))∧((((bC Rs)∧(I (af IntKind.i64 (i+1))=I j∧ac (I j)=true)∧True)∧bX∧bt [(0,0),(1,1),(2,2),(3,3),(4,4)] (aa o' M N L C) (aa {o with d5:=⟨true,(y.3%60)⟩} M N L C)∧(zL=zL∧true=true)∧True)∧(BN=BN∧ai BN)∧(BL=BL∧ai BL)∧(BC=BC∧ai BC)∧True)∧Nx):=by kernel_rfl
theorem QN (y:Rw) (i j:Int) (Rs:List AV) (o o':Ob) (M N L C:AV) (BN BL BC:Option Blk) (Nx:Prop) (Q:AExit→St→Prop):aw Tryz.prog opts0 40 (oA 2 6 y [] [] none []) (ah Tryz.prog 22 5) (cM BC BL BN C L M N Rs i o) (roundO 0 [(0,0),(1,1),(2,2),(3,3),(4,4)] (cN C L M N Rs j o') [(1,BN),(2,BL),(3,BC)] Nx [] (oW i Rs [] []) [] Q)=
  (aG Tryz.prog BinOp.lss 3 (Operand.tmp 55) (Operand.tmp 57) (I i) (I (Int.ofNat (ab Rs)))=some (AV.bool true)∧aG Tryz.prog BinOp.lss 3 (Operand.tmp 60) (Operand.const (Value.int IntKind.i64 10)) (I i) (I 10)=some (AV.bool true)∧ax Tryz.prog 22 (AV.fsl false Rs) (I i)=some (bY y)∧SC 23 [I y.1,I 9] (I 2)∧SC 23 [I y.2,I 10] (I 6)∧SC 23 [I y.3,I 60] (I (y.3%60))∧((((bC Rs)∧(I (af IntKind.i64 (i+1))=I j∧ac (I j)=true)∧True)∧bX∧bt [(0,0),(1,1),(2,2),(3,3),(4,4)] (aa o' M N L C) (aa {o with d6:=⟨true,(y.3%60)⟩} M N L C)∧(zL=zL∧true=true)∧True)∧(BN=BN∧ai BN)∧(BL=BL∧ai BL)∧(BC=BC∧ai BC)∧True)∧Nx):=by kernel_rfl
theorem QO (y:Rw) (i j:Int) (Rs:List AV) (o o':Ob) (M N L C:AV) (BN BL BC:Option Blk) (Nx:Prop) (Q:AExit→St→Prop):aw Tryz.prog opts0 40 (oA 2 7 y [] [] none []) (ah Tryz.prog 22 5) (cM BC BL BN C L M N Rs i o) (roundO 0 [(0,0),(1,1),(2,2),(3,3),(4,4)] (cN C L M N Rs j o') [(1,BN),(2,BL),(3,BC)] Nx [] (oW i Rs [] []) [] Q)=
  (aG Tryz.prog BinOp.lss 3 (Operand.tmp 55) (Operand.tmp 57) (I i) (I (Int.ofNat (ab Rs)))=some (AV.bool true)∧aG Tryz.prog BinOp.lss 3 (Operand.tmp 60) (Operand.const (Value.int IntKind.i64 10)) (I i) (I 10)=some (AV.bool true)∧ax Tryz.prog 22 (AV.fsl false Rs) (I i)=some (bY y)∧SC 23 [I y.1,I 9] (I 2)∧SC 23 [I y.2,I 10] (I 7)∧SC 23 [I y.3,I 60] (I (y.3%60))∧((((bC Rs)∧(I (af IntKind.i64 (i+1))=I j∧ac (I j)=true)∧True)∧bX∧bt [(0,0),(1,1),(2,2),(3,3),(4,4)] (aa o' M N L C) (aa {o with d7:=⟨true,(y.3%60)⟩} M N L C)∧(zL=zL∧true=true)∧True)∧(BN=BN∧ai BN)∧(BL=BL∧ai BL)∧(BC=BC∧ai BC)∧True)∧Nx):=by kernel_rfl
theorem QP (y:Rw) (i j:Int) (Rs:List AV) (o o':Ob) (M N L C:AV) (BN BL BC:Option Blk) (Nx:Prop) (Q:AExit→St→Prop):aw Tryz.prog opts0 40 (oA 2 8 y [] [] none []) (ah Tryz.prog 22 5) (cM BC BL BN C L M N Rs i o) (roundO 0 [(0,0),(1,1),(2,2),(3,3),(4,4)] (cN C L M N Rs j o') [(1,BN),(2,BL),(3,BC)] Nx [] (oW i Rs [] []) [] Q)=
  (aG Tryz.prog BinOp.lss 3 (Operand.tmp 55) (Operand.tmp 57) (I i) (I (Int.ofNat (ab Rs)))=some (AV.bool true)∧aG Tryz.prog BinOp.lss 3 (Operand.tmp 60) (Operand.const (Value.int IntKind.i64 10)) (I i) (I 10)=some (AV.bool true)∧ax Tryz.prog 22 (AV.fsl false Rs) (I i)=some (bY y)∧SC 23 [I y.1,I 9] (I 2)∧SC 23 [I y.2,I 10] (I 8)∧SC 23 [I y.3,I 60] (I (y.3%60))∧((((bC Rs)∧(I (af IntKind.i64 (i+1))=I j∧ac (I j)=true)∧True)∧bX∧bt [(0,0),(1,1),(2,2),(3,3),(4,4)] (aa o' M N L C) (aa {o with d8:=⟨true,(y.3%60)⟩} M N L C)∧(zL=zL∧true=true)∧True)∧(BN=BN∧ai BN)∧(BL=BL∧ai BL)∧(BC=BC∧ai BC)∧True)∧Nx):=by kernel_rfl
theorem QQ (y:Rw) (i j:Int) (Rs:List AV) (o o':Ob) (M N L C:AV) (BN BL BC:Option Blk) (Nx:Prop) (Q:AExit→St→Prop):aw Tryz.prog opts0 40 (oA 2 9 y [] [] none []) (ah Tryz.prog 22 5) (cM BC BL BN C L M N Rs i o) (roundO 0 [(0,0),(1,1),(2,2),(3,3),(4,4)] (cN C L M N Rs j o') [(1,BN),(2,BL),(3,BC)] Nx [] (oW i Rs [] []) [] Q)=
  (aG Tryz.prog BinOp.lss 3 (Operand.tmp 55) (Operand.tmp 57) (I i) (I (Int.ofNat (ab Rs)))=some (AV.bool true)∧aG Tryz.prog BinOp.lss 3 (Operand.tmp 60) (Operand.const (Value.int IntKind.i64 10)) (I i) (I 10)=some (AV.bool true)∧ax Tryz.prog 22 (AV.fsl false Rs) (I i)=some (bY y)∧SC 23 [I y.1,I 9] (I 2)∧SC 23 [I y.2,I 10] (I 9)∧SC 23 [I y.3,I 60] (I (y.3%60))∧((((bC Rs)∧(I (af IntKind.i64 (i+1))=I j∧ac (I j)=true)∧True)∧bX∧bt [(0,0),(1,1),(2,2),(3,3),(4,4)] (aa o' M N L C) (aa {o with d9:=⟨true,(y.3%60)⟩} M N L C)∧(zL=zL∧true=true)∧True)∧(BN=BN∧ai BN)∧(BL=BL∧ai BL)∧(BC=BC∧ai BC)∧True)∧Nx):=by kernel_rfl
theorem QR (y:Rw) (i j:Int) (Rs:List AV) (o o':Ob) (M N L C:AV) (BN BL BC:Option Blk) (Nx:Prop) (Q:AExit→St→Prop):aw Tryz.prog opts0 40 (oA 5 0 y [] [] none []) (ah Tryz.prog 22 5) (cM BC BL BN C L M N Rs i o) (roundO 0 [(0,0),(1,1),(2,2),(3,3),(4,4)] (cN C L M N Rs j o') [(1,BN),(2,BL),(3,BC)] Nx [] (oW i Rs [] []) [] Q)=
  (aG Tryz.prog BinOp.lss 3 (Operand.tmp 55) (Operand.tmp 57) (I i) (I (Int.ofNat (ab Rs)))=some (AV.bool true)∧aG Tryz.prog BinOp.lss 3 (Operand.tmp 60) (Operand.const (Value.int IntKind.i64 10)) (I i) (I 10)=some (AV.bool true)∧ax Tryz.prog 22 (AV.fsl false Rs) (I i)=some (bY y)∧SC 23 [I y.1,I 9] (I 5)∧SC 23 [I y.2,I 50] (I (y.2%50))∧SC 23 [I y.3,I (af IntKind.i64 (af IntKind.i64 (1+y.2%50)+1))] (I (y.3%af IntKind.i64 (af IntKind.i64 (1+y.2%50)+1)))∧SC 23 [I y.4,I 2] (I (y.4%2))∧((((bC Rs)∧(I (af IntKind.i64 (i+1))=I j∧ac (I j)=true)∧True)∧bX∧bt [(0,0),(1,1),(2,2),(3,3),(4,4)] (aa o' M N L C) (aa {o with lh:=true,lt:=(af IntKind.i64 (1+y.2%50)),lc:=(af IntKind.i64 (af IntKind.i64 (1+y.2%50)-y.3%af IntKind.i64 (af IntKind.i64 (1+y.2%50)+1))),lu:=(af IntKind.i64 (1+y.4%2))} M N L C)∧(zL=zL∧true=true)∧True)∧(BN=BN∧ai BN)∧(BL=BL∧ai BL)∧(BC=BC∧ai BC)∧True)∧Nx):=by kernel_rfl
theorem QS (y:Rw) (i j:Int) (Rs:List AV) (o o':Ob) (M N L C:AV) (BN BL BC:Option Blk) (ms:List UInt8) (Nx:Prop) (Q:AExit→St→Prop):aw Tryz.prog opts0 40 (oA 7 0 y [(40,4,.res (.str ms))] [] none []) (ah Tryz.prog 22 5) (cM BC BL BN C L M N Rs i o) (roundO 0 [(0,0),(1,1),(2,2),(3,3),(4,4)] (cN C L M N Rs j o') [(1,BN),(2,BL),(3,BC)] Nx [] (oW i Rs [] []) [] Q)=
  (aG Tryz.prog BinOp.lss 3 (Operand.tmp 55) (Operand.tmp 57) (I i) (I (Int.ofNat (ab Rs)))=some (AV.bool true)∧aG Tryz.prog BinOp.lss 3 (Operand.tmp 60) (Operand.const (Value.int IntKind.i64 10)) (I i) (I 10)=some (AV.bool true)∧ax Tryz.prog 22 (AV.fsl false Rs) (I i)=some (bY y)∧SC 23 [I y.1,I 9] (I 7)∧SC 23 [I y.2,I 7] (I (y.2%7))∧SC 23 [I y.3,I 3] (I (y.3%3))∧aZ Tryz.prog 110 (AV.agg [AV.str [],AV.str [109],AV.str [108,111,115,116]]) (I (y.3%3))=some (AV.str ms)∧((((bC Rs)∧(I (af IntKind.i64 (i+1))=I j∧ac (I j)=true)∧True)∧bX∧bt [(0,0),(1,1),(2,2),(3,3),(4,4)] (aa o' M N L C) (aa {o with why:=(af IntKind.i64 (1+y.2%7)),msg:=ms} M N L C)∧(zL=zL∧true=true)∧True)∧(BN=BN∧ai BN)∧(BL=BL∧ai BL)∧(BC=BC∧ai BC)∧True)∧Nx):=by kernel_rfl
theorem QT (y:Rw) (i j:Int) (Rs:List AV) (o o':Ob) (M N L C:AV) (BN BL BC:Option Blk) (Nx:Prop) (Q:AExit→St→Prop):aw Tryz.prog opts0 40 (oA 8 0 y [] [] none []) (ah Tryz.prog 22 5) (cM BC BL BN C L M N Rs i o) (roundO 0 [(0,0),(1,1),(2,2),(3,3),(4,4)] (cN C L M N Rs j o') [(1,BN),(2,BL),(3,BC)] Nx [] (oW i Rs [] []) [] Q)=
  (aG Tryz.prog BinOp.lss 3 (Operand.tmp 55) (Operand.tmp 57) (I i) (I (Int.ofNat (ab Rs)))=some (AV.bool true)∧aG Tryz.prog BinOp.lss 3 (Operand.tmp 60) (Operand.const (Value.int IntKind.i64 10)) (I i) (I 10)=some (AV.bool true)∧ax Tryz.prog 22 (AV.fsl false Rs) (I i)=some (bY y)∧SC 23 [I y.1,I 9] (I 8)∧((((bC Rs)∧(I (af IntKind.i64 (i+1))=I j∧ac (I j)=true)∧True)∧bX∧bt [(0,0),(1,1),(2,2),(3,3),(4,4)] (aa o' M N L C) (aa {o with arch:=(aF (y.2.tmod 3) 0)} M N L C)∧(zL=zL∧true=true)∧True)∧(BN=BN∧ai BN)∧(BL=BL∧ai BL)∧(BC=BC∧ai BC)∧True)∧Nx):=by kernel_rfl
abbrev Aa:=(AV.agg [AV.str [111,110,101],AV.str [116,119,111],AV.str [116,104,114,101,101],AV.str [102,111,117,114],AV.str [102,105,118,101]])
theorem QU (y:Rw) (i j:Int) (Rs:List AV) (o o':Ob) (M L C:AV) (BL BC:Option Blk) (nm:List UInt8) (Nx:Prop) (Q:AExit→St→Prop):aw Tryz.prog opts0 40 (oA 3 0 y [(14,4,.res (.str nm))] [] (some (.val (.bool false))) []) (ah Tryz.prog 22 5) (aE (oW i Rs (aa o M .nilsl L C) []) [(2,BL),(3,BC)]) (roundO 0 [(0,0),(1,46),(2,2),(3,3),(4,4)] (oW j Rs (aa o' M (.rsl true 1 0 1 1) L C) [(1,.cells [.str nm],.whole)]) [(2,BL),(3,BC)] Nx [] (oW i Rs [] []) [] Q)=
  (aG Tryz.prog BinOp.lss 3 (Operand.tmp 55) (Operand.tmp 57) (I i) (I (Int.ofNat (ab Rs)))=some (AV.bool true)∧aG Tryz.prog BinOp.lss 3 (Operand.tmp 60) (Operand.const (Value.int IntKind.i64 10)) (I i) (I 10)=some (AV.bool true)∧ax Tryz.prog 22 (AV.fsl false Rs) (I i)=some (bY y)∧SC 23 [I y.1,I 9] (I 3)∧SC 23 [I y.2,I 5] (I (y.2%5))∧aZ Tryz.prog 106 Aa (I (y.2%5))=some (AV.str nm)∧SC 69 [AV.nilsl,AV.str nm] (AV.bool false)∧((((bC Rs)∧(I (af IntKind.i64 (i+1))=I j∧ac (I j)=true)∧True)∧bX∧bt [(0,0),(1,46),(2,2),(3,3),(4,4)] (aa o' M (AV.rsl true 1 0 1 1) L C) (aa o M (AV.rsl true 46 0 (ab [AV.str nm]) 1) L C)∧(zL=zL∧true=true)∧(flat [AV.str nm]=[AV.str nm]∧ad [AV.str nm]=true)∧True)∧(BL=BL∧ai BL)∧(BC=BC∧ai BC)∧True)∧Nx):=by kernel_rfl
theorem QV (y:Rw) (i j:Int) (Rs:List AV) (o o':Ob) (M L C:AV) (BL BC:Option Blk) (nm:List UInt8) (k k':Nat) (es es':List AV) (Nx:Prop) (Q:AExit→St→Prop):aw Tryz.prog opts0 40 (oA 3 0 y [(14,4,.res (.str nm))] [] (some (.part [1] (.bool true) [(1,some (.cells es))] 20)) []) (ah Tryz.prog 22 5) (aE (oW i Rs (aa o M (.rsl true 1 0 k 1) L C) [(1,.cells es,.whole)]) [(2,BL),(3,BC)]) (roundO 0 [(0,0),(1,1),(2,2),(3,3),(4,4)] (oW j Rs (aa o' M (.rsl true 1 0 k' 1) L C) [(1,.cells es',.whole)]) [(2,BL),(3,BC)] Nx [] (oW i Rs [] []) [] Q)=
  (aG Tryz.prog BinOp.lss 3 (Operand.tmp 55) (Operand.tmp 57) (I i) (I (Int.ofNat (ab Rs)))=some (AV.bool true)∧aG Tryz.prog BinOp.lss 3 (Operand.tmp 60) (Operand.const (Value.int IntKind.i64 10)) (I i) (I 10)=some (AV.bool true)∧ax Tryz.prog 22 (AV.fsl false Rs) (I i)=some (bY y)∧SC 23 [I y.1,I 9] (I 3)∧SC 23 [I y.2,I 5] (I (y.2%5))∧aZ Tryz.prog 106 Aa (I (y.2%5))=some (AV.str nm)∧BodySem Tryz.prog opts0.glob 69 [AV.rsl true 1 0 k 1,AV.str nm] [(1,some (Blk.cells es))] 42 (AV.bool true) [(1,some (Blk.cells es))] 62∧((((bC Rs)∧(I (af IntKind.i64 (i+1))=I j∧ac (I j)=true)∧True)∧bX∧bt [(0,0),(1,1),(2,2),(3,3),(4,4)] (aa o' M (AV.rsl true 1 0 k' 1) L C) (aa o M (AV.rsl true 1 0 k 1) L C)∧(zL=zL∧true=true)∧(es=es'∧ad es'=true)∧True)∧(BL=BL∧ai BL)∧(BC=BC∧ai BC)∧True)∧Nx):=by kernel_rfl
theorem QW (y:Rw) (i j:Int) (Rs:List AV) (o o':Ob) (M L C:AV) (BL BC:Option Blk) (nm:List UInt8) (k k':Nat) (es es':List AV) (Nx:Prop) (Q:AExit→St→Prop):aw Tryz.prog opts0 40 (oA 3 0 y [(14,4,.res (.str nm))] [] (some (.part [1] (.bool false) [(1,some (.cells es))] 20)) []) (ah Tryz.prog 22 5) (aE (oW i Rs (aa o M (.rsl true 1 0 k 1) L C) [(1,.cells es,.whole)]) [(2,BL),(3,BC)]) (roundO 0 [(0,0),(1,66),(2,2),(3,3),(4,4)] (oW j Rs (aa o' M (.rsl true 1 0 k' 1) L C) [(1,.cells es',.whole)]) [(2,BL),(3,BC)] Nx [] (oW i Rs [] []) [] Q)=
  (aG Tryz.prog BinOp.lss 3 (Operand.tmp 55) (Operand.tmp 57) (I i) (I (Int.ofNat (ab Rs)))=some (AV.bool true)∧aG Tryz.prog BinOp.lss 3 (Operand.tmp 60) (Operand.const (Value.int IntKind.i64 10)) (I i) (I 10)=some (AV.bool true)∧ax Tryz.prog 22 (AV.fsl false Rs) (I i)=some (bY y)∧SC 23 [I y.1,I 9] (I 3)∧SC 23 [I y.2,I 5] (I (y.2%5))∧aZ Tryz.prog 106 Aa (I (y.2%5))=some (AV.str nm)∧BodySem Tryz.prog opts0.glob 69 [AV.rsl true 1 0 k 1,AV.str nm] [(1,some (Blk.cells es))] 42 (AV.bool false) [(1,some (Blk.cells es))] 62∧aC (bo 1 [AV.str nm]&&(((k+ab [AV.str nm])*16).ble 140737488355328&&(aS (flat [AV.str nm])&&true))) (aC ((ab es).beq (k*1)) (((((bC Rs)∧(I (af IntKind.i64 (i+1))=I j∧ac (I j)=true)∧True)∧bX∧bt [(0,0),(1,66),(2,2),(3,3),(4,4)] (aa o' M (AV.rsl true 1 0 k' 1) L C) (aa o M (AV.rsl true 66 0 (k+ab [AV.str nm]) 1) L C)∧(zL=zL∧true=true)∧(es++flat [AV.str nm]=es'∧ad es'=true)∧True)∧(BL=BL∧ai BL)∧(BC=BC∧ai BC)∧True)∧Nx))):=by kernel_rfl
def cO (i:Int) (Rs O X:List AV) (b:Bool) (t:Int) (hs:Heap2):View:=⟨[(1,.fsl false Rs),(6,I i),(10,.bool b),(11,I t)],[(4,.ptr 4 0),(5,.ptr 0 0),(9,.ptr 5 0)],[(0,.cells O,.rel),(4,.cells zC,.whole),(5,.cells X,.whole)]++hs,7,229⟩
@[simp] abbrev lG:=(vc∧vd∧(some 5=some 5∧0=0)∧True)
@[simp] abbrev iW (i:Int):=(I i=I i∧ac (I i)=true)
@[simp] abbrev ve (x:Lk):=([I x.1,AV.str x.2]=[I x.1,AV.str x.2]∧ad [I x.1,AV.str x.2]=true)
@[simp] abbrev vf (b:Bool):=(AV.bool b=AV.bool b∧ac (AV.bool b)=true)
theorem QX (i:Int) (Rs:List AV) (o:Ob) (M N C:AV) (BN BC:Option Blk) (x:Lk) (b:Bool) (Nx:Prop) (Q:AExit→St→Prop):aw Tryz.prog opts0 40 (aq [] [] aA [] []) (ah Tryz.prog 22 22) (aE (cO i Rs (aa o M N (.nilsl) C) [I x.ty,.str x.id] b 0 []) [(1,BN),(3,BC)]) (roundO 0 [] (cO i Rs [] [] b 0 []) [] Nx [(0,0),(1,1),(3,3),(4,4),(5,5)] (cO i Rs (aa o M N (.nilsl) C) [I x.ty,.str x.id] b 0 []) [(1,BN),(3,BC)] Q)=
  (((((bC Rs)∧(iW i)∧(vf b)∧(I 0=I 0∧true=true)∧True)∧lG∧bt [(0,0),(1,1),(3,3),(4,4),(5,5)] (aa o M N AV.nilsl C) (aa o M N AV.nilsl C)∧(zL=zL∧true=true)∧(ve x)∧True)∧(BN=BN∧ai BN)∧(BC=BC∧ai BC)∧True)∧Q (AExit.exit 3) (aE (cO i Rs (aa o M N AV.nilsl C) [I x.ty,AV.str x.id] b 0 []) [(1,BN),(3,BC)])):=by kernel_rfl
@[simp] abbrev kv (es:List AV):=(es=es∧ad es=true)
abbrev ip (C M N:AV) (k:Nat) (o:Ob):=(aa o M N (AV.rsl true 2 0 k 2) C)
abbrev jG (C M N:AV) (k:Nat) (o:Ob):=(aa o M N (AV.rsl true 2 0 k 2) C)
@[simp] abbrev FZ:=((none=some 4∧0=0)∧(none=some 0∧0=0)∧(none=some 5∧0=0)∧True)
theorem QY (i:Int) (Rs:List AV) (o:Ob) (M N C:AV) (BN BC:Option Blk) (x:Lk) (b:Bool) (k:Nat) (es:List AV) (Nx:Prop) (Q:AExit→St→Prop):aw Tryz.prog opts0 40 (aq [(23,5,.res .nilp),(35,5,.res .nilp)] [] aA [] []) (ah Tryz.prog 22 22) (aE (cO i Rs (jG C M N k o) [I x.ty,.str x.id] b (.ofNat k) [(2,.cells es,.whole)]) [(1,BN),(3,BC)]) (roundO 0 [] (cO i Rs [] [] b 0 []) [] Nx [(0,0),(1,1),(2,2),(3,3),(4,4),(5,5)] (cO i Rs (jG C M N k o) [I x.ty,.str x.id] b (.ofNat k) [(2,.cells es,.whole)]) [(1,BN),(3,BC)] Q)=
  (ak (ar (Int.ofNat k) (Int.ofNat k)) (ak b (((((bC Rs)∧(iW i)∧(AV.bool true=AV.bool b∧ac (AV.bool b)=true)∧(I (af IntKind.i64 (Int.ofNat k+1))=I 0∧true=true)∧True)∧FZ∧False∧False∧False∧True)∧True)∧Nx) (ax Tryz.prog 28 (AV.rsl true 2 0 k 2) (I (Int.ofNat k))=some AV.nilp∧False)) (((((bC Rs)∧(iW i)∧(vf b)∧(I (Int.ofNat k)=I (Int.ofNat k)∧ac (I (Int.ofNat k))=true)∧True)∧lG∧bt [(0,0),(1,1),(2,2),(3,3),(4,4),(5,5)] (ip C M N k o) (ip C M N k o)∧(zL=zL∧true=true)∧(ve x)∧(kv es)∧True)∧(BN=BN∧ai BN)∧(BC=BC∧ai BC)∧True)∧Q (AExit.exit 3) (aE (cO i Rs (ip C M N k o) [I x.ty,AV.str x.id] b (Int.ofNat k) [(2,Blk.cells es,Mode.whole)]) [(1,BN),(3,BC)]))):=by kernel_rfl
theorem QZ (i:Int) (Rs:List AV) (o:Ob) (M N C:AV) (BN BC:Option Blk) (x z:Lk) (b b':Bool) (k t t':Nat) (es:List AV) (Nx:Prop) (Q:AExit→St→Prop):aw Tryz.prog opts0 40 (aq [(21,4,.res (.bool true)),(23,6,.ld (.agg [I z.ty,.str z.id]))] [] aA [] []) (ah Tryz.prog 22 22) (aE (cO i Rs (jG C M N k o) [I x.ty,.str x.id] b (.ofNat t) [(2,.cells es,.whole)]) [(1,BN),(3,BC)]) (roundO 0 [(0,0),(1,1),(2,2),(3,3),(4,4),(5,5)] (cO i Rs (jG C M N k o) [I x.ty,.str x.id] b' (.ofNat t') [(2,.cells es,.whole)]) [(1,BN),(3,BC)] Nx [] (cO i Rs [] [] b 0 []) [] Q)=
  (aG Tryz.prog BinOp.lss 3 (Operand.tmp 118) (Operand.tmp 121) (I (Int.ofNat t)) (I (Int.ofNat k))=some (AV.bool true)∧ak b (((((bC Rs)∧(iW i)∧(AV.bool true=AV.bool b'∧ac (AV.bool b')=true)∧(I (af IntKind.i64 (Int.ofNat t+1))=I (Int.ofNat t')∧ac (I (Int.ofNat t'))=true)∧True)∧lG∧bt [(0,0),(1,1),(2,2),(3,3),(4,4),(5,5)] (ip C M N k o) (ip C M N k o)∧(zL=zL∧true=true)∧(ve x)∧(kv es)∧True)∧(BN=BN∧ai BN)∧(BC=BC∧ai BC)∧True)∧Nx) (aC (cJ (Int.ofNat t)&&((Int.ofNat t).toNat.blt k&&true)) (bh Tryz.prog 99 es (0+(Int.ofNat t).toNat*2)=some (AV.agg [I z.1,AV.str z.2])∧((((bC Rs)∧(iW i)∧(AV.bool (aF z.1 x.1&&(aB z.2 x.2&&true))=AV.bool b'∧ac (AV.bool b')=true)∧(I (af IntKind.i64 (Int.ofNat t+1))=I (Int.ofNat t')∧ac (I (Int.ofNat t'))=true)∧True)∧lG∧bt [(0,0),(1,1),(2,2),(3,3),(4,4),(5,5)] (ip C M N k o) (ip C M N k o)∧(zL=zL∧true=true)∧(ve x)∧(kv es)∧True)∧(BN=BN∧ai BN)∧(BC=BC∧ai BC)∧True)∧Nx))):=by kernel_rfl
def cq (i:Int) (Rs O X:List AV) (b:Bool) (t:Int) (hs:Heap2):View:=⟨[(1,.fsl false Rs),(6,I i),(14,.bool b),(15,I t)],[(4,.ptr 4 0),(5,.ptr 0 0),(13,.ptr 5 0)],[(0,.cells O,.rel),(4,.cells zC,.whole),(5,.cells X,.whole)]++hs,7,229⟩
@[simp] abbrev vg (x:Cu):=([AV.str x.1,AV.str x.2]=[AV.str x.1,AV.str x.2]∧ad [AV.str x.1,AV.str x.2]=true)
theorem Q0 (i:Int) (Rs:List AV) (o:Ob) (M N L:AV) (BN BL:Option Blk) (x:Cu) (b:Bool) (Nx:Prop) (Q:AExit→St→Prop):aw Tryz.prog opts0 40 (aq [] [] aA [] []) (ah Tryz.prog 22 34) (aE (cq i Rs (aa o M N L (.nilsl)) [.str x.name,.str x.text] b 0 []) [(1,BN),(2,BL)]) (roundO 0 [] (cq i Rs [] [] b 0 []) [] Nx [(0,0),(1,1),(2,2),(4,4),(5,5)] (cq i Rs (aa o M N L (.nilsl)) [.str x.name,.str x.text] b 0 []) [(1,BN),(2,BL)] Q)=
  (((((bC Rs)∧(iW i)∧(vf b)∧(I 0=I 0∧true=true)∧True)∧lG∧bt [(0,0),(1,1),(2,2),(4,4),(5,5)] (aa o M N L AV.nilsl) (aa o M N L AV.nilsl)∧(zL=zL∧true=true)∧(vg x)∧True)∧(BN=BN∧ai BN)∧(BL=BL∧ai BL)∧True)∧Q (AExit.exit 5) (aE (cq i Rs (aa o M N L AV.nilsl) [AV.str x.name,AV.str x.text] b 0 []) [(1,BN),(2,BL)])):=by kernel_rfl
abbrev gX (L M N:AV) (k:Nat) (o:Ob):=(aa o M N L (AV.rsl true 3 0 k 2))
abbrev iX (L M N:AV) (k:Nat) (o:Ob):=(aa o M N L (AV.rsl true 3 0 k 2))
theorem Q1 (i:Int) (Rs:List AV) (o:Ob) (M N L:AV) (BN BL:Option Blk) (x:Cu) (b:Bool) (k:Nat) (es:List AV) (Nx:Prop) (Q:AExit→St→Prop):aw Tryz.prog opts0 40 (aq [(23,5,.res .nilp),(35,5,.res .nilp)] [] aA [] []) (ah Tryz.prog 22 34) (aE (cq i Rs (gX L M N k o) [.str x.name,.str x.text] b (.ofNat k) [(3,.cells es,.whole)]) [(1,BN),(2,BL)]) (roundO 0 [] (cq i Rs [] [] b 0 []) [] Nx [(0,0),(1,1),(2,2),(3,3),(4,4),(5,5)] (cq i Rs (gX L M N k o) [.str x.name,.str x.text] b (.ofNat k) [(3,.cells es,.whole)]) [(1,BN),(2,BL)] Q)=
  (ak (ar (Int.ofNat k) (Int.ofNat k)) (ak b (((((bC Rs)∧(iW i)∧(AV.bool true=AV.bool b∧ac (AV.bool b)=true)∧(I (af IntKind.i64 (Int.ofNat k+1))=I 0∧true=true)∧True)∧FZ∧False∧False∧False∧True)∧True)∧Nx) (ax Tryz.prog 29 (AV.rsl true 3 0 k 2) (I (Int.ofNat k))=some AV.nilp∧False)) (((((bC Rs)∧(iW i)∧(vf b)∧(I (Int.ofNat k)=I (Int.ofNat k)∧ac (I (Int.ofNat k))=true)∧True)∧lG∧bt [(0,0),(1,1),(2,2),(3,3),(4,4),(5,5)] (iX L M N k o) (iX L M N k o)∧(zL=zL∧true=true)∧(vg x)∧(kv es)∧True)∧(BN=BN∧ai BN)∧(BL=BL∧ai BL)∧True)∧Q (AExit.exit 5) (aE (cq i Rs (iX L M N k o) [AV.str x.name,AV.str x.text] b (Int.ofNat k) [(3,Blk.cells es,Mode.whole)]) [(1,BN),(2,BL)]))):=by kernel_rfl
theorem Q2 (i:Int) (Rs:List AV) (o:Ob) (M N L:AV) (BN BL:Option Blk) (x z:Cu) (b b':Bool) (k t t':Nat) (es:List AV) (Nx:Prop) (Q:AExit→St→Prop):aw Tryz.prog opts0 40 (aq [(33,4,.res (.bool true)),(35,6,.ld (.agg [.str z.name,.str z.text]))] [] aA [] []) (ah Tryz.prog 22 34) (aE (cq i Rs (gX L M N k o) [.str x.name,.str x.text] b (.ofNat t) [(3,.cells es,.whole)]) [(1,BN),(2,BL)]) (roundO 0 [(0,0),(1,1),(2,2),(3,3),(4,4),(5,5)] (cq i Rs (gX L M N k o) [.str x.name,.str x.text] b' (.ofNat t') [(3,.cells es,.whole)]) [(1,BN),(2,BL)] Nx [] (cq i Rs [] [] b 0 []) [] Q)=
  (aG Tryz.prog BinOp.lss 3 (Operand.tmp 176) (Operand.tmp 179) (I (Int.ofNat t)) (I (Int.ofNat k))=some (AV.bool true)∧ak b (((((bC Rs)∧(iW i)∧(AV.bool true=AV.bool b'∧ac (AV.bool b')=true)∧(I (af IntKind.i64 (Int.ofNat t+1))=I (Int.ofNat t')∧ac (I (Int.ofNat t'))=true)∧True)∧lG∧bt [(0,0),(1,1),(2,2),(3,3),(4,4),(5,5)] (iX L M N k o) (iX L M N k o)∧(zL=zL∧true=true)∧(vg x)∧(kv es)∧True)∧(BN=BN∧ai BN)∧(BL=BL∧ai BL)∧True)∧Nx) (aC (cJ (Int.ofNat t)&&((Int.ofNat t).toNat.blt k&&true)) (bh Tryz.prog 101 es (0+(Int.ofNat t).toNat*2)=some (AV.agg [AV.str z.1,AV.str z.2])∧((((bC Rs)∧(iW i)∧(AV.bool (aB z.1 x.1&&(aB z.2 x.2&&true))=AV.bool b'∧ac (AV.bool b')=true)∧(I (af IntKind.i64 (Int.ofNat t+1))=I (Int.ofNat t')∧ac (I (Int.ofNat t'))=true)∧True)∧lG∧bt [(0,0),(1,1),(2,2),(3,3),(4,4),(5,5)] (iX L M N k o) (iX L M N k o)∧(zL=zL∧true=true)∧(vg x)∧(kv es)∧True)∧(BN=BN∧ai BN)∧(BL=BL∧ai BL)∧True)∧Nx))):=by kernel_rfl
@[simp] abbrev sK (Rs:List AV) (i:Int):=((bC Rs)∧(iW i)∧(AV.bool false=AV.bool false∧true=true)∧(I 0=I 0∧true=true)∧True)
@[simp] abbrev Ab:=(vc∧vd∧(some 41=some 41∧0=0)∧True)
theorem Q3 (y:Rw) (i j:Int) (Rs:List AV) (o o':Ob) (M N C:AV) (BN BC:Option Blk) (id:List UInt8) (Nx:Prop) (Q:AExit→St→Prop):aw Tryz.prog opts0 40 (oA 4 0 y [] [(22,fun s Q=>eC 0 [(0,0),(1,1),(3,3),(4,4),(5,41)] (cO i Rs (aa o M N (.nilsl) C) [I (af .i64 (101+y.a%5)),.str id] false 0 []) [(1,BN),(3,BC)] s∧Q (.exit 3) (aE (cO i Rs (aa o M N (.nilsl) C) [I (af .i64 (101+y.a%5)),.str id] false 0 []) [(1,BN),(3,BC)]))] none id) (ah Tryz.prog 22 5) (aE (oW i Rs (aa o M N (.nilsl) C) []) [(1,BN),(3,BC)]) (roundO 0 [(0,0),(1,1),(2,13),(3,3),(4,4)] (oW j Rs (aa o' M N (.rsl true 2 0 1 2) C) [(2,.cells [I (af .i64 (101+y.a%5)),.str id],.whole)]) [(1,BN),(3,BC)] Nx [] (oW i Rs [] []) [] Q)=
  (aG Tryz.prog BinOp.lss 3 (Operand.tmp 55) (Operand.tmp 57) (I i) (I (Int.ofNat (ab Rs)))=some (AV.bool true)∧aG Tryz.prog BinOp.lss 3 (Operand.tmp 60) (Operand.const (Value.int IntKind.i64 10)) (I i) (I 10)=some (AV.bool true)∧ax Tryz.prog 22 (AV.fsl false Rs) (I i)=some (bY y)∧SC 23 [I y.1,I 9] (I 4)∧SC 23 [I y.2,I 5] (I (y.2%5))∧SC 67 [I y.3] (AV.str id)∧(((sK Rs i)∧Ab∧bt [(0,0),(1,1),(3,3),(4,4),(5,41)] (aa o M N AV.nilsl C) (aa o M N AV.nilsl C)∧(zL=zL∧true=true)∧([I (af IntKind.i64 (101+y.2%5)),AV.str id]=[I (af IntKind.i64 (101+y.2%5)),AV.str id]∧ad [I (af IntKind.i64 (101+y.2%5)),AV.str id]=true)∧True)∧(BN=BN∧ai BN)∧(BC=BC∧ai BC)∧True)∧((((bC Rs)∧(I (af IntKind.i64 (i+1))=I j∧ac (I j)=true)∧True)∧bX∧bt [(0,0),(1,1),(2,13),(3,3),(4,4)] (aa o' M N (AV.rsl true 2 0 1 2) C) (aa o M N (AV.rsl true 13 0 (ab [AV.agg [I (af IntKind.i64 (101+y.2%5)),AV.str id]]) 2) C)∧(zL=zL∧true=true)∧(flat [AV.agg [I (af IntKind.i64 (101+y.2%5)),AV.str id]]=[I (af IntKind.i64 (101+y.2%5)),AV.str id]∧ad [I (af IntKind.i64 (101+y.2%5)),AV.str id]=true)∧True)∧(BN=BN∧ai BN)∧(BC=BC∧ai BC)∧True)∧Nx):=by kernel_rfl
theorem Q4 (y:Rw) (i j:Int) (Rs:List AV) (o o':Ob) (M N C:AV) (BN BC:Option Blk) (id:List UInt8) (k k':Nat) (es es':List AV) (Nx:Prop) (Q:AExit→St→Prop):aw Tryz.prog opts0 40 (oA 4 0 y [] [(22,fun s Q=>eC 0 [(0,0),(1,1),(2,2),(3,3),(4,4),(5,41)] (cO i Rs (jG C M N k o) [I (af .i64 (101+y.a%5)),.str id] false 0 [(2,.cells es,.whole)]) [(1,BN),(3,BC)] s∧Q (.exit 3) (aE (cO i Rs (jG C M N k o) [I (af .i64 (101+y.a%5)),.str id] true (.ofNat k) [(2,.cells es,.whole)]) [(1,BN),(3,BC)]))] none id) (ah Tryz.prog 22 5) (aE (oW i Rs (jG C M N k o) [(2,.cells es,.whole)]) [(1,BN),(3,BC)]) (roundO 0 [(0,0),(1,1),(2,2),(3,3),(4,4)] (oW j Rs (aa o' M N (.rsl true 2 0 k' 2) C) [(2,.cells es',.whole)]) [(1,BN),(3,BC)] Nx [] (oW i Rs [] []) [] Q)=
  (aG Tryz.prog BinOp.lss 3 (Operand.tmp 55) (Operand.tmp 57) (I i) (I (Int.ofNat (ab Rs)))=some (AV.bool true)∧aG Tryz.prog BinOp.lss 3 (Operand.tmp 60) (Operand.const (Value.int IntKind.i64 10)) (I i) (I 10)=some (AV.bool true)∧ax Tryz.prog 22 (AV.fsl false Rs) (I i)=some (bY y)∧SC 23 [I y.1,I 9] (I 4)∧SC 23 [I y.2,I 5] (I (y.2%5))∧SC 67 [I y.3] (AV.str id)∧(((sK Rs i)∧Ab∧bt [(0,0),(1,1),(2,2),(3,3),(4,4),(5,41)] (ip C M N k o) (ip C M N k o)∧(zL=zL∧true=true)∧([I (af IntKind.i64 (101+y.2%5)),AV.str id]=[I (af IntKind.i64 (101+y.2%5)),AV.str id]∧ad [I (af IntKind.i64 (101+y.2%5)),AV.str id]=true)∧(kv es)∧True)∧(BN=BN∧ai BN)∧(BC=BC∧ai BC)∧True)∧((((bC Rs)∧(I (af IntKind.i64 (i+1))=I j∧ac (I j)=true)∧True)∧bX∧bt [(0,0),(1,1),(2,2),(3,3),(4,4)] (aa o' M N (AV.rsl true 2 0 k' 2) C) (ip C M N k o)∧(zL=zL∧true=true)∧(es=es'∧ad es'=true)∧True)∧(BN=BN∧ai BN)∧(BC=BC∧ai BC)∧True)∧Nx):=by kernel_rfl
theorem Q5 (y:Rw) (i j:Int) (Rs:List AV) (o o':Ob) (M N C:AV) (BN BC:Option Blk) (id:List UInt8) (k k':Nat) (es es':List AV) (Nx:Prop) (Q:AExit→St→Prop):aw Tryz.prog opts0 40 (oA 4 0 y [] [(22,fun s Q=>eC 0 [(0,0),(1,1),(2,2),(3,3),(4,4),(5,41)] (cO i Rs (jG C M N k o) [I (af .i64 (101+y.a%5)),.str id] false 0 [(2,.cells es,.whole)]) [(1,BN),(3,BC)] s∧Q (.exit 3) (aE (cO i Rs (jG C M N k o) [I (af .i64 (101+y.a%5)),.str id] false (.ofNat k) [(2,.cells es,.whole)]) [(1,BN),(3,BC)]))] none id) (ah Tryz.prog 22 5) (aE (oW i Rs (jG C M N k o) [(2,.cells es,.whole)]) [(1,BN),(3,BC)]) (roundO 0 [(0,0),(1,1),(2,13),(3,3),(4,4)] (oW j Rs (aa o' M N (.rsl true 2 0 k' 2) C) [(2,.cells es',.whole)]) [(1,BN),(3,BC)] Nx [] (oW i Rs [] []) [] Q)=
  (aG Tryz.prog BinOp.lss 3 (Operand.tmp 55) (Operand.tmp 57) (I i) (I (Int.ofNat (ab Rs)))=some (AV.bool true)∧aG Tryz.prog BinOp.lss 3 (Operand.tmp 60) (Operand.const (Value.int IntKind.i64 10)) (I i) (I 10)=some (AV.bool true)∧ax Tryz.prog 22 (AV.fsl false Rs) (I i)=some (bY y)∧SC 23 [I y.1,I 9] (I 4)∧SC 23 [I y.2,I 5] (I (y.2%5))∧SC 67 [I y.3] (AV.str id)∧(((sK Rs i)∧Ab∧bt [(0,0),(1,1),(2,2),(3,3),(4,4),(5,41)] (ip C M N k o) (ip C M N k o)∧(zL=zL∧true=true)∧([I (af IntKind.i64 (101+y.2%5)),AV.str id]=[I (af IntKind.i64 (101+y.2%5)),AV.str id]∧ad [I (af IntKind.i64 (101+y.2%5)),AV.str id]=true)∧(kv es)∧True)∧(BN=BN∧ai BN)∧(BC=BC∧ai BC)∧True)∧aC (bo 2 [AV.agg [I (af IntKind.i64 (101+y.2%5)),AV.str id]]&&(((k+ab [AV.agg [I (af IntKind.i64 (101+y.2%5)),AV.str id]])*24).ble 140737488355328&&(aS (flat [AV.agg [I (af IntKind.i64 (101+y.2%5)),AV.str id]])&&true))) (aC ((ab es).beq (k*2)) (((((bC Rs)∧(I (af IntKind.i64 (i+1))=I j∧ac (I j)=true)∧True)∧bX∧bt [(0,0),(1,1),(2,13),(3,3),(4,4)] (aa o' M N (AV.rsl true 2 0 k' 2) C) (aa o M N (AV.rsl true 13 0 (k+ab [AV.agg [I (af IntKind.i64 (101+y.2%5)),AV.str id]]) 2) C)∧(zL=zL∧true=true)∧(es++flat [AV.agg [I (af IntKind.i64 (101+y.2%5)),AV.str id]]=es'∧ad es'=true)∧True)∧(BN=BN∧ai BN)∧(BC=BC∧ai BC)∧True)∧Nx))):=by kernel_rfl
abbrev vh:=(AV.agg [AV.str [111,110,101],AV.str [116,119,111],AV.str [116,104,114,101,101],AV.str [102,111,117,114]])
abbrev vi:=(AV.agg [AV.str [120,45,97],AV.str [120,45,98]])
@[simp] abbrev F2:=(vc∧vd∧(some 48=some 48∧0=0)∧True)
abbrev nD (cn ct:List UInt8):=[AV.agg [AV.str cn,AV.str ct]]
theorem Q6 (y:Rw) (i j:Int) (Rs:List AV) (o o':Ob) (M N L:AV) (BN BL:Option Blk) (cn ct:List UInt8) (Nx:Prop) (Q:AExit→St→Prop):aw Tryz.prog opts0 40 (oA 6 0 y [(30,4,.res (.str cn)),(30,9,.res (.str ct))] [(34,fun s Q=>eC 0 [(0,0),(1,1),(2,2),(4,4),(5,48)] (cq i Rs (aa o M N L (.nilsl)) [.str cn,.str ct] false 0 []) [(1,BN),(2,BL)] s∧Q (.exit 5) (aE (cq i Rs (aa o M N L (.nilsl)) [.str cn,.str ct] false 0 []) [(1,BN),(2,BL)]))] none []) (ah Tryz.prog 22 5) (aE (oW i Rs (aa o M N L (.nilsl)) []) [(1,BN),(2,BL)]) (roundO 0 [(0,0),(1,1),(2,2),(3,19),(4,4)] (oW j Rs (aa o' M N L (.rsl true 3 0 1 2)) [(3,.cells [.str cn,.str ct],.whole)]) [(1,BN),(2,BL)] Nx [] (oW i Rs [] []) [] Q)=
  (aG Tryz.prog BinOp.lss 3 (Operand.tmp 55) (Operand.tmp 57) (I i) (I (Int.ofNat (ab Rs)))=some (AV.bool true)∧aG Tryz.prog BinOp.lss 3 (Operand.tmp 60) (Operand.const (Value.int IntKind.i64 10)) (I i) (I 10)=some (AV.bool true)∧ax Tryz.prog 22 (AV.fsl false Rs) (I i)=some (bY y)∧SC 23 [I y.1,I 9] (I 6)∧SC 23 [I y.2,I 2] (I (y.2%2))∧aZ Tryz.prog 108 vi (I (y.2%2))=some (AV.str cn)∧SC 23 [I y.3,I 4] (I (y.3%4))∧aZ Tryz.prog 109 vh (I (y.3%4))=some (AV.str ct)∧(((sK Rs i)∧F2∧bt [(0,0),(1,1),(2,2),(4,4),(5,48)] (aa o M N L AV.nilsl) (aa o M N L AV.nilsl)∧(zL=zL∧true=true)∧([AV.str cn,AV.str ct]=[AV.str cn,AV.str ct]∧ad [AV.str cn,AV.str ct]=true)∧True)∧(BN=BN∧ai BN)∧(BL=BL∧ai BL)∧True)∧((((bC Rs)∧(I (af IntKind.i64 (i+1))=I j∧ac (I j)=true)∧True)∧bX∧bt [(0,0),(1,1),(2,2),(3,19),(4,4)] (aa o' M N L (AV.rsl true 3 0 1 2)) (aa o M N L (AV.rsl true 19 0 (ab (nD cn ct)) 2))∧(zL=zL∧true=true)∧(flat (nD cn ct)=[AV.str cn,AV.str ct]∧ad [AV.str cn,AV.str ct]=true)∧True)∧(BN=BN∧ai BN)∧(BL=BL∧ai BL)∧True)∧Nx):=by kernel_rfl
@[simp] abbrev Ac (BL BN:Option Blk) (L M N:AV) (Rs es:List AV) (cn ct:List UInt8) (i:Int) (k:Nat) (o:Ob):=(((sK Rs i)∧F2∧bt [(0,0),(1,1),(2,2),(3,3),(4,4),(5,48)] (iX L M N k o) (iX L M N k o)∧(zL=zL∧true=true)∧([AV.str cn,AV.str ct]=[AV.str cn,AV.str ct]∧ad [AV.str cn,AV.str ct]=true)∧(kv es)∧True)∧(BN=BN∧ai BN)∧(BL=BL∧ai BL)∧True)
theorem Q7 (y:Rw) (i j:Int) (Rs:List AV) (o o':Ob) (M N L:AV) (BN BL:Option Blk) (cn ct:List UInt8) (k k':Nat) (es es':List AV) (Nx:Prop) (Q:AExit→St→Prop):aw Tryz.prog opts0 40 (oA 6 0 y [(30,4,.res (.str cn)),(30,9,.res (.str ct))] [(34,fun s Q=>eC 0 [(0,0),(1,1),(2,2),(3,3),(4,4),(5,48)] (cq i Rs (gX L M N k o) [.str cn,.str ct] false 0 [(3,.cells es,.whole)]) [(1,BN),(2,BL)] s∧Q (.exit 5) (aE (cq i Rs (gX L M N k o) [.str cn,.str ct] true (.ofNat k) [(3,.cells es,.whole)]) [(1,BN),(2,BL)]))] none []) (ah Tryz.prog 22 5) (aE (oW i Rs (gX L M N k o) [(3,.cells es,.whole)]) [(1,BN),(2,BL)]) (roundO 0 [(0,0),(1,1),(2,2),(3,3),(4,4)] (oW j Rs (aa o' M N L (.rsl true 3 0 k' 2)) [(3,.cells es',.whole)]) [(1,BN),(2,BL)] Nx [] (oW i Rs [] []) [] Q)=
  (aG Tryz.prog BinOp.lss 3 (Operand.tmp 55) (Operand.tmp 57) (I i) (I (Int.ofNat (ab Rs)))=some (AV.bool true)∧aG Tryz.prog BinOp.lss 3 (Operand.tmp 60) (Operand.const (Value.int IntKind.i64 10)) (I i) (I 10)=some (AV.bool true)∧ax Tryz.prog 22 (AV.fsl false Rs) (I i)=some (bY y)∧SC 23 [I y.1,I 9] (I 6)∧SC 23 [I y.2,I 2] (I (y.2%2))∧aZ Tryz.prog 108 vi (I (y.2%2))=some (AV.str cn)∧SC 23 [I y.3,I 4] (I (y.3%4))∧aZ Tryz.prog 109 vh (I (y.3%4))=some (AV.str ct)∧(Ac BL BN L M N Rs es cn ct i k o)∧((((bC Rs)∧(I (af IntKind.i64 (i+1))=I j∧ac (I j)=true)∧True)∧bX∧bt [(0,0),(1,1),(2,2),(3,3),(4,4)] (aa o' M N L (AV.rsl true 3 0 k' 2)) (iX L M N k o)∧(zL=zL∧true=true)∧(es=es'∧ad es'=true)∧True)∧(BN=BN∧ai BN)∧(BL=BL∧ai BL)∧True)∧Nx):=by kernel_rfl
theorem Q8 (y:Rw) (i j:Int) (Rs:List AV) (o o':Ob) (M N L:AV) (BN BL:Option Blk) (cn ct:List UInt8) (k k':Nat) (es es':List AV) (Nx:Prop) (Q:AExit→St→Prop):aw Tryz.prog opts0 40 (oA 6 0 y [(30,4,.res (.str cn)),(30,9,.res (.str ct)),(36,6,.res (.bool true))] [(34,fun s Q=>eC 0 [(0,0),(1,1),(2,2),(3,3),(4,4),(5,48)] (cq i Rs (gX L M N k o) [.str cn,.str ct] false 0 [(3,.cells es,.whole)]) [(1,BN),(2,BL)] s∧Q (.exit 5) (aE (cq i Rs (gX L M N k o) [.str cn,.str ct] false (.ofNat k) [(3,.cells es,.whole)]) [(1,BN),(2,BL)]))] none []) (ah Tryz.prog 22 5) (aE (oW i Rs (gX L M N k o) [(3,.cells es,.whole)]) [(1,BN),(2,BL)]) (roundO 0 [(0,0),(1,1),(2,2),(3,19),(4,4)] (oW j Rs (aa o' M N L (.rsl true 3 0 k' 2)) [(3,.cells es',.whole)]) [(1,BN),(2,BL)] Nx [] (oW i Rs [] []) [] Q)=
  (aG Tryz.prog BinOp.lss 3 (Operand.tmp 55) (Operand.tmp 57) (I i) (I (Int.ofNat (ab Rs)))=some (AV.bool true)∧aG Tryz.prog BinOp.lss 3 (Operand.tmp 60) (Operand.const (Value.int IntKind.i64 10)) (I i) (I 10)=some (AV.bool true)∧ax Tryz.prog 22 (AV.fsl false Rs) (I i)=some (bY y)∧SC 23 [I y.1,I 9] (I 6)∧SC 23 [I y.2,I 2] (I (y.2%2))∧aZ Tryz.prog 108 vi (I (y.2%2))=some (AV.str cn)∧SC 23 [I y.3,I 4] (I (y.3%4))∧aZ Tryz.prog 109 vh (I (y.3%4))=some (AV.str ct)∧(Ac BL BN L M N Rs es cn ct i k o)∧aG Tryz.prog BinOp.lss 3 (Operand.tmp 198) (Operand.const (Value.int IntKind.i64 6)) (I (Int.ofNat k)) (I 6)=some (AV.bool true)∧aC (bo 2 (nD cn ct)&&(((k+ab (nD cn ct))*32).ble 140737488355328&&(aS (flat (nD cn ct))&&true))) (aC ((ab es).beq (k*2)) (((((bC Rs)∧(I (af IntKind.i64 (i+1))=I j∧ac (I j)=true)∧True)∧bX∧bt [(0,0),(1,1),(2,2),(3,19),(4,4)] (aa o' M N L (AV.rsl true 3 0 k' 2)) (aa o M N L (AV.rsl true 19 0 (k+ab (nD cn ct)) 2))∧(zL=zL∧true=true)∧(es++flat (nD cn ct)=es'∧ad es'=true)∧True)∧(BN=BN∧ai BN)∧(BL=BL∧ai BL)∧True)∧Nx))):=by kernel_rfl
theorem Q9 (y:Rw) (i j:Int) (Rs:List AV) (o o':Ob) (M N L:AV) (BN BL:Option Blk) (cn ct:List UInt8) (k k':Nat) (es es':List AV) (Nx:Prop) (Q:AExit→St→Prop):aw Tryz.prog opts0 40 (oA 6 0 y [(30,4,.res (.str cn)),(30,9,.res (.str ct)),(36,6,.res (.bool false))] [(34,fun s Q=>eC 0 [(0,0),(1,1),(2,2),(3,3),(4,4),(5,48)] (cq i Rs (gX L M N k o) [.str cn,.str ct] false 0 [(3,.cells es,.whole)]) [(1,BN),(2,BL)] s∧Q (.exit 5) (aE (cq i Rs (gX L M N k o) [.str cn,.str ct] false (.ofNat k) [(3,.cells es,.whole)]) [(1,BN),(2,BL)]))] none []) (ah Tryz.prog 22 5) (aE (oW i Rs (gX L M N k o) [(3,.cells es,.whole)]) [(1,BN),(2,BL)]) (roundO 0 [(0,0),(1,1),(2,2),(3,3),(4,4)] (oW j Rs (aa o' M N L (.rsl true 3 0 k' 2)) [(3,.cells es',.whole)]) [(1,BN),(2,BL)] Nx [] (oW i Rs [] []) [] Q)=
  (aG Tryz.prog BinOp.lss 3 (Operand.tmp 55) (Operand.tmp 57) (I i) (I (Int.ofNat (ab Rs)))=some (AV.bool true)∧aG Tryz.prog BinOp.lss 3 (Operand.tmp 60) (Operand.const (Value.int IntKind.i64 10)) (I i) (I 10)=some (AV.bool true)∧ax Tryz.prog 22 (AV.fsl false Rs) (I i)=some (bY y)∧SC 23 [I y.1,I 9] (I 6)∧SC 23 [I y.2,I 2] (I (y.2%2))∧aZ Tryz.prog 108 vi (I (y.2%2))=some (AV.str cn)∧SC 23 [I y.3,I 4] (I (y.3%4))∧aZ Tryz.prog 109 vh (I (y.3%4))=some (AV.str ct)∧(Ac BL BN L M N Rs es cn ct i k o)∧aG Tryz.prog BinOp.lss 3 (Operand.tmp 198) (Operand.const (Value.int IntKind.i64 6)) (I (Int.ofNat k)) (I 6)=some (AV.bool false)∧((((bC Rs)∧(I (af IntKind.i64 (i+1))=I j∧ac (I j)=true)∧True)∧bX∧bt [(0,0),(1,1),(2,2),(3,3),(4,4)] (aa o' M N L (AV.rsl true 3 0 k' 2)) (iX L M N k o)∧(zL=zL∧true=true)∧(es=es'∧ad es'=true)∧True)∧(BN=BN∧ai BN)∧(BL=BL∧ai BL)∧True)∧Nx):=by kernel_rfl
end
end Go.Proofs.YtjhggnebkfpgcaaGreatDoor
namespace Go.Proofs.YtjhggnebkfpgcaaGreatDoor
set_option maxRecDepth 20000
open Go Go.RowKit
open Go.Proofs.Abs
def cr:Nat→List (Nat × Nat)
 |0=>[]
 |n+1=>(n,n)::cr n
noncomputable def nE (s:List UInt8) (k i:Nat) (es:List AV):View:=⟨[(1,.str s),(4,.bool false),(5,I (.ofNat i))],[(0,.rsl true 1 0 k 1)],[(1,.cells es,.whole)],42,18⟩
noncomputable def jH (b:Bool) (es:List AV):View:=⟨[(4,.bool b)],[],[(1,.cells es,.whole)],60,18⟩
noncomputable def vj (x:List UInt8):be:=aq [(4,3,.ld (.str x))] [] aA [] []
theorem Ad (s x:List UInt8) (k i j:Nat) (es:List AV) (q:Bool) (N:Prop) (Q:AExit→St→Prop):aw Tryz.prog opts0 40 (vj x) (ah Tryz.prog 69 3) (nE s k i es).st (bf 42 (cr 42) (nE s k j es) N (cr 42) (jH q es) Q)=
  (ak (ar (Int.ofNat i) (Int.ofNat k)) (aC (cJ (Int.ofNat i)&&((Int.ofNat i).toNat.blt k&&true)) (bh Tryz.prog 9 es (0+(Int.ofNat i).toNat*1)=some (AV.str x)∧ak (aB x s) ((((AV.bool true=AV.bool q∧ac (AV.bool q)=true)∧True)∧True∧(es=es∧ad es=true)∧True)∧Q AExit.ret (jH q es).st) ((((AV.str s=AV.str s∧ac (AV.str s)=true)∧(AV.bool false=AV.bool false∧true=true)∧(I (af IntKind.i64 (Int.ofNat i+1))=I (Int.ofNat j)∧ac (I (Int.ofNat j))=true)∧True)∧((true=true∧some 1=some 1∧0=0∧k=k∧1=1)∧True)∧(es=es∧ad es=true)∧True)∧N))) ((((AV.bool false=AV.bool q∧ac (AV.bool q)=true)∧True)∧True∧(es=es∧ad es=true)∧True)∧Q (AExit.exit 0) (jH q es).st)):=by kernel_rfl
noncomputable def inL (s:List UInt8) (k:Nat) (es:List AV) (q:Bool):bg:=fun st Q=>bR 42 (cr 42) (nE s k 0 es) st∧ak q (Q .ret (jH true es).st) (Q (.exit 0) (jH false es).st)
theorem Ra (s:List UInt8) (k:Nat) (es:List AV) (q:Bool) (Q:AV→ae→Nat→Prop):aL Tryz.prog opts0 40 (aq [] [(3,inL s k es q)] aA [] []) 69 [.rsl true 1 0 k 1,.str s] [(1,some (.cells es))] 42 Q=
  ((((AV.str s=AV.str s∧ac (AV.str s)=true)∧(AV.bool false=AV.bool false∧true=true)∧(I 0=I 0∧true=true)∧True)∧((true=true∧some 1=some 1∧0=0∧k=k∧1=1)∧True)∧(es=es∧ad es=true)∧True)∧ak q (Q (AV.bool true) [(1,some (Blk.cells es))] 60) (Q (AV.bool false) [(1,some (Blk.cells es))] 61)):=by kernel_rfl
theorem Rb (s:List UInt8) (Q:AV→Prop):aL Tryz.prog opts0 40 ej 69 [.nilsl,.str s] [] 0 (fun v _ _=>Q v)=
  (Q (AV.bool false)):=by kernel_rfl
theorem F3 {p:Nat→Prop} (n:Nat) (hn:p n) (hs:∀i,i<n→p (i+1)→p i):∀i,i≤n→p i:=by
 intro i hi
 obtain ⟨m,rfl⟩:∃m,n=i+m:=⟨n-i,by omega⟩
 clear hi
 induction m generalizing i with
 |zero=>exact hn
 |succ m ih=>exact hs i (by omega) (ih (i+1) (by rw[show i+1+m=i+(m+1) by omega];exact hn) (by intro j hj;exact hs j (by omega)))
def kw (l:List (List UInt8)) (s:List UInt8):Bool:=l.any fun x=>aB x s
theorem Rc:eY Tryz.prog 9=some false:=by kernel_rfl
theorem F4 {l:List (List UInt8)} {j:Nat} {x:List UInt8} (h:l[j]? =some x):bh Tryz.prog 9 (l.map .str) (0+j*1)=some (.str x):=by
 simp only[bh,Rc,fb,Nat.zero_add,Nat.mul_one,List.getElem?_map,h,Option.map_some]
theorem Rd {s:List UInt8} {l:List (List UInt8)} {Q:AExit→St→Prop} (hb:l.length≤1000):∀i,i≤l.length→(ak (kw (l.drop i) s) (Q .ret (jH true (l.map .str)).st) (Q (.exit 0) (jH false (l.map .str)).st)→ALp Tryz.prog opts0.glob 42 (ah Tryz.prog 69 3) (nE s l.length i (l.map .str)).st Q):=by
 have hc:=ea l
 refine F3 _ (fun hq=> ?_) (fun i hi ih hq=> ?_)
 ·rw[List.drop_of_length_le (Nat.le_refl _)] at hq
  refine ALp.round (A:=vj []) (V2:=nE s l.length 0 (l.map .str)) (F:=jH false (l.map .str)) (lk:=cr 42) (lk':=cr 42) base0 am (LsOk.no rfl) .refl ?_
  rw[Ad]
  refine az (fun h=> ?_) (fun _=>⟨⟨⟨⟨rfl,rfl⟩,trivial⟩,trivial,⟨rfl,hc⟩,trivial⟩,hq⟩)
  have h:=ltInt_iff.1 h
  simp only[Int.ofNat_eq_natCast] at h
  omega
 ·have g1:=List.getElem?_eq_getElem hi
  rw[List.drop_eq_getElem_cons hi] at hq
  revert g1 hq
  generalize l[i]=x
  intro hq g1
  simp only[kw,List.any_cons] at hq
  have hno:ar (Int.ofNat i) (Int.ofNat l.length)=false→False:=fun h=>by
   have h:=ltInt_false.1 h
   simp only[Int.ofNat_eq_natCast] at h
   omega
  have hob:(cJ (Int.ofNat i)&&((Int.ofNat i).toNat.blt l.length&&true))=true:=by
   simp only[cJ,Bool.true_and,Bool.and_true]
   exact blt_iff.2 hi
  have hw:af .i64 (Int.ofNat i+1)=Int.ofNat (i+1):=co (by simp;omega) (by simp;omega)
  cases hx:aB x s with
  |true=>
   rw[hx] at hq
   refine ALp.round (A:=vj x) (V2:=nE s l.length (i+1) (l.map .str)) (F:=jH true (l.map .str)) (lk:=cr 42) (lk':=cr 42) base0 am (LsOk.no rfl) .refl ?_
   rw[Ad]
   refine az (fun _=>aH hob ⟨F4 g1,az (fun _=>⟨⟨⟨⟨rfl,rfl⟩,trivial⟩,trivial,⟨rfl,hc⟩,trivial⟩,hq⟩) (fun h=>by rw[hx] at h;cases h)⟩) (fun h=>(hno h).elim)
  |false=>
   rw[hx] at hq
   have hn:=ih hq
   refine ALp.round (A:=vj x) (V2:=nE s l.length (i+1) (l.map .str)) (F:=jH false (l.map .str)) (lk:=cr 42) (lk':=cr 42) base0 am (LsOk.no rfl) .refl ?_
   rw[Ad,hw]
   refine az (fun _=>aH hob ⟨F4 g1,az (fun h=>by rw[hx] at h;cases h) (fun _=>⟨⟨⟨⟨rfl,rfl⟩,⟨rfl,rfl⟩,⟨rfl,rfl⟩,trivial⟩,⟨⟨rfl,rfl,rfl,rfl,rfl⟩,trivial⟩,⟨rfl,hc⟩,trivial⟩,hn⟩)⟩) (fun h=>(hno h).elim)
theorem Re:br (cy Tryz.prog 69) 3=[ah Tryz.prog 69 3]:=by kernel_rfl
theorem F5 (l:List (List UInt8)) (s:List UInt8) (hb:l.length≤1000):BodySem Tryz.prog opts0.glob 69 [.rsl true 1 0 l.length 1,.str s] [(1,some (.cells (l.map .str)))] 42 (.bool (kw l s)) [(1,some (.cells (l.map .str)))] 62:=by
 have hc:=ea l
 refine ei (k:=2) (A:=aq [] [(3,inL s l.length (l.map .str) (kw l s))] aA [] []) base0 am
  (aN (LsOk.at1 rfl Re fun st Q hs=> .seen base0.glob hs.1 (Rd hb 0 (Nat.zero_le _) hs.2))) ?_
 rw[Ra]
 refine ⟨⟨⟨⟨rfl,rfl⟩,⟨rfl,rfl⟩,⟨rfl,rfl⟩,trivial⟩,⟨⟨rfl,rfl,rfl,rfl,rfl⟩,trivial⟩,⟨rfl,hc⟩,trivial⟩,az (fun e=> ?_) (fun e=> ?_)⟩
 ·rw[e]
  exact ⟨rfl,⟨.bool true,Frz.closed _ rfl,.refl _⟩,⟨rfl,.cells (l.map .str),.cells (l.map .str),rfl,FrzL.closed _ hc,WkL.refl _⟩,trivial⟩
 ·rw[e]
  exact ⟨rfl,⟨.bool false,Frz.closed _ rfl,.refl _⟩,⟨rfl,.cells (l.map .str),.cells (l.map .str),rfl,FrzL.closed _ hc,WkL.refl _⟩,trivial⟩
theorem Rf (s:List UInt8):SC 69 [.nilsl,.str s] (.bool false):=by
 refine eB (A:=ej) base0 jz (aN (LsOk.no rfl)) rfl rfl ?_
 rw[Rb]
theorem Rg {l:List Lk} {j:Nat} {x:Lk} (h:l[j]? =some x):bh Tryz.prog 99 (flat (l.map bE)) (0+j*2)=some (.agg [I x.ty,.str x.id]):=by
  have h1:eY Tryz.prog 99=some true:=by kernel_rfl
  have h2:bJ Tryz.prog 99=some 2:=by kernel_rfl
  simp only[bh,h1,h2,Nat.zero_add]
  rw[chunk_flat l j x h];rfl
 where
  chunk_flat:∀ (l:List Lk) (j:Nat) (x:Lk),l[j]? =some x→chunk (flat (l.map bE)) (j*2) 2=some [I x.ty,.str x.id]
    |[],_,_,h=>by simp at h
    | a::r,0,x,h=>by
      simp at h;subst h
      show chunk (flat (bE a::r.map bE)) 0 2=_
      simp[flat,bE,AV.cells,chunk]
    | a::r,j+1,x,h=>by
      have ih:=chunk_flat r j x (by simpa using h)
      rw[show (j+1)*2=j*2+1+1 by omega]
      exact ih
theorem Rh {l:List Cu} {j:Nat} {x:Cu} (h:l[j]? =some x):bh Tryz.prog 101 (flat (l.map aT)) (0+j*2)=some (.agg [.str x.name,.str x.text]):=by
  have h1:eY Tryz.prog 101=some true:=by kernel_rfl
  have h2:bJ Tryz.prog 101=some 2:=by kernel_rfl
  simp only[bh,h1,h2,Nat.zero_add]
  rw[chunk_flat l j x h];rfl
 where
  chunk_flat:∀ (l:List Cu) (j:Nat) (x:Cu),l[j]? =some x→chunk (flat (l.map aT)) (j*2) 2=some [.str x.name,.str x.text]
    |[],_,_,h=>by simp at h
    | a::r,0,x,h=>by
      simp at h;subst h
      show chunk (flat (aT a::r.map aT)) 0 2=_
      simp[flat,aT,AV.cells,chunk]
    | a::r,j+1,x,h=>by
      have ih:=chunk_flat r j x (by simpa using h)
      rw[show (j+1)*2=j*2+1+1 by omega]
      exact ih
theorem lH:∀l:List Lk,ad (flat (l.map bE))=true
 |[]=>rfl
 |_::r=>lH r
theorem jI:∀l:List Cu,ad (flat (l.map aT))=true
 |[]=>rfl
 |_::r=>jI r
theorem bp {lk:List (Nat × Nat)} {o:Ob} {M N L C N' L' C':AV} (hM:ac M=true) (hN:cw lk N N') (hL:cw lk L L') (hC:cw lk C C'):bt lk (aa o M N L C) (aa o M N' L' C'):=by
 refine ⟨?_⟩
 simp only[aa,RenL]
 exact ⟨.same _ rfl,.same _ rfl,.same _ rfl,.same _ rfl,.same _ rfl,.same _ hM,.same _ rfl,.same _ rfl,.same _ rfl,.same _ rfl,.same _ rfl,.same _ rfl,.same _ rfl,.same _ rfl,.same _ rfl,.same _ rfl,.same _ rfl,.same _ rfl,.same _ rfl,.same _ rfl,.same _ rfl,.same _ rfl,.same _ rfl,.same _ rfl,.same _ rfl,.same _ rfl,.same _ rfl,.same _ rfl,.same _ rfl,hN,hL,hC,.same _ rfl,.same _ rfl,.same _ rfl,.same _ rfl,.same _ rfl,trivial⟩
end Go.Proofs.YtjhggnebkfpgcaaGreatDoor
namespace Go.Proofs.YtjhggnebkfpgcaaGreatDoor
open Go Go.RowKit
open Go.Proofs.Abs
end Go.Proofs.YtjhggnebkfpgcaaGreatDoor
