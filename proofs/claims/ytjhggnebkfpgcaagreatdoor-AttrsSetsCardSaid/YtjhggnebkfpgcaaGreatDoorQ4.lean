/- Sems, Doer, Set, Of, Of2, Obj, Obj2, OSame, RFind. -/
import Derived.Test.YtjhggnebkfpgcaaGreatDoorQ3
import Derived.KernelRfl
import Derived.Test.YtjhggnebkfpgcaaGreatDoorG5
import Derived.Test.YtjhggnebkfpgcaaGreatDoorQ1
namespace Go.Proofs.YtjhggnebkfpgcaaGreatDoor
open Go Go.RowKit
open Go.Proofs.Abs
structure FitO (o:Ob):Prop where
 n:o.names.length≤6
 l:o.links.length≤8
 c:o.cust.length≤6
 m:o.mat.length≤big
def kdB:Kd→Bool
 | .dat k=>Nat.blt k 10
 |_=>true
theorem closed_o (o:Ob):closedAll [obA o]=true:=closed_one (closed_obC o)
theorem closed_oc (o:Ob) {c:List AV} (h:closedAll c=true):closedAll (obA o::c)=true:=by
 have:=closed_obC o
 simp only[closedAll,obA,closedA,this,h,Bool.and_self]
theorem g_uid_sem (o:Ob):SC 127 [obA o] (.fsl false (itAs (getK o .uid))):=by
 refine fnK_semE (A:=aidJ [] [] noSem inlG []) base0 aidJ_ok (fnLs_of (LsOk.no rfl)) (closed_o o) ?_
 simp only[obA,obC]
 rw[g_uid]
 refine ⟨by simp[closedAll,closedA], ?_⟩
 simp only[getK,txt,vlV,itAs,itA]
 (repeat (first|exact Wk.refl _|exact WkL.refl _|exact Wk.nil|exact Wk.row|exact WkE.refl _|exact WkL.nil|exact WkE.nil|apply Wk.agg|apply Wk.tuple|apply WkL.cons|apply Wk.rows|apply WkE.consA))
theorem g_typ_sem (o:Ob):SC 130 [obA o] (.fsl false (itAs (getK o .typ))):=by
 refine fnK_semE (A:=aidJ [] [] noSem inlG []) base0 aidJ_ok (fnLs_of (LsOk.no rfl)) (closed_o o) ?_
 simp only[obA,obC]
 rw[g_typ]
 refine ⟨by simp[closedAll,closedA], ?_⟩
 simp only[getK,numI,vlV,itAs,itA,toBytes]
 (repeat (first|exact Wk.refl _|exact WkL.refl _|exact Wk.nil|exact Wk.row|exact WkE.refl _|exact WkL.nil|exact WkE.nil|apply Wk.agg|apply Wk.tuple|apply WkL.cons|apply Wk.rows|apply WkE.consA))
theorem g_sta_sem (o:Ob):SC 134 [obA o] (.fsl false (itAs (getK o .sta))):=by
 refine fnK_semE (A:=aidJ [] [] noSem inlG []) base0 aidJ_ok (fnLs_of (LsOk.no rfl)) (closed_o o) ?_
 simp only[obA,obC]
 rw[g_sta]
 refine ⟨by simp[closedAll,closedA], ?_⟩
 simp only[getK,numI,vlV,itAs,itA,toBytes]
 (repeat (first|exact Wk.refl _|exact WkL.refl _|exact Wk.nil|exact Wk.row|exact WkE.refl _|exact WkL.nil|exact WkE.nil|apply Wk.agg|apply Wk.tuple|apply WkL.cons|apply Wk.rows|apply WkE.consA))
theorem g_alg_sem (o:Ob):SC 161 [obA o,.fptr [atF .alg] 0,.fptr [I 1] 0,.fptr [I 5] 0] (.fsl false (itAs (getK o .alg))):=by
 refine fnK_semE (A:=aidJ [] [] noSem inlG inlA) base0 aidJ_ok (fnLs_of (LsOk.no rfl)) (closed_oc o rfl) ?_
 simp only[obA,obC,atF]
 rw[g_alg]
 refine mtB_of (fun e=> ?_) (fun e=> ?_)
 all_goals
  refine ⟨by simp[closedAll,closedA], ?_⟩
  simp only[getK,oneL,numI,vlV,itAs,itA,toBytes,e]
  (repeat (first|exact Wk.refl _|exact WkL.refl _|exact Wk.nil|exact Wk.row|exact WkE.refl _|exact WkL.nil|exact WkE.nil|apply Wk.agg|apply Wk.tuple|apply WkL.cons|apply Wk.rows|apply WkE.consA))
theorem g_len_sem (o:Ob):SC 161 [obA o,.fptr [atF .len] 0,.fptr [I 1] 0,.fptr [I 2] 0] (.fsl false (itAs (getK o .len))):=by
 refine fnK_semE (A:=aidJ [] [] noSem inlG inlA) base0 aidJ_ok (fnLs_of (LsOk.no rfl)) (closed_oc o rfl) ?_
 simp only[obA,obC,atF]
 rw[g_len]
 refine mtB_of (fun e=> ?_) (fun e=> ?_)
 all_goals
  refine ⟨by simp[closedAll,closedA], ?_⟩
  simp only[getK,oneL,numI,vlV,itAs,itA,toBytes,e]
  (repeat (first|exact Wk.refl _|exact WkL.refl _|exact Wk.nil|exact Wk.row|exact WkE.refl _|exact WkL.nil|exact WkE.nil|apply Wk.agg|apply Wk.tuple|apply WkL.cons|apply Wk.rows|apply WkE.consA))
theorem g_mask_sem (o:Ob):SC 161 [obA o,.fptr [atF .mask] 0,.fptr [I 0] 0,.fptr [I 2] 0] (.fsl false (itAs (getK o .mask))):=by
 refine fnK_semE (A:=aidJ [] [] noSem inlG inlA) base0 aidJ_ok (fnLs_of (LsOk.no rfl)) (closed_oc o rfl) ?_
 simp only[obA,obC,atF]
 rw[g_mask]
 refine mtB_of (fun e=> ?_) (fun e=> ?_)
 all_goals
  refine ⟨by simp[closedAll,closedA], ?_⟩
  simp only[getK,numI,vlV,itAs,itA,toBytes]
  (repeat (first|exact Wk.refl _|exact WkL.refl _|exact Wk.nil|exact Wk.row|exact WkE.refl _|exact WkL.nil|exact WkE.nil|apply Wk.agg|apply Wk.tuple|apply WkL.cons|apply Wk.rows|apply WkE.consA))
theorem g_dat0_sem (o:Ob):SC 172 [obA o,.fptr [nI 0] 0] (.fsl false (itAs (getK o (.dat 0)))):=by
 refine fnK_semE (A:=aidJ [] [] noSem inlG []) base0 aidJ_ok (fnLs_of (LsOk.no rfl)) (closed_oc o rfl) ?_
 have h:=g_dat0 o (matA o) (namA o) (lnkA o) (cusA o) (endV (.fsl false (itAs (getK o (.dat 0)))))
 simp only[obA,obC]
 rw[show (nI 0:AV)=I 0 from rfl,h]
 refine mtB_of (fun e=> ?_) (fun e=> ?_)
 all_goals
  refine ⟨by simp[closedAll,closedA], ?_⟩
  first|rw[Bool.not_eq_true'] at e|rw[Bool.not_eq_false'] at e
  simp only[getK,oneL,dateAt,numI,vlV,itAs,itA,toBytes,e]
  (repeat (first|exact Wk.refl _|exact WkL.refl _|exact Wk.nil|exact Wk.row|exact WkE.refl _|exact WkL.nil|exact WkE.nil|apply Wk.agg|apply Wk.tuple|apply WkL.cons|apply Wk.rows|apply WkE.consA))
theorem g_dat1_sem (o:Ob):SC 172 [obA o,.fptr [nI 1] 0] (.fsl false (itAs (getK o (.dat 1)))):=by
 refine fnK_semE (A:=aidJ [] [] noSem inlG []) base0 aidJ_ok (fnLs_of (LsOk.no rfl)) (closed_oc o rfl) ?_
 have h:=g_dat1 o (matA o) (namA o) (lnkA o) (cusA o) (endV (.fsl false (itAs (getK o (.dat 1)))))
 simp only[obA,obC]
 rw[show (nI 1:AV)=I 1 from rfl,h]
 refine mtB_of (fun e=> ?_) (fun e=> ?_)
 all_goals
  refine ⟨by simp[closedAll,closedA], ?_⟩
  first|rw[Bool.not_eq_true'] at e|rw[Bool.not_eq_false'] at e
  simp only[getK,oneL,dateAt,numI,vlV,itAs,itA,toBytes,e]
  (repeat (first|exact Wk.refl _|exact WkL.refl _|exact Wk.nil|exact Wk.row|exact WkE.refl _|exact WkL.nil|exact WkE.nil|apply Wk.agg|apply Wk.tuple|apply WkL.cons|apply Wk.rows|apply WkE.consA))
theorem g_dat2_sem (o:Ob):SC 172 [obA o,.fptr [nI 2] 0] (.fsl false (itAs (getK o (.dat 2)))):=by
 refine fnK_semE (A:=aidJ [] [] noSem inlG []) base0 aidJ_ok (fnLs_of (LsOk.no rfl)) (closed_oc o rfl) ?_
 have h:=g_dat2 o (matA o) (namA o) (lnkA o) (cusA o) (endV (.fsl false (itAs (getK o (.dat 2)))))
 simp only[obA,obC]
 rw[show (nI 2:AV)=I 2 from rfl,h]
 refine mtB_of (fun e=> ?_) (fun e=> ?_)
 all_goals
  refine ⟨by simp[closedAll,closedA], ?_⟩
  first|rw[Bool.not_eq_true'] at e|rw[Bool.not_eq_false'] at e
  simp only[getK,oneL,dateAt,numI,vlV,itAs,itA,toBytes,e]
  (repeat (first|exact Wk.refl _|exact WkL.refl _|exact Wk.nil|exact Wk.row|exact WkE.refl _|exact WkL.nil|exact WkE.nil|apply Wk.agg|apply Wk.tuple|apply WkL.cons|apply Wk.rows|apply WkE.consA))
theorem g_dat3_sem (o:Ob):SC 172 [obA o,.fptr [nI 3] 0] (.fsl false (itAs (getK o (.dat 3)))):=by
 refine fnK_semE (A:=aidJ [] [] noSem inlG []) base0 aidJ_ok (fnLs_of (LsOk.no rfl)) (closed_oc o rfl) ?_
 have h:=g_dat3 o (matA o) (namA o) (lnkA o) (cusA o) (endV (.fsl false (itAs (getK o (.dat 3)))))
 simp only[obA,obC]
 rw[show (nI 3:AV)=I 3 from rfl,h]
 refine mtB_of (fun e=> ?_) (fun e=> ?_)
 all_goals
  refine ⟨by simp[closedAll,closedA], ?_⟩
  first|rw[Bool.not_eq_true'] at e|rw[Bool.not_eq_false'] at e
  simp only[getK,oneL,dateAt,numI,vlV,itAs,itA,toBytes,e]
  (repeat (first|exact Wk.refl _|exact WkL.refl _|exact Wk.nil|exact Wk.row|exact WkE.refl _|exact WkL.nil|exact WkE.nil|apply Wk.agg|apply Wk.tuple|apply WkL.cons|apply Wk.rows|apply WkE.consA))
theorem g_dat4_sem (o:Ob):SC 172 [obA o,.fptr [nI 4] 0] (.fsl false (itAs (getK o (.dat 4)))):=by
 refine fnK_semE (A:=aidJ [] [] noSem inlG []) base0 aidJ_ok (fnLs_of (LsOk.no rfl)) (closed_oc o rfl) ?_
 have h:=g_dat4 o (matA o) (namA o) (lnkA o) (cusA o) (endV (.fsl false (itAs (getK o (.dat 4)))))
 simp only[obA,obC]
 rw[show (nI 4:AV)=I 4 from rfl,h]
 refine mtB_of (fun e=> ?_) (fun e=> ?_)
 all_goals
  refine ⟨by simp[closedAll,closedA], ?_⟩
  first|rw[Bool.not_eq_true'] at e|rw[Bool.not_eq_false'] at e
  simp only[getK,oneL,dateAt,numI,vlV,itAs,itA,toBytes,e]
  (repeat (first|exact Wk.refl _|exact WkL.refl _|exact Wk.nil|exact Wk.row|exact WkE.refl _|exact WkL.nil|exact WkE.nil|apply Wk.agg|apply Wk.tuple|apply WkL.cons|apply Wk.rows|apply WkE.consA))
theorem g_dat5_sem (o:Ob):SC 172 [obA o,.fptr [nI 5] 0] (.fsl false (itAs (getK o (.dat 5)))):=by
 refine fnK_semE (A:=aidJ [] [] noSem inlG []) base0 aidJ_ok (fnLs_of (LsOk.no rfl)) (closed_oc o rfl) ?_
 have h:=g_dat5 o (matA o) (namA o) (lnkA o) (cusA o) (endV (.fsl false (itAs (getK o (.dat 5)))))
 simp only[obA,obC]
 rw[show (nI 5:AV)=I 5 from rfl,h]
 refine mtB_of (fun e=> ?_) (fun e=> ?_)
 all_goals
  refine ⟨by simp[closedAll,closedA], ?_⟩
  first|rw[Bool.not_eq_true'] at e|rw[Bool.not_eq_false'] at e
  simp only[getK,oneL,dateAt,numI,vlV,itAs,itA,toBytes,e]
  (repeat (first|exact Wk.refl _|exact WkL.refl _|exact Wk.nil|exact Wk.row|exact WkE.refl _|exact WkL.nil|exact WkE.nil|apply Wk.agg|apply Wk.tuple|apply WkL.cons|apply Wk.rows|apply WkE.consA))
theorem g_dat6_sem (o:Ob):SC 172 [obA o,.fptr [nI 6] 0] (.fsl false (itAs (getK o (.dat 6)))):=by
 refine fnK_semE (A:=aidJ [] [] noSem inlG []) base0 aidJ_ok (fnLs_of (LsOk.no rfl)) (closed_oc o rfl) ?_
 have h:=g_dat6 o (matA o) (namA o) (lnkA o) (cusA o) (endV (.fsl false (itAs (getK o (.dat 6)))))
 simp only[obA,obC]
 rw[show (nI 6:AV)=I 6 from rfl,h]
 refine mtB_of (fun e=> ?_) (fun e=> ?_)
 all_goals
  refine ⟨by simp[closedAll,closedA], ?_⟩
  first|rw[Bool.not_eq_true'] at e|rw[Bool.not_eq_false'] at e
  simp only[getK,oneL,dateAt,numI,vlV,itAs,itA,toBytes,e]
  (repeat (first|exact Wk.refl _|exact WkL.refl _|exact Wk.nil|exact Wk.row|exact WkE.refl _|exact WkL.nil|exact WkE.nil|apply Wk.agg|apply Wk.tuple|apply WkL.cons|apply Wk.rows|apply WkE.consA))
theorem g_dat7_sem (o:Ob):SC 172 [obA o,.fptr [nI 7] 0] (.fsl false (itAs (getK o (.dat 7)))):=by
 refine fnK_semE (A:=aidJ [] [] noSem inlG []) base0 aidJ_ok (fnLs_of (LsOk.no rfl)) (closed_oc o rfl) ?_
 have h:=g_dat7 o (matA o) (namA o) (lnkA o) (cusA o) (endV (.fsl false (itAs (getK o (.dat 7)))))
 simp only[obA,obC]
 rw[show (nI 7:AV)=I 7 from rfl,h]
 refine mtB_of (fun e=> ?_) (fun e=> ?_)
 all_goals
  refine ⟨by simp[closedAll,closedA], ?_⟩
  first|rw[Bool.not_eq_true'] at e|rw[Bool.not_eq_false'] at e
  simp only[getK,oneL,dateAt,numI,vlV,itAs,itA,toBytes,e]
  (repeat (first|exact Wk.refl _|exact WkL.refl _|exact Wk.nil|exact Wk.row|exact WkE.refl _|exact WkL.nil|exact WkE.nil|apply Wk.agg|apply Wk.tuple|apply WkL.cons|apply Wk.rows|apply WkE.consA))
theorem g_dat8_sem (o:Ob):SC 172 [obA o,.fptr [nI 8] 0] (.fsl false (itAs (getK o (.dat 8)))):=by
 refine fnK_semE (A:=aidJ [] [] noSem inlG []) base0 aidJ_ok (fnLs_of (LsOk.no rfl)) (closed_oc o rfl) ?_
 have h:=g_dat8 o (matA o) (namA o) (lnkA o) (cusA o) (endV (.fsl false (itAs (getK o (.dat 8)))))
 simp only[obA,obC]
 rw[show (nI 8:AV)=I 8 from rfl,h]
 refine mtB_of (fun e=> ?_) (fun e=> ?_)
 all_goals
  refine ⟨by simp[closedAll,closedA], ?_⟩
  first|rw[Bool.not_eq_true'] at e|rw[Bool.not_eq_false'] at e
  simp only[getK,oneL,dateAt,numI,vlV,itAs,itA,toBytes,e]
  (repeat (first|exact Wk.refl _|exact WkL.refl _|exact Wk.nil|exact Wk.row|exact WkE.refl _|exact WkL.nil|exact WkE.nil|apply Wk.agg|apply Wk.tuple|apply WkL.cons|apply Wk.rows|apply WkE.consA))
theorem g_dat9_sem (o:Ob):SC 172 [obA o,.fptr [nI 9] 0] (.fsl false (itAs (getK o (.dat 9)))):=by
 refine fnK_semE (A:=aidJ [] [] noSem inlG []) base0 aidJ_ok (fnLs_of (LsOk.no rfl)) (closed_oc o rfl) ?_
 have h:=g_dat9 o (matA o) (namA o) (lnkA o) (cusA o) (endV (.fsl false (itAs (getK o (.dat 9)))))
 simp only[obA,obC]
 rw[show (nI 9:AV)=I 9 from rfl,h]
 refine mtB_of (fun e=> ?_) (fun e=> ?_)
 all_goals
  refine ⟨by simp[closedAll,closedA], ?_⟩
  first|rw[Bool.not_eq_true'] at e|rw[Bool.not_eq_false'] at e
  simp only[getK,oneL,dateAt,numI,vlV,itAs,itA,toBytes,e]
  (repeat (first|exact Wk.refl _|exact WkL.refl _|exact Wk.nil|exact Wk.row|exact WkE.refl _|exact WkL.nil|exact WkE.nil|apply Wk.agg|apply Wk.tuple|apply WkL.cons|apply Wk.rows|apply WkE.consA))
theorem g_lim_sem (o:Ob):SC 184 [obA o] (.fsl false (itAs (getK o .lim))):=by
 refine fnK_semE (A:=aidJ [] [] noSem inlG []) base0 aidJ_ok (fnLs_of (LsOk.no rfl)) (closed_o o) ?_
 simp only[obA,obC]
 rw[g_lim]
 refine mtB_of (fun e=> ?_) (fun e=> ?_)
 all_goals
  refine ⟨by simp[closedAll,closedA], ?_⟩
  first|rw[Bool.not_eq_true'] at e|rw[Bool.not_eq_false'] at e
  simp only[getK,oneL,limI,whl,prt,vlV,itAs,itA,toBytes,e]
  (repeat (first|exact Wk.refl _|exact WkL.refl _|exact Wk.nil|exact Wk.row|exact WkE.refl _|exact WkL.nil|exact WkE.nil|apply Wk.agg|apply Wk.tuple|apply WkL.cons|apply Wk.rows|apply WkE.consA))
theorem g_why_sem (o:Ob):SC 138 [obA o] (.fsl false (itAs (getK o .why))):=by
 refine fnK_semX (A:=aidJ [] [] noSem inlG []) base0 aidJ_ok (fnLs_of (LsOk.no rfl)) (closed_o o) ?_
 simp only[obA,obC]
 rw[g_why]
 refine mtB_of (fun e=>mtB_of (fun e2=> ?_) (fun e2=> ?_)) (fun e=>mtB_of (fun e2=> ?_) (fun e2=> ?_))
 ·refine ⟨.nilsl,⟨1,rfl⟩,rfl, ?_⟩
  rw[Bool.not_eq_true'] at e2
  simp only[getK,oneL,e2,itAs]
  exact .nil
 ·rw[Bool.not_eq_false'] at e2
  have hm:msgI o.msg=[.mk 4325504 7 0 o.msg []]:=by
   cases hm:o.msg with
   |nil=>rw[hm] at e;cases e
   |cons a r=>rfl
  refine ⟨.fsl true [.agg [I 4325387,I 1,I 0,.nilsl,.fsl false [.agg [I 4325506,I 5,I o.why,.nilsl,.nilsl],.agg [I 4325504,I 7,I 0,.fsl false (toBytes o.msg),.nilsl]]]],Frz.out (Frz.fsl (FrzL.cons (Frz.agg (FrzL.cons (Frz.closed _ rfl) (FrzL.cons (Frz.closed _ rfl) (FrzL.cons (Frz.closed _ rfl) (FrzL.cons (Frz.closed _ rfl) (FrzL.cons (Frz.row (es:=[.agg [I 4325506,I 5,I o.why,.nilsl,.nilsl],.agg [I 4325504,I 7,I 0,.fsl false (toBytes o.msg),.nilsl]]) rfl rfl rfl rfl ?_ ?_) FrzL.nil)))))) FrzL.nil)), ?_, ?_⟩
  ·simp only[List.forall_mem_cons];exact ⟨⟨rfl,rfl⟩,⟨rfl,rfl⟩,fun _ h=>by cases h⟩
  ·simp[closedAll,closedA]
  ·simp[closedAll,closedA]
  ·simp only[getK,oneL,e2,whyI,hm,whl,prt,vlV,itAs,itA,toBytes]
   (repeat (first|exact Wk.refl _|exact WkL.refl _|exact Wk.nil|exact Wk.row|exact WkE.refl _|exact WkL.nil|exact WkE.nil|apply Wk.agg|apply Wk.tuple|apply WkL.cons|apply Wk.rows|apply WkE.consA))
 ·refine ⟨.nilsl,⟨1,rfl⟩,rfl, ?_⟩
  rw[Bool.not_eq_true'] at e2
  simp only[getK,oneL,e2,itAs]
  exact .nil
 ·rw[Bool.not_eq_false'] at e2
  have hm:msgI o.msg=[]:=by
   cases hm:o.msg with
   |nil=>rfl
   |cons a r=>rw[hm] at e;cases e
  refine ⟨_,Frz.out (Frz.closed _ ?_), ?_, ?_⟩
  ·simp[closedAll,closedA]
  ·simp[closedAll,closedA]
  ·simp only[getK,oneL,e2,whyI,hm,whl,prt,vlV,itAs,itA,toBytes]
   (repeat (first|exact Wk.refl _|exact WkL.refl _|exact Wk.nil|exact Wk.row|exact WkE.refl _|exact WkL.nil|exact WkE.nil|apply Wk.agg|apply Wk.tuple|apply WkL.cons|apply Wk.rows|apply WkE.consA))
theorem get_sem {k:Kd} (hk:kdB k=true) {o:Ob} (ho:FitO o):SC (gfn k) (obA o::gcp k) (.fsl false (itAs (getK o k))):=by
 cases k with
 |uid=>exact g_uid_sem o
 |nam=>exact gN_sem o (closed_mat o) (closed_lnk o) (closed_cusA o) o.names ho.n
 |typ=>exact g_typ_sem o
 |alg=>exact g_alg_sem o
 |len=>exact g_len_sem o
 |mask=>exact g_mask_sem o
 |sta=>exact g_sta_sem o
 |why=>exact g_why_sem o
 |lnk=>exact gL_sem o (closed_mat o) (closed_nam o) (closed_cusA o) o.links ho.l
 |lim=>exact g_lim_sem o
 |cus s=>exact g_cus_sem o s (by have:=ho.c;show _≤1099511627776;omega)
 |dat k=>
  match k,hk with
  |0,_=>exact g_dat0_sem o
  |1,_=>exact g_dat1_sem o
  |2,_=>exact g_dat2_sem o
  |3,_=>exact g_dat3_sem o
  |4,_=>exact g_dat4_sem o
  |5,_=>exact g_dat5_sem o
  |6,_=>exact g_dat6_sem o
  |7,_=>exact g_dat7_sem o
  |8,_=>exact g_dat8_sem o
  |9,_=>exact g_dat9_sem o
  |k+10,hk=>exact absurd (blt_iff.1 hk) (by omega)
def placeAt (o:Ob) (s:List UInt8) (i:Nat):Nat:=((placesL s o.cust 0++[o.cust.length])[i]?).getD 0
def kid (v:It) (i:Nat):It:=((itK v)[i]?).getD v
def putK (o:Ob) (i:Nat) (v:It):Kd→Ob
 | .nam=>{o with names:=putL o.names i (itD v)}
 | .alg=>{o with alg:=itN v}
 | .len=>{o with len:=itN v}
 | .mask=>{o with mask:=itN v}
 | .dat k=>setDate o ⟨true,itN v⟩ k
 | .lnk=>{o with links:=putL o.links i ⟨itN (kid v 0),itD (kid v 1)⟩}
 | .lim=>{o with lh:=true,lt:=itN (kid v 0),lc:=itN (kid v 1),lu:=itN (kid v 2)}
 | .cus s=>{o with cust:=putL o.cust (placeAt o s i) ⟨s,itD v⟩}
 |_=>o
def idxOk (o:Ob) (j:Nat):Kd→Prop
 | .nam=>j≤o.names.length∧j<6
 | .lnk=>j≤o.links.length∧j<8
 | .cus s=>j<(placesL s o.cust 0).length∨j=(placesL s o.cust 0).length∧o.cust.length<6
 |_=>True
def pfn:Kd→Nat
 | .nam=>168
 | .dat _=>174
 | .lnk=>180
 | .lim=>187
 | .cus _=>154
 |_=>164
def pcp:Kd→List AV
 | .dat k=>[.fptr [nI k] 0]
 | .cus s=>[.fptr [.str s] 0]
 | .alg=>[.fptr [atF .alg] 0]
 | .len=>[.fptr [atF .len] 0]
 | .mask=>[.fptr [atF .mask] 0]
 |_=>[]
theorem putF_eq {k:Kd} (h:putB k=true):putF k=fnC (pfn k) (pcp k):=by cases k<;>first|rfl|cases h
theorem end_obj {k b nx2 m:Nat} {h:Heap} {O O':List AV} (hb:Nat.blt b k=true) (hm:Nat.ble m nx2=true) (hg:hget h b=some (.cells O)) (e:O=O') (hc:closedAll O'=true):EndB k (.tuple []) [(b,some (.cells O'))] nx2 (.tuple []) h m:=by
 subst e
 exact ⟨hm,⟨.tuple [],Frz.closed _ rfl,.refl _⟩,⟨hb,.cells O,.cells O,hg,FrzL.closed _ hc,.refl _⟩,trivial⟩
abbrev PutSem (f:Nat) (c:List AV) (o:Ob) (j:Nat) (v:It) (o':Ob):Prop:=BodySem Tryz.prog opts0.glob f (.ptr 1 0::nI j::itA v::c) [(1,some (.cells (obC o)))] 15 (.tuple []) [(1,some (.cells (obC o')))] 115
theorem p_nam_sem {o:Ob} (ho:FitO o) {j:Nat} (h1:j≤o.names.length) (h2:j<6) (v:It):PutSem 168 [] o j v (putK o j v .nam):=by
 have hp:=putS_sem o.names j (itD v) h1 ho.n h2
 obtain ⟨t,y,n,d,ks⟩:=v
 refine fnK_bodyX (k:=2) (A:=aidJ [] [] (manyS [(169,.fsl false ((putL o.names j d).map .str))]) [] []) base0 aidJ_ok (fnLs_of (LsOk.no rfl)) ?_
 rw[itA_F]
 simp only[obC,nI]
 rw[p_nam]
 refine oblB_of (by simp) ⟨by rw[strOf_toBytes];exact hp, ?_⟩
 exact end_obj rfl rfl rfl rfl (closed_obC _)
theorem p_dat1_sem (o:Ob) (j:Nat) (v:It):PutSem 174 [.fptr [nI 1] 0] o j v (putK o j v (.dat 1)):=by
 obtain ⟨t,y,n,d,ks⟩:=v
 refine fnK_bodyX (k:=2) (A:=aid0) base0 aidOk0 (fnLs_of (LsOk.no rfl)) ?_
 rw[itA_F,show (nI 1:AV)=I 1 from rfl]
 simp only[obC,nI]
 rw[p_dat1]
 exact end_obj rfl rfl rfl rfl (closed_obC _)
theorem p_dat2_sem (o:Ob) (j:Nat) (v:It):PutSem 174 [.fptr [nI 2] 0] o j v (putK o j v (.dat 2)):=by
 obtain ⟨t,y,n,d,ks⟩:=v
 refine fnK_bodyX (k:=2) (A:=aid0) base0 aidOk0 (fnLs_of (LsOk.no rfl)) ?_
 rw[itA_F,show (nI 2:AV)=I 2 from rfl]
 simp only[obC,nI]
 rw[p_dat2]
 exact end_obj rfl rfl rfl rfl (closed_obC _)
theorem p_dat3_sem (o:Ob) (j:Nat) (v:It):PutSem 174 [.fptr [nI 3] 0] o j v (putK o j v (.dat 3)):=by
 obtain ⟨t,y,n,d,ks⟩:=v
 refine fnK_bodyX (k:=2) (A:=aid0) base0 aidOk0 (fnLs_of (LsOk.no rfl)) ?_
 rw[itA_F,show (nI 3:AV)=I 3 from rfl]
 simp only[obC,nI]
 rw[p_dat3]
 exact end_obj rfl rfl rfl rfl (closed_obC _)
theorem p_dat4_sem (o:Ob) (j:Nat) (v:It):PutSem 174 [.fptr [nI 4] 0] o j v (putK o j v (.dat 4)):=by
 obtain ⟨t,y,n,d,ks⟩:=v
 refine fnK_bodyX (k:=2) (A:=aid0) base0 aidOk0 (fnLs_of (LsOk.no rfl)) ?_
 rw[itA_F,show (nI 4:AV)=I 4 from rfl]
 simp only[obC,nI]
 rw[p_dat4]
 exact end_obj rfl rfl rfl rfl (closed_obC _)
theorem p_alg_sem (o:Ob) (j:Nat) (v:It):PutSem 164 [.fptr [atF .alg] 0] o j v (putK o j v .alg):=by
 obtain ⟨t,y,n,d,ks⟩:=v
 refine fnK_bodyX (k:=2) (A:=aidJ [] [] noSem [132] []) base0 aidJ_ok (fnLs_of (LsOk.no rfl)) ?_
 rw[itA_F]
 simp only[obC,nI,atF]
 rw[p_alg]
 exact end_obj rfl rfl rfl rfl (closed_obC _)
theorem p_len_sem (o:Ob) (j:Nat) (v:It):PutSem 164 [.fptr [atF .len] 0] o j v (putK o j v .len):=by
 obtain ⟨t,y,n,d,ks⟩:=v
 refine fnK_bodyX (k:=2) (A:=aidJ [] [] noSem [133] []) base0 aidJ_ok (fnLs_of (LsOk.no rfl)) ?_
 rw[itA_F]
 simp only[obC,nI,atF]
 rw[p_len]
 exact end_obj rfl rfl rfl rfl (closed_obC _)
theorem p_mask_sem (o:Ob) (j:Nat) (v:It):PutSem 164 [.fptr [atF .mask] 0] o j v (putK o j v .mask):=by
 obtain ⟨t,y,n,d,ks⟩:=v
 refine fnK_bodyX (k:=2) (A:=aidJ [] [] noSem [124] []) base0 aidJ_ok (fnLs_of (LsOk.no rfl)) ?_
 rw[itA_F]
 simp only[obC,nI,atF]
 rw[p_mask]
 exact end_obj rfl rfl rfl rfl (closed_obC _)
theorem p_lnk_sem {o:Ob} (ho:FitO o) {j:Nat} (h1:j≤o.links.length) (h2:j<8) {v:It} (hv:lkB (itK v)=true):PutSem 180 [] o j v (putK o j v .lnk):=by
 obtain ⟨t,y,n,d,ks⟩:=v
 match ks,hv with
 |[⟨t0,y0,n0,d0,k0⟩,⟨t1,y1,n1,d1,k1⟩],_=>
  have hp:=putL_sem o.links j ⟨n0,d1⟩ h1 ho.l h2
  refine fnK_bodyX (k:=2) (A:=plkA (itF t0 y0 n0 (toBytes d0) (itAs k0)) (itF t1 y1 n1 (toBytes d1) (itAs k1)) ((putL o.links j ⟨n0,d1⟩).map lkA)) base0 aidJ_ok (fnLs_of (LsOk.no rfl)) ?_
  rw[itA_F]
  simp only[obC,nI]
  rw[p_lnk]
  refine ⟨idxI (i:=0) rfl,idxI (i:=1) rfl,oblB_of (by simp) ⟨by rw[strOf_toBytes];exact hp, ?_⟩⟩
  exact end_obj rfl rfl rfl rfl (closed_obC _)
theorem p_lim_sem (o:Ob) (j:Nat) {v:It} (hv:liB (itK v)=true):PutSem 187 [] o j v (putK o j v .lim):=by
 obtain ⟨t,y,n,d,ks⟩:=v
 match ks,hv with
 |[⟨t0,y0,n0,d0,k0⟩,⟨t1,y1,n1,d1,k1⟩,⟨t2,y2,n2,d2,k2⟩],_=>
  refine fnK_bodyX (k:=2) (A:=pliA (itF t0 y0 n0 (toBytes d0) (itAs k0)) (itF t1 y1 n1 (toBytes d1) (itAs k1)) (itF t2 y2 n2 (toBytes d2) (itAs k2))) base0 aidJ_ok (fnLs_of (LsOk.no rfl)) ?_
  rw[itA_F]
  simp only[obC,nI]
  rw[p_lim]
  refine ⟨idxI (i:=0) rfl,idxI (i:=1) rfl,idxI (i:=2) rfl, ?_⟩
  exact end_obj rfl rfl rfl rfl (closed_obC _)
theorem intT:isAggA Tryz.prog 3=some false:=by kernel_rfl
theorem part_nI {l:List Nat} {j q:Nat} (h:l[j]? =some q):partA Tryz.prog 3 (l.map nI) j=some (nI q):=by
 simp only[partA,intT,getN_eq,List.getElem?_map,h,Option.map_some]
theorem idxR {own:Bool} {id len j:Nat} (h:j<len):indexAddrA Tryz.prog 190 (.rsl own id 0 len 1) (.int .i64 (.ofNat j))=some (.ptr id j):=by
 have h1:Tryz.prog.underlying 190=some (.slice 3):=by kernel_rfl
 have h2:sizeA Tryz.prog 3=some 1:=by kernel_rfl
 simp only[indexAddrA,natOf,h1,h2,Option.bind_eq_bind,Option.bind_some,blt_iff.2 h,Bool.true_and,Nat.zero_add,Nat.mul_one]
 rfl
theorem place_le {o:Ob} {s:List UInt8} {j:Nat} (h:j≤(placesL s o.cust 0).length):(placesL s o.cust 0++[o.cust.length])[j]? =some (placeAt o s j)∧placeAt o s j≤o.cust.length∧(j<(placesL s o.cust 0).length→placeAt o s j<o.cust.length):=by
 have hj:j<(placesL s o.cust 0++[o.cust.length]).length:=by simp;omega
 have e:=List.getElem?_eq_getElem hj
 have e2:(placesL s o.cust 0++[o.cust.length])[j]? =some (placeAt o s j):=by rw[e,placeAt,e];rfl
 refine ⟨e2, ?_,fun hlt=> ?_⟩
 ·have hm:=List.mem_of_getElem? e2
  rcases List.mem_append.1 hm with hm|hm
  ·have:=placesL_lt s o.cust 0 _ hm;omega
  ·simp at hm;omega
 ·rw[List.getElem?_append_left hlt] at e2
  have:=placesL_lt s o.cust 0 _ (List.mem_of_getElem? e2)
  omega
set_option maxRecDepth 20000 in
theorem p_cus_sem {o:Ob} (ho:FitO o) {j:Nat} {s:List UInt8} (hj:idxOk o j (.cus s)) (v:It):PutSem 154 [.fptr [.str s] 0] o j v (putK o j v (.cus s)):=by
 have hb:o.cust.length≤big:=by have:=ho.c;show _≤1099511627776;omega
 have hpl:=places_body o (M:=matA o) (N:=namA o) (L:=lnkA o) s 29 (closed_mat o) (closed_nam o) (closed_lnk o) hb
 have hln:=placesL_len s o.cust 0
 have hj':j≤(placesL s o.cust 0).length:=by rcases hj with h|h<;>omega
 obtain ⟨e1,e2,e3⟩:=place_le hj'
 have hq:placeAt o s j<6:=by
  have:=ho.c
  rcases hj with h|h
  ·have:=e3 h;omega
  ·omega
 have hput:=putC_sem o.cust (placeAt o s j) ⟨s,itD v⟩ e2 ho.c hq
 obtain ⟨t,y,n,d,ks⟩:=v
 have hlen:lenN (o.cust.map cuA)=o.cust.length:=by rw[lenN_eq,List.length_map]
 simp only[putK]
 revert hpl e1 hln hput hj'
 generalize placeAt o s j=q
 cases placesL s o.cust 0 with
 |nil=>
  intro hpl hln hj' e1 hput
  obtain rfl:j=0:=by simpa using hj'
  refine fnK_bodyX (k:=2) (A:=aidJ [(2,7,.res (.ptr 27 0)),(2,8,.ld (nI q))] [] (pcS [] ((putL o.cust q ⟨s,d⟩).map cuA)) [] []) base0 aidJ_ok (fnLs_of (LsOk.no rfl)) ?_
  rw[itA_F,show (nI 0:AV)=I (.ofNat 0) from rfl]
  simp only[obC,cusA]
  rw[p_cus0 (_b:=0)]
  rw[hlen]
  refine ⟨hpl,idxR (by simp[lenN]),part_nI (l:=[o.cust.length]) e1,oblB_of (by simp) ⟨by rw[strOf_toBytes];exact hput, ?_⟩⟩
  exact end_obj rfl rfl rfl rfl (closed_obC _)
 | cons p r=>
  intro hpl hln hj' e1 hput
  refine fnK_bodyX (k:=2) (A:=aidJ [(2,7,.res (.ptr 27 j)),(2,8,.ld (nI q))] [] (pcS ((p::r).map nI) ((putL o.cust q ⟨s,d⟩).map cuA)) [] []) base0 aidJ_ok (fnLs_of (LsOk.no rfl)) ?_
  rw[itA_F,show (nI j:AV)=I (.ofNat j) from rfl,List.map_cons]
  simp only[obC,cusA]
  rw[p_cus1 (_b:=0),hlen]
  have hl2:lenN (nI p::r.map nI)=r.length+1:=by rw[lenN_eq];simp
  have hc6:=ho.c
  simp only[List.length_cons] at hln hj'
  refine ⟨?_,oblB_of ?_ (oblB_of (by rw[Nat.mul_one];exact beq_iff.2 rfl) ⟨?_, ?_,oblB_of (by simp) ⟨by rw[strOf_toBytes];exact hput, ?_⟩⟩)⟩
  ·rw[hl2];exact hpl
  ·rw[hl2]
   have:(r.length+1+1)*8≤140737488355328:=by omega
   simp only[Bool.and_eq_true,Nat.ble_eq]
   exact ⟨rfl,this,rfl,trivial⟩
  ·refine idxR ?_
   rw[hl2]
   show j<r.length+1+1
   omega
  ·have:=part_nI (l:=p::r++[o.cust.length]) e1
   simpa [nI,flat,AV.cells] using this
  ·exact end_obj rfl rfl rfl rfl (closed_obC _)
theorem put_sem {k:Kd} (hk:setK k=true) {o:Ob} (ho:FitO o) {j:Nat} (hj:idxOk o j k) {v:It} (hv:rightK o v k=true):PutSem (pfn k) (pcp k) o j v (putK o j v k):=by
 cases k with
 |nam=>exact p_nam_sem ho hj.1 hj.2 v
 |alg=>exact p_alg_sem o j v
 |len=>exact p_len_sem o j v
 |mask=>exact p_mask_sem o j v
 |lnk=>
  simp only[rightK,Bool.and_eq_true] at hv
  exact p_lnk_sem ho hj.1 hj.2 hv.2
 |lim=>
  simp only[rightK,Bool.and_eq_true] at hv
  exact p_lim_sem o j hv.2.1
 |cus s=>exact p_cus_sem ho hj v
 | dat k=>
  match k,hk with
  |1,_=>exact p_dat1_sem o j v
  |2,_=>exact p_dat2_sem o j v
  |3,_=>exact p_dat3_sem o j v
  |4,_=>exact p_dat4_sem o j v
  |k+5,hk=>
   simp only[setK,setD,Bool.and_eq_true,Nat.ble_eq] at hk
   omega
 |_=>cases hk
theorem cus_len (o:Ob) (s:List UInt8):(getK o (.cus s)).length=(placesL s o.cust 0).length:=by
 have h:=texts_at s o.cust []
 simp only[List.length_nil,List.nil_append] at h
 have h:=congrArg List.length h
 simp only[List.length_map] at h
 simp only[getK,List.length_map,h]
theorem w_roomN_sem (o:Ob):SC 165 [obA o] (.bool (Nat.blt o.names.length 6)):=by
 refine fnK_semV (A:=aid0) base0 aidOk0 (fnLs_of (LsOk.no rfl)) (closed_o o) rfl ?_
 simp only[obA,obC,namA,lnkA,cusA]
 rw[w_roomN]
 rw[lenN_eq,List.length_map]
 refine congrArg AV.bool ?_
 rw[Bool.eq_iff_iff,ltInt_iff,blt_iff]
 simp only[Int.ofNat_eq_natCast]
 omega
theorem w_roomL_sem (o:Ob):SC 177 [obA o] (.bool (Nat.blt o.links.length 8)):=by
 refine fnK_semV (A:=aid0) base0 aidOk0 (fnLs_of (LsOk.no rfl)) (closed_o o) rfl ?_
 simp only[obA,obC,namA,lnkA,cusA]
 rw[w_roomL]
 rw[lenN_eq,List.length_map]
 refine congrArg AV.bool ?_
 rw[Bool.eq_iff_iff,ltInt_iff,blt_iff]
 simp only[Int.ofNat_eq_natCast]
 omega
theorem w_roomC_sem (o:Ob):SC 149 [obA o] (.bool (Nat.blt o.cust.length 6)):=by
 refine fnK_semV (A:=aid0) base0 aidOk0 (fnLs_of (LsOk.no rfl)) (closed_o o) rfl ?_
 simp only[obA,obC,namA,lnkA,cusA]
 rw[w_roomC]
 rw[lenN_eq,List.length_map]
 refine congrArg AV.bool ?_
 rw[Bool.eq_iff_iff,ltInt_iff,blt_iff]
 simp only[Int.ofNat_eq_natCast]
 omega
end Go.Proofs.YtjhggnebkfpgcaaGreatDoor
namespace Go.Proofs.YtjhggnebkfpgcaaGreatDoor
set_option maxRecDepth 20000
open Go Go.RowKit
open Go.Proofs.Abs
noncomputable section
abbrev yr1 (Q:AV→Prop) (o:Ob):=(Q (AV.bool !ltInt o.d3.2 o.d2.2))
theorem sound_fn (o:Ob) (M N L C:AV) (Q:AV→Prop):fnK Tryz.prog opts0 40 (aidJ [] [] noSem [] [74]) 26 [.agg (obF o M N L C)] [] 0 (fun v _ _=>Q v)=
  (mtB (!o.d1.1) (mtB (!o.d1.1) (mtB (!o.d3.1) (mtB (!o.d2.1) (Q (AV.bool true)) (mtB (!o.d3.1) (Q (AV.bool true)) (yr1 Q o))) (mtB (!o.d4.1) (mtB (!o.d2.1) (Q (AV.bool true)) (mtB (!o.d3.1) (Q (AV.bool true)) (yr1 Q o))) (mtB (!ltInt o.d4.2 o.d3.2) (mtB (!o.d2.1) (Q (AV.bool true)) (mtB (!o.d3.1) (Q (AV.bool true)) (yr1 Q o))) (Q (AV.bool false))))) (mtB (!o.d2.1) (mtB (!o.d3.1) (mtB (!o.d2.1) (Q (AV.bool true)) (mtB (!o.d3.1) (Q (AV.bool true)) (yr1 Q o))) (mtB (!o.d4.1) (mtB (!o.d2.1) (Q (AV.bool true)) (mtB (!o.d3.1) (Q (AV.bool true)) (yr1 Q o))) (mtB (!ltInt o.d4.2 o.d3.2) (mtB (!o.d2.1) (Q (AV.bool true)) (mtB (!o.d3.1) (Q (AV.bool true)) (yr1 Q o))) (Q (AV.bool false))))) (mtB (!ltInt o.d2.2 o.d1.2) (mtB (!o.d3.1) (mtB (!o.d2.1) (Q (AV.bool true)) (mtB (!o.d3.1) (Q (AV.bool true)) (yr1 Q o))) (mtB (!o.d4.1) (mtB (!o.d2.1) (Q (AV.bool true)) (mtB (!o.d3.1) (Q (AV.bool true)) (yr1 Q o))) (mtB (!ltInt o.d4.2 o.d3.2) (mtB (!o.d2.1) (Q (AV.bool true)) (mtB (!o.d3.1) (Q (AV.bool true)) (yr1 Q o))) (Q (AV.bool false))))) (Q (AV.bool false))))) (mtB (!o.d4.1) (mtB (!o.d1.1) (mtB (!o.d3.1) (mtB (!o.d2.1) (Q (AV.bool true)) (mtB (!o.d3.1) (Q (AV.bool true)) (yr1 Q o))) (mtB (!o.d4.1) (mtB (!o.d2.1) (Q (AV.bool true)) (mtB (!o.d3.1) (Q (AV.bool true)) (yr1 Q o))) (mtB (!ltInt o.d4.2 o.d3.2) (mtB (!o.d2.1) (Q (AV.bool true)) (mtB (!o.d3.1) (Q (AV.bool true)) (yr1 Q o))) (Q (AV.bool false))))) (mtB (!o.d2.1) (mtB (!o.d3.1) (mtB (!o.d2.1) (Q (AV.bool true)) (mtB (!o.d3.1) (Q (AV.bool true)) (yr1 Q o))) (mtB (!o.d4.1) (mtB (!o.d2.1) (Q (AV.bool true)) (mtB (!o.d3.1) (Q (AV.bool true)) (yr1 Q o))) (mtB (!ltInt o.d4.2 o.d3.2) (mtB (!o.d2.1) (Q (AV.bool true)) (mtB (!o.d3.1) (Q (AV.bool true)) (yr1 Q o))) (Q (AV.bool false))))) (mtB (!ltInt o.d2.2 o.d1.2) (mtB (!o.d3.1) (mtB (!o.d2.1) (Q (AV.bool true)) (mtB (!o.d3.1) (Q (AV.bool true)) (yr1 Q o))) (mtB (!o.d4.1) (mtB (!o.d2.1) (Q (AV.bool true)) (mtB (!o.d3.1) (Q (AV.bool true)) (yr1 Q o))) (mtB (!ltInt o.d4.2 o.d3.2) (mtB (!o.d2.1) (Q (AV.bool true)) (mtB (!o.d3.1) (Q (AV.bool true)) (yr1 Q o))) (Q (AV.bool false))))) (Q (AV.bool false))))) (mtB (!ltInt o.d4.2 o.d1.2) (mtB (!o.d1.1) (mtB (!o.d3.1) (mtB (!o.d2.1) (Q (AV.bool true)) (mtB (!o.d3.1) (Q (AV.bool true)) (yr1 Q o))) (mtB (!o.d4.1) (mtB (!o.d2.1) (Q (AV.bool true)) (mtB (!o.d3.1) (Q (AV.bool true)) (yr1 Q o))) (mtB (!ltInt o.d4.2 o.d3.2) (mtB (!o.d2.1) (Q (AV.bool true)) (mtB (!o.d3.1) (Q (AV.bool true)) (yr1 Q o))) (Q (AV.bool false))))) (mtB (!o.d2.1) (mtB (!o.d3.1) (mtB (!o.d2.1) (Q (AV.bool true)) (mtB (!o.d3.1) (Q (AV.bool true)) (yr1 Q o))) (mtB (!o.d4.1) (mtB (!o.d2.1) (Q (AV.bool true)) (mtB (!o.d3.1) (Q (AV.bool true)) (yr1 Q o))) (mtB (!ltInt o.d4.2 o.d3.2) (mtB (!o.d2.1) (Q (AV.bool true)) (mtB (!o.d3.1) (Q (AV.bool true)) (yr1 Q o))) (Q (AV.bool false))))) (mtB (!ltInt o.d2.2 o.d1.2) (mtB (!o.d3.1) (mtB (!o.d2.1) (Q (AV.bool true)) (mtB (!o.d3.1) (Q (AV.bool true)) (yr1 Q o))) (mtB (!o.d4.1) (mtB (!o.d2.1) (Q (AV.bool true)) (mtB (!o.d3.1) (Q (AV.bool true)) (yr1 Q o))) (mtB (!ltInt o.d4.2 o.d3.2) (mtB (!o.d2.1) (Q (AV.bool true)) (mtB (!o.d3.1) (Q (AV.bool true)) (yr1 Q o))) (Q (AV.bool false))))) (Q (AV.bool false))))) (Q (AV.bool false))))):=by kernel_rfl
theorem soundr_fn (o:Ob) (M N L C:AV) (Q:AV→Prop):fnK Tryz.prog opts0 40 (aidJ [] [] noSem [96] []) 49 [.agg (obF o M N L C)] [] 0 (fun v _ _=>Q v)=
  (mtB (!o.d1.1) (mtB (!o.d1.1) (mtB (!o.d3.1) (mtB (!o.d2.1) (Q (AV.bool true)) (mtB (!o.d3.1) (Q (AV.bool true)) (yr1 Q o))) (mtB (!o.d4.1) (mtB (!o.d2.1) (Q (AV.bool true)) (mtB (!o.d3.1) (Q (AV.bool true)) (yr1 Q o))) (mtB (!ltInt o.d4.2 o.d3.2) (mtB (!o.d2.1) (Q (AV.bool true)) (mtB (!o.d3.1) (Q (AV.bool true)) (yr1 Q o))) (Q (AV.bool false))))) (mtB (!o.d2.1) (mtB (!o.d3.1) (mtB (!o.d2.1) (Q (AV.bool true)) (mtB (!o.d3.1) (Q (AV.bool true)) (yr1 Q o))) (mtB (!o.d4.1) (mtB (!o.d2.1) (Q (AV.bool true)) (mtB (!o.d3.1) (Q (AV.bool true)) (yr1 Q o))) (mtB (!ltInt o.d4.2 o.d3.2) (mtB (!o.d2.1) (Q (AV.bool true)) (mtB (!o.d3.1) (Q (AV.bool true)) (yr1 Q o))) (Q (AV.bool false))))) (mtB (!ltInt o.d2.2 o.d1.2) (mtB (!o.d3.1) (mtB (!o.d2.1) (Q (AV.bool true)) (mtB (!o.d3.1) (Q (AV.bool true)) (yr1 Q o))) (mtB (!o.d4.1) (mtB (!o.d2.1) (Q (AV.bool true)) (mtB (!o.d3.1) (Q (AV.bool true)) (yr1 Q o))) (mtB (!ltInt o.d4.2 o.d3.2) (mtB (!o.d2.1) (Q (AV.bool true)) (mtB (!o.d3.1) (Q (AV.bool true)) (yr1 Q o))) (Q (AV.bool false))))) (Q (AV.bool false))))) (mtB (!o.d4.1) (mtB (!o.d1.1) (mtB (!o.d3.1) (mtB (!o.d2.1) (Q (AV.bool true)) (mtB (!o.d3.1) (Q (AV.bool true)) (yr1 Q o))) (mtB (!o.d4.1) (mtB (!o.d2.1) (Q (AV.bool true)) (mtB (!o.d3.1) (Q (AV.bool true)) (yr1 Q o))) (mtB (!ltInt o.d4.2 o.d3.2) (mtB (!o.d2.1) (Q (AV.bool true)) (mtB (!o.d3.1) (Q (AV.bool true)) (yr1 Q o))) (Q (AV.bool false))))) (mtB (!o.d2.1) (mtB (!o.d3.1) (mtB (!o.d2.1) (Q (AV.bool true)) (mtB (!o.d3.1) (Q (AV.bool true)) (yr1 Q o))) (mtB (!o.d4.1) (mtB (!o.d2.1) (Q (AV.bool true)) (mtB (!o.d3.1) (Q (AV.bool true)) (yr1 Q o))) (mtB (!ltInt o.d4.2 o.d3.2) (mtB (!o.d2.1) (Q (AV.bool true)) (mtB (!o.d3.1) (Q (AV.bool true)) (yr1 Q o))) (Q (AV.bool false))))) (mtB (!ltInt o.d2.2 o.d1.2) (mtB (!o.d3.1) (mtB (!o.d2.1) (Q (AV.bool true)) (mtB (!o.d3.1) (Q (AV.bool true)) (yr1 Q o))) (mtB (!o.d4.1) (mtB (!o.d2.1) (Q (AV.bool true)) (mtB (!o.d3.1) (Q (AV.bool true)) (yr1 Q o))) (mtB (!ltInt o.d4.2 o.d3.2) (mtB (!o.d2.1) (Q (AV.bool true)) (mtB (!o.d3.1) (Q (AV.bool true)) (yr1 Q o))) (Q (AV.bool false))))) (Q (AV.bool false))))) (mtB (!ltInt o.d4.2 o.d1.2) (mtB (!o.d1.1) (mtB (!o.d3.1) (mtB (!o.d2.1) (Q (AV.bool true)) (mtB (!o.d3.1) (Q (AV.bool true)) (yr1 Q o))) (mtB (!o.d4.1) (mtB (!o.d2.1) (Q (AV.bool true)) (mtB (!o.d3.1) (Q (AV.bool true)) (yr1 Q o))) (mtB (!ltInt o.d4.2 o.d3.2) (mtB (!o.d2.1) (Q (AV.bool true)) (mtB (!o.d3.1) (Q (AV.bool true)) (yr1 Q o))) (Q (AV.bool false))))) (mtB (!o.d2.1) (mtB (!o.d3.1) (mtB (!o.d2.1) (Q (AV.bool true)) (mtB (!o.d3.1) (Q (AV.bool true)) (yr1 Q o))) (mtB (!o.d4.1) (mtB (!o.d2.1) (Q (AV.bool true)) (mtB (!o.d3.1) (Q (AV.bool true)) (yr1 Q o))) (mtB (!ltInt o.d4.2 o.d3.2) (mtB (!o.d2.1) (Q (AV.bool true)) (mtB (!o.d3.1) (Q (AV.bool true)) (yr1 Q o))) (Q (AV.bool false))))) (mtB (!ltInt o.d2.2 o.d1.2) (mtB (!o.d3.1) (mtB (!o.d2.1) (Q (AV.bool true)) (mtB (!o.d3.1) (Q (AV.bool true)) (yr1 Q o))) (mtB (!o.d4.1) (mtB (!o.d2.1) (Q (AV.bool true)) (mtB (!o.d3.1) (Q (AV.bool true)) (yr1 Q o))) (mtB (!ltInt o.d4.2 o.d3.2) (mtB (!o.d2.1) (Q (AV.bool true)) (mtB (!o.d3.1) (Q (AV.bool true)) (yr1 Q o))) (Q (AV.bool false))))) (Q (AV.bool false))))) (Q (AV.bool false))))):=by kernel_rfl
theorem copy_fn (o:Ob) (M N L C:AV) (Q:AV→Prop):fnK Tryz.prog opts0 40 (aidJ [] [] (manyS [(118,M),(119,N),(120,L),(121,C)]) [] []) 82 [.agg (obF o M N L C)] [] 0 (fun v _ _=>Q v)=
  (SC 118 [M] M∧SC 119 [N] N∧SC 120 [L] L∧SC 121 [C] C∧oblB (fitsT Tryz.prog 23 M 1) (oblB (fitsT Tryz.prog 27 N 1) (oblB (fitsT Tryz.prog 28 L 1) (oblB (fitsT Tryz.prog 29 C 1) (oblB (fitsT Tryz.prog 33 (AV.agg (obF o M N L C)) 37) (Q (AV.agg (obF o M N L C)))))))):=by kernel_rfl
def aheadB (x y:Dt):Bool:= !x.has||(!y.has|| !ltInt y.t x.t)
def soundB (o:Ob):Bool:=aheadB o.d1 o.d4&&(aheadB o.d1 o.d2&&(aheadB o.d3 o.d4&&aheadB o.d2 o.d3))
theorem sound_sem (o:Ob):SC 26 [obA o] (.bool (soundB o)):=by
 refine fnK_semV (A:=aidJ [] [] noSem [] [74]) base0 aidJ_ok (fnLs_of (LsOk.no rfl)) (closed_o o) rfl ?_
 simp only[obA,obC]
 rw[sound_fn]
 repeat' refine mtB_of (fun _=> ?_) (fun _=> ?_)
 all_goals
  refine congrArg AV.bool ?_
  simp_all [soundB,aheadB]
theorem soundr_sem (o:Ob):SC 49 [obA o] (.bool (soundB o)):=by
 refine fnK_semV (A:=aidJ [] [] noSem [96] []) base0 aidJ_ok (fnLs_of (LsOk.no rfl)) (closed_o o) rfl ?_
 simp only[obA,obC]
 rw[soundr_fn]
 repeat' refine mtB_of (fun _=> ?_) (fun _=> ?_)
 all_goals
  refine congrArg AV.bool ?_
  simp_all [soundB,aheadB]
theorem objT:isAggA Tryz.prog 33=some true:=by kernel_rfl
theorem rowT:isAggA Tryz.prog 89=some true:=by kernel_rfl
theorem fits_ob (o:Ob):fitsT Tryz.prog 33 (.agg (obC o)) 37=true:=fits_agg objT (len_obC o) (one_obC o)
theorem namT:isAggA Tryz.prog 27=some false:=by kernel_rfl
theorem lnkT:isAggA Tryz.prog 28=some false:=by kernel_rfl
theorem cusT:isAggA Tryz.prog 29=some false:=by kernel_rfl
theorem bytT:isAggA Tryz.prog 23=some false:=by kernel_rfl
theorem good_map {α:Type} {f:α→AV} {n:Nat} (h:∀x,goodEl n (f x)):∀l:List α,∀e∈l.map f,goodEl n e:=fun l e he=>by
 obtain ⟨x,_,rfl⟩:=List.mem_map.1 he
 exact h x
theorem copy_sem {o:Ob} (ho:FitO o):SC 82 [obA o] (obA o):=by
 have h1:SC 118 [matA o] (matA o):=cloneB_sem goodEl_toBytes (closedAll_toBytes _) (by rw[←lenN_eq,lenN_toBytes];exact ho.m)
 have hn:=ho.n
 have hl:=ho.l
 have hc:=ho.c
 have h2:SC 119 [namA o] (namA o):=cloneS_sem (good_map (f:= .str) (n:=1) (fun _=>⟨rfl,rfl⟩) _) (closed_strs _) (by rw[List.length_map];show _≤1099511627776;omega)
 have h3:SC 120 [lnkA o] (lnkA o):=cloneL_sem (good_map (f:=lkA) (n:=2) (fun _=>⟨rfl,rfl⟩) _) (closed_lks _) (by rw[List.length_map];show _≤1099511627776;omega)
 have h4:SC 121 [cusA o] (cusA o):=cloneC_sem (good_map (f:=cuA) (n:=2) (fun _=>⟨rfl,rfl⟩) _) (closed_cus _) (by rw[List.length_map];show _≤1099511627776;omega)
 refine fnK_semV (A:=aidJ [] [] (manyS [(118,matA o),(119,namA o),(120,lnkA o),(121,cusA o)]) [] []) base0 aidJ_ok (fnLs_of (LsOk.no rfl)) (closed_o o) (closed_ob o) ?_
 simp only[obA,obC]
 rw[copy_fn]
 exact ⟨h1,h2,h3,h4,oblB_of (fits_one bytT rfl) (oblB_of (fits_one namT rfl) (oblB_of (fits_one lnkT rfl) (oblB_of (fits_one cusT rfl) (oblB_of (fits_ob o) rfl))))⟩
def hdK (k:Kd):RowH:=⟨nameK k,typeK k,manyK k,setK k⟩
theorem rowC_eq (k:Kd):rowC k=rowW (hdK k) (addK k) (modK k) (remK k) (getF k) (rightF k) (putF k) (dropF k) (roomF k):=rfl
theorem rowC_get (k:Kd):rowC k=rowW (hdK k) (addK k) (modK k) (remK k) (fnC (gfn k) (gcp k)) (rightF k) (putF k) (dropF k) (roomF k):=by rw[rowC_eq,getF_eq]
theorem closed_rowC (k:Kd):closedAll (rowC k)=true:=closed_row k
def thereL (many:Bool) (ty:Int):List It→Nat
 |[x]=>match many||(!beqInt ty 2|| !beqInt (itN x) 0) with
  |true=>1
  |false=>0
 |l=>l.length
def thereK (o:Ob) (k:Kd):Nat:=thereL (manyK k) (typeK k) (getK o k)
theorem closed_roc (k:Kd) (o:Ob) {c:List AV} (h:closedAll c=true):closedAll (.agg (rowC k)::obA o::c)=true:=by
 have h1:=closed_rowC k
 have h2:=closed_oc o h
 rw[closedAll,closedA,h1,h2];rfl
theorem there_sem {k:Kd} (hk:kdB k=true) {o:Ob} (ho:FitO o):SC 113 [.agg (rowC k),obA o] (I (.ofNat (thereK o k))):=by
 have hg:=get_sem hk ho
 have hcl:=closed_roc k o (c:=[]) rfl
 simp only[thereK]
 rw[rowC_get] at hcl⊢
 revert hg
 generalize getK o k=l
 intro hg
 match l,hg with
 |[],hg=>
  refine fnK_semV (A:=thA [] (itF 0 0 0 [] [])) base0 aidJ_ok (fnLs_of (LsOk.no rfl)) hcl rfl ?_
  simp only[obA,obC] at hg⊢
  rw[there_fn]
  refine ⟨hg,mtB_of (fun _=>mtB_of (fun e=>by cases e) (fun _=>rfl)) (fun _=>rfl)⟩
 | [⟨t,y,n,d,ks⟩],hg=>
  refine fnK_semV (A:=thA (itAs [⟨t,y,n,d,ks⟩]) (itF t y n (toBytes d) (itAs ks))) base0 aidJ_ok (fnLs_of (LsOk.no rfl)) hcl rfl ?_
  simp only[obA,obC] at hg⊢
  rw[there_fn]
  have hh:∀m ty,(hdK k).many=m→(hdK k).ty=ty→manyK k=m∧typeK k=ty:=fun m ty h1 h2=>⟨h1,h2⟩
  refine ⟨hg,mtB_of (fun e1=>mtB_of (fun _=>mtB_of (fun e2=>⟨idxI (i:=0) rfl,mtB_of (fun e3=> ?_) (fun e3=> ?_)⟩) (fun e2=> ?_)) (fun e=>by cases e)) (fun e1=> ?_)⟩
  all_goals
   simp only[hdK] at*
   simp_all [thereL,itN,itAs,lenN]
 |a::b::r,hg=>
  refine fnK_semV (A:=thA (itAs (a::b::r)) (itF 0 0 0 [] [])) base0 aidJ_ok (fnLs_of (LsOk.no rfl)) hcl rfl ?_
  simp only[obA,obC] at hg⊢
  rw[there_fn]
  have hl:lenN (itAs (a::b::r))=r.length+2:=by rw[lenN_eq,its_length];rfl
  rw[hl]
  refine ⟨hg,mtB_of (fun e1=>mtB_of (fun e=> ?_) (fun _=>rfl)) (fun _=>rfl)⟩
  rw[beqInt_iff] at e
  have e:((r.length+2:Nat):Int)=1:=e
  omega
def twiceL (v:It) (but:Int):List It→Nat→Bool
 |[],_=>false
 |x::r,i=>(!beqInt (.ofNat i) but&&sameI x v)||twiceL v but r (i+1)
def twiceK (o:Ob) (k:Kd) (v:It) (but:Int):Bool:=manyK k&&twiceL v but (getK o k) 0
theorem tw_loop {h:RowH} {A1 A2 A3 Ge R P D RM:AV} {l:List It} {t y n:Int} {d:List UInt8} {ks:List It} {but:Int} {Q:AExit→St→Prop} (hW:closedAll (rowW h A1 A2 A3 Ge R P D RM)=true) (hb:l.length≤1000) (hl:∀x∈l,okI big x):
  ∀i,i≤l.length→(mtB (h.many&&twiceL (.mk t y n d ks) but (l.drop i) i) (Q .ret (twF true).st) (Q (.exit 0) (twF false).st)→ALp Tryz.prog opts0.glob 0 (lpCode Tryz.prog 72 3) (twV (rowW h A1 A2 A3 Ge R P D RM) (itAs l) t y n (toBytes d) (itAs ks) but i).st Q):=by
 have hG:=closed_its l
 have hK:closedAll (itF t y n (toBytes d) (itAs ks))=true:=by have:=closed_it (.mk t y n d ks);exact this
 have hlen:lenN (itAs l)=l.length:=by rw[lenN_eq,its_length]
 refine count_up _ (fun hq=> ?_) (fun i hi ih hq=> ?_)
 ·refine ALp.round (A:=twA (itF 0 0 0 [] []) true) (V1:=twV (rowW h A1 A2 A3 Ge R P D RM) (itAs l) t y n (toBytes d) (itAs ks) but 0) (V2:=twV (rowW h A1 A2 A3 Ge R P D RM) (itAs l) t y n (toBytes d) (itAs ks) but 0) (F:=twF false) (lk:=[(0,0),(1,1)]) (lk':=[]) base0 aidJ_ok (LsOk.no rfl) .refl ?_
  rw[tw_round]
  refine mtB_of (fun e=> ?_) (fun _=> ?_)
  ·have e:=ltInt_iff.1 e
   simp only[hlen,Int.ofNat_eq_natCast] at e
   omega
  ·rw[List.drop_of_length_le (by omega),twiceL,Bool.and_false] at hq
   exact ⟨⟨⟨⟨rfl,rfl⟩,trivial⟩,trivial,trivial⟩,hq⟩
 ·have g1:=List.getElem?_eq_getElem hi
  have hok:=hl _ (List.getElem_mem hi)
  rw[List.drop_eq_getElem_cons hi,twiceL] at hq
  revert g1 hq hok
  generalize l[i]=x
  intro hq g1 hok
  have hs:=tsame_sem x (.mk t y n d ks) hok
  obtain ⟨a,b,c,e',f'⟩:=x
  revert hs hq
  generalize sameI (.mk a b c e' f') (.mk t y n d ks)=r
  intro hq hs
  rw[itA_F,itA_F] at hs
  cases hr:(!beqInt (.ofNat i) but&&(h.many&&r)) with
  | true=>
   have h3:beqInt (.ofNat i) but=false∧h.many=true∧r=true:=by simpa using hr
   rw[h3.1,h3.2.1,h3.2.2] at hq
   refine ALp.round (A:=twA (itF a b c (toBytes e') (itAs f')) r) (V1:=twV (rowW h A1 A2 A3 Ge R P D RM) (itAs l) t y n (toBytes d) (itAs ks) but (i+1)) (V2:=twV (rowW h A1 A2 A3 Ge R P D RM) (itAs l) t y n (toBytes d) (itAs ks) but (i+1)) (F:=twF true) (lk:=[(0,0),(1,1)]) (lk':=[]) base0 aidJ_ok (LsOk.no rfl) .refl ?_
   rw[tw_round]
   refine mtB_of (fun _=>⟨idxI g1,mtB_of (fun _=>mtB_of (fun _=>⟨hs,mtB_of (fun _=>⟨⟨⟨⟨rfl,rfl⟩,trivial⟩,trivial,trivial⟩,hq⟩) (fun e=> ?_)⟩) (fun e=> ?_)) (fun e=> ?_)⟩) (fun e=> ?_)
   ·rw[h3.2.2] at e;cases e
   ·rw[h3.2.1] at e;cases e
   ·rw[h3.1] at e;cases e
   ·have e:=ltInt_false.1 e
    simp only[hlen,Int.ofNat_eq_natCast] at e
    omega
  | false=>
   have hq':mtB (h.many&&twiceL (.mk t y n d ks) but (l.drop (i+1)) (i+1)) (Q .ret (twF true).st) (Q (.exit 0) (twF false).st):=by
    have:(h.many&&(!beqInt (.ofNat i) but&&r||twiceL (.mk t y n d ks) but (l.drop (i+1)) (i+1)))=(h.many&&twiceL (.mk t y n d ks) but (l.drop (i+1)) (i+1)):=by
     revert hr
     cases beqInt (.ofNat i) but<;>cases h.many<;>cases r<;>simp
    rw[this] at hq
    exact hq
   have hnext:=ih hq'
   have hw:wrapA .i64 (Int.ofNat i+1)=Int.ofNat (i+1):=wrapA_i64 (by simp;omega) (by simp;omega)
   refine ALp.round (A:=twA (itF a b c (toBytes e') (itAs f')) r) (V1:=twV (rowW h A1 A2 A3 Ge R P D RM) (itAs l) t y n (toBytes d) (itAs ks) but (i+1)) (V2:=twV (rowW h A1 A2 A3 Ge R P D RM) (itAs l) t y n (toBytes d) (itAs ks) but (i+1)) (F:=twF false) (lk:=[(0,0),(1,1)]) (lk':=[]) base0 aidJ_ok (LsOk.no rfl) .refl ?_
   rw[tw_round,hw]
   have hsee:((((I but=I but∧closedA (I but)=true)∧(AV.bool false= .bool false∧true=true)∧(AV.fsl false (itAs l)= .fsl false (itAs l)∧closedA (.fsl false (itAs l))=true)∧(I (.ofNat (lenN (itAs l)))=I (.ofNat (lenN (itAs l)))∧closedA (I (.ofNat (lenN (itAs l))))=true)∧(I (Int.ofNat (i+1))=I (.ofNat (i+1))∧closedA (I (.ofNat (i+1)))=true)∧True))):=⟨⟨rfl,rfl⟩,⟨rfl,rfl⟩,⟨rfl,hG⟩,⟨rfl,rfl⟩,⟨rfl,rfl⟩,trivial⟩
   refine mtB_of (fun _=>⟨idxI g1,mtB_of (fun e1=>mtB_of (fun e2=>⟨hs,mtB_of (fun e3=> ?_) (fun _=> ?_)⟩) (fun _=> ?_)) (fun _=> ?_)⟩) (fun e=> ?_)
   ·rw[Bool.not_eq_true'] at e1
    rw[e1,e2,e3] at hr;cases hr
   ·exact ⟨⟨hsee,⟨⟨rfl,rfl⟩,⟨rfl,rfl⟩,trivial⟩,⟨rfl,hW⟩,⟨rfl,hK⟩,trivial⟩,hnext⟩
   ·exact ⟨⟨hsee,⟨⟨rfl,rfl⟩,⟨rfl,rfl⟩,trivial⟩,⟨rfl,hW⟩,⟨rfl,hK⟩,trivial⟩,hnext⟩
   ·exact ⟨⟨hsee,⟨⟨rfl,rfl⟩,⟨rfl,rfl⟩,trivial⟩,⟨rfl,hW⟩,⟨rfl,hK⟩,trivial⟩,hnext⟩
   ·have e:=ltInt_false.1 e
    simp only[hlen,Int.ofNat_eq_natCast] at e
    omega
theorem tw_at:loopsAt (fnCode Tryz.prog 72) 3=[lpCode Tryz.prog 72 3]:=by kernel_rfl
structure OkG (o:Ob) (k:Kd):Prop where
 n:(getK o k).length≤1000
 i:∀x∈getK o k,okI big x
theorem twice_sem {k:Kd} (hk:kdB k=true) {o:Ob} (ho:FitO o) (hg:OkG o k) (v:It) (but:Int):SC 72 [.agg (rowC k),obA o,itA v,I but] (.bool (twiceK o k v but)):=by
 have hs:=get_sem hk ho
 have hcl:=closed_roc k o (c:=[itA v,I but]) (by simp[closedAll,closed_it,closedA])
 have hW:=closed_rowC k
 rw[rowC_get] at hcl hW⊢
 obtain ⟨t,y,n,d,ks⟩:=v
 rw[itA_F] at hcl⊢
 have hK:closedAll (itF t y n (toBytes d) (itAs ks))=true:=by have:=closed_it (.mk t y n d ks);exact this
 refine fnK_semV (A:=aidJ [] [(3,twL (rowW (hdK k) (addK k) (modK k) (remK k) (fnC (gfn k) (gcp k)) (rightF k) (putF k) (dropF k) (roomF k)) (itAs (getK o k)) t y n (toBytes d) (itAs ks) but (twiceK o k (.mk t y n d ks) but))] (fun _ _ _ _=>some (.val (.fsl false (itAs (getK o k))))) [] []) base0 aidJ_ok
  (fnLs_of (LsOk.at1 rfl tw_at fun st Q hs=> .seen base0.glob hs.1 (tw_loop hW hg.n hg.i 0 (Nat.zero_le _) hs.2))) hcl rfl ?_
 simp only[obA,obC] at hs⊢
 rw[tw_fn]
 refine ⟨hs,⟨⟨⟨rfl,rfl⟩,⟨rfl,rfl⟩,⟨rfl,closed_its _⟩,⟨rfl,rfl⟩,⟨rfl,rfl⟩,trivial⟩,⟨⟨rfl,rfl⟩,⟨rfl,rfl⟩,trivial⟩,⟨rfl,hW⟩,⟨rfl,hK⟩,trivial⟩,mtB_of (fun e=>by rw[e]) (fun e=>by rw[e])⟩
end
def dt0:Dt:=⟨false,0⟩
def zO:Ob:=⟨[],0,0,0,0,[],0,dt0,dt0,dt0,dt0,dt0,dt0,dt0,dt0,dt0,dt0,0,[],[],[],[],false,0,0,0,false⟩
def ansA (p:Ob × Int):AV:= .tuple [obA p.1,I p.2]
theorem closed_ans (p:Ob × Int):closedA (ansA p)=true:=by
 have:=closed_obC p.1
 simp only[ansA,obA,closedA,closedAll,this,Bool.and_self]
theorem wk_z (r:Int):Wk (.tuple [.agg (obF zO .nilsl .nilsl .nilsl .nilsl),I r]) (ansA (zO,r)):=by
 refine .tuple (.cons (.agg ?_) (.refl _))
 simp only[obC,obF,matA,namA,lnkA,cusA]
 (repeat (first|exact Wk.refl _|exact WkL.refl _|exact Wk.nil|exact Wk.row|exact WkE.refl _|exact WkL.nil|exact WkE.nil|apply Wk.agg|apply Wk.tuple|apply WkL.cons|apply Wk.rows|apply WkE.consA))
theorem end_z (r:Int):endV (ansA (zO,r)) (.tuple [.agg (obF zO .nilsl .nilsl .nilsl .nilsl),I r]):=⟨rfl,wk_z r⟩
theorem end_o (o:Ob) (r:Int):endV (ansA (o,r)) (.tuple [.agg (obC o),I r]):=end_self (closed_ans (o,r))
theorem atA_F (s:List UInt8) (i t y n:Int) (d:List UInt8) (ks:List It):atA ⟨s,i,.mk t y n d ks⟩= .agg (.str s::I i::itF t y n (toBytes d) (itAs ks)):=rfl
def laidK (o:Ob) (k:Kd) (j:Nat) (v:It):Ob × Int:=match soundB (putK o j v k) with
 |true=>(putK o j v k,0)
 |false=>(zO,7)
theorem set_put {k:Kd} (h:setK k=true):putB k=true:=by cases k<;>first|rfl|cases h
theorem set_kd {k:Kd} (h:setK k=true):kdB k=true:=by
 cases k with
 |dat k=>
  simp only[setK,setD,Bool.and_eq_true,Nat.ble_eq] at h
  exact blt_iff.2 (by omega)
 |_=>rfl
theorem rowC_laid {k:Kd} (h:putB k=true):rowC k=rowW (hdK k) (addK k) (modK k) (remK k) (getF k) (rightF k) (fnC (pfn k) (pcp k)) (dropF k) (roomF k):=by rw[rowC_eq,putF_eq h]
theorem laid_sem {k:Kd} (hk:setK k=true) {o:Ob} (ho:FitO o) {s:List UInt8} {j:Nat} (hj:idxOk o j k) {v:It} (hv:rightK o v k=true):SC 73 [.agg (rowC k),obA o,atA ⟨s,.ofNat j,v⟩] (ansA (laidK o k j v)):=by
 have hp:=put_sem hk ho hj hv
 have hs:=sound_sem (putK o j v k)
 have hc:=copy_sem ho
 have hcl:=closed_roc k o (c:=[atA ⟨s,.ofNat j,v⟩]) (by simp[closedAll,closed_atA])
 simp only[laidK]
 revert hp hs
 generalize putK o j v k=o'
 intro hp hs
 obtain ⟨t,y,n,d,ks⟩:=v
 rw[rowC_laid (set_put hk),atA_F] at hcl⊢
 refine fnK_semE (A:=aidJ [] [] (laA (obC o) (obC o') (soundB o')) [] []) base0 aidJ_ok (fnLs_of (LsOk.no rfl)) hcl ?_
 simp only[PutSem,nI,itA_F] at hp
 simp only[obA] at hc hs⊢
 have h:=fits_ob o
 have h':=fits_ob o'
 simp only[obC] at hp hc hs h h'⊢
 rw[laid_fn]
 refine ⟨hc,oblB_of h ⟨hp,hs,mtB_of (fun e=> ?_) (fun e=>oblB_of h' ?_)⟩⟩
 ·rw[Bool.not_eq_true'] at e
  rw[e];exact end_z 7
 ·rw[Bool.not_eq_false'] at e
  rw[e];exact end_o o' 0
def roomK (o:Ob):Kd→Bool
 | .nam=>Nat.blt o.names.length 6
 | .lnk=>Nat.blt o.links.length 8
 | .cus _=>Nat.blt o.cust.length 6
 |_=>true
def mfn:Kd→Nat
 | .nam=>165
 | .lnk=>177
 |_=>149
theorem roomF_many {k:Kd} (h:manyK k=true):roomF k=fnA (mfn k):=by cases k<;>first|rfl|cases h
theorem roomF_one {k:Kd} (h:manyK k=false):roomF k= .nilFunc:=by cases k<;>first|rfl|cases h
theorem room_sem {k:Kd} (h:manyK k=true) (o:Ob):SC (mfn k) [obA o] (.bool (roomK o k)):=by
 cases k with
 |nam=>exact w_roomN_sem o
 |lnk=>exact w_roomL_sem o
 |cus s=>exact w_roomC_sem o
 |_=>cases h
def moreK (o:Ob) (k:Kd) (a:At):Ob × Int:=
 match beqInt a.idx (match manyK k with|true=> .ofNat (thereK o k)|false=>0) with
 |false=>(zO,14)
 | true=>match !manyK k&&ltInt 0 (.ofNat (thereK o k)) with
  |true=>(zO,11)
  | false=>match rightK o a.v k with
   |false=>(zO,7)
   | true=>match roomK o k with
    |false=>(zO,12)
    |true=>match twiceK o k a.v (-1) with
     |true=>(zO,11)
     |false=>laidK o k (match manyK k with|true=>thereK o k|false=>0) a.v
theorem rowC_more {k:Kd} (h:putB k=true):rowC k=rowW (hdK k) (addK k) (modK k) (remK k) (getF k) (fnC (rfn k) (rcp k)) (putF k) (dropF k) (roomF k):=by rw[rowC_eq,rightF_eq h]
theorem idx_more {k:Kd} {o:Ob} (hm:manyK k=true) (hr:roomK o k=true):idxOk o (thereK o k) k:=by
 cases k with
 | nam=>
  have h:=blt_iff.1 hr
  have:thereK o .nam=o.names.length:=by
   simp only[thereK,getK,manyK,typeK]
   cases hn:o.names with
   |nil=>rfl
   |cons a r=>cases r<;>simp[thereL]
  exact ⟨by omega,by omega⟩
 | lnk=>
  have h:=blt_iff.1 hr
  have:thereK o .lnk=o.links.length:=by
   simp only[thereK,getK,manyK,typeK]
   cases hn:o.links with
   |nil=>rfl
   |cons a r=>cases r<;>simp[thereL]
  exact ⟨by omega,by omega⟩
 |cus s=>
  have h:=blt_iff.1 hr
  have hl:=cus_len o s
  refine .inr ⟨?_,h⟩
  rw[←hl]
  simp only[thereK,manyK,typeK]
  match getK o (.cus s) with
  |[]=>rfl
  |[_]=>rfl
  |_::_::_=>rfl
 |_=>cases hm
theorem idx_one {k:Kd} {o:Ob} (hm:manyK k=false) (j:Nat):idxOk o j k:=by cases k<;>first|trivial|cases hm
theorem more_sem {k:Kd} (hk:setK k=true) {o:Ob} (ho:FitO o) (hg:OkG o k) {a:At} (ha:txI a.v):SC 62 [.agg (rowC k),obA o,atA a] (ansA (moreK o k a)):=by
 have h1:=there_sem (set_kd hk) ho
 have h2:=right_sem (set_put hk) o a.v ha
 have h3:=twice_sem (set_kd hk) ho hg a.v (-1)
 have hcl:=closed_roc k o (c:=[atA a]) (by simp[closedAll,closed_atA])
 have hlaid:rightK o a.v k=true→roomK o k=true→beqInt a.idx (match manyK k with|true=> .ofNat (thereK o k)|false=>0)=true→SC 73 [.agg (rowC k),obA o,atA a] (ansA (laidK o k (match manyK k with|true=>thereK o k|false=>0) a.v)):=fun e1 e2 e3=>by
  rw[beqInt_iff] at e3
  obtain ⟨s,i,v⟩:=a
  simp only at e3
  cases hm:manyK k with
  |true=>
   rw[hm] at e3
   subst e3
   exact laid_sem hk ho (idx_more hm e2) e1
  |false=>
   rw[hm] at e3
   subst e3
   exact laid_sem hk ho (idx_one hm 0) e1
 obtain ⟨s,i,v⟩:=a
 simp only[moreK] at hlaid h2 h3⊢
 revert hlaid
 generalize laidK o k (match manyK k with|true=>thereK o k|false=>0) v=la
 obtain ⟨o',e'⟩:=la
 intro hlaid
 obtain ⟨t,y,n,d,ks⟩:=v
 rw[rowC_more (set_put hk)] at hcl h1 h3 hlaid⊢
 rw[atA_F] at hcl hlaid⊢
 rw[itA_F] at h2 h3
 have hf':=fits_ob o'
 have hro:= @room_sem k
 have hro1:= @roomF_many k
 have hro0:= @roomF_one k
 have hmd:(hdK k).many=manyK k:=rfl
 revert h1 h2 h3 hlaid hro
 generalize rightK o (.mk t y n d ks) k=right
 generalize thereK o k=th
 generalize twiceK o k (.mk t y n d ks) (-1)=twice
 intro h1 h2 h3 hlaid hro
 cases hm:manyK k with
 | true=>
  have hr:=hro hm o
  rw[hm] at hmd
  rw[hro1 hm] at hcl h1 h3 hlaid⊢
  simp only[hm] at hlaid⊢
  revert hr hlaid
  generalize roomK o k=room
  intro hr hlaid
  refine fnK_semE (A:=aidJ [] [] (moA (.ofNat th) right room twice (.tuple [.agg (obC o'),I e'])) [70] []) base0 aidJ_ok (fnLs_of (LsOk.no rfl)) hcl ?_
  simp only[ansA,obA] at h1 h2 h3 hlaid hr
  simp only[obA]
  simp only[obC] at h1 h2 h3 hlaid hr hf'⊢
  rw[more_fn]
  refine ⟨h1, ?_⟩
  refine mtB_of (fun e=>by rw[hmd] at e;cases e) (fun _=> ?_)
  refine mtB_of (fun e=>by rw[hmd] at e;cases e) (fun _=> ?_)
  refine ⟨h2,hr,h3,mtB_of (fun e=> ?_) (fun e=>mtB_of (fun e2=> ?_) (fun e2=>mtB_of (fun e3=> ?_) (fun e3=>mtB_of (fun e4=> ?_) (fun e4=> ?_))))⟩
  ·rw[Bool.not_eq_true'] at e;rw[e];exact end_z 14
  ·rw[Bool.not_eq_false'] at e;rw[Bool.not_eq_true'] at e2;rw[e,e2];exact end_z 7
  ·rw[Bool.not_eq_false'] at e e2;rw[Bool.not_eq_true'] at e3;rw[e,e2,e3];exact end_z 12
  ·rw[Bool.not_eq_false'] at e e2 e3;rw[e,e2,e3,e4];exact end_z 11
  ·rw[Bool.not_eq_false'] at e e2 e3
   rw[e,e2,e3,e4]
   exact ⟨hlaid e2 e3 e,oblB_of hf' (end_o o' e')⟩
 | false=>
  rw[hm] at hmd
  have hroo:roomK o k=true:=by cases k<;>first|rfl|cases hm
  rw[hro0 hm] at hcl h1 h3 hlaid⊢
  simp only[hm,hroo] at hlaid⊢
  refine fnK_semE (A:=aidJ [] [] (moA (.ofNat th) right true twice (.tuple [.agg (obC o'),I e'])) [70] []) base0 aidJ_ok (fnLs_of (LsOk.no rfl)) hcl ?_
  simp only[ansA,obA] at h1 h2 h3 hlaid
  simp only[obA]
  simp only[obC] at h1 h2 h3 hlaid hf'⊢
  rw[more_fn0]
  refine ⟨h1, ?_⟩
  refine mtB_of (fun _=> ?_) (fun e=>by rw[hmd] at e;cases e)
  refine mtB_of (fun _=> ?_) (fun e=>by rw[hmd] at e;cases e)
  refine ⟨h2,h3,mtB_of (fun e=> ?_) (fun e=>mtB_of (fun e1=> ?_) (fun e1=>mtB_of (fun e2=> ?_) (fun e2=>mtB_of (fun e4=> ?_) (fun e4=> ?_))))⟩
  ·rw[Bool.not_eq_true'] at e;rw[e];exact end_z 14
  ·rw[Bool.not_eq_false'] at e;rw[e];simp only[e1,Bool.not_false,Bool.and_true];exact end_z 11
  ·rw[Bool.not_eq_false'] at e;rw[Bool.not_eq_true'] at e2;rw[e,e2];simp only[e1,Bool.and_false];exact end_z 7
  ·rw[Bool.not_eq_false'] at e e2;rw[e,e2,e4];simp only[e1,Bool.and_false];exact end_z 11
  ·rw[Bool.not_eq_false'] at e e2
   rw[e,e2,e4]
   simp only[e1,Bool.and_false]
   exact ⟨hlaid e2 trivial e,oblB_of hf' (end_o o' e')⟩
def setS (c:Bool) (o:Ob) (a:At):Ob × Int:=match findK c a.name with
 |none=>(zO,7)
 |some k=>match setK k with
  |false=>(zO,7)
  |true=>moreK o k a
theorem rowO_some (k:Kd):rowO (some k)=fiT (rowC k):=rfl
theorem fits_row (k:Kd):fitsT Tryz.prog 89 (.agg (rowC k)) 12=true:=by
 have h:allOne (rowC k)=true:=by
  cases k with
  |dat k=>
   have h1:(addD k).one=true:=by unfold addD;split<;>rfl
   have h2:(remD k).one=true:=by unfold remD;split<;>rfl
   simp only[rowC,allOne,addK,modK,remK,h1,h2,getF,rightF,putF,dropF,roomF,fnA,fnC,one_str,one_int,one_bool,Bool.true_and,Bool.and_true]
   rfl
  |_=>rfl
 exact fits_agg rowT rfl h
theorem closed_oa (o:Ob) (a:At) {c:List AV} (h:closedAll c=true):closedAll (obA o::atA a::c)=true:=closed_oc o (by rw[closedAll,closed_atA,h];rfl)
theorem set_sem {c:Bool} {o:Ob} (ho:FitO o) {a:At} (hc:SC 111 [.str a.name] (.bool c)) (hg:∀k,OkG o k) (ha:txI a.v):SC 18 [obA o,atA a] (ansA (setS c o a)):=by
 have hf:=find_sem hc
 have hcl:=closed_oa o a (c:=[]) rfl
 simp only[setS]
 revert hf
 cases hk:findK c a.name with
 |none=>
  intro hf
  obtain ⟨s,i,⟨t,y,n,d,ks⟩⟩:=a
  rw[atA_F] at hcl⊢
  refine fnK_semE (A:=aidJ [] [] (adA (rowO none) .nilsl true) [] []) base0 aidJ_ok (fnLs_of (LsOk.no rfl)) hcl ?_
  simp only[obA,obC]
  rw[set_none]
  exact ⟨hf,end_z 7⟩
 | some k=>
  intro hf
  dsimp only
  have hm:=fun hk=>more_sem (k:=k) hk ho (hg k) ha
  have hfr:=fits_row k
  obtain ⟨s,i,⟨t,y,n,d,ks⟩⟩:=a
  revert hm
  generalize moreK o k ⟨s,i,.mk t y n d ks⟩=la
  obtain ⟨o',e'⟩:=la
  intro hm
  have hf':=fits_ob o'
  rw[rowO_some] at hf
  simp only at hf
  rw[atA_F] at hcl hm⊢
  rw[rowC_eq] at hf hm hfr
  refine fnK_semE (A:=aidJ [] [] (adA (fiT (rowW (hdK k) (addK k) (modK k) (remK k) (getF k) (rightF k) (putF k) (dropF k) (roomF k))) (.tuple [.agg (obC o'),I e']) true) [] []) base0 aidJ_ok (fnLs_of (LsOk.no rfl)) hcl ?_
  simp only[ansA,obA] at hm
  simp only[obA]
  simp only[obC] at hm hf'⊢
  rw[set_fn]
  have hs:(hdK k).set=setK k:=rfl
  refine ⟨hf,oblB_of hfr (mtB_of (fun e=> ?_) (fun e=> ?_))⟩
  ·rw[hs,Bool.not_eq_true'] at e
   rw[e];exact end_z 7
  ·rw[hs,Bool.not_eq_false'] at e
   rw[e]
   exact ⟨hm e,oblB_of hf' (end_o o' e')⟩
inductive Wh where
 |nil|alw|young|used|full
end Go.Proofs.YtjhggnebkfpgcaaGreatDoor
namespace Go.Proofs.YtjhggnebkfpgcaaGreatDoor
open Go Go.RowKit
open Go.Proofs.Abs
def tellL (s:List UInt8):List It→Nat→List At
 |[],_=>[]
 |v::r,i=>⟨s,.ofNat i,v⟩::tellL s r (i+1)
theorem tell_length (s:List UInt8):∀ (l:List It) (i:Nat),(tellL s l i).length=l.length
 |[],_=>rfl
 |_::r,i=>congrArg (· +1) (tell_length s r (i+1))
theorem flat_at:∀l:List At,(flat (l.map atA)).length=l.length*7
 |[]=>rfl
 |⟨_,_,⟨_,_,_,_,_⟩⟩::r=>by
  have ih:=flat_at r
  rw[List.length_cons,Nat.succ_mul,←ih]
  rfl
theorem closed_ats:∀l:List At,closedAll (l.map atA)=true
 |[]=>rfl
 |a::r=>by rw[List.map_cons,closedAll,closed_atA,closed_ats r];rfl
theorem closed_fat:∀l:List At,closedAll (flat (l.map atA))=true
 |[]=>rfl
 |a::r=>by
  have h:=closed_atA a
  rw[List.map_cons,flat,closedAll_append,closed_fat r,Bool.and_true]
  exact h
theorem good_at (a:At):goodEl 7 (atA a):=by
 obtain ⟨s,i,⟨t,y,n,d,ks⟩⟩:=a
 exact ⟨rfl,rfl⟩
section
variable {h:RowH} {a m re g r p d ro:AV} {l:List It}
end
theorem findL_mem {s:List UInt8}:∀ {l:List Kd} {k:Kd},findL s l=some k→k∈l∧nameK k=s
 |[],_,h=>by cases h
 | a::r,k,h=>by
  simp only[findL] at h
  split at h
  ·rename_i e
   cases h
   exact ⟨by simp,beqBytes_iff.1 e⟩
  ·obtain ⟨h1,h2⟩:=findL_mem h
   exact ⟨by simp[h1],h2⟩
theorem find_kd {c:Bool} {s:List UInt8} {k:Kd} (h:findK c s=some k):kdB k=true∧nameK k=s:=by
 unfold findK at h
 split at h
 ·cases h;exact ⟨rfl,rfl⟩
 ·obtain ⟨h1,h2⟩:=findL_mem h
  exact ⟨(by decide:∀k∈kinds,kdB k=true) k h1,h2⟩
def ofS (c:Bool) (o:Ob) (s:List UInt8):List At:=match findK c s with
 |none=>[]
 |some k=>tellL s (getK o k) 0
def idl:Nat→List (Nat × Nat)
 |0=>[]
 |n+1=>(n,n)::idl n
noncomputable def inV (s:List UInt8) (k i:Nat) (es:List AV):View:=⟨[(1,.str s),(4,.bool false),(5,I (.ofNat i))],[(0,.rsl true 1 0 k 1)],[(1,.cells es,.whole)],42,18⟩
noncomputable def inF (b:Bool) (es:List AV):View:=⟨[(4,.bool b)],[],[(1,.cells es,.whole)],60,18⟩
noncomputable def inL (s:List UInt8) (k:Nat) (es:List AV) (q:Bool):LoopS:=fun st Q=>seesK 42 (idl 42) (inV s k 0 es) st∧mtB q (Q .ret (inF true es).st) (Q (.exit 0) (inF false es).st)
theorem cnt_up {p:Nat→Prop} (n:Nat) (hn:p n) (hs:∀i,i<n→p (i+1)→p i):∀i,i≤n→p i:=by
 intro i hi
 obtain ⟨m,rfl⟩:∃m,n=i+m:=⟨n-i,by omega⟩
 clear hi
 induction m generalizing i with
 |zero=>exact hn
 |succ m ih=>exact hs i (by omega) (ih (i+1) (by rw[show i+1+m=i+(m+1) by omega];exact hn) (by intro j hj;exact hs j (by omega)))
theorem inT:isAggA Tryz.prog 9=some false:=by kernel_rfl
theorem closed_fcu:∀l:List Cu,closedAll (flat (l.map cuA))=true
 |[]=>rfl
 |_::r=>closed_fcu r
theorem renR_ob {lk:List (Nat × Nat)} {o:Ob} {M N L C N' L' C':AV} (hM:closedA M=true) (hN:RenV lk N N') (hL:RenV lk L L') (hC:RenV lk C C'):RenR lk (obF o M N L C) (obF o M N' L' C'):=by
 refine ⟨?_⟩
 simp only[obF,RenL]
 exact ⟨.same _ rfl,.same _ rfl,.same _ rfl,.same _ rfl,.same _ rfl,.same _ hM,.same _ rfl,.same _ rfl,.same _ rfl,.same _ rfl,.same _ rfl,.same _ rfl,.same _ rfl,.same _ rfl,.same _ rfl,.same _ rfl,.same _ rfl,.same _ rfl,.same _ rfl,.same _ rfl,.same _ rfl,.same _ rfl,.same _ rfl,.same _ rfl,.same _ rfl,.same _ rfl,.same _ rfl,.same _ rfl,.same _ rfl,hN,hL,hC,.same _ rfl,.same _ rfl,.same _ rfl,.same _ rfl,.same _ rfl,trivial⟩
end Go.Proofs.YtjhggnebkfpgcaaGreatDoor
namespace Go.Proofs.YtjhggnebkfpgcaaGreatDoor
set_option maxRecDepth 20000
open Go Go.RowKit
open Go.Proofs.Abs
noncomputable section
def osV (k:Nat) (i:Int) (O:List AV):View:=⟨[(k,I i)],[(2,.ptr 0 0),(3,.ptr 1 0)],[(0,.cells O,.whole),(1,.cells O,.whole)],2,173⟩
def osA (r:Nat) (x:List AV):Aid:=aidJ [(r,3,.res (.fptr x 0)),(r,8,.res (.fptr x 0))] [] noSem [] []
@[simp] abbrev yx2:=((some 0=some 0∧0=0)∧(some 1=some 1∧0=0)∧True)
@[simp] abbrev yx3 (C L M:AV) (R:List AV) (o:Ob):=((obF o M (AV.fsl false R) L C)=(obF o M (AV.fsl false R) L C)∧closedAll (obF o M (AV.fsl false R) L C)=true)
@[simp] abbrev yx8 (i:Int):=((I i=I i∧closedA (I i)=true)∧True)
theorem os_n (o:Ob) (M L C:AV) (R:List AV) (x:List UInt8) (i j:Int) (Nx:Prop) (Q:AExit→St→Prop):wpK Tryz.prog opts0 40 (osA 6 [.str x]) (lpCode Tryz.prog 20 5) (osV 5 i (obF o M (.fsl false R) L C)).st (roundP 0 [(0,0),(1,1)] (osV 5 j (obF o M (.fsl false R) L C)) Nx [(0,0),(1,1)] (osV 5 i (obF o M (.fsl false R) L C)) Q)=
  (mtB (ltInt i (Int.ofNat (lenN R))) (indexAddrA Tryz.prog 27 (AV.fsl false R) (I i)=some (AV.fptr [AV.str x] 0)∧indexAddrA Tryz.prog 27 (AV.fsl false R) (I i)=some (AV.fptr [AV.str x] 0)∧mtB (!beqBytes x x) (((yx8 i)∧yx2∧(yx3 C L M R o)∧(yx3 C L M R o)∧True)∧Q AExit.ret (osV 5 i (obF o M (AV.fsl false R) L C)).st) ((((I (wrapA IntKind.i64 (i+1))=I j∧closedA (I j)=true)∧True)∧yx2∧(yx3 C L M R o)∧(yx3 C L M R o)∧True)∧Nx)) (((yx8 i)∧yx2∧(yx3 C L M R o)∧(yx3 C L M R o)∧True)∧Q (AExit.exit 0) (osV 5 i (obF o M (AV.fsl false R) L C)).st)):=by kernel_rfl
@[simp] abbrev yx4 (C M N:AV) (R:List AV) (o:Ob):=((obF o M N (AV.fsl false R) C)=(obF o M N (AV.fsl false R) C)∧closedAll (obF o M N (AV.fsl false R) C)=true)
theorem os_l (o:Ob) (M N C:AV) (R:List AV) (x:Lk) (i j:Int) (Nx:Prop) (Q:AExit→St→Prop):wpK Tryz.prog opts0 40 (osA 11 [I x.ty,.str x.id]) (lpCode Tryz.prog 20 10) (osV 6 i (obF o M N (.fsl false R) C)).st (roundP 0 [(0,0),(1,1)] (osV 6 j (obF o M N (.fsl false R) C)) Nx [(0,0),(1,1)] (osV 6 i (obF o M N (.fsl false R) C)) Q)=
  (mtB (ltInt i (Int.ofNat (lenN R))) (indexAddrA Tryz.prog 28 (AV.fsl false R) (I i)=some (AV.fptr [I x.1,AV.str x.2] 0)∧indexAddrA Tryz.prog 28 (AV.fsl false R) (I i)=some (AV.fptr [I x.1,AV.str x.2] 0)∧mtB (!(beqInt x.1 x.1&&(beqBytes x.2 x.2&&true))) (((yx8 i)∧yx2∧(yx4 C M N R o)∧(yx4 C M N R o)∧True)∧Q AExit.ret (osV 6 i (obF o M N (AV.fsl false R) C)).st) ((((I (wrapA IntKind.i64 (i+1))=I j∧closedA (I j)=true)∧True)∧yx2∧(yx4 C M N R o)∧(yx4 C M N R o)∧True)∧Nx)) (((yx8 i)∧yx2∧(yx4 C M N R o)∧(yx4 C M N R o)∧True)∧Q (AExit.exit 2) (osV 6 i (obF o M N (AV.fsl false R) C)).st)):=by kernel_rfl
@[simp] abbrev yx5 (L M N:AV) (R:List AV) (o:Ob):=((obF o M N L (AV.fsl false R))=(obF o M N L (AV.fsl false R))∧closedAll (obF o M N L (AV.fsl false R))=true)
theorem os_c (o:Ob) (M N L:AV) (R:List AV) (x:Cu) (i j:Int) (Nx:Prop) (Q:AExit→St→Prop):wpK Tryz.prog opts0 40 (osA 16 [.str x.name,.str x.text]) (lpCode Tryz.prog 20 15) (osV 7 i (obF o M N L (.fsl false R))).st (roundP 0 [(0,0),(1,1)] (osV 7 j (obF o M N L (.fsl false R))) Nx [(0,0),(1,1)] (osV 7 i (obF o M N L (.fsl false R))) Q)=
  (mtB (ltInt i (Int.ofNat (lenN R))) (indexAddrA Tryz.prog 29 (AV.fsl false R) (I i)=some (AV.fptr [AV.str x.1,AV.str x.2] 0)∧indexAddrA Tryz.prog 29 (AV.fsl false R) (I i)=some (AV.fptr [AV.str x.1,AV.str x.2] 0)∧mtB (!(beqBytes x.1 x.1&&(beqBytes x.2 x.2&&true))) (((yx8 i)∧yx2∧(yx5 L M N R o)∧(yx5 L M N R o)∧True)∧Q AExit.ret (osV 7 i (obF o M N L (AV.fsl false R))).st) ((((I (wrapA IntKind.i64 (i+1))=I j∧closedA (I j)=true)∧True)∧yx2∧(yx5 L M N R o)∧(yx5 L M N R o)∧True)∧Nx)) (((yx8 i)∧yx2∧(yx5 L M N R o)∧(yx5 L M N R o)∧True)∧Q (AExit.exit 4) (osV 7 i (obF o M N L (AV.fsl false R))).st)):=by kernel_rfl
def osL (k:Nat) (e:Nat) (n:Int) (O:List AV):LoopS:=fun st Q=>seesK 0 [(0,0),(1,1)] (osV k 0 O) st∧Q (.exit e) (osV k n O).st
abbrev yx6 (C L N:List AV) (m:List UInt8) (o:Ob):=(obF o (AV.fsl false (toBytes m)) (AV.fsl false N) (AV.fsl false L) (AV.fsl false C))
@[simp] abbrev yx1 (C L N:List AV) (m:List UInt8) (o:Ob):=(((I 0=I 0∧true=true)∧True)∧yx2∧((yx6 C L N m o)=(yx6 C L N m o)∧closedAll (yx6 C L N m o)=true)∧((yx6 C L N m o)=(yx6 C L N m o)∧closedAll (yx6 C L N m o)=true)∧True)
abbrev yx7 (C L N:List AV) (m:List UInt8) (o:Ob):=(obF o (.fsl false (toBytes m)) (.fsl false N) (.fsl false L) (.fsl false C))
theorem os_fn (o:Ob) (m:List UInt8) (N L C:List AV) (n l c:Int) (Q:AV→Prop):fnK Tryz.prog opts0 40 (aidJ [(1,36,.res (.str m)),(1,39,.res (.str m))] [(5,osL 5 0 n (yx7 C L N m o)),(10,osL 6 2 l (yx7 C L N m o)),(15,osL 7 4 c (yx7 C L N m o))] noSem [] []) 20 [.agg (yx7 C L N m o),.agg (yx7 C L N m o)] [] 0 (fun v _ _=>Q v)=
  (mtB (!beqBytes o.1 o.1) (Q (AV.bool false)) (mtB (!beqInt o.2 o.2) (Q (AV.bool false)) (mtB (!beqInt o.3 o.3) (Q (AV.bool false)) (mtB (!beqInt o.4 o.4) (Q (AV.bool false)) (mtB (!beqInt o.5 o.5) (Q (AV.bool false)) (convA Tryz.prog 23 9 (AV.fsl false (toBytes m))=some (Eff.val (AV.str m))∧convA Tryz.prog 23 9 (AV.fsl false (toBytes m))=some (Eff.val (AV.str m))∧mtB (!beqBytes m m) (Q (AV.bool false)) (mtB (!beqInt o.7 o.7) (Q (AV.bool false)) (mtB (!(decide (o.d0.has=o.d0.has)&&(beqInt o.d0.2 o.d0.2&&true)&&(decide (o.d1.has=o.d1.has)&&(beqInt o.d1.2 o.d1.2&&true)&&(decide (o.d2.has=o.d2.has)&&(beqInt o.d2.2 o.d2.2&&true)&&(decide (o.d3.has=o.d3.has)&&(beqInt o.d3.2 o.d3.2&&true)&&(decide (o.d4.has=o.d4.has)&&(beqInt o.d4.2 o.d4.2&&true)&&(decide (o.d5.has=o.d5.has)&&(beqInt o.d5.2 o.d5.2&&true)&&(decide (o.d6.has=o.d6.has)&&(beqInt o.d6.2 o.d6.2&&true)&&(decide (o.d7.has=o.d7.has)&&(beqInt o.d7.2 o.d7.2&&true)&&(decide (o.d8.has=o.d8.has)&&(beqInt o.d8.2 o.d8.2&&true)&&(decide (o.d9.has=o.d9.has)&&(beqInt o.d9.2 o.d9.2&&true)&&true))))))))))) (Q (AV.bool false)) (mtB (!beqInt o.18 o.18) (Q (AV.bool false)) (mtB (!beqBytes o.19 o.19) (Q (AV.bool false)) (mtB (!(decide (o.lh=o.lh)&&(beqInt o.24 o.24&&(beqInt o.25 o.25&&(beqInt o.26 o.26&&true))))) (Q (AV.bool false)) (mtB (!decide (o.arch=o.arch)) (Q (AV.bool false)) (mtB (!beqInt (Int.ofNat (lenN N)) (Int.ofNat (lenN N))) (Q (AV.bool false)) (mtB (!beqInt (Int.ofNat (lenN L)) (Int.ofNat (lenN L))) (Q (AV.bool false)) (mtB (!beqInt (Int.ofNat (lenN C)) (Int.ofNat (lenN C))) (Q (AV.bool false)) ((yx1 C L N m o)∧(yx1 C L N m o)∧(yx1 C L N m o)∧Q (AV.bool true))))))))))))))))):=by kernel_rfl
theorem os_loop_n {o:Ob} (hb:o.names.length≤1000) {Q:AExit→St→Prop} (hq:Q (.exit 0) (osV 5 (.ofNat o.names.length) (obC o)).st):∀i,i≤o.names.length→ALp Tryz.prog opts0.glob 0 (lpCode Tryz.prog 20 5) (osV 5 (.ofNat i) (obC o)).st Q:=by
 have hc:closedAll (obF o (matA o) (.fsl false (o.names.map .str)) (lnkA o) (cusA o))=true:=closed_obC o
 refine cnt_up _ ?_ (fun i hi hn=> ?_)
 ·refine ALp.round (A:=osA 6 [.str []]) (V1:=osV 5 0 (obF o (matA o) (.fsl false (o.names.map .str)) (lnkA o) (cusA o))) (V2:=osV 5 0 (obF o (matA o) (.fsl false (o.names.map .str)) (lnkA o) (cusA o))) (F:=osV 5 (.ofNat o.names.length) (obF o (matA o) (.fsl false (o.names.map .str)) (lnkA o) (cusA o))) (lk:=[(0,0),(1,1)]) (lk':=[(0,0),(1,1)]) base0 aidJ_ok (LsOk.no rfl) .refl ?_
  show wpK Tryz.prog opts0 40 _ _ (osV 5 (.ofNat o.names.length) (obF o (matA o) (.fsl false (o.names.map .str)) (lnkA o) (cusA o))).st _
  rw[os_n (x:=[])]
  refine mtB_of (fun e=> ?_) (fun _=>⟨⟨⟨⟨rfl,rfl⟩,trivial⟩,⟨⟨rfl,rfl⟩,⟨rfl,rfl⟩,trivial⟩,⟨rfl,hc⟩,⟨rfl,hc⟩,trivial⟩,hq⟩)
  have e:=ltInt_iff.1 e
  simp[lenN_eq] at e
 ·have g1:=List.getElem?_eq_getElem hi
  revert g1
  generalize o.names[i]=x
  intro g1
  have hx:indexAddrA Tryz.prog 27 (.fsl false (o.names.map .str)) (.int .i64 (.ofNat i))=some (.fptr [.str x] 0):=fsl_index (v:= .str x) (e:=9) (sz:=1) (by kernel_rfl) (by kernel_rfl) (by rw[List.getElem?_map,g1];rfl) rfl
  have hw:wrapA .i64 (Int.ofNat i+1)=Int.ofNat (i+1):=wrapA_i64 (by simp;omega) (by simp;omega)
  refine ALp.round (A:=osA 6 [.str x]) (V1:=osV 5 (.ofNat (i+1)) (obF o (matA o) (.fsl false (o.names.map .str)) (lnkA o) (cusA o))) (V2:=osV 5 (.ofNat (i+1)) (obF o (matA o) (.fsl false (o.names.map .str)) (lnkA o) (cusA o))) (F:=osV 5 (.ofNat i) (obF o (matA o) (.fsl false (o.names.map .str)) (lnkA o) (cusA o))) (lk:=[(0,0),(1,1)]) (lk':=[(0,0),(1,1)]) base0 aidJ_ok (LsOk.no rfl) .refl ?_
  show wpK Tryz.prog opts0 40 _ _ (osV 5 (.ofNat i) (obF o (matA o) (.fsl false (o.names.map .str)) (lnkA o) (cusA o))).st _
  rw[os_n,hw]
  refine mtB_of (fun _=>⟨hx,hx,mtB_of (fun e=> ?_) (fun _=>⟨⟨⟨⟨rfl,rfl⟩,trivial⟩,⟨⟨rfl,rfl⟩,⟨rfl,rfl⟩,trivial⟩,⟨rfl,hc⟩,⟨rfl,hc⟩,trivial⟩,hn⟩)⟩) (fun e=> ?_)
  ·have h0:beqBytes x x=true:=beqBytes_iff.2 rfl
   rw[h0] at e
   cases e
  ·have e:=ltInt_false.1 e
   simp only[lenN_eq,List.length_map,Int.ofNat_eq_natCast] at e
   omega
theorem os_loop_l {o:Ob} (hb:o.links.length≤1000) {Q:AExit→St→Prop} (hq:Q (.exit 2) (osV 6 (.ofNat o.links.length) (obC o)).st):∀i,i≤o.links.length→ALp Tryz.prog opts0.glob 0 (lpCode Tryz.prog 20 10) (osV 6 (.ofNat i) (obC o)).st Q:=by
 have hc:closedAll (obF o (matA o) (namA o) (.fsl false (o.links.map lkA)) (cusA o))=true:=closed_obC o
 refine cnt_up _ ?_ (fun i hi hn=> ?_)
 ·refine ALp.round (A:=osA 11 [I (⟨0,[]⟩:Lk).ty,.str (⟨0,[]⟩:Lk).id]) (V1:=osV 6 0 (obF o (matA o) (namA o) (.fsl false (o.links.map lkA)) (cusA o))) (V2:=osV 6 0 (obF o (matA o) (namA o) (.fsl false (o.links.map lkA)) (cusA o))) (F:=osV 6 (.ofNat o.links.length) (obF o (matA o) (namA o) (.fsl false (o.links.map lkA)) (cusA o))) (lk:=[(0,0),(1,1)]) (lk':=[(0,0),(1,1)]) base0 aidJ_ok (LsOk.no rfl) .refl ?_
  show wpK Tryz.prog opts0 40 _ _ (osV 6 (.ofNat o.links.length) (obF o (matA o) (namA o) (.fsl false (o.links.map lkA)) (cusA o))).st _
  rw[os_l (x:=⟨0,[]⟩)]
  refine mtB_of (fun e=> ?_) (fun _=>⟨⟨⟨⟨rfl,rfl⟩,trivial⟩,⟨⟨rfl,rfl⟩,⟨rfl,rfl⟩,trivial⟩,⟨rfl,hc⟩,⟨rfl,hc⟩,trivial⟩,hq⟩)
  have e:=ltInt_iff.1 e
  simp[lenN_eq] at e
 ·have g1:=List.getElem?_eq_getElem hi
  revert g1
  generalize o.links[i]=x
  intro g1
  have hx:indexAddrA Tryz.prog 28 (.fsl false (o.links.map lkA)) (.int .i64 (.ofNat i))=some (.fptr [I x.ty,.str x.id] 0):=fsl_index (v:=lkA x) (e:=99) (sz:=2) (by kernel_rfl) (by kernel_rfl) (by rw[List.getElem?_map,g1];rfl) rfl
  have hw:wrapA .i64 (Int.ofNat i+1)=Int.ofNat (i+1):=wrapA_i64 (by simp;omega) (by simp;omega)
  refine ALp.round (A:=osA 11 [I x.ty,.str x.id]) (V1:=osV 6 (.ofNat (i+1)) (obF o (matA o) (namA o) (.fsl false (o.links.map lkA)) (cusA o))) (V2:=osV 6 (.ofNat (i+1)) (obF o (matA o) (namA o) (.fsl false (o.links.map lkA)) (cusA o))) (F:=osV 6 (.ofNat i) (obF o (matA o) (namA o) (.fsl false (o.links.map lkA)) (cusA o))) (lk:=[(0,0),(1,1)]) (lk':=[(0,0),(1,1)]) base0 aidJ_ok (LsOk.no rfl) .refl ?_
  show wpK Tryz.prog opts0 40 _ _ (osV 6 (.ofNat i) (obF o (matA o) (namA o) (.fsl false (o.links.map lkA)) (cusA o))).st _
  rw[os_l,hw]
  refine mtB_of (fun _=>⟨hx,hx,mtB_of (fun e=> ?_) (fun _=>⟨⟨⟨⟨rfl,rfl⟩,trivial⟩,⟨⟨rfl,rfl⟩,⟨rfl,rfl⟩,trivial⟩,⟨rfl,hc⟩,⟨rfl,hc⟩,trivial⟩,hn⟩)⟩) (fun e=> ?_)
  ·have h0:(beqInt x.ty x.ty&&(beqBytes x.id x.id&&true))=true:=by simp[beqInt_iff,beqBytes_iff]
   rw[h0] at e
   cases e
  ·have e:=ltInt_false.1 e
   simp only[lenN_eq,List.length_map,Int.ofNat_eq_natCast] at e
   omega
theorem os_loop_c {o:Ob} (hb:o.cust.length≤1000) {Q:AExit→St→Prop} (hq:Q (.exit 4) (osV 7 (.ofNat o.cust.length) (obC o)).st):∀i,i≤o.cust.length→ALp Tryz.prog opts0.glob 0 (lpCode Tryz.prog 20 15) (osV 7 (.ofNat i) (obC o)).st Q:=by
 have hc:closedAll (obF o (matA o) (namA o) (lnkA o) (.fsl false (o.cust.map cuA)))=true:=closed_obC o
 refine cnt_up _ ?_ (fun i hi hn=> ?_)
 ·refine ALp.round (A:=osA 16 [.str (⟨[],[]⟩:Cu).name,.str (⟨[],[]⟩:Cu).text]) (V1:=osV 7 0 (obF o (matA o) (namA o) (lnkA o) (.fsl false (o.cust.map cuA)))) (V2:=osV 7 0 (obF o (matA o) (namA o) (lnkA o) (.fsl false (o.cust.map cuA)))) (F:=osV 7 (.ofNat o.cust.length) (obF o (matA o) (namA o) (lnkA o) (.fsl false (o.cust.map cuA)))) (lk:=[(0,0),(1,1)]) (lk':=[(0,0),(1,1)]) base0 aidJ_ok (LsOk.no rfl) .refl ?_
  show wpK Tryz.prog opts0 40 _ _ (osV 7 (.ofNat o.cust.length) (obF o (matA o) (namA o) (lnkA o) (.fsl false (o.cust.map cuA)))).st _
  rw[os_c (x:=⟨[],[]⟩)]
  refine mtB_of (fun e=> ?_) (fun _=>⟨⟨⟨⟨rfl,rfl⟩,trivial⟩,⟨⟨rfl,rfl⟩,⟨rfl,rfl⟩,trivial⟩,⟨rfl,hc⟩,⟨rfl,hc⟩,trivial⟩,hq⟩)
  have e:=ltInt_iff.1 e
  simp[lenN_eq] at e
 ·have g1:=List.getElem?_eq_getElem hi
  revert g1
  generalize o.cust[i]=x
  intro g1
  have hx:indexAddrA Tryz.prog 29 (.fsl false (o.cust.map cuA)) (.int .i64 (.ofNat i))=some (.fptr [.str x.name,.str x.text] 0):=fsl_index (v:=cuA x) (e:=101) (sz:=2) (by kernel_rfl) (by kernel_rfl) (by rw[List.getElem?_map,g1];rfl) rfl
  have hw:wrapA .i64 (Int.ofNat i+1)=Int.ofNat (i+1):=wrapA_i64 (by simp;omega) (by simp;omega)
  refine ALp.round (A:=osA 16 [.str x.name,.str x.text]) (V1:=osV 7 (.ofNat (i+1)) (obF o (matA o) (namA o) (lnkA o) (.fsl false (o.cust.map cuA)))) (V2:=osV 7 (.ofNat (i+1)) (obF o (matA o) (namA o) (lnkA o) (.fsl false (o.cust.map cuA)))) (F:=osV 7 (.ofNat i) (obF o (matA o) (namA o) (lnkA o) (.fsl false (o.cust.map cuA)))) (lk:=[(0,0),(1,1)]) (lk':=[(0,0),(1,1)]) base0 aidJ_ok (LsOk.no rfl) .refl ?_
  show wpK Tryz.prog opts0 40 _ _ (osV 7 (.ofNat i) (obF o (matA o) (namA o) (lnkA o) (.fsl false (o.cust.map cuA)))).st _
  rw[os_c,hw]
  refine mtB_of (fun _=>⟨hx,hx,mtB_of (fun e=> ?_) (fun _=>⟨⟨⟨⟨rfl,rfl⟩,trivial⟩,⟨⟨rfl,rfl⟩,⟨rfl,rfl⟩,trivial⟩,⟨rfl,hc⟩,⟨rfl,hc⟩,trivial⟩,hn⟩)⟩) (fun e=> ?_)
  ·have h0:(beqBytes x.name x.name&&(beqBytes x.text x.text&&true))=true:=by simp[beqBytes_iff]
   rw[h0] at e
   cases e
  ·have e:=ltInt_false.1 e
   simp only[lenN_eq,List.length_map,Int.ofNat_eq_natCast] at e
   omega
theorem os_at1:loopsAt (fnCode Tryz.prog 20) 5=[lpCode Tryz.prog 20 5]:=by kernel_rfl
theorem os_at2:loopsAt (fnCode Tryz.prog 20) 10=[lpCode Tryz.prog 20 10]:=by kernel_rfl
theorem os_at3:loopsAt (fnCode Tryz.prog 20) 15=[lpCode Tryz.prog 20 15]:=by kernel_rfl
theorem no_b {b:Bool} (h:b=true) {p:Prop} (e:(!b)=true):p:=by rw[h] at e;cases e
theorem osame_sem {o:Ob} (ho:FitO o):SC 20 [obA o,obA o] (.bool true):=by
 have hc:closedAll (obF o (.fsl false (toBytes o.mat)) (.fsl false (o.names.map .str)) (.fsl false (o.links.map lkA)) (.fsl false (o.cust.map cuA)))=true:=closed_obC o
 have hcl:=closed_oc o (c:=[obA o]) (closed_o o)
 have hv:convA Tryz.prog 23 9 (.fsl false (toBytes o.mat))=some (Eff.val (.str o.mat)):=fsl_conv (e:=5) (by kernel_rfl) (by kernel_rfl) (by kernel_rfl)
 have h1:=ho.n
 have h2:=ho.l
 have h3:=ho.c
 refine fnK_semV (A:=aidJ [(1,36,.res (.str o.mat)),(1,39,.res (.str o.mat))] [(5,osL 5 0 (.ofNat o.names.length) (obF o (.fsl false (toBytes o.mat)) (.fsl false (o.names.map .str)) (.fsl false (o.links.map lkA)) (.fsl false (o.cust.map cuA)))),(10,osL 6 2 (.ofNat o.links.length) (obF o (.fsl false (toBytes o.mat)) (.fsl false (o.names.map .str)) (.fsl false (o.links.map lkA)) (.fsl false (o.cust.map cuA)))),(15,osL 7 4 (.ofNat o.cust.length) (obF o (.fsl false (toBytes o.mat)) (.fsl false (o.names.map .str)) (.fsl false (o.links.map lkA)) (.fsl false (o.cust.map cuA))))] noSem [] []) base0 aidJ_ok
  (fnLs_of (LsOk.at3 rfl os_at1 os_at2 os_at3 (fun st Q hs=> .seen base0.glob hs.1 (os_loop_n (by omega) hs.2 0 (Nat.zero_le _))) (fun st Q hs=> .seen base0.glob hs.1 (os_loop_l (by omega) hs.2 0 (Nat.zero_le _))) (fun st Q hs=> .seen base0.glob hs.1 (os_loop_c (by omega) hs.2 0 (Nat.zero_le _))))) hcl rfl ?_
 simp only[obA,obC,matA,namA,lnkA,cusA]
 rw[os_fn]
 repeat (refine mtB_of (fun e=>no_b (by simp[beqInt_iff,beqBytes_iff]) e) (fun _=> ?_))
 refine ⟨hv,hv, ?_⟩
 repeat (refine mtB_of (fun e=>no_b (by simp[beqInt_iff,beqBytes_iff]) e) (fun _=> ?_))
 exact ⟨⟨⟨⟨rfl,rfl⟩,trivial⟩,⟨⟨rfl,rfl⟩,⟨rfl,rfl⟩,trivial⟩,⟨rfl,hc⟩,⟨rfl,hc⟩,trivial⟩,⟨⟨⟨rfl,rfl⟩,trivial⟩,⟨⟨rfl,rfl⟩,⟨rfl,rfl⟩,trivial⟩,⟨rfl,hc⟩,⟨rfl,hc⟩,trivial⟩,⟨⟨⟨rfl,rfl⟩,trivial⟩,⟨⟨rfl,rfl⟩,⟨rfl,rfl⟩,trivial⟩,⟨rfl,hc⟩,⟨rfl,hc⟩,trivial⟩,rfl⟩
end
end Go.Proofs.YtjhggnebkfpgcaaGreatDoor
namespace Go.Proofs.YtjhggnebkfpgcaaGreatDoor
open Go Go.RowKit
open Go.Proofs.Abs
noncomputable section
def chgD:Nat→List UInt8
 |1=>[65,77]
 |2=>[65,77,68]
 |3=>[65,77,68]
 |4=>[65,77]
 |_=>[]
def chgK:Kd→List UInt8
 | .nam| .lnk| .lim| .cus _=>[65,77,68]
 | .mask=>[77]
 | .dat k=>chgD k
 |_=>[]
def staD:Nat→List UInt8
 |1=>[112]
 |2=>[112]
 |3=>[112,97]
 |4=>[112,97]
 |_=>[]
def staK:Kd→List UInt8
 | .mask=>[112]
 | .dat k=>staD k
 |_=>[]
def datK:Kd→Int
 | .dat k=> .ofNat k
 |_=> -1
def rrC (k:Kd):List AV:=[.str (nameK k),I (typeK k),.bool (manyK k),.bool (setK k),.str (chgK k),.str (staK k),I (datK k)]
def rrA (k:Kd):AV:= .agg (rrC k)
def rrZ:AV:= .agg [.str [],I 0,.bool false,.bool false,.str [],.str [],I 0]
abbrev yy2:=[AV.str [67,114,121,112,116,111,103,114,97,112,104,105,99,32,85,115,97,103,101,32,77,97,115,107],I 2,AV.bool false,AV.bool true,AV.str [77],AV.str [112],I (Int.negSucc 0)]
abbrev yy3:=[AV.str [67,114,121,112,116,111,103,114,97,112,104,105,99,32,65,108,103,111,114,105,116,104,109],I 5,AV.bool false,AV.bool true,AV.str [],AV.str [],I (Int.negSucc 0)]
abbrev yy4:=[AV.str [67,111,109,112,114,111,109,105,115,101,32,79,99,99,117,114,114,101,110,99,101,32,68,97,116,101],I 9,AV.bool false,AV.bool false,AV.str [],AV.str [],I 6]
abbrev yy5:=[AV.str [67,114,121,112,116,111,103,114,97,112,104,105,99,32,76,101,110,103,116,104],I 2,AV.bool false,AV.bool true,AV.str [],AV.str [],I (Int.negSucc 0)]
abbrev yy6:=[AV.str [85,110,105,113,117,101,32,73,100,101,110,116,105,102,105,101,114],I 7,AV.bool false,AV.bool false,AV.str [],AV.str [],I (Int.negSucc 0)]
abbrev yy7:=[AV.str [80,114,111,99,101,115,115,32,83,116,97,114,116,32,68,97,116,101],I 9,AV.bool false,AV.bool true,AV.str [65,77,68],AV.str [112],I 2]
abbrev yy8:=[AV.str [80,114,111,116,101,99,116,32,83,116,111,112,32,68,97,116,101],I 9,AV.bool false,AV.bool true,AV.str [65,77,68],AV.str [112,97],I 3]
abbrev yy9:=[AV.str [82,101,118,111,99,97,116,105,111,110,32,82,101,97,115,111,110],I 1,AV.bool false,AV.bool false,AV.str [],AV.str [],I (Int.negSucc 0)]
abbrev yy10:=[AV.str [68,101,97,99,116,105,118,97,116,105,111,110,32,68,97,116,101],I 9,AV.bool false,AV.bool true,AV.str [65,77],AV.str [112,97],I 4]
abbrev yy11:=[AV.str [85,115,97,103,101,32,76,105,109,105,116,115],I 1,AV.bool false,AV.bool true,AV.str [65,77,68],AV.str [],I (Int.negSucc 0)]
abbrev yy12:=[AV.str [65,99,116,105,118,97,116,105,111,110,32,68,97,116,101],I 9,AV.bool false,AV.bool true,AV.str [65,77],AV.str [112],I 1]
abbrev yy13:=[AV.str [76,97,115,116,32,67,104,97,110,103,101,32,68,97,116,101],I 9,AV.bool false,AV.bool false,AV.str [],AV.str [],I 9]
abbrev yy14:=[AV.str [67,111,109,112,114,111,109,105,115,101,32,68,97,116,101],I 9,AV.bool false,AV.bool false,AV.str [],AV.str [],I 7]
abbrev yy15:=[AV.str [79,98,106,101,99,116,32,84,121,112,101],I 5,AV.bool false,AV.bool false,AV.str [],AV.str [],I (Int.negSucc 0)]
abbrev yy16:=[AV.str [68,101,115,116,114,111,121,32,68,97,116,101],I 9,AV.bool false,AV.bool false,AV.str [],AV.str [],I 5]
abbrev yy17:=[AV.str [73,110,105,116,105,97,108,32,68,97,116,101],I 9,AV.bool false,AV.bool false,AV.str [],AV.str [],I 0]
abbrev yy18:=[AV.str [65,114,99,104,105,118,101,32,68,97,116,101],I 9,AV.bool false,AV.bool false,AV.str [],AV.str [],I 8]
abbrev yy19:=[AV.str [76,105,110,107],I 1,AV.bool true,AV.bool true,AV.str [65,77,68],AV.str [],I (Int.negSucc 0)]
abbrev yy20:=[AV.str [78,97,109,101],I 7,AV.bool true,AV.bool true,AV.str [65,77,68],AV.str [],I (Int.negSucc 0)]
abbrev yy21:=[AV.str [83,116,97,116,101],I 5,AV.bool false,AV.bool false,AV.str [],AV.str [],I (Int.negSucc 0)]
abbrev yy1:=(AV.fsl true [AV.agg yy6,AV.agg yy20,AV.agg yy15,AV.agg yy3,AV.agg yy5,AV.agg yy2,AV.agg yy21,AV.agg yy17,AV.agg yy12,AV.agg yy7,AV.agg yy8,AV.agg yy10,AV.agg yy16,AV.agg yy4,AV.agg yy14,AV.agg yy18,AV.agg yy13,AV.agg yy9,AV.agg yy19,AV.agg yy11])
theorem rrows_fn (Q:AV→Prop):fnK Tryz.prog opts0 40 aid0 95 [] [] 0 (fun v _ _=>Q v)=
  (Q yy1):=by kernel_rfl
theorem rrows_sem:SC 95 [] (.fsl true (kinds.map rrA)):=by
 refine fnK_semE (A:=aid0) base0 aidOk0 (fnLs_of (LsOk.no rfl)) rfl ?_
 rw[rrows_fn]
 exact end_eq rfl (by kernel_rfl)
def rfA (c:Bool):Aid:=aidJ [] [] (manyS [(114,.bool c),(95,.fsl true (kinds.map rrA))]) [] []
theorem rfind_fn (c:Bool) (s:List UInt8) (Q:AV→Prop):fnK Tryz.prog opts0 40 (rfA c) 63 [.str s] [] 0 (fun v _ _=>Q v)=
  (SC 95 [] yy1∧mtB (beqBytes [85,110,105,113,117,101,32,73,100,101,110,116,105,102,105,101,114] s) (Q (AV.tuple [AV.agg yy6,AV.bool true])) (mtB (beqBytes [78,97,109,101] s) (Q (AV.tuple [AV.agg yy20,AV.bool true])) (mtB (beqBytes [79,98,106,101,99,116,32,84,121,112,101] s) (Q (AV.tuple [AV.agg yy15,AV.bool true])) (mtB (beqBytes [67,114,121,112,116,111,103,114,97,112,104,105,99,32,65,108,103,111,114,105,116,104,109] s) (Q (AV.tuple [AV.agg yy3,AV.bool true])) (mtB (beqBytes [67,114,121,112,116,111,103,114,97,112,104,105,99,32,76,101,110,103,116,104] s) (Q (AV.tuple [AV.agg yy5,AV.bool true])) (mtB (beqBytes [67,114,121,112,116,111,103,114,97,112,104,105,99,32,85,115,97,103,101,32,77,97,115,107] s) (Q (AV.tuple [AV.agg yy2,AV.bool true])) (mtB (beqBytes [83,116,97,116,101] s) (Q (AV.tuple [AV.agg yy21,AV.bool true])) (mtB (beqBytes [73,110,105,116,105,97,108,32,68,97,116,101] s) (Q (AV.tuple [AV.agg yy17,AV.bool true])) (mtB (beqBytes [65,99,116,105,118,97,116,105,111,110,32,68,97,116,101] s) (Q (AV.tuple [AV.agg yy12,AV.bool true])) (mtB (beqBytes [80,114,111,99,101,115,115,32,83,116,97,114,116,32,68,97,116,101] s) (Q (AV.tuple [AV.agg yy7,AV.bool true])) (mtB (beqBytes [80,114,111,116,101,99,116,32,83,116,111,112,32,68,97,116,101] s) (Q (AV.tuple [AV.agg yy8,AV.bool true])) (mtB (beqBytes [68,101,97,99,116,105,118,97,116,105,111,110,32,68,97,116,101] s) (Q (AV.tuple [AV.agg yy10,AV.bool true])) (mtB (beqBytes [68,101,115,116,114,111,121,32,68,97,116,101] s) (Q (AV.tuple [AV.agg yy16,AV.bool true])) (mtB (beqBytes [67,111,109,112,114,111,109,105,115,101,32,79,99,99,117,114,114,101,110,99,101,32,68,97,116,101] s) (Q (AV.tuple [AV.agg yy4,AV.bool true])) (mtB (beqBytes [67,111,109,112,114,111,109,105,115,101,32,68,97,116,101] s) (Q (AV.tuple [AV.agg yy14,AV.bool true])) (mtB (beqBytes [65,114,99,104,105,118,101,32,68,97,116,101] s) (Q (AV.tuple [AV.agg yy18,AV.bool true])) (mtB (beqBytes [76,97,115,116,32,67,104,97,110,103,101,32,68,97,116,101] s) (Q (AV.tuple [AV.agg yy13,AV.bool true])) (mtB (beqBytes [82,101,118,111,99,97,116,105,111,110,32,82,101,97,115,111,110] s) (Q (AV.tuple [AV.agg yy9,AV.bool true])) (mtB (beqBytes [76,105,110,107] s) (Q (AV.tuple [AV.agg yy19,AV.bool true])) (mtB (beqBytes [85,115,97,103,101,32,76,105,109,105,116,115] s) (Q (AV.tuple [AV.agg yy11,AV.bool true])) (SC 114 [AV.str s] (AV.bool c)∧mtB c (Q (AV.tuple [AV.agg [AV.str s,I 7,AV.bool true,AV.bool true,AV.str [65,77,68],AV.str [],I (Int.negSucc 0)],AV.bool true])) (Q (AV.tuple [AV.agg [AV.str [],I 0,AV.bool false,AV.bool false,AV.str [],AV.str [],I 0],AV.bool false]))))))))))))))))))))))):=by kernel_rfl
end
end Go.Proofs.YtjhggnebkfpgcaaGreatDoor
