import Derived.Test.YtlljinebapfdaaaGreatDoorQ1
import Derived.KernelRfl
import Derived.Test.YtlljinebapfdaaaGreatDoorG5
namespace Go.Proofs.YtlljinebapfdaaaGreatDoor
set_option maxRecDepth 20000
open Go Go.RowKit
open Go.Proofs.Abs
noncomputable section
def cj:It→Int| .mk _ _ n _ _=>n
def dO:It→List UInt8| .mk _ _ _ d _=>d
def bf:It→List It| .mk _ _ _ _ k=>k
def cr (o:Ob):Nat→Dt
 |0=>o.d0
 |1=>o.d1
 |2=>o.d2
 |3=>o.d3
 |4=>o.d4
 |5=>o.d5
 |6=>o.d6
 |7=>o.d7
 |8=>o.d8
 |_=>o.d9
def dA (o:Ob) (d:Dt):Nat→Ob
 |0=>{o with d0:=d}
 |1=>{o with d1:=d}
 |2=>{o with d2:=d}
 |3=>{o with d3:=d}
 |4=>{o with d4:=d}
 |5=>{o with d5:=d}
 |6=>{o with d6:=d}
 |7=>{o with d7:=d}
 |8=>{o with d8:=d}
 |_=>{o with d9:=d}
def gy (s:List UInt8):It:=bA 7 0 s []
def aP (y n:Int):It:=bA y n [] []
def eW (t y n:Int):It:= .mk t y n [] []
def fW (ks:List It):It:=bA 1 0 [] ks
def qK (l:Lk):It:=fW [eW 4325451 5 l.ty,.mk 4325452 7 0 l.id []]
def oh:List UInt8→List It
 |[]=>[]
 |s::t=>[.mk 4325504 7 0 (s::t) []]
def qL (o:Ob):It:=fW (eW 4325506 5 o.why::oh o.msg)
def vi (o:Ob):It:=fW [eW 4325527 3 o.lt,eW 4325526 3 o.lc,eW 4325528 5 o.lu]
def cK (b:Bool) (x:It):List It:=match b with
 |true=>[x]
 |false=>[]
def aL (o:Ob):Kd→List It
 | .uid=>[gy o.id]
 | .nam=>o.names.map gy
 | .typ=>[aP 5 o.ty]
 | .alg=>cK (!ah o.alg 0) (aP 5 o.alg)
 | .len=>cK (!ah o.len 0) (aP 2 o.len)
 | .mask=>[aP 2 o.mask]
 | .sta=>[aP 5 o.st]
 | .dat k=>cK (cr o k).has (aP 9 (cr o k).t)
 | .why=>cK (!ah o.why 0) (qL o)
 | .lnk=>o.links.map qK
 | .lim=>cK o.lh (vi o)
 | .cus s=>(o.cust.filter fun c=>ag c.name s).map fun c=>gy c.text
theorem vj {l:List AV} (h:ae l=true):ae [.agg l]=true:=by simp[ae,ad,h]
theorem iL {f:Bool} {l:List AV} (h:ae l=true):ad (.fsl f l)=true:=h
def vl (sz:Nat) (v:AV) (h:ab):Option (Nat × List AV):=match v with
 | .nilsl=>some (0,[])
 | .rsl _ id 0 len sz'=>match Nat.beq sz' sz,hget h id with
  |true,some (.cells c)=>some (len,c)
  |_,_=>none
 |_=>none
theorem IC {sz:Nat} {v w:AV} {h:ab} {es:List AV} (e:vl sz v h=some (es.length,flat es)) (hg:∀e∈es,dM sz e) (hc:ae es=true) (hw:Wk (.fsl false es) w):jr w v h:=by
 unfold vl at e
 split at e
 ·have e:=congrArg Prod.fst (Option.some.inj e)
  have:es=[]:=List.eq_nil_of_length_eq_zero e.symm
  subst this
  exact ⟨.nilsl,⟨1,rfl⟩,rfl,Wk.nil.trans hw⟩
 ·split at e
  ·rename_i h1 h2
   have e:=Option.some.inj e
   have h1:=beq_iff.1 h1
   subst h1
   exact ⟨_,(Frz.row (es:=es) rfl h2 (congrArg Prod.snd e) (congrArg Prod.fst e) hg hc).out,iL hc,hw⟩
  ·cases e
 ·cases e
theorem Bn {A:aV} {f:FuncId} {args:List AV} {v:AV} {sz:Nat} {es:List AV} (hA:cC Tryz.prog opts0 A) (hl:fh Tryz.prog opts0.glob 0 A f) (hcl:ae args=true) (hg:∀e∈es,dM sz e) (hc:ae es=true) (hw:Wk (.fsl false es) v)
  (h:aq Tryz.prog opts0 40 A f args [] 0 (fun u H _=>vl sz u H=some (es.length,flat es))=(some (es.length,flat es)=some (es.length,flat es))):SC f args v:=by
 have h:=h.mpr rfl
 obtain ⟨fn,c,hfn,hc',hname,hsz,hw'⟩:=jp base0 hA hl h
 refine uK base0 hfn hc' hname hsz hcl fun w I a hr=>wp_mono (hw'.out w I _ [] [] a w (fun _ _=>rfl) hr) ?_
 rintro e a' w' ⟨x,s',rfl,h2,hx,l,hl,hq⟩
 refine ⟨s',l, ?_,h2,hl,IC hq hg hc hw⟩
 rcases hx with rfl|rfl
 ·exact .inl rfl
 ·exact .inr rfl
def bK:List Nat:=[281,267,284,314]
def mr:List Nat:=[277,285,286]
theorem ID (o:Ob) (M N L C:AV) (Q:AV→Prop):aq Tryz.prog opts0 40 (ak [] [] aA bK []) 280 [.agg (ai o M N L C)] [] 0 (fun v _ _=>Q v)=
  (Q (AV.fsl true [AV.agg [I 4325387,I 7,I 0,AV.fsl false (aj o.1),AV.nilsl]])):=by kernel_rfl
theorem IE (o:Ob) (M N L C:AV) (Q:AV→Prop):aq Tryz.prog opts0 40 (ak [] [] aA bK []) 283 [.agg (ai o M N L C)] [] 0 (fun v _ _=>Q v)=
  (Q (AV.fsl true [AV.agg [I 4325387,I 5,I o.2,AV.nilsl,AV.nilsl]])):=by kernel_rfl
theorem IF (o:Ob) (M N L C:AV) (Q:AV→Prop):aq Tryz.prog opts0 40 (ak [] [] aA bK []) 287 [.agg (ai o M N L C)] [] 0 (fun v _ _=>Q v)=
  (Q (AV.fsl true [AV.agg [I 4325387,I 5,I o.7,AV.nilsl,AV.nilsl]])):=by kernel_rfl
theorem IG (o:Ob) (M N L C:AV) (Q:AV→Prop):aq Tryz.prog opts0 40 (ak [] [] aA bK []) 322 [.agg (ai o M N L C)] [] 0 (fun v _ _=>Q v)=
  (aa (!o.23) (Q AV.nilsl) (Q (AV.fsl true [AV.agg [I 4325387,I 1,I 0,AV.nilsl,AV.fsl true [AV.agg [I 4325527,I 3,I o.24,AV.nilsl,AV.nilsl],AV.agg [I 4325526,I 3,I o.25,AV.nilsl,AV.nilsl],AV.agg [I 4325528,I 5,I o.26,AV.nilsl,AV.nilsl]]]]))):=by kernel_rfl
abbrev vm (o:Ob):=[AV.agg [I 4325506,I 5,I o.18,AV.nilsl,AV.nilsl]]
abbrev vo (o:Ob):=[I 4325387,I 1,I 0,AV.nilsl,AV.rsl true 16 0 (ac (vm o)+ac [AV.agg [I 4325504,I 7,I 0,AV.fsl false (aj o.19),AV.nilsl]]) 5]
abbrev ol (o:Ob):=[I 4325387,I 1,I 0,AV.nilsl,AV.fsl true (vm o)]
abbrev Bo (C L M N:AV) (o:Ob):=[(29,some (Blk.cells (vo o))),(25,some (Blk.cells (vo o))),(16,some (Blk.cells (flat (vm o)++flat [AV.agg [I 4325504,I 7,I 0,AV.fsl false (aj o.19),AV.nilsl]]))),(0,some (Blk.cells (ai o M N L C)))]
theorem IH (o:Ob) (M N L C:AV) (Q:AV→ab→Prop):aq Tryz.prog opts0 40 (ak [] [] aA bK []) 290 [.agg (ai o M N L C)] [] 0 (fun v H _=>Q v H)=
  (aa (!ag o.19 []) (aa (!!ah o.18 0) (Q AV.nilsl (Bo C L M N o)) (Q (AV.fsl true [AV.agg (vo o)]) (Bo C L M N o))) (aa (!!ah o.18 0) (Q AV.nilsl [(21,some (Blk.cells (ol o))),(17,some (Blk.cells (ol o))),(0,some (Blk.cells (ai o M N L C)))]) (Q (AV.fsl true [AV.agg (ol o)]) [(21,some (Blk.cells (ol o))),(17,some (Blk.cells (ol o))),(0,some (Blk.cells (ai o M N L C)))]))):=by kernel_rfl
theorem II (o:Ob) (M N L C:AV) (Q:AV→Prop):aq Tryz.prog opts0 40 (ak [] [] aA bK mr) 299 [.agg (ai o M N L C),.fptr [bB 285] 0,.fptr [I 1] 0,.fptr [I 5] 0] [] 0 (fun v _ _=>Q v)=
  (aa (!ah o.3 0) (Q (AV.fsl true [AV.agg [I 4325387,I 5,I o.3,AV.nilsl,AV.nilsl]])) (Q AV.nilsl)):=by kernel_rfl
theorem IJ (o:Ob) (M N L C:AV) (Q:AV→Prop):aq Tryz.prog opts0 40 (ak [] [] aA bK mr) 299 [.agg (ai o M N L C),.fptr [bB 286] 0,.fptr [I 1] 0,.fptr [I 2] 0] [] 0 (fun v _ _=>Q v)=
  (aa (!ah o.4 0) (Q (AV.fsl true [AV.agg [I 4325387,I 2,I o.4,AV.nilsl,AV.nilsl]])) (Q AV.nilsl)):=by kernel_rfl
theorem IK (o:Ob) (M N L C:AV) (Q:AV→Prop):aq Tryz.prog opts0 40 (ak [] [] aA bK mr) 299 [.agg (ai o M N L C),.fptr [bB 277] 0,.fptr [I 0] 0,.fptr [I 2] 0] [] 0 (fun v _ _=>Q v)=
  (aa (!ah o.5 0) (Q (AV.fsl true [AV.agg [I 4325387,I 2,I o.5,AV.nilsl,AV.nilsl]])) (Q (AV.fsl true [AV.agg [I 4325387,I 2,I o.5,AV.nilsl,AV.nilsl]]))):=by kernel_rfl
theorem IL (o:Ob) (M N L C:AV) (Q:AV→Prop):aq Tryz.prog opts0 40 (ak [] [] aA bK []) 310 [.agg (ai o M N L C),.fptr [I 0] 0] [] 0 (fun v _ _=>Q v)=
  (aa (!o.d0.1) (Q AV.nilsl) (Q (AV.fsl true [AV.agg [I 4325387,I 9,I o.d0.2,AV.nilsl,AV.nilsl]]))):=by kernel_rfl
theorem IM (o:Ob) (M N L C:AV) (Q:AV→Prop):aq Tryz.prog opts0 40 (ak [] [] aA bK []) 310 [.agg (ai o M N L C),.fptr [I 1] 0] [] 0 (fun v _ _=>Q v)=
  (aa (!o.d1.1) (Q AV.nilsl) (Q (AV.fsl true [AV.agg [I 4325387,I 9,I o.d1.2,AV.nilsl,AV.nilsl]]))):=by kernel_rfl
theorem IO (o:Ob) (M N L C:AV) (Q:AV→Prop):aq Tryz.prog opts0 40 (ak [] [] aA bK []) 310 [.agg (ai o M N L C),.fptr [I 2] 0] [] 0 (fun v _ _=>Q v)=
  (aa (!o.d2.1) (Q AV.nilsl) (Q (AV.fsl true [AV.agg [I 4325387,I 9,I o.d2.2,AV.nilsl,AV.nilsl]]))):=by kernel_rfl
theorem IP (o:Ob) (M N L C:AV) (Q:AV→Prop):aq Tryz.prog opts0 40 (ak [] [] aA bK []) 310 [.agg (ai o M N L C),.fptr [I 3] 0] [] 0 (fun v _ _=>Q v)=
  (aa (!o.d3.1) (Q AV.nilsl) (Q (AV.fsl true [AV.agg [I 4325387,I 9,I o.d3.2,AV.nilsl,AV.nilsl]]))):=by kernel_rfl
theorem IQ (o:Ob) (M N L C:AV) (Q:AV→Prop):aq Tryz.prog opts0 40 (ak [] [] aA bK []) 310 [.agg (ai o M N L C),.fptr [I 4] 0] [] 0 (fun v _ _=>Q v)=
  (aa (!o.d4.1) (Q AV.nilsl) (Q (AV.fsl true [AV.agg [I 4325387,I 9,I o.d4.2,AV.nilsl,AV.nilsl]]))):=by kernel_rfl
theorem IR (o:Ob) (M N L C:AV) (Q:AV→Prop):aq Tryz.prog opts0 40 (ak [] [] aA bK []) 310 [.agg (ai o M N L C),.fptr [I 5] 0] [] 0 (fun v _ _=>Q v)=
  (aa (!o.d5.1) (Q AV.nilsl) (Q (AV.fsl true [AV.agg [I 4325387,I 9,I o.d5.2,AV.nilsl,AV.nilsl]]))):=by kernel_rfl
theorem IU (o:Ob) (M N L C:AV) (Q:AV→Prop):aq Tryz.prog opts0 40 (ak [] [] aA bK []) 310 [.agg (ai o M N L C),.fptr [I 6] 0] [] 0 (fun v _ _=>Q v)=
  (aa (!o.d6.1) (Q AV.nilsl) (Q (AV.fsl true [AV.agg [I 4325387,I 9,I o.d6.2,AV.nilsl,AV.nilsl]]))):=by kernel_rfl
theorem IV (o:Ob) (M N L C:AV) (Q:AV→Prop):aq Tryz.prog opts0 40 (ak [] [] aA bK []) 310 [.agg (ai o M N L C),.fptr [I 7] 0] [] 0 (fun v _ _=>Q v)=
  (aa (!o.d7.1) (Q AV.nilsl) (Q (AV.fsl true [AV.agg [I 4325387,I 9,I o.d7.2,AV.nilsl,AV.nilsl]]))):=by kernel_rfl
theorem IW (o:Ob) (M N L C:AV) (Q:AV→Prop):aq Tryz.prog opts0 40 (ak [] [] aA bK []) 310 [.agg (ai o M N L C),.fptr [I 8] 0] [] 0 (fun v _ _=>Q v)=
  (aa (!o.d8.1) (Q AV.nilsl) (Q (AV.fsl true [AV.agg [I 4325387,I 9,I o.d8.2,AV.nilsl,AV.nilsl]]))):=by kernel_rfl
theorem IX (o:Ob) (M N L C:AV) (Q:AV→Prop):aq Tryz.prog opts0 40 (ak [] [] aA bK []) 310 [.agg (ai o M N L C),.fptr [I 9] 0] [] 0 (fun v _ _=>Q v)=
  (aa (!o.d9.1) (Q AV.nilsl) (Q (AV.fsl true [AV.agg [I 4325387,I 9,I o.d9.2,AV.nilsl,AV.nilsl]]))):=by kernel_rfl
def eX (x:List UInt8):AV:= .agg [I 4325387,I 7,I 0,.fsl false (aj x),.nilsl]
theorem om:∀l:List (List UInt8),ae (l.map eX)=true
 |[]=>rfl
 |x::r=>by
  rw[List.map_cons,ae,om r]
  simp[eX,ad,ae]
theorem Bp:∀l:List (List UInt8),∀e∈l.map eX,dM 5 e:=fun l e he=>by
 obtain ⟨x,_,rfl⟩:=List.mem_map.1 he
 exact ⟨rfl,rfl⟩
theorem Bq (l:List (List UInt8)):Wk (.fsl false (l.map eX)) (.fsl false (af (l.map gy))):=by
 rw[ir,List.map_map]
 refine Wk.rows (WkE.map fun x _=> ?_)
 simp only[eX,Function.comp,gy,bA,aD,af,AV.cells]
 (repeat (first|exact Wk.refl _|exact WkL.refl _|exact Wk.nil|exact Wk.row|exact WkE.refl _|exact WkL.nil|exact WkE.nil|apply Wk.agg|apply Wk.tuple|apply WkL.cons|apply Wk.rows|apply WkE.consA))
theorem IY (o:Ob) {M L C:AV} (hM:ad M=true) (hL:ad L=true) (hC:ad C=true) (l:List (List UInt8)) (h:l.length≤6):SC 304 [.agg (ai o M (.fsl false (l.map .str)) L C)] (.fsl false (af (l.map gy))):=by
 have hcl:ae [.agg (ai o M (.fsl false (l.map .str)) L C)]=true:=vj (og o hM (iL (qd l)) hL hC)
 refine Bn (A:=ak [] [] aA bK []) ap (ar (LsOk.no rfl)) hcl (Bp l) (om l) (Bq l) ?_
 clear hcl
 rcases l with _|⟨_,_|⟨_,_|⟨_,_|⟨_,_|⟨_,_|⟨_,_|⟨_,_⟩⟩⟩⟩⟩⟩⟩
 all_goals first
  |(exfalso;simp only[List.length_cons] at h;omega)
  |kernel_rfl
def oo (x:Lk):AV:= .agg [I 4325387,I 1,I 0,.nilsl,.fsl true [.agg [I 4325451,I 5,I x.ty,.nilsl,.nilsl],.agg [I 4325452,I 7,I 0,.fsl false (aj x.id),.nilsl]]]
theorem Br:∀l:List (Lk),ae (l.map oo)=true
 |[]=>rfl
 |x::r=>by
  rw[List.map_cons,ae,Br r]
  simp[oo,ad,ae]
theorem IZ:∀l:List (Lk),∀e∈l.map oo,dM 5 e:=fun l e he=>by
 obtain ⟨x,_,rfl⟩:=List.mem_map.1 he
 exact ⟨rfl,rfl⟩
theorem I1 (l:List (Lk)):Wk (.fsl false (l.map oo)) (.fsl false (af (l.map qK))):=by
 rw[ir,List.map_map]
 refine Wk.rows (WkE.map fun x _=> ?_)
 simp only[oo,Function.comp,qK,fW,eW,bA,aD,af,AV.cells,aj]
 (repeat (first|exact Wk.refl _|exact WkL.refl _|exact Wk.nil|exact Wk.row|exact WkE.refl _|exact WkL.nil|exact WkE.nil|apply Wk.agg|apply Wk.tuple|apply WkL.cons|apply Wk.rows|apply WkE.consA))
theorem I3 (o:Ob) {M N C:AV} (hM:ad M=true) (hL:ad N=true) (hC:ad C=true) (l:List (Lk)) (h:l.length≤8):SC 316 [.agg (ai o M N (.fsl false (l.map aO)) C)] (.fsl false (af (l.map qK))):=by
 have hcl:ae [.agg (ai o M N (.fsl false (l.map aO)) C)]=true:=vj (og o hM hL (iL (qe l)) hC)
 refine Bn (A:=ak [] [] aA bK []) ap (ar (LsOk.no rfl)) hcl (IZ l) (Br l) (I1 l) ?_
 clear hcl
 rcases l with _|⟨_,_|⟨_,_|⟨_,_|⟨_,_|⟨_,_|⟨_,_|⟨_,_|⟨_,_|⟨_,_⟩⟩⟩⟩⟩⟩⟩⟩⟩
 all_goals first
  |(exfalso;simp only[List.length_cons] at h;omega)
  |kernel_rfl
end
end Go.Proofs.YtlljinebapfdaaaGreatDoor
namespace Go.Proofs.YtlljinebapfdaaaGreatDoor
open Go Go.RowKit
open Go.Proofs.Abs
noncomputable section
def Bs (x lo hi:Int):Bool:= !au x lo&& !au hi x
def dH (x:It) (tag kind lo hi:Int):Bool:=b8 x tag kind&&Bs (cj x) lo hi
def iM (x:It) (tag:Int):Bool:=b8 x tag 7&&u6 (dO x)
def jC:List It→Bool
 |[a,b]=>dH a 4325451 5 101 110&&iM b 4325452
 |_=>false
def eH:List It→Bool
 |[a,b,c]=>dH a 4325527 3 1 1099511627776&&(dH b 4325526 3 0 (cj a)&&dH c 4325528 5 1 2)
 |_=>false
def vp:List It→Bool
 |a::b::_=>ah (cj b) (cj a)
 |_=>false
def jD (o:Ob) (v:It):Kd→Bool
 | .nam| .cus _=>iM v 4325387
 | .alg=>dH v 4325387 5 1 100
 | .len=>dH v 4325387 2 1 100000
 | .mask=>dH v 4325387 2 0 1048575
 | .dat _=>dH v 4325387 9 (-1099511627776) 1099511627776
 | .lnk=>b8 v 4325387 1&&jC (bf v)
 | .lim=>b8 v 4325387 1&&(eH (bf v)&&(o.lh||vp (bf v)))
 |_=>false
abbrev iN (D K:List AV) (n t y:Int):=[I t,I y,I n,AV.fsl false D,AV.fsl false K]
theorem I4 (t y n tag:Int) (D K:List AV) (sh tx:Bool) (Q:AV→Prop):aq Tryz.prog opts0 40 (ak [] [] (bq [(221,.bool sh),(186,.bool tx)]) [] []) 269 [.agg (am t y n D K),I tag] [] 0 (fun v _ _=>Q v)=
  (SC 221 [AV.agg (iN D K n t y),I tag,I 7] (AV.bool sh)∧aa sh (ax (dh D).isSome (SC 186 [AV.str (ig D)] (AV.bool tx)∧Q (AV.bool tx))) (Q (AV.bool false))):=by kernel_rfl
theorem I5 (t y n tag kind lo hi:Int) (D K:List AV) (sh:Bool) (Q:AV→Prop):aq Tryz.prog opts0 40 (ak [] [] (bq [(221,.bool sh)]) [] []) 301 [.agg (am t y n D K),I tag,I kind,I lo,I hi] [] 0 (fun v _ _=>Q v)=
  (SC 221 [AV.agg (iN D K n t y),I tag,I kind] (AV.bool sh)∧aa sh (aa (!au n lo) (Q (AV.bool !au hi n)) (Q (AV.bool false))) (Q (AV.bool false))):=by kernel_rfl
theorem I6 (o:Ob) (M N L C:AV) (t y n:Int) (D K:List AV) (r:Bool) (Q:AV→Prop):aq Tryz.prog opts0 40 (ak [] [] (bq [(269,.bool r)]) [] []) 305 [.agg (ai o M N L C),.agg (am t y n D K)] [] 0 (fun v _ _=>Q v)=
  (SC 269 [AV.agg (iN D K n t y),I 4325387] (AV.bool r)∧Q (AV.bool r)):=by kernel_rfl
theorem I7 (o:Ob) (M N L C:AV) (t y n:Int) (D K:List AV) (r:Bool) (Q:AV→Prop):aq Tryz.prog opts0 40 (ak [] [] (bq [(269,.bool r)]) [] []) 268 [.agg (ai o M N L C),.agg (am t y n D K)] [] 0 (fun v _ _=>Q v)=
  (SC 269 [AV.agg (iN D K n t y),I 4325387] (AV.bool r)∧Q (AV.bool r)):=by kernel_rfl
theorem I8 (o:Ob) (M N L C:AV) (t y n:Int) (D K:List AV) (r:Bool) (Q:AV→Prop):aq Tryz.prog opts0 40 (ak [] [] (bq [(301,.bool r)]) [] []) 311 [.agg (ai o M N L C),.agg (am t y n D K)] [] 0 (fun v _ _=>Q v)=
  (SC 301 [AV.agg (iN D K n t y),I 4325387,I 9,I (Int.negSucc 1099511627775),I 1099511627776] (AV.bool r)∧Q (AV.bool r)):=by kernel_rfl
theorem I9 (o:Ob) (M N L C:AV) (t y n:Int) (D K:List AV) (a b c:Int) (r:Bool) (Q:AV→Prop):aq Tryz.prog opts0 40 (ak [] [] (bq [(301,.bool r)]) [] []) 300 [.agg (ai o M N L C),.agg (am t y n D K),.fptr [I a] 0,.fptr [I b] 0,.fptr [I c] 0] [] 0 (fun v _ _=>Q v)=
  (SC 301 [AV.agg (iN D K n t y),I 4325387,I a,I b,I c] (AV.bool r)∧Q (AV.bool r)):=by kernel_rfl
def vq (c0 c1:List AV) (sh r0 r1:Bool):aV:=ak [(1,11,.res (.fptr c0 0)),(1,18,.res (.fptr c1 0))] [] (bq [(221,.bool sh),(301,.bool r0),(269,.bool r1)]) [] []
abbrev mt (D0 K0:List AV) (n0 t0 y0:Int):=[I t0,I y0,I n0,AV.fsl false D0,AV.fsl false K0]
abbrev oq (D1 K1:List AV) (n1 t1 y1:Int):=[I t1,I y1,I n1,AV.fsl false D1,AV.fsl false K1]
theorem Bt (o:Ob) (M N L C:AV) (t y n:Int) (D K:List AV) (t0 y0 n0 t1 y1 n1:Int) (D0 K0 D1 K1:List AV) (sh r0 r1:Bool) (Q:AV→Prop):aq Tryz.prog opts0 40 (vq (am t0 y0 n0 D0 K0) (am t1 y1 n1 D1 K1) sh r0 r1) 317 [.agg (ai o M N L C),.agg (am t y n D K)] [] 0 (fun v _ _=>Q v)=
  (SC 221 [AV.agg (iN D K n t y),I 4325387,I 1] (AV.bool sh)∧aa sh (aa (ah (Int.ofNat (ac K)) 2) (aQ Tryz.prog 31 (AV.fsl false K) (I 0)=some (AV.fptr (mt D0 K0 n0 t0 y0) 0)∧SC 301 [AV.agg (mt D0 K0 n0 t0 y0),I 4325451,I 5,I 101,I 110] (AV.bool r0)∧aa r0 (aQ Tryz.prog 31 (AV.fsl false K) (I 1)=some (AV.fptr (oq D1 K1 n1 t1 y1) 0)∧SC 269 [AV.agg (oq D1 K1 n1 t1 y1),I 4325452] (AV.bool r1)∧Q (AV.bool r1)) (Q (AV.bool false))) (Q (AV.bool false))) (Q (AV.bool false))):=by kernel_rfl
def Ja (r0 r1 r2:Bool):List AV→Option AV
 | [_,.int _ (.ofNat n),_,_,_]=>match Nat.beq n 4325527 with
  |true=>some (.bool r0)
  |false=>match Nat.beq n 4325526 with
   |true=>some (.bool r1)
   |false=>some (.bool r2)
 |_=>none
def vr (c0 c1 c2:List AV) (sh r0 r1 r2:Bool):aV:=ak [(1,11,.res (.fptr c0 0)),(1,18,.res (.fptr c1 0)),(1,22,.res (.fptr c0 0)),(1,30,.res (.fptr c2 0))] [] (de [(221,fun _=>some (.bool sh)),(301,Ja r0 r1 r2)]) [] []
theorem Bu (o:Ob) (M N L C:AV) (t y n:Int) (D K:List AV) (t0 y0 n0 t1 y1 n1 t2 y2 n2:Int) (D0 K0 D1 K1 D2 K2:List AV) (sh r0 r1 r2:Bool) (Q:AV→Prop):aq Tryz.prog opts0 40 (vr (am t0 y0 n0 D0 K0) (am t1 y1 n1 D1 K1) (am t2 y2 n2 D2 K2) sh r0 r1 r2) 324 [.agg (ai o M N L C),.agg (am t y n D K)] [] 0 (fun v _ _=>Q v)=
  (SC 221 [AV.agg (iN D K n t y),I 4325387,I 1] (AV.bool sh)∧aa sh (aa (ah (Int.ofNat (ac K)) 3) (aQ Tryz.prog 31 (AV.fsl false K) (I 0)=some (AV.fptr (mt D0 K0 n0 t0 y0) 0)∧SC 301 [AV.agg (mt D0 K0 n0 t0 y0),I 4325527,I 3,I 1,I 1099511627776] (AV.bool r0)∧aa r0 (aQ Tryz.prog 31 (AV.fsl false K) (I 1)=some (AV.fptr (oq D1 K1 n1 t1 y1) 0)∧aQ Tryz.prog 31 (AV.fsl false K) (I 0)=some (AV.fptr (mt D0 K0 n0 t0 y0) 0)∧SC 301 [AV.agg (oq D1 K1 n1 t1 y1),I 4325526,I 3,I 0,I n0] (AV.bool r1)∧aa r1 (aQ Tryz.prog 31 (AV.fsl false K) (I 2)=some (AV.fptr [I t2,I y2,I n2,AV.fsl false D2,AV.fsl false K2] 0)∧SC 301 [AV.agg [I t2,I y2,I n2,AV.fsl false D2,AV.fsl false K2],I 4325528,I 5,I 1,I 2] (AV.bool r2)∧Q (AV.bool r2)) (Q (AV.bool false))) (Q (AV.bool false))) (Q (AV.bool false))) (Q (AV.bool false))):=by kernel_rfl
def vu (c0 c1:List AV) (r:Bool):aV:=ak [(1,10,.res (.fptr c1 0)),(1,15,.res (.fptr c0 0))] [] (bq [(324,.bool r)]) [] []
theorem Bv (o:Ob) (M N L C:AV) (t y n:Int) (D K:List AV) (t0 y0 n0 t1 y1 n1:Int) (D0 K0 D1 K1:List AV) (r:Bool) (Q:AV→Prop):aq Tryz.prog opts0 40 (vu (am t0 y0 n0 D0 K0) (am t1 y1 n1 D1 K1) r) 323 [.agg (ai o M N L C),.agg (am t y n D K)] [] 0 (fun v _ _=>Q v)=
  (SC 324 [AV.agg (ai o M N L C),AV.agg (iN D K n t y)] (AV.bool r)∧aa r (aa o.23 (Q (AV.bool true)) (aQ Tryz.prog 31 (AV.fsl false K) (I 1)=some (AV.fptr (oq D1 K1 n1 t1 y1) 0)∧aQ Tryz.prog 31 (AV.fsl false K) (I 0)=some (AV.fptr (mt D0 K0 n0 t0 y0) 0)∧Q (AV.bool (ah n1 n0)))) (Q (AV.bool false))):=by kernel_rfl
theorem Jb (o:Ob) (M L C:AV) (es:List AV) (Q:AV→Prop):aq Tryz.prog opts0 40 aX 303 [.agg (ai o M (.fsl false es) L C)] [] 0 (fun v _ _=>Q v)=
  (Q (AV.bool (au (Int.ofNat (ac es)) 6))):=by kernel_rfl
theorem Jc (o:Ob) (M N C:AV) (es:List AV) (Q:AV→Prop):aq Tryz.prog opts0 40 aX 315 [.agg (ai o M N (.fsl false es) C)] [] 0 (fun v _ _=>Q v)=
  (Q (AV.bool (au (Int.ofNat (ac es)) 8))):=by kernel_rfl
theorem Jd (o:Ob) (M N L:AV) (es:List AV) (Q:AV→Prop):aq Tryz.prog opts0 40 aX 264 [.agg (ai o M N L (.fsl false es))] [] 0 (fun v _ _=>Q v)=
  (Q (AV.bool (au (Int.ofNat (ac es)) 6))):=by kernel_rfl
def qM:Kd→Nat
 | .uid=>280
 | .nam=>304
 | .typ=>283
 | .sta=>287
 | .dat _=>310
 | .why=>290
 | .lnk=>316
 | .lim=>322
 | .cus _=>265
 |_=>299
def qN:Kd→List AV
 | .dat k=>[.fptr [nI k] 0]
 | .cus s=>[.fptr [.str s] 0]
 | .alg=>[.fptr [du .alg] 0,.fptr [I 1] 0,.fptr [I 5] 0]
 | .len=>[.fptr [du .len] 0,.fptr [I 1] 0,.fptr [I 2] 0]
 | .mask=>[.fptr [du .mask] 0,.fptr [I 0] 0,.fptr [I 2] 0]
 |_=>[]
theorem Je (k:Kd):jv k=cV (qM k) (qN k):=by cases k<;>rfl
def vw:Kd→Nat
 | .nam=>305
 | .dat _=>311
 | .lnk=>317
 | .lim=>323
 | .cus _=>268
 |_=>300
def vx:Kd→List AV
 | .alg=>[.fptr [I 5] 0,.fptr [I 1] 0,.fptr [I 100] 0]
 | .len=>[.fptr [I 2] 0,.fptr [I 1] 0,.fptr [I 100000] 0]
 | .mask=>[.fptr [I 2] 0,.fptr [I 0] 0,.fptr [I 1048575] 0]
 |_=>[]
def mu:Kd→Bool
 | .uid| .typ| .sta| .why=>false
 |_=>true
theorem Jf {k:Kd} (h:mu k=true):iD k=cV (vw k) (vx k):=by cases k<;>first|rfl|cases h
mutual
def ec:It→Prop
 | .mk _ _ _ d ks=>d∈texts∧qO ks
def qO:List It→Prop
 |[]=>True
 |k::r=>ec k∧qO r
end
theorem kE {x:It} (h:ec x):dO x∈texts:=by cases x;exact h.1
theorem vz (x:It) (tag:Int) (h:dO x∈texts):SC 269 [aD x,I tag] (.bool (iM x tag)):=by
 have hs:=ju x tag 7
 have ht:=H6 _ h
 simp only[iM]
 revert hs ht
 generalize b8 x tag 7=sh
 intro hs ht
 obtain ⟨t,y,n,d,ks⟩:=x
 refine cJ (A:=ak [] [] (bq [(221,.bool sh),(186,.bool (u6 d))]) [] []) base0 ap (ar (LsOk.no rfl)) (by simp[ae,cD,ad]) rfl ?_
 rw[bh] at hs⊢
 rw[I4]
 simp only[dO] at ht
 refine And.intro hs (ao (fun e=>br (by simp) ⟨by rw[nV];exact ht, ?_⟩) (fun e=> ?_))
 all_goals simp[e,dO]
theorem mv (x:It) (tag kind lo hi:Int):SC 301 [aD x,I tag,I kind,I lo,I hi] (.bool (dH x tag kind lo hi)):=by
 have hs:=ju x tag kind
 simp only[dH]
 revert hs
 generalize b8 x tag kind=sh
 intro hs
 obtain ⟨t,y,n,d,ks⟩:=x
 refine cJ (A:=ak [] [] (bq [(221,.bool sh)]) [] []) base0 ap (ar (LsOk.no rfl)) (by simp[ae,cD,ad]) rfl ?_
 rw[bh] at hs⊢
 rw[I5]
 refine And.intro hs (ao (fun e=>ao (fun e2=> ?_) (fun e2=> ?_)) (fun e=> ?_))
 all_goals simp_all [Bs,cj]
theorem iO {l m:List AV} (h:ae l=true) (h':ae m=true):ae [.agg l,.agg m]=true:=by simp[ae,ad,h,h']
theorem qP (x:It):∃t y n D K,aD x= .agg (am t y n D K):=by obtain ⟨t,y,n,d,ks⟩:=x;exact ⟨t,y,n,_,_,rfl⟩
theorem Jg (o:Ob) (v:It) (h:dO v∈texts):SC 305 [aw o,aD v] (.bool (iM v 4325387)):=by
 have hs:=vz v 4325387 h
 revert hs
 generalize iM v 4325387=r
 intro hs
 have hc:=cD v
 obtain ⟨t,y,n,D,K,e⟩:=qP v
 rw[e] at hs hc⊢
 refine cJ (A:=ak [] [] (bq [(269,.bool r)]) [] []) base0 ap (ar (LsOk.no rfl)) (iO (bR o) hc) rfl ?_
 simp only[aw,aB]
 rw[I6]
 exact ⟨hs,rfl⟩
theorem Jh (o:Ob) (v:It) (h:dO v∈texts):SC 268 [aw o,aD v] (.bool (iM v 4325387)):=by
 have hs:=vz v 4325387 h
 revert hs
 generalize iM v 4325387=r
 intro hs
 have hc:=cD v
 obtain ⟨t,y,n,D,K,e⟩:=qP v
 rw[e] at hs hc⊢
 refine cJ (A:=ak [] [] (bq [(269,.bool r)]) [] []) base0 ap (ar (LsOk.no rfl)) (iO (bR o) hc) rfl ?_
 simp only[aw,aB]
 rw[I7]
 exact ⟨hs,rfl⟩
theorem Ji (o:Ob) (v:It):SC 311 [aw o,aD v] (.bool (dH v 4325387 9 (-1099511627776) 1099511627776)):=by
 have hs:=mv v 4325387 9 (-1099511627776) 1099511627776
 revert hs
 generalize dH v 4325387 9 (-1099511627776) 1099511627776=r
 intro hs
 have hc:=cD v
 obtain ⟨t,y,n,D,K,e⟩:=qP v
 rw[e] at hs hc⊢
 refine cJ (A:=ak [] [] (bq [(301,.bool r)]) [] []) base0 ap (ar (LsOk.no rfl)) (iO (bR o) hc) rfl ?_
 simp only[aw,aB]
 rw[I8]
 exact ⟨hs,rfl⟩
theorem vA (o:Ob) (v:It) (a b c:Int):SC 300 [aw o,aD v,.fptr [I a] 0,.fptr [I b] 0,.fptr [I c] 0] (.bool (dH v 4325387 a b c)):=by
 have hs:=mv v 4325387 a b c
 revert hs
 generalize dH v 4325387 a b c=r
 intro hs
 have hc:=cD v
 obtain ⟨t,y,n,D,K,e⟩:=qP v
 rw[e] at hs hc⊢
 refine cJ (A:=ak [] [] (bq [(301,.bool r)]) [] []) base0 ap (ar (LsOk.no rfl)) (by have:=bR o;simp only[ad] at hc;simp[ae,ad,aw,this,hc]) rfl ?_
 simp only[aw,aB]
 rw[I9]
 exact ⟨hs,rfl⟩
theorem Jj (o:Ob) (v:It) (h:ec v):SC 317 [aw o,aD v] (.bool (b8 v 4325387 1&&jC (bf v))):=by
 have hs:=ju v 4325387 1
 revert hs
 generalize b8 v 4325387 1=sh
 intro hs
 have hc:=cD v
 obtain ⟨t,y,n,d,ks⟩:=v
 rw[bh] at hs hc⊢
 have key:∀ (a b:It),ks=[a,b]→SC 317 [aw o,.agg (am t y n (aj d) (af ks))] (.bool (sh&&jC (bf (.mk t y n d ks)))):=fun a b e=>by
  subst e
  have h0:=mv a 4325451 5 101 110
  have h1:=vz b 4325452 (kE h.2.2.1)
  simp only[bf,jC]
  revert h0 h1
  generalize dH a 4325451 5 101 110=r0
  generalize iM b 4325452=r1
  intro h0 h1
  obtain ⟨t0,y0,n0,d0,k0⟩:=a
  obtain ⟨t1,y1,n1,d1,k1⟩:=b
  refine cJ (A:=vq (am t0 y0 n0 (aj d0) (af k0)) (am t1 y1 n1 (aj d1) (af k1)) sh r0 r1) base0 ap (ar (LsOk.no rfl)) (iO (bR o) hc) rfl ?_
  simp only[aw,aB]
  rw[Bt]
  rw[bh] at h0 h1
  refine And.intro hs (ao (fun e=>ao (fun e2=>And.intro (cE (i:=0) rfl) (And.intro h0 (ao (fun e3=>And.intro (cE (i:=1) rfl) (And.intro h1 ?_)) (fun e3=> ?_)))) (fun e2=> ?_)) (fun e=> ?_))
  ·simp[e,e3]
  ·simp[e,e3]
  ·exact absurd e2 (by simp[af,ac,beqInt_iff])
  ·simp[e]
 have other:ac (af ks)≠2→SC 317 [aw o,.agg (am t y n (aj d) (af ks))] (.bool false):=fun hne=>by
  refine cJ (A:=vq (am 0 0 0 [] []) (am 0 0 0 [] []) sh true true) base0 ap (ar (LsOk.no rfl)) (iO (bR o) hc) rfl ?_
  simp only[aw,aB]
  rw[Bt]
  refine And.intro hs (ao (fun _=>ao (fun e2=> ?_) (fun _=>rfl)) (fun _=>rfl))
  rw[beqInt_iff] at e2
  exact absurd (Int.ofNat.inj e2) hne
 match ks,key,other with
 |[a,b],key,_=>exact key a b rfl
 |[],_,other=>simpa [bf,jC] using other (by simp[af,ac])
 |[_],_,other=>simpa [bf,jC] using other (by simp[af,ac])
 |_::_::_::_,_,other=>simpa [bf,jC] using other (by simp[af,ac])
theorem Jk (o:Ob) (v:It):SC 324 [aw o,aD v] (.bool (b8 v 4325387 1&&eH (bf v))):=by
 have hs:=ju v 4325387 1
 revert hs
 generalize b8 v 4325387 1=sh
 intro hs
 have hc:=cD v
 obtain ⟨t,y,n,d,ks⟩:=v
 rw[bh] at hs hc⊢
 have key:∀ (a b c:It),ks=[a,b,c]→SC 324 [aw o,.agg (am t y n (aj d) (af ks))] (.bool (sh&&eH (bf (.mk t y n d ks)))):=fun a b c e=>by
  subst e
  have h0:=mv a 4325527 3 1 1099511627776
  have h1:=mv b 4325526 3 0 (cj a)
  have h2:=mv c 4325528 5 1 2
  simp only[bf,eH]
  revert h0 h1 h2
  generalize dH a 4325527 3 1 1099511627776=r0
  generalize dH b 4325526 3 0 (cj a)=r1
  generalize dH c 4325528 5 1 2=r2
  intro h0 h1 h2
  obtain ⟨t0,y0,n0,d0,k0⟩:=a
  obtain ⟨t1,y1,n1,d1,k1⟩:=b
  obtain ⟨t2,y2,n2,d2,k2⟩:=c
  refine cJ (A:=vr (am t0 y0 n0 (aj d0) (af k0)) (am t1 y1 n1 (aj d1) (af k1)) (am t2 y2 n2 (aj d2) (af k2)) sh r0 r1 r2) base0 ap (ar (LsOk.no rfl)) (iO (bR o) hc) rfl ?_
  simp only[aw,aB]
  rw[Bu]
  rw[bh] at h0 h1 h2
  simp only[cj] at h1
  refine And.intro hs (ao (fun e=>ao (fun e2=>And.intro (cE (i:=0) rfl) (And.intro h0 (ao (fun e3=>And.intro (cE (i:=1) rfl) (And.intro (cE (i:=0) rfl) (And.intro h1 (ao (fun e4=>And.intro (cE (i:=2) rfl) (And.intro h2 ?_)) (fun e4=> ?_))))) (fun e3=> ?_)))) (fun e2=> ?_)) (fun e=> ?_))
  ·simp[e,e3,e4]
  ·simp[e,e3,e4]
  ·simp[e,e3]
  ·exact absurd e2 (by simp[af,ac,beqInt_iff])
  ·simp[e]
 have other:ac (af ks)≠3→SC 324 [aw o,.agg (am t y n (aj d) (af ks))] (.bool false):=fun hne=>by
  refine cJ (A:=vr (am 0 0 0 [] []) (am 0 0 0 [] []) (am 0 0 0 [] []) sh true true true) base0 ap (ar (LsOk.no rfl)) (iO (bR o) hc) rfl ?_
  simp only[aw,aB]
  rw[Bu]
  refine And.intro hs (ao (fun _=>ao (fun e2=> ?_) (fun _=>rfl)) (fun _=>rfl))
  rw[beqInt_iff] at e2
  exact absurd (Int.ofNat.inj e2) hne
 match ks,key,other with
 |[a,b,c],key,_=>exact key a b c rfl
 |[],_,other=>simpa [bf,eH] using other (by simp[af,ac])
 |[_],_,other=>simpa [bf,eH] using other (by simp[af,ac])
 |[_,_],_,other=>simpa [bf,eH] using other (by simp[af,ac])
 |_::_::_::_::_,_,other=>simpa [bf,eH] using other (by simp[af,ac])
theorem Jl (o:Ob) (v:It):SC 323 [aw o,aD v] (.bool (b8 v 4325387 1&&(eH (bf v)&&(o.lh||vp (bf v))))):=by
  have hs:=Jk o v
  have hc:=cD v
  obtain ⟨t,y,n,d,ks⟩:=v
  simp only[bf] at hs⊢
  rw[bh] at hs hc⊢
  rw[←Bool.and_assoc]
  match ks with
  | [⟨t0,y0,n0,d0,k0⟩,⟨t1,y1,n1,d1,k1⟩,⟨t2,y2,n2,d2,k2⟩]=>
    revert hs
    generalize (b8 (.mk t y n d [⟨t0,y0,n0,d0,k0⟩,⟨t1,y1,n1,d1,k1⟩,⟨t2,y2,n2,d2,k2⟩]) 4325387 1&&eH [⟨t0,y0,n0,d0,k0⟩,⟨t1,y1,n1,d1,k1⟩,⟨t2,y2,n2,d2,k2⟩])=r
    intro hs
    refine cJ (A:=vu (am t0 y0 n0 (aj d0) (af k0)) (am t1 y1 n1 (aj d1) (af k1)) r) base0 ap (ar (LsOk.no rfl)) (iO (bR o) hc) rfl ?_
    simp only[aw,aB] at hs⊢
    rw[Bv]
    refine And.intro hs (ao (fun e=>ao (fun e2=> ?_) (fun e2=>And.intro (cE (i:=1) rfl) (And.intro (cE (i:=0) rfl) ?_))) (fun e=> ?_))
    · simp[e,e2]
    · simp[e,e2,vp,cj]
    · simp[e]
  |[]=>simpa [eH] using none_sem hs hc
  |[_]=>simpa [eH] using none_sem hs hc
  |[_,_]=>simpa [eH] using none_sem hs hc
  |_::_::_::_::_=>simpa [eH] using none_sem hs hc
 where
  none_sem {o:Ob} {t y n:Int} {D K:List AV} {r:Bool} (hs:SC 324 [aw o,.agg (am t y n D K)] (.bool (r&&false))) (hc:ad (.agg (am t y n D K))=true):SC 323 [aw o,.agg (am t y n D K)] (.bool false):=by
    rw[Bool.and_false] at hs
    refine cJ (A:=vu (am 0 0 0 [] []) (am 0 0 0 [] []) false) base0 ap (ar (LsOk.no rfl)) (iO (bR o) hc) rfl ?_
    simp only[aw,aB] at hs⊢
    rw[Bv]
    exact And.intro hs rfl
theorem Jm {k:Kd} (hk:mu k=true) (o:Ob) (v:It) (h:ec v):SC (vw k) (aw o::aD v::vx k) (.bool (jD o v k)):=by
 cases k with
 |nam=>exact Jg o v (kE h)
 |cus s=>exact Jh o v (kE h)
 |dat k=>exact Ji o v
 |alg=>exact vA o v 5 1 100
 |len=>exact vA o v 2 1 100000
 |mask=>exact vA o v 2 0 1048575
 |lnk=>exact Jj o v h
 |lim=>exact Jl o v
 |_=>cases hk
end
end Go.Proofs.YtlljinebapfdaaaGreatDoor
namespace Go.Proofs.YtlljinebapfdaaaGreatDoor
set_option maxRecDepth 20000
open Go Go.RowKit
open Go.Proofs.Abs
noncomputable section
def jE (O P:List AV) (i:Nat):View:=⟨[(4,.nilsl),(9,.fsl false P),(10,I (.ofNat (ac P))),(11,I (.ofNat i))],[(2,.ptr 0 0)],[(0,.cells O,.whole)],2,27⟩
def eI (O P:List AV) (i:Nat) (es:List AV):View:=⟨[(9,.fsl false P),(10,I (.ofNat (ac P))),(11,I (.ofNat i))],[(2,.ptr 0 0),(4,.rsl true 1 0 i 5)],[(0,.cells O,.whole),(1,.cells es,.whole)],2,27⟩
def mw (p:Nat) (n t:List UInt8):aV:=ak [(4,0,.res (.fptr [nI p] 0)),(5,4,.res (.fptr [.str n,.str t] 0))] [] aA [267] []
@[simp] abbrev qQ (P:List AV):=(I (Int.ofNat (ac P))=I (Int.ofNat (ac P))∧ad (I (Int.ofNat (ac P)))=true)
@[simp] abbrev qR (P:List AV):=(AV.fsl false P=AV.fsl false P∧ad (AV.fsl false P)=true)
@[simp] abbrev qS (C L M N:AV) (o:Ob):=((ai o M N L C)=(ai o M N L C)∧ae (ai o M N L C)=true)
@[simp] abbrev qT:=(some 0=some 0∧0=0)
@[simp] abbrev vB (C L M N:AV) (P:List AV) (o:Ob):=(((AV.nilsl=AV.nilsl∧true=true)∧(qR P)∧(qQ P)∧(I 0=I 0∧true=true)∧True)∧(qT∧True)∧(qS C L M N o)∧True)
abbrev kF (t:List UInt8):=[AV.agg [I 4325387,I 7,I 0,AV.fsl false (aj t),AV.nilsl]]
theorem Bw (o:Ob) (M N L C:AV) (P:List AV) (p:Nat) (n t:List UInt8) (es:List AV) (Nx:Prop) (Q:AExit→St→Prop):aN Tryz.prog opts0 40 (mw p n t) (aJ Tryz.prog 265 4) (jE (ai o M N L C) P 0).st (bP 0 [(0,0),(1,15)] (eI (ai o M N L C) P 1 es) Nx [(0,0)] (jE (ai o M N L C) P 0) Q)=
  (aa (au 0 (Int.ofNat (ac P))) (aQ Tryz.prog 265 (AV.fsl false P) (I 0)=some (AV.fptr [I (Int.ofNat p)] 0)∧aQ Tryz.prog 47 C (I (Int.ofNat p))=some (AV.fptr [AV.str n,AV.str t] 0)∧(((qR P)∧(qQ P)∧(I 1=I 1∧true=true)∧True)∧(qT∧(true=true∧some 15=some 15∧0=0∧1=ac (kF t)∧5=5)∧True)∧(qS C L M N o)∧(flat (kF t)=es∧ae es=true)∧True)∧Nx) ((vB C L M N P o)∧Q (AExit.exit 0) (jE (ai o M N L C) P 0).st)):=by kernel_rfl
theorem Bx (o:Ob) (M N L C:AV) (P:List AV) (p i j:Nat) (n t:List UInt8) (es es':List AV) (Nx:Prop) (Q:AExit→St→Prop):aN Tryz.prog opts0 40 (mw p n t) (aJ Tryz.prog 265 4) (eI (ai o M N L C) P i es).st (bP 0 [(0,0),(1,15)] (eI (ai o M N L C) P j es') Nx [(0,0),(1,1)] (eI (ai o M N L C) P i es) Q)=
  (aa (au (Int.ofNat i) (Int.ofNat (ac P))) (aQ Tryz.prog 265 (AV.fsl false P) (I (Int.ofNat i))=some (AV.fptr [I (Int.ofNat p)] 0)∧aQ Tryz.prog 47 C (I (Int.ofNat p))=some (AV.fptr [AV.str n,AV.str t] 0)∧ax (bT 5 (kF t)&&(((i+ac (kF t))*72).ble 140737488355328&&(bu (flat (kF t))&&true))) (ax ((ac es).beq (i*5)) ((((qR P)∧(qQ P)∧(I (az IntKind.i64 (Int.ofNat i+1))=I (Int.ofNat j)∧ad (I (Int.ofNat j))=true)∧True)∧(qT∧(true=true∧some 15=some 15∧0=0∧j=i+ac (kF t)∧5=5)∧True)∧(qS C L M N o)∧(es++flat (kF t)=es'∧ae es'=true)∧True)∧Nx))) ((((qR P)∧(qQ P)∧(I (Int.ofNat i)=I (Int.ofNat i)∧ad (I (Int.ofNat i))=true)∧True)∧(qT∧(true=true∧some 1=some 1∧0=0∧i=i∧5=5)∧True)∧(qS C L M N o)∧(es=es∧ae es=true)∧True)∧Q (AExit.exit 0) (eI (ai o M N L C) P i es).st)):=by kernel_rfl
def qU (O P:List AV) (F:View):bL:=fun st Q=>dd 0 [(0,0)] (jE O P 0) st∧Q (.exit 0) F.st
theorem Jn (o:Ob) (M N L C:AV) (s:List UInt8) (P:List AV) (Q:AV→ab→Prop):aq Tryz.prog opts0 40 (ak [] [(4,qU (ai o M N L C) P (jE (ai o M N L C) P 0))] (bq [(266,.fsl false P)]) [] []) 265 [.agg (ai o M N L C),.fptr [.str s] 0] [] 0 (fun v H _=>Q v H)=
  (SC 266 [AV.agg (ai o M N L C),AV.str s] (AV.fsl false P)∧(vB C L M N P o)∧Q AV.nilsl [(0,some (Blk.cells (ai o M N L C)))]):=by kernel_rfl
theorem Jo (o:Ob) (M N L C:AV) (s:List UInt8) (P:List AV) (es:List AV) (Q:AV→ab→Prop):aq Tryz.prog opts0 40 (ak [] [(4,qU (ai o M N L C) P (eI (ai o M N L C) P (ac P) es))] (bq [(266,.fsl false P)]) [] []) 265 [.agg (ai o M N L C),.fptr [.str s] 0] [] 0 (fun v H _=>Q v H)=
  (SC 266 [AV.agg (ai o M N L C),AV.str s] (AV.fsl false P)∧(vB C L M N P o)∧Q (AV.rsl true 1 0 (ac P) 5) [(0,some (Blk.cells (ai o M N L C))),(1,some (Blk.cells es))]):=by kernel_rfl
theorem Jp:∀p:List Nat,∀e∈p.map nI,dM 1 e:=fun p e he=>by
 obtain ⟨x,_,rfl⟩:=List.mem_map.1 he
 exact ⟨rfl,rfl⟩
theorem Jq (o:Ob) {M N L:AV} (s:List UInt8) (hM:ad M=true) (hN:ad N=true) (hL:ad L=true) (hb:o.cust.length≤aR):SC 266 [.agg (ai o M N L (bw o)),.str s] (.fsl false ((bI s o.cust 0).map nI)):=by
 have h0:=Bk o s hM hN hL hb
 revert h0
 generalize bI s o.cust 0=p
 intro h0
 have hcl:ae [.agg (ai o M N L (bw o)),.str s]=true:=by simp only[ae,ad,og o hM hN hL (kz o),Bool.and_self]
 refine GG base0.glob hcl h0 ?_
 cases p with
 |nil=>exact ⟨.nilsl,⟨1,rfl⟩,rfl,.nil⟩
 |cons a r=>exact ⟨.fsl false ((a::r).map nI),Frz.out (Frz.row (es:=(a::r).map nI) rfl rfl (Bg _).symm (by simp) (Jp _) (iG _)),iL (iG _),.refl _⟩
def c7 (l:List Cu) (p:Nat):List UInt8:=match l[p]? with
 |some c=>c.text
 |none=>[]
theorem vC (s:List UInt8):∀ (l pre:List Cu),(bI s l pre.length).map (c7 (pre++l))=(l.filter fun c=>ag c.name s).map Cu.text
 |[],_=>rfl
 | c::r,pre=>by
  have ih:=vC s r (pre++[c])
  simp only[List.length_append,List.length_cons,List.length_nil,Nat.zero_add,List.append_assoc,List.cons_append,List.nil_append] at ih
  simp only[bI]
  cases hc:ag c.name s with
  |false=>simp only[List.filter_cons,hc,Bool.false_eq_true,if_false,ih]
  |true=>
   have:c7 (pre++c::r) pre.length=c.text:=by simp[c7]
   simp only[List.filter_cons,hc,if_true,List.map_cons,ih,this]
theorem Jr (l:List (List UInt8)):(flat (l.map eX)).length=l.length*5:=by
 induction l with
 |nil=>rfl
 |cons x r ih=>simp only[List.map_cons,flat,List.length_append,ih,eX,AV.cells,List.length_cons,List.length_nil];omega
theorem Bz (l:List (List UInt8)):ae (flat (l.map eX))=true:=oa (om l) fun e he=>by
 obtain ⟨x,_,rfl⟩:=List.mem_map.1 he
 simp[eX,AV.cells,ae,ad]
theorem BA {f:Bool} {l:List Nat} {i p:Nat} (hx:l[i]? =some p):aQ Tryz.prog 265 (.fsl f (l.map nI)) (.int .i64 (.ofNat i))=some (.fptr [nI p] 0):=
 l5 (v:=nI p) (e:=3) (sz:=1) (by kernel_rfl) (by kernel_rfl) (by rw[List.getElem?_map,hx];rfl) rfl
def dP (T:List (List UInt8)) (i:Nat):List AV:=flat ((T.take i).map eX)
theorem BB {T:List (List UInt8)} {i:Nat} {x:List UInt8} (h:T[i]? =some x):dP T i++flat [eX x]=dP T (i+1):=by
 rw[dP,dP,Bf h,List.map_append,nW]
 rfl
theorem Js {T:List (List UInt8)} {i:Nat} (h:i≤T.length):(dP T i).length=i*5:=by rw[dP,Jr,List.length_take,Nat.min_eq_left h]
theorem Jt {o:Ob} {M N L:AV} {ps:List Nat} {Q:AExit→St→Prop} (hM:ad M=true) (hN:ad N=true) (hL:ad L=true) (hps:∀p∈ps,p<o.cust.length) (hb:ps.length≤aR)
  (hq:Q (.exit 0) (eI (ai o M N L (bw o)) (ps.map nI) ps.length (dP (ps.map (c7 o.cust)) ps.length)).st):
  ∀i,i≤ps.length→(0<i→ALp Tryz.prog opts0.glob 0 (aJ Tryz.prog 265 4) (eI (ai o M N L (bw o)) (ps.map nI) i (dP (ps.map (c7 o.cust)) i)).st Q):=by
 have hO:=og o hM hN hL (kz o)
 have hP:=iG ps
 have hlen:ac (ps.map nI)=ps.length:=by rw[aC,List.length_map]
 have hb:ps.length≤1099511627776:=hb
 have hE:∀i,ae (dP (ps.map (c7 o.cust)) i)=true:=fun i=>Bz _
 refine od _ (fun _=> ?_) (fun i hi ih h0=> ?_)
 ·refine ALp.round (A:=mw 0 [] []) (V2:=eI (ai o M N L (bw o)) (ps.map nI) 0 []) (F:=eI (ai o M N L (bw o)) (ps.map nI) ps.length (dP (ps.map (c7 o.cust)) ps.length)) (lk:=[(0,0),(1,15)]) (lk':=[(0,0),(1,1)]) base0 ap (LsOk.no rfl) .refl ?_
  rw[Bx]
  refine ao (fun h=> ?_) (fun _=>⟨⟨⟨⟨rfl,iL hP⟩,⟨rfl,rfl⟩,⟨rfl,rfl⟩,trivial⟩,⟨⟨rfl,rfl⟩,⟨rfl,rfl,rfl,rfl,rfl⟩,trivial⟩,⟨rfl,hO⟩,⟨rfl,hE _⟩,trivial⟩,hq⟩)
  have h:=ltInt_iff.1 h
  simp only[hlen,Int.ofNat_eq_natCast] at h
  omega
 ·have g1:=List.getElem?_eq_getElem hi
  have hp:=hps _ (List.getElem_mem hi)
  have hT:(ps.map (c7 o.cust))[i]? =some (c7 o.cust ps[i]):=by rw[List.getElem?_map,g1];rfl
  have hs:=BB hT
  revert g1 hp hs
  generalize ps[i]=p
  intro g1 hp hs
  have g2:=List.getElem?_eq_getElem hp
  have htx:c7 o.cust p=(o.cust[p]).text:=by simp[c7,hp]
  rw[htx] at hs
  revert g2 hs
  generalize o.cust[p]=c
  intro hs g2
  have ih:=ih (by omega)
  refine ALp.round (A:=mw p c.name c.text) (V2:=eI (ai o M N L (bw o)) (ps.map nI) (i+1) (dP (ps.map (c7 o.cust)) (i+1))) (F:=eI (ai o M N L (bw o)) (ps.map nI) i (dP (ps.map (c7 o.cust)) i)) (lk:=[(0,0),(1,15)]) (lk':=[(0,0),(1,1)]) base0 ap (LsOk.no rfl) .refl ?_
  rw[Bx]
  refine ao (fun _=>⟨BA g1,mq g2,br ?_ (br ?_ ⟨⟨⟨⟨rfl,iL hP⟩,⟨rfl,rfl⟩,⟨?_,rfl⟩,trivial⟩,⟨⟨rfl,rfl⟩,⟨rfl,rfl,rfl,rfl,rfl⟩,trivial⟩,⟨rfl,hO⟩,⟨hs,hE _⟩,trivial⟩,ih⟩)⟩) (fun h=> ?_)
  ·have hi2:(i+1)*72≤140737488355328:=by omega
   simp only[Bool.and_eq_true,Nat.ble_eq]
   exact ⟨rfl,hi2,rfl,trivial⟩
  ·rw[beq_iff,aC,Js (by rw[List.length_map];omega)]
  ·rw[eS (by simp;omega) (by simp;omega)];rfl
  ·have h:=ltInt_false.1 h
   simp only[hlen,Int.ofNat_eq_natCast] at h
   omega
theorem BC:bX (dG Tryz.prog 265) 4=[aJ Tryz.prog 265 4]:=by kernel_rfl
theorem Ju (o:Ob) (s:List UInt8) (hb:o.cust.length≤aR):SC 265 [aw o,.fptr [.str s] 0] (.fsl false (af (aL o (.cus s)))):=by
 have hpl:=Jq o s (l6 o) (l7 o) (l8 o) hb
 have htx:=vC s o.cust []
 have hlt:=qz s o.cust 0
 have hln:=qy s o.cust 0
 simp only[List.length_nil,List.nil_append] at htx
 have hget:af (aL o (.cus s))=af (((o.cust.filter fun c=>ag c.name s).map Cu.text).map gy):=by rw[List.map_map];rfl
 rw[hget,←htx]
 clear hget htx
 revert hpl hlt hln
 generalize bI s o.cust 0=ps
 intro hpl hlt hln
 have hps:∀p∈ps,p<o.cust.length:=fun p hp=>by have:=hlt p hp;omega
 have hO:=bR o
 have hcl:ae [aw o,.fptr [.str s] 0]=true:=by simp only[ae,aw,ad,hO,Bool.and_self]
 cases ps with
 | nil=>
  refine fu (A:=ak [] [(4,qU (aB o) [] (jE (aB o) [] 0))] (bq [(266,.fsl false [])]) [] []) base0 ap
   (ar (LsOk.at1 rfl BC fun st Q hs=> .seen base0.glob hs.1 ?_)) hcl ?_
  ·refine ALp.round (A:=mw 0 [] []) (V2:=eI (aB o) [] 1 []) (F:=jE (aB o) [] 0) (lk:=[(0,0),(1,15)]) (lk':=[(0,0)]) base0 ap (LsOk.no rfl) .refl ?_
   simp only[aB]
   rw[Bw]
   refine ao (fun h=>by cases h) (fun _=>⟨⟨⟨⟨rfl,rfl⟩,⟨rfl,rfl⟩,⟨rfl,rfl⟩,⟨rfl,rfl⟩,trivial⟩,⟨⟨rfl,rfl⟩,trivial⟩,⟨rfl,hO⟩,trivial⟩,hs.2⟩)
  ·simp only[aw,aB]
   rw[Jn]
   exact ⟨hpl,⟨⟨⟨rfl,rfl⟩,⟨rfl,rfl⟩,⟨rfl,rfl⟩,⟨rfl,rfl⟩,trivial⟩,⟨⟨rfl,rfl⟩,trivial⟩,⟨rfl,hO⟩,trivial⟩,.nilsl,⟨1,rfl⟩,rfl,.nil⟩
 | cons p r=>
  have hlen:ac ((p::r).map nI)=(p::r).length:=by rw[aC,List.length_map]
  have hP:=iG (p::r)
  have hb':(p::r).length≤aR:=Nat.le_trans hln hb
  refine fu (A:=ak [] [(4,qU (aB o) ((p::r).map nI) (eI (aB o) ((p::r).map nI) (ac ((p::r).map nI)) (dP ((p::r).map (c7 o.cust)) (p::r).length)))] (bq [(266,.fsl false ((p::r).map nI))]) [] []) base0 ap
   (ar (LsOk.at1 rfl BC fun st Q hs=> .seen base0.glob hs.1 ?_)) hcl ?_
  ·have hp:=hps p (by simp)
   have g2:=List.getElem?_eq_getElem hp
   have htx:c7 o.cust p=(o.cust[p]).text:=by simp[c7,hp]
   have hT:((p::r).map (c7 o.cust))[0]? =some (c7 o.cust p):=rfl
   have hs1:=BB hT
   rw[htx] at hs1
   revert g2 hs1
   generalize o.cust[p]=c
   intro g2 hs1
   have hs1:flat [eX c.text]=dP ((p::r).map (c7 o.cust)) 1:=hs1
   have hq:=hs.2
   rw[hlen] at hq
   refine ALp.round (A:=mw p c.name c.text) (V2:=eI (aB o) ((p::r).map nI) 1 (dP ((p::r).map (c7 o.cust)) 1)) (F:=jE (aB o) ((p::r).map nI) 0) (lk:=[(0,0),(1,15)]) (lk':=[(0,0)]) base0 ap (LsOk.no rfl) .refl ?_
   have hnext:=Jt (l6 o) (l7 o) (l8 o) hps hb' hq 1 (by simp) (by omega)
   simp only[aB]
   rw[Bw]
   refine ao (fun _=>⟨BA (i:=0) rfl,mq g2,⟨⟨⟨rfl,iL hP⟩,⟨rfl,rfl⟩,⟨rfl,rfl⟩,trivial⟩,⟨⟨rfl,rfl⟩,⟨rfl,rfl,rfl,rfl,rfl⟩,trivial⟩,⟨rfl,hO⟩,⟨hs1,Bz _⟩,trivial⟩,hnext⟩) (fun h=> ?_)
   have h:=ltInt_false.1 h
   simp only[hlen,Int.ofNat_eq_natCast,List.length_cons] at h
   omega
  ·simp only[aw,aB]
   rw[Jo]
   refine ⟨hpl,⟨⟨⟨rfl,rfl⟩,⟨rfl,iL hP⟩,⟨rfl,rfl⟩,⟨rfl,rfl⟩,trivial⟩,⟨⟨rfl,rfl⟩,trivial⟩,⟨rfl,hO⟩,trivial⟩,.fsl false (((p::r).map (c7 o.cust)).map eX),Frz.out (Frz.row (c:=dP ((p::r).map (c7 o.cust)) (p::r).length) (es:=((p::r).map (c7 o.cust)).map eX) rfl rfl ?_ ?_ (Bp _) (om _)),iL (om _),Bq _⟩
   ·rw[dP,List.take_of_length_le (by simp)]
   ·rw[hlen,List.length_map,List.length_map]
end
end Go.Proofs.YtlljinebapfdaaaGreatDoor
namespace Go.Proofs.YtlljinebapfdaaaGreatDoor
open Go Go.RowKit
open Go.Proofs.Abs
noncomputable section
abbrev fX (D K:List AV) (n t y:Int):=(15,some (Blk.cells [I t,I y,I n,AV.fsl false D,AV.fsl false K]))
theorem Jv (o:Ob) (M N L C:AV) (i t y n:Int) (D K R:List AV) (Q:AV→ab→Nat→Prop):aq Tryz.prog opts0 40 (ak [] [] (bq [(307,.fsl false R)]) [] []) 306 [.ptr 1 0,I i,.agg (am t y n D K)] [(1,some (.cells (ai o M N L C)))] 15 Q=
  (ax (dh D).isSome (SC 307 [N,I i,AV.str (ig D)] (AV.fsl false R)∧Q (AV.tuple []) [(fX D K n t y),(1,some (Blk.cells (ai o M (AV.fsl false R) L C)))] 29)):=by kernel_rfl
theorem Jw (o:Ob) (M N L C:AV) (i t y n:Int) (D K:List AV) (Q:AV→ab→Nat→Prop):aq Tryz.prog opts0 40 aX 312 [.ptr 1 0,I i,.agg (am t y n D K),.fptr [I 1] 0] [(1,some (.cells (ai o M N L C)))] 15 Q=
  (Q (AV.tuple []) [(fX D K n t y),(1,some (Blk.cells (ai {o with d1:=⟨true,n⟩} M N L C)))] 25):=by kernel_rfl
theorem Jx (o:Ob) (M N L C:AV) (i t y n:Int) (D K:List AV) (Q:AV→ab→Nat→Prop):aq Tryz.prog opts0 40 aX 312 [.ptr 1 0,I i,.agg (am t y n D K),.fptr [I 2] 0] [(1,some (.cells (ai o M N L C)))] 15 Q=
  (Q (AV.tuple []) [(fX D K n t y),(1,some (Blk.cells (ai {o with d2:=⟨true,n⟩} M N L C)))] 25):=by kernel_rfl
theorem Jy (o:Ob) (M N L C:AV) (i t y n:Int) (D K:List AV) (Q:AV→ab→Nat→Prop):aq Tryz.prog opts0 40 aX 312 [.ptr 1 0,I i,.agg (am t y n D K),.fptr [I 3] 0] [(1,some (.cells (ai o M N L C)))] 15 Q=
  (Q (AV.tuple []) [(fX D K n t y),(1,some (Blk.cells (ai {o with d3:=⟨true,n⟩} M N L C)))] 25):=by kernel_rfl
theorem Jz (o:Ob) (M N L C:AV) (i t y n:Int) (D K:List AV) (Q:AV→ab→Nat→Prop):aq Tryz.prog opts0 40 aX 312 [.ptr 1 0,I i,.agg (am t y n D K),.fptr [I 4] 0] [(1,some (.cells (ai o M N L C)))] 15 Q=
  (Q (AV.tuple []) [(fX D K n t y),(1,some (Blk.cells (ai {o with d4:=⟨true,n⟩} M N L C)))] 25):=by kernel_rfl
theorem JA (o:Ob) (M N L C:AV) (i t y n:Int) (D K:List AV) (Q:AV→ab→Nat→Prop):aq Tryz.prog opts0 40 (ak [] [] aA [285] []) 302 [.ptr 1 0,I i,.agg (am t y n D K),.fptr [bB 285] 0] [(1,some (.cells (ai o M N L C)))] 15 Q=
  (Q (AV.tuple []) [(fX D K n t y),(1,some (Blk.cells (ai {o with alg:=n} M N L C)))] 28):=by kernel_rfl
theorem JB (o:Ob) (M N L C:AV) (i t y n:Int) (D K:List AV) (Q:AV→ab→Nat→Prop):aq Tryz.prog opts0 40 (ak [] [] aA [286] []) 302 [.ptr 1 0,I i,.agg (am t y n D K),.fptr [bB 286] 0] [(1,some (.cells (ai o M N L C)))] 15 Q=
  (Q (AV.tuple []) [(fX D K n t y),(1,some (Blk.cells (ai {o with len:=n} M N L C)))] 28):=by kernel_rfl
theorem JC (o:Ob) (M N L C:AV) (i t y n:Int) (D K:List AV) (Q:AV→ab→Nat→Prop):aq Tryz.prog opts0 40 (ak [] [] aA [277] []) 302 [.ptr 1 0,I i,.agg (am t y n D K),.fptr [bB 277] 0] [(1,some (.cells (ai o M N L C)))] 15 Q=
  (Q (AV.tuple []) [(fX D K n t y),(1,some (Blk.cells (ai {o with mask:=n} M N L C)))] 28):=by kernel_rfl
def BD (c0 c1 R:List AV):aV:=ak [(1,8,.res (.fptr c0 0)),(1,13,.res (.fptr c1 0))] [] (bq [(319,.fsl false R)]) [] []
theorem JD (o:Ob) (M N L C:AV) (i t y n:Int) (D K R:List AV) (t0 y0 n0 t1 y1 n1:Int) (D0 K0 D1 K1:List AV) (Q:AV→ab→Nat→Prop):aq Tryz.prog opts0 40 (BD (am t0 y0 n0 D0 K0) (am t1 y1 n1 D1 K1) R) 318 [.ptr 1 0,I i,.agg (am t y n D K)] [(1,some (.cells (ai o M N L C)))] 15 Q=
  (aQ Tryz.prog 31 (AV.fsl false K) (I 0)=some (AV.fptr [I t0,I y0,I n0,AV.fsl false D0,AV.fsl false K0] 0)∧aQ Tryz.prog 31 (AV.fsl false K) (I 1)=some (AV.fptr [I t1,I y1,I n1,AV.fsl false D1,AV.fsl false K1] 0)∧ax (dh D1).isSome (SC 319 [L,I i,AV.agg [I n0,AV.str (ig D1)]] (AV.fsl false R)∧Q (AV.tuple []) [(fX D K n t y),(1,some (Blk.cells (ai o M N (AV.fsl false R) C)))] 38)):=by kernel_rfl
def BE (c0 c1 c2:List AV):aV:=ak [(1,3,.res (.fptr c0 0)),(1,8,.res (.fptr c1 0)),(1,13,.res (.fptr c2 0))] [] aA [] []
theorem JE (o:Ob) (M N L C:AV) (i t y n:Int) (D K:List AV) (t0 y0 n0 t1 y1 n1 t2 y2 n2:Int) (D0 K0 D1 K1 D2 K2:List AV) (Q:AV→ab→Nat→Prop):aq Tryz.prog opts0 40 (BE (am t0 y0 n0 D0 K0) (am t1 y1 n1 D1 K1) (am t2 y2 n2 D2 K2)) 325 [.ptr 1 0,I i,.agg (am t y n D K)] [(1,some (.cells (ai o M N L C)))] 15 Q=
  (aQ Tryz.prog 31 (AV.fsl false K) (I 0)=some (AV.fptr [I t0,I y0,I n0,AV.fsl false D0,AV.fsl false K0] 0)∧aQ Tryz.prog 31 (AV.fsl false K) (I 1)=some (AV.fptr [I t1,I y1,I n1,AV.fsl false D1,AV.fsl false K1] 0)∧aQ Tryz.prog 31 (AV.fsl false K) (I 2)=some (AV.fptr [I t2,I y2,I n2,AV.fsl false D2,AV.fsl false K2] 0)∧Q (AV.tuple []) [(fX D K n t y),(1,some (Blk.cells (ai {o with lh:=true,lt:=n0,lc:=n1,lu:=n2} M N L C)))] 36):=by kernel_rfl
def qV (P R:List AV):dF:=fun f _ _ nx=>match Nat.beq f 266 with
 |true=>some (match P with
  |[]=> .part [] .nilsl [] 3
  |_::_=> .part [] (.rsl true nx 0 (ac P) 1) [(nx,some (.cells P))] 3)
 |false=>some (.val (.fsl false R))
theorem JF (o:Ob) (M N L:AV) (i t y n:Int) (_b at' q:Nat) (es D K R:List AV) (s:List UInt8) (Q:AV→ab→Nat→Prop):aq Tryz.prog opts0 40 (ak [(2,7,.res (.ptr 27 at')),(2,8,.ld (nI q))] [] (qV [] R) [] []) 270 [.ptr 1 0,I i,.agg (am t y n D K),.fptr [.str s] 0] [(1,some (.cells (ai o M N L (.fsl false es))))] 15 Q=
  (BodySem Tryz.prog opts0.glob 266 [AV.agg (ai o M N L (AV.fsl false es)),AV.str s] [] 29 AV.nilsl [] 32∧aQ Tryz.prog 265 (AV.rsl true 27 0 (ac [I (Int.ofNat (ac es))]) 1) (I i)=some (AV.ptr 27 at')∧ch Tryz.prog 3 (flat [I (Int.ofNat (ac es))]) at'=some (I (Int.ofNat q))∧ax (dh D).isSome (SC 271 [AV.fsl false es,I (Int.ofNat q),AV.agg [AV.str s,AV.str (ig D)]] (AV.fsl false R)∧Q (AV.tuple []) [(27,some (Blk.cells (flat [I (Int.ofNat (ac es))]))),(fX D K n t y),(1,some (Blk.cells (ai o M N L (AV.fsl false R))))] 50)):=by kernel_rfl
theorem JG (o:Ob) (M N L:AV) (i t y n:Int) (_b at' q:Nat) (p:AV) (P es D K R:List AV) (s:List UInt8) (Q:AV→ab→Nat→Prop):aq Tryz.prog opts0 40 (ak [(2,7,.res (.ptr 27 at')),(2,8,.ld (nI q))] [] (qV (p::P) R) [] []) 270 [.ptr 1 0,I i,.agg (am t y n D K),.fptr [.str s] 0] [(1,some (.cells (ai o M N L (.fsl false es))))] 15 Q=
  (BodySem Tryz.prog opts0.glob 266 [AV.agg (ai o M N L (AV.fsl false es)),AV.str s] [] 29 (AV.rsl true 29 0 (ac (p::P)) 1) [(29,some (Blk.cells (p::P)))] 32∧ax (bT 1 [I (Int.ofNat (ac es))]&&(((ac (p::P)+ac [I (Int.ofNat (ac es))])*8).ble 140737488355328&&(bu (flat [I (Int.ofNat (ac es))])&&true))) (ax ((ac (p::P)).beq (ac (p::P)*1)) (aQ Tryz.prog 265 (AV.rsl true 27 0 (ac (p::P)+ac [I (Int.ofNat (ac es))]) 1) (I i)=some (AV.ptr 27 at')∧ch Tryz.prog 3 (p::(P++flat [I (Int.ofNat (ac es))])) at'=some (I (Int.ofNat q))∧ax (dh D).isSome (SC 271 [AV.fsl false es,I (Int.ofNat q),AV.agg [AV.str s,AV.str (ig D)]] (AV.fsl false R)∧Q (AV.tuple []) [(29,none),(27,some (Blk.cells (p::(P++flat [I (Int.ofNat (ac es))])))),(fX D K n t y),(1,some (Blk.cells (ai o M N L (AV.fsl false R))))] 50)))):=by kernel_rfl
end
structure dQ (o:Ob):Prop where
 n:o.names.length≤6
 l:o.links.length≤8
 c:o.cust.length≤6
 m:o.mat.length≤aR
def qW:Kd→Bool
 | .dat k=>Nat.blt k 10
 |_=>true
theorem gA (o:Ob):ae [aw o]=true:=vj (bR o)
theorem dR (o:Ob) {c:List AV} (h:ae c=true):ae (aw o::c)=true:=by
 have:=bR o
 simp only[ae,aw,ad,this,h,Bool.and_self]
theorem JH (o:Ob):SC 280 [aw o] (.fsl false (af (aL o .uid))):=by
 refine bt (A:=ak [] [] aA bK []) base0 ap (ar (LsOk.no rfl)) (gA o) ?_
 simp only[aw,aB]
 rw[ID]
 refine ⟨by simp[ae,ad], ?_⟩
 simp only[aL,gy,bA,af,aD]
 (repeat (first|exact Wk.refl _|exact WkL.refl _|exact Wk.nil|exact Wk.row|exact WkE.refl _|exact WkL.nil|exact WkE.nil|apply Wk.agg|apply Wk.tuple|apply WkL.cons|apply Wk.rows|apply WkE.consA))
theorem JI (o:Ob):SC 283 [aw o] (.fsl false (af (aL o .typ))):=by
 refine bt (A:=ak [] [] aA bK []) base0 ap (ar (LsOk.no rfl)) (gA o) ?_
 simp only[aw,aB]
 rw[IE]
 refine ⟨by simp[ae,ad], ?_⟩
 simp only[aL,aP,bA,af,aD,aj]
 (repeat (first|exact Wk.refl _|exact WkL.refl _|exact Wk.nil|exact Wk.row|exact WkE.refl _|exact WkL.nil|exact WkE.nil|apply Wk.agg|apply Wk.tuple|apply WkL.cons|apply Wk.rows|apply WkE.consA))
theorem JJ (o:Ob):SC 287 [aw o] (.fsl false (af (aL o .sta))):=by
 refine bt (A:=ak [] [] aA bK []) base0 ap (ar (LsOk.no rfl)) (gA o) ?_
 simp only[aw,aB]
 rw[IF]
 refine ⟨by simp[ae,ad], ?_⟩
 simp only[aL,aP,bA,af,aD,aj]
 (repeat (first|exact Wk.refl _|exact WkL.refl _|exact Wk.nil|exact Wk.row|exact WkE.refl _|exact WkL.nil|exact WkE.nil|apply Wk.agg|apply Wk.tuple|apply WkL.cons|apply Wk.rows|apply WkE.consA))
theorem JK (o:Ob):SC 299 [aw o,.fptr [du .alg] 0,.fptr [I 1] 0,.fptr [I 5] 0] (.fsl false (af (aL o .alg))):=by
 refine bt (A:=ak [] [] aA bK mr) base0 ap (ar (LsOk.no rfl)) (dR o rfl) ?_
 simp only[aw,aB,du]
 rw[II]
 refine ao (fun e=> ?_) (fun e=> ?_)
 all_goals
  refine ⟨by simp[ae,ad], ?_⟩
  simp only[aL,cK,aP,bA,af,aD,aj,e]
  (repeat (first|exact Wk.refl _|exact WkL.refl _|exact Wk.nil|exact Wk.row|exact WkE.refl _|exact WkL.nil|exact WkE.nil|apply Wk.agg|apply Wk.tuple|apply WkL.cons|apply Wk.rows|apply WkE.consA))
theorem JL (o:Ob):SC 299 [aw o,.fptr [du .len] 0,.fptr [I 1] 0,.fptr [I 2] 0] (.fsl false (af (aL o .len))):=by
 refine bt (A:=ak [] [] aA bK mr) base0 ap (ar (LsOk.no rfl)) (dR o rfl) ?_
 simp only[aw,aB,du]
 rw[IJ]
 refine ao (fun e=> ?_) (fun e=> ?_)
 all_goals
  refine ⟨by simp[ae,ad], ?_⟩
  simp only[aL,cK,aP,bA,af,aD,aj,e]
  (repeat (first|exact Wk.refl _|exact WkL.refl _|exact Wk.nil|exact Wk.row|exact WkE.refl _|exact WkL.nil|exact WkE.nil|apply Wk.agg|apply Wk.tuple|apply WkL.cons|apply Wk.rows|apply WkE.consA))
theorem JM (o:Ob):SC 299 [aw o,.fptr [du .mask] 0,.fptr [I 0] 0,.fptr [I 2] 0] (.fsl false (af (aL o .mask))):=by
 refine bt (A:=ak [] [] aA bK mr) base0 ap (ar (LsOk.no rfl)) (dR o rfl) ?_
 simp only[aw,aB,du]
 rw[IK]
 refine ao (fun e=> ?_) (fun e=> ?_)
 all_goals
  refine ⟨by simp[ae,ad], ?_⟩
  simp only[aL,aP,bA,af,aD,aj]
  (repeat (first|exact Wk.refl _|exact WkL.refl _|exact Wk.nil|exact Wk.row|exact WkE.refl _|exact WkL.nil|exact WkE.nil|apply Wk.agg|apply Wk.tuple|apply WkL.cons|apply Wk.rows|apply WkE.consA))
theorem JN (o:Ob):SC 310 [aw o,.fptr [nI 0] 0] (.fsl false (af (aL o (.dat 0)))):=by
 refine bt (A:=ak [] [] aA bK []) base0 ap (ar (LsOk.no rfl)) (dR o rfl) ?_
 have h:=IL o (cU o) (b6 o) (b7 o) (bw o) (cZ (.fsl false (af (aL o (.dat 0)))))
 simp only[aw,aB]
 rw[show (nI 0:AV)=I 0 from rfl,h]
 refine ao (fun e=> ?_) (fun e=> ?_)
 all_goals
  refine ⟨by simp[ae,ad], ?_⟩
  first|rw[Bool.not_eq_true'] at e|rw[Bool.not_eq_false'] at e
  simp only[aL,cK,cr,aP,bA,af,aD,aj,e]
  (repeat (first|exact Wk.refl _|exact WkL.refl _|exact Wk.nil|exact Wk.row|exact WkE.refl _|exact WkL.nil|exact WkE.nil|apply Wk.agg|apply Wk.tuple|apply WkL.cons|apply Wk.rows|apply WkE.consA))
theorem JO (o:Ob):SC 310 [aw o,.fptr [nI 1] 0] (.fsl false (af (aL o (.dat 1)))):=by
 refine bt (A:=ak [] [] aA bK []) base0 ap (ar (LsOk.no rfl)) (dR o rfl) ?_
 have h:=IM o (cU o) (b6 o) (b7 o) (bw o) (cZ (.fsl false (af (aL o (.dat 1)))))
 simp only[aw,aB]
 rw[show (nI 1:AV)=I 1 from rfl,h]
 refine ao (fun e=> ?_) (fun e=> ?_)
 all_goals
  refine ⟨by simp[ae,ad], ?_⟩
  first|rw[Bool.not_eq_true'] at e|rw[Bool.not_eq_false'] at e
  simp only[aL,cK,cr,aP,bA,af,aD,aj,e]
  (repeat (first|exact Wk.refl _|exact WkL.refl _|exact Wk.nil|exact Wk.row|exact WkE.refl _|exact WkL.nil|exact WkE.nil|apply Wk.agg|apply Wk.tuple|apply WkL.cons|apply Wk.rows|apply WkE.consA))
theorem JP (o:Ob):SC 310 [aw o,.fptr [nI 2] 0] (.fsl false (af (aL o (.dat 2)))):=by
 refine bt (A:=ak [] [] aA bK []) base0 ap (ar (LsOk.no rfl)) (dR o rfl) ?_
 have h:=IO o (cU o) (b6 o) (b7 o) (bw o) (cZ (.fsl false (af (aL o (.dat 2)))))
 simp only[aw,aB]
 rw[show (nI 2:AV)=I 2 from rfl,h]
 refine ao (fun e=> ?_) (fun e=> ?_)
 all_goals
  refine ⟨by simp[ae,ad], ?_⟩
  first|rw[Bool.not_eq_true'] at e|rw[Bool.not_eq_false'] at e
  simp only[aL,cK,cr,aP,bA,af,aD,aj,e]
  (repeat (first|exact Wk.refl _|exact WkL.refl _|exact Wk.nil|exact Wk.row|exact WkE.refl _|exact WkL.nil|exact WkE.nil|apply Wk.agg|apply Wk.tuple|apply WkL.cons|apply Wk.rows|apply WkE.consA))
theorem JQ (o:Ob):SC 310 [aw o,.fptr [nI 3] 0] (.fsl false (af (aL o (.dat 3)))):=by
 refine bt (A:=ak [] [] aA bK []) base0 ap (ar (LsOk.no rfl)) (dR o rfl) ?_
 have h:=IP o (cU o) (b6 o) (b7 o) (bw o) (cZ (.fsl false (af (aL o (.dat 3)))))
 simp only[aw,aB]
 rw[show (nI 3:AV)=I 3 from rfl,h]
 refine ao (fun e=> ?_) (fun e=> ?_)
 all_goals
  refine ⟨by simp[ae,ad], ?_⟩
  first|rw[Bool.not_eq_true'] at e|rw[Bool.not_eq_false'] at e
  simp only[aL,cK,cr,aP,bA,af,aD,aj,e]
  (repeat (first|exact Wk.refl _|exact WkL.refl _|exact Wk.nil|exact Wk.row|exact WkE.refl _|exact WkL.nil|exact WkE.nil|apply Wk.agg|apply Wk.tuple|apply WkL.cons|apply Wk.rows|apply WkE.consA))
theorem JR (o:Ob):SC 310 [aw o,.fptr [nI 4] 0] (.fsl false (af (aL o (.dat 4)))):=by
 refine bt (A:=ak [] [] aA bK []) base0 ap (ar (LsOk.no rfl)) (dR o rfl) ?_
 have h:=IQ o (cU o) (b6 o) (b7 o) (bw o) (cZ (.fsl false (af (aL o (.dat 4)))))
 simp only[aw,aB]
 rw[show (nI 4:AV)=I 4 from rfl,h]
 refine ao (fun e=> ?_) (fun e=> ?_)
 all_goals
  refine ⟨by simp[ae,ad], ?_⟩
  first|rw[Bool.not_eq_true'] at e|rw[Bool.not_eq_false'] at e
  simp only[aL,cK,cr,aP,bA,af,aD,aj,e]
  (repeat (first|exact Wk.refl _|exact WkL.refl _|exact Wk.nil|exact Wk.row|exact WkE.refl _|exact WkL.nil|exact WkE.nil|apply Wk.agg|apply Wk.tuple|apply WkL.cons|apply Wk.rows|apply WkE.consA))
theorem JS (o:Ob):SC 310 [aw o,.fptr [nI 5] 0] (.fsl false (af (aL o (.dat 5)))):=by
 refine bt (A:=ak [] [] aA bK []) base0 ap (ar (LsOk.no rfl)) (dR o rfl) ?_
 have h:=IR o (cU o) (b6 o) (b7 o) (bw o) (cZ (.fsl false (af (aL o (.dat 5)))))
 simp only[aw,aB]
 rw[show (nI 5:AV)=I 5 from rfl,h]
 refine ao (fun e=> ?_) (fun e=> ?_)
 all_goals
  refine ⟨by simp[ae,ad], ?_⟩
  first|rw[Bool.not_eq_true'] at e|rw[Bool.not_eq_false'] at e
  simp only[aL,cK,cr,aP,bA,af,aD,aj,e]
  (repeat (first|exact Wk.refl _|exact WkL.refl _|exact Wk.nil|exact Wk.row|exact WkE.refl _|exact WkL.nil|exact WkE.nil|apply Wk.agg|apply Wk.tuple|apply WkL.cons|apply Wk.rows|apply WkE.consA))
theorem JT (o:Ob):SC 310 [aw o,.fptr [nI 6] 0] (.fsl false (af (aL o (.dat 6)))):=by
 refine bt (A:=ak [] [] aA bK []) base0 ap (ar (LsOk.no rfl)) (dR o rfl) ?_
 have h:=IU o (cU o) (b6 o) (b7 o) (bw o) (cZ (.fsl false (af (aL o (.dat 6)))))
 simp only[aw,aB]
 rw[show (nI 6:AV)=I 6 from rfl,h]
 refine ao (fun e=> ?_) (fun e=> ?_)
 all_goals
  refine ⟨by simp[ae,ad], ?_⟩
  first|rw[Bool.not_eq_true'] at e|rw[Bool.not_eq_false'] at e
  simp only[aL,cK,cr,aP,bA,af,aD,aj,e]
  (repeat (first|exact Wk.refl _|exact WkL.refl _|exact Wk.nil|exact Wk.row|exact WkE.refl _|exact WkL.nil|exact WkE.nil|apply Wk.agg|apply Wk.tuple|apply WkL.cons|apply Wk.rows|apply WkE.consA))
theorem JU (o:Ob):SC 310 [aw o,.fptr [nI 7] 0] (.fsl false (af (aL o (.dat 7)))):=by
 refine bt (A:=ak [] [] aA bK []) base0 ap (ar (LsOk.no rfl)) (dR o rfl) ?_
 have h:=IV o (cU o) (b6 o) (b7 o) (bw o) (cZ (.fsl false (af (aL o (.dat 7)))))
 simp only[aw,aB]
 rw[show (nI 7:AV)=I 7 from rfl,h]
 refine ao (fun e=> ?_) (fun e=> ?_)
 all_goals
  refine ⟨by simp[ae,ad], ?_⟩
  first|rw[Bool.not_eq_true'] at e|rw[Bool.not_eq_false'] at e
  simp only[aL,cK,cr,aP,bA,af,aD,aj,e]
  (repeat (first|exact Wk.refl _|exact WkL.refl _|exact Wk.nil|exact Wk.row|exact WkE.refl _|exact WkL.nil|exact WkE.nil|apply Wk.agg|apply Wk.tuple|apply WkL.cons|apply Wk.rows|apply WkE.consA))
theorem JV (o:Ob):SC 310 [aw o,.fptr [nI 8] 0] (.fsl false (af (aL o (.dat 8)))):=by
 refine bt (A:=ak [] [] aA bK []) base0 ap (ar (LsOk.no rfl)) (dR o rfl) ?_
 have h:=IW o (cU o) (b6 o) (b7 o) (bw o) (cZ (.fsl false (af (aL o (.dat 8)))))
 simp only[aw,aB]
 rw[show (nI 8:AV)=I 8 from rfl,h]
 refine ao (fun e=> ?_) (fun e=> ?_)
 all_goals
  refine ⟨by simp[ae,ad], ?_⟩
  first|rw[Bool.not_eq_true'] at e|rw[Bool.not_eq_false'] at e
  simp only[aL,cK,cr,aP,bA,af,aD,aj,e]
  (repeat (first|exact Wk.refl _|exact WkL.refl _|exact Wk.nil|exact Wk.row|exact WkE.refl _|exact WkL.nil|exact WkE.nil|apply Wk.agg|apply Wk.tuple|apply WkL.cons|apply Wk.rows|apply WkE.consA))
theorem JW (o:Ob):SC 310 [aw o,.fptr [nI 9] 0] (.fsl false (af (aL o (.dat 9)))):=by
 refine bt (A:=ak [] [] aA bK []) base0 ap (ar (LsOk.no rfl)) (dR o rfl) ?_
 have h:=IX o (cU o) (b6 o) (b7 o) (bw o) (cZ (.fsl false (af (aL o (.dat 9)))))
 simp only[aw,aB]
 rw[show (nI 9:AV)=I 9 from rfl,h]
 refine ao (fun e=> ?_) (fun e=> ?_)
 all_goals
  refine ⟨by simp[ae,ad], ?_⟩
  first|rw[Bool.not_eq_true'] at e|rw[Bool.not_eq_false'] at e
  simp only[aL,cK,cr,aP,bA,af,aD,aj,e]
  (repeat (first|exact Wk.refl _|exact WkL.refl _|exact Wk.nil|exact Wk.row|exact WkE.refl _|exact WkL.nil|exact WkE.nil|apply Wk.agg|apply Wk.tuple|apply WkL.cons|apply Wk.rows|apply WkE.consA))
theorem JX (o:Ob):SC 322 [aw o] (.fsl false (af (aL o .lim))):=by
 refine bt (A:=ak [] [] aA bK []) base0 ap (ar (LsOk.no rfl)) (gA o) ?_
 simp only[aw,aB]
 rw[IG]
 refine ao (fun e=> ?_) (fun e=> ?_)
 all_goals
  refine ⟨by simp[ae,ad], ?_⟩
  first|rw[Bool.not_eq_true'] at e|rw[Bool.not_eq_false'] at e
  simp only[aL,cK,vi,fW,eW,bA,af,aD,aj,e]
  (repeat (first|exact Wk.refl _|exact WkL.refl _|exact Wk.nil|exact Wk.row|exact WkE.refl _|exact WkL.nil|exact WkE.nil|apply Wk.agg|apply Wk.tuple|apply WkL.cons|apply Wk.rows|apply WkE.consA))
theorem JY (o:Ob):SC 290 [aw o] (.fsl false (af (aL o .why))):=by
 refine fu (A:=ak [] [] aA bK []) base0 ap (ar (LsOk.no rfl)) (gA o) ?_
 simp only[aw,aB]
 rw[IH]
 refine ao (fun e=>ao (fun e2=> ?_) (fun e2=> ?_)) (fun e=>ao (fun e2=> ?_) (fun e2=> ?_))
 ·refine ⟨.nilsl,⟨1,rfl⟩,rfl, ?_⟩
  rw[Bool.not_eq_true'] at e2
  simp only[aL,cK,e2,af]
  exact .nil
 ·rw[Bool.not_eq_false'] at e2
  have hm:oh o.msg=[.mk 4325504 7 0 o.msg []]:=by
   cases hm:o.msg with
   |nil=>rw[hm] at e;cases e
   |cons a r=>rfl
  refine ⟨.fsl true [.agg [I 4325387,I 1,I 0,.nilsl,.fsl false [.agg [I 4325506,I 5,I o.why,.nilsl,.nilsl],.agg [I 4325504,I 7,I 0,.fsl false (aj o.msg),.nilsl]]]],Frz.out (Frz.fsl (FrzL.cons (Frz.agg (FrzL.cons (Frz.closed _ rfl) (FrzL.cons (Frz.closed _ rfl) (FrzL.cons (Frz.closed _ rfl) (FrzL.cons (Frz.closed _ rfl) (FrzL.cons (Frz.row (es:=[.agg [I 4325506,I 5,I o.why,.nilsl,.nilsl],.agg [I 4325504,I 7,I 0,.fsl false (aj o.msg),.nilsl]]) rfl rfl rfl rfl ?_ ?_) FrzL.nil)))))) FrzL.nil)), ?_, ?_⟩
  ·simp only[List.forall_mem_cons];exact ⟨⟨rfl,rfl⟩,⟨rfl,rfl⟩,fun _ h=>by cases h⟩
  ·simp[ae,ad]
  ·simp[ae,ad]
  ·simp only[aL,cK,e2,qL,hm,fW,eW,bA,af,aD,aj]
   (repeat (first|exact Wk.refl _|exact WkL.refl _|exact Wk.nil|exact Wk.row|exact WkE.refl _|exact WkL.nil|exact WkE.nil|apply Wk.agg|apply Wk.tuple|apply WkL.cons|apply Wk.rows|apply WkE.consA))
 ·refine ⟨.nilsl,⟨1,rfl⟩,rfl, ?_⟩
  rw[Bool.not_eq_true'] at e2
  simp only[aL,cK,e2,af]
  exact .nil
 ·rw[Bool.not_eq_false'] at e2
  have hm:oh o.msg=[]:=by
   cases hm:o.msg with
   |nil=>rfl
   |cons a r=>rw[hm] at e;cases e
  refine ⟨_,Frz.out (Frz.closed _ ?_), ?_, ?_⟩
  ·simp[ae,ad]
  ·simp[ae,ad]
  ·simp only[aL,cK,e2,qL,hm,fW,eW,bA,af,aD,aj]
   (repeat (first|exact Wk.refl _|exact WkL.refl _|exact Wk.nil|exact Wk.row|exact WkE.refl _|exact WkL.nil|exact WkE.nil|apply Wk.agg|apply Wk.tuple|apply WkL.cons|apply Wk.rows|apply WkE.consA))
theorem BF {k:Kd} (hk:qW k=true) {o:Ob} (ho:dQ o):SC (qM k) (aw o::qN k) (.fsl false (af (aL o k))):=by
 cases k with
 |uid=>exact JH o
 |nam=>exact IY o (l6 o) (l8 o) (kz o) o.names ho.n
 |typ=>exact JI o
 |alg=>exact JK o
 |len=>exact JL o
 |mask=>exact JM o
 |sta=>exact JJ o
 |why=>exact JY o
 |lnk=>exact I3 o (l6 o) (l7 o) (kz o) o.links ho.l
 |lim=>exact JX o
 |cus s=>exact Ju o s (by have:=ho.c;show _≤1099511627776;omega)
 |dat k=>
  match k,hk with
  |0,_=>exact JN o
  |1,_=>exact JO o
  |2,_=>exact JP o
  |3,_=>exact JQ o
  |4,_=>exact JR o
  |5,_=>exact JS o
  |6,_=>exact JT o
  |7,_=>exact JU o
  |8,_=>exact JV o
  |9,_=>exact JW o
  |k+10,hk=>exact absurd (blt_iff.1 hk) (by omega)
def gW (o:Ob) (s:List UInt8) (i:Nat):Nat:=((bI s o.cust 0++[o.cust.length])[i]?).getD 0
def kG (v:It) (i:Nat):It:=((bf v)[i]?).getD v
def c8 (o:Ob) (i:Nat) (v:It):Kd→Ob
 | .nam=>{o with names:=eV o.names i (dO v)}
 | .alg=>{o with alg:=cj v}
 | .len=>{o with len:=cj v}
 | .mask=>{o with mask:=cj v}
 | .dat k=>dA o ⟨true,cj v⟩ k
 | .lnk=>{o with links:=eV o.links i ⟨cj (kG v 0),dO (kG v 1)⟩}
 | .lim=>{o with lh:=true,lt:=cj (kG v 0),lc:=cj (kG v 1),lu:=cj (kG v 2)}
 | .cus s=>{o with cust:=eV o.cust (gW o s i) ⟨s,dO v⟩}
 |_=>o
def kH (o:Ob) (j:Nat):Kd→Prop
 | .nam=>j≤o.names.length∧j<6
 | .lnk=>j≤o.links.length∧j<8
 | .cus s=>j<(bI s o.cust 0).length∨j=(bI s o.cust 0).length∧o.cust.length<6
 |_=>True
def vE:Kd→Nat
 | .nam=>306
 | .dat _=>312
 | .lnk=>318
 | .lim=>325
 | .cus _=>270
 |_=>302
def vF:Kd→List AV
 | .dat k=>[.fptr [nI k] 0]
 | .cus s=>[.fptr [.str s] 0]
 | .alg=>[.fptr [du .alg] 0]
 | .len=>[.fptr [du .len] 0]
 | .mask=>[.fptr [du .mask] 0]
 |_=>[]
theorem JZ {k:Kd} (h:mu k=true):iE k=cV (vE k) (vF k):=by cases k<;>first|rfl|cases h
theorem fY {k b nx2 m:Nat} {h:ab} {O O':List AV} (hb:Nat.blt b k=true) (hm:Nat.ble m nx2=true) (hg:hget h b=some (.cells O)) (e:O=O') (hc:ae O'=true):l9 k (.tuple []) [(b,some (.cells O'))] nx2 (.tuple []) h m:=by
 subst e
 exact ⟨hm,⟨.tuple [],Frz.closed _ rfl,.refl _⟩,⟨hb,.cells O,.cells O,hg,FrzL.closed _ hc,.refl _⟩,trivial⟩
abbrev fB (f:Nat) (c:List AV) (o:Ob) (j:Nat) (v:It) (o':Ob):Prop:=BodySem Tryz.prog opts0.glob f (.ptr 1 0::nI j::aD v::c) [(1,some (.cells (aB o)))] 15 (.tuple []) [(1,some (.cells (aB o')))] 115
theorem J0 {o:Ob} (ho:dQ o) {j:Nat} (h1:j≤o.names.length) (h2:j<6) (v:It):fB 306 [] o j v (c8 o j v .nam):=by
 have hp:=H7 o.names j (dO v) h1 ho.n h2
 obtain ⟨t,y,n,d,ks⟩:=v
 refine fM (k:=2) (A:=ak [] [] (bq [(307,.fsl false ((eV o.names j d).map .str))]) [] []) base0 ap (ar (LsOk.no rfl)) ?_
 rw[bh]
 simp only[aB,nI]
 rw[Jv]
 refine br (by simp) ⟨by rw[nV];exact hp, ?_⟩
 exact fY rfl rfl rfl rfl (bR _)
theorem J1 (o:Ob) (j:Nat) (v:It):fB 312 [.fptr [nI 1] 0] o j v (c8 o j v (.dat 1)):=by
 obtain ⟨t,y,n,d,ks⟩:=v
 refine fM (k:=2) (A:=aX) base0 ci (ar (LsOk.no rfl)) ?_
 rw[bh,show (nI 1:AV)=I 1 from rfl]
 simp only[aB,nI]
 rw[Jw]
 exact fY rfl rfl rfl rfl (bR _)
theorem J2 (o:Ob) (j:Nat) (v:It):fB 312 [.fptr [nI 2] 0] o j v (c8 o j v (.dat 2)):=by
 obtain ⟨t,y,n,d,ks⟩:=v
 refine fM (k:=2) (A:=aX) base0 ci (ar (LsOk.no rfl)) ?_
 rw[bh,show (nI 2:AV)=I 2 from rfl]
 simp only[aB,nI]
 rw[Jx]
 exact fY rfl rfl rfl rfl (bR _)
theorem J3 (o:Ob) (j:Nat) (v:It):fB 312 [.fptr [nI 3] 0] o j v (c8 o j v (.dat 3)):=by
 obtain ⟨t,y,n,d,ks⟩:=v
 refine fM (k:=2) (A:=aX) base0 ci (ar (LsOk.no rfl)) ?_
 rw[bh,show (nI 3:AV)=I 3 from rfl]
 simp only[aB,nI]
 rw[Jy]
 exact fY rfl rfl rfl rfl (bR _)
theorem J4 (o:Ob) (j:Nat) (v:It):fB 312 [.fptr [nI 4] 0] o j v (c8 o j v (.dat 4)):=by
 obtain ⟨t,y,n,d,ks⟩:=v
 refine fM (k:=2) (A:=aX) base0 ci (ar (LsOk.no rfl)) ?_
 rw[bh,show (nI 4:AV)=I 4 from rfl]
 simp only[aB,nI]
 rw[Jz]
 exact fY rfl rfl rfl rfl (bR _)
theorem J5 (o:Ob) (j:Nat) (v:It):fB 302 [.fptr [du .alg] 0] o j v (c8 o j v .alg):=by
 obtain ⟨t,y,n,d,ks⟩:=v
 refine fM (k:=2) (A:=ak [] [] aA [285] []) base0 ap (ar (LsOk.no rfl)) ?_
 rw[bh]
 simp only[aB,nI,du]
 rw[JA]
 exact fY rfl rfl rfl rfl (bR _)
theorem J6 (o:Ob) (j:Nat) (v:It):fB 302 [.fptr [du .len] 0] o j v (c8 o j v .len):=by
 obtain ⟨t,y,n,d,ks⟩:=v
 refine fM (k:=2) (A:=ak [] [] aA [286] []) base0 ap (ar (LsOk.no rfl)) ?_
 rw[bh]
 simp only[aB,nI,du]
 rw[JB]
 exact fY rfl rfl rfl rfl (bR _)
theorem J7 (o:Ob) (j:Nat) (v:It):fB 302 [.fptr [du .mask] 0] o j v (c8 o j v .mask):=by
 obtain ⟨t,y,n,d,ks⟩:=v
 refine fM (k:=2) (A:=ak [] [] aA [277] []) base0 ap (ar (LsOk.no rfl)) ?_
 rw[bh]
 simp only[aB,nI,du]
 rw[JC]
 exact fY rfl rfl rfl rfl (bR _)
theorem J8 {o:Ob} (ho:dQ o) {j:Nat} (h1:j≤o.links.length) (h2:j<8) {v:It} (hv:jC (bf v)=true):fB 318 [] o j v (c8 o j v .lnk):=by
 obtain ⟨t,y,n,d,ks⟩:=v
 match ks,hv with
 |[⟨t0,y0,n0,d0,k0⟩,⟨t1,y1,n1,d1,k1⟩],_=>
  have hp:=H8 o.links j ⟨n0,d1⟩ h1 ho.l h2
  refine fM (k:=2) (A:=BD (am t0 y0 n0 (aj d0) (af k0)) (am t1 y1 n1 (aj d1) (af k1)) ((eV o.links j ⟨n0,d1⟩).map aO)) base0 ap (ar (LsOk.no rfl)) ?_
  rw[bh]
  simp only[aB,nI]
  rw[JD]
  refine ⟨cE (i:=0) rfl,cE (i:=1) rfl,br (by simp) ⟨by rw[nV];exact hp, ?_⟩⟩
  exact fY rfl rfl rfl rfl (bR _)
theorem J9 (o:Ob) (j:Nat) {v:It} (hv:eH (bf v)=true):fB 325 [] o j v (c8 o j v .lim):=by
 obtain ⟨t,y,n,d,ks⟩:=v
 match ks,hv with
 |[⟨t0,y0,n0,d0,k0⟩,⟨t1,y1,n1,d1,k1⟩,⟨t2,y2,n2,d2,k2⟩],_=>
  refine fM (k:=2) (A:=BE (am t0 y0 n0 (aj d0) (af k0)) (am t1 y1 n1 (aj d1) (af k1)) (am t2 y2 n2 (aj d2) (af k2))) base0 ap (ar (LsOk.no rfl)) ?_
  rw[bh]
  simp only[aB,nI]
  rw[JE]
  refine ⟨cE (i:=0) rfl,cE (i:=1) rfl,cE (i:=2) rfl, ?_⟩
  exact fY rfl rfl rfl rfl (bR _)
theorem Ka:eg Tryz.prog 3=some false:=by kernel_rfl
theorem BG {l:List Nat} {j q:Nat} (h:l[j]? =some q):ch Tryz.prog 3 (l.map nI) j=some (nI q):=by
 simp only[ch,Ka,eA,List.getElem?_map,h,Option.map_some]
theorem BH {own:Bool} {id len j:Nat} (h:j<len):aQ Tryz.prog 265 (.rsl own id 0 len 1) (.int .i64 (.ofNat j))=some (.ptr id j):=by
 have h1:Tryz.prog.underlying 265=some (.slice 3):=by kernel_rfl
 have h2:bC Tryz.prog 3=some 1:=by kernel_rfl
 simp only[aQ,ej,h1,h2,Option.bind_eq_bind,Option.bind_some,blt_iff.2 h,Bool.true_and,Nat.zero_add,Nat.mul_one]
 rfl
theorem BI {o:Ob} {s:List UInt8} {j:Nat} (h:j≤(bI s o.cust 0).length):(bI s o.cust 0++[o.cust.length])[j]? =some (gW o s j)∧gW o s j≤o.cust.length∧(j<(bI s o.cust 0).length→gW o s j<o.cust.length):=by
 have hj:j<(bI s o.cust 0++[o.cust.length]).length:=by simp;omega
 have e:=List.getElem?_eq_getElem hj
 have e2:(bI s o.cust 0++[o.cust.length])[j]? =some (gW o s j):=by rw[e,gW,e];rfl
 refine ⟨e2, ?_,fun hlt=> ?_⟩
 ·have hm:=List.mem_of_getElem? e2
  rcases List.mem_append.1 hm with hm|hm
  ·have:=qz s o.cust 0 _ hm;omega
  ·simp at hm;omega
 ·rw[List.getElem?_append_left hlt] at e2
  have:=qz s o.cust 0 _ (List.mem_of_getElem? e2)
  omega
set_option maxRecDepth 20000 in
theorem Kb {o:Ob} (ho:dQ o) {j:Nat} {s:List UInt8} (hj:kH o j (.cus s)) (v:It):fB 270 [.fptr [.str s] 0] o j v (c8 o j v (.cus s)):=by
 have hb:o.cust.length≤aR:=by have:=ho.c;show _≤1099511627776;omega
 have hpl:=Iv o (M:=cU o) (N:=b6 o) (L:=b7 o) s 29 (l6 o) (l7 o) (l8 o) hb
 have hln:=qy s o.cust 0
 have hj':j≤(bI s o.cust 0).length:=by rcases hj with h|h<;>omega
 obtain ⟨e1,e2,e3⟩:=BI hj'
 have hq:gW o s j<6:=by
  have:=ho.c
  rcases hj with h|h
  ·have:=e3 h;omega
  ·omega
 have hput:=H9 o.cust (gW o s j) ⟨s,dO v⟩ e2 ho.c hq
 obtain ⟨t,y,n,d,ks⟩:=v
 have hlen:ac (o.cust.map aK)=o.cust.length:=by rw[aC,List.length_map]
 simp only[c8]
 revert hpl e1 hln hput hj'
 generalize gW o s j=q
 cases bI s o.cust 0 with
 |nil=>
  intro hpl hln hj' e1 hput
  obtain rfl:j=0:=by simpa using hj'
  refine fM (k:=2) (A:=ak [(2,7,.res (.ptr 27 0)),(2,8,.ld (nI q))] [] (qV [] ((eV o.cust q ⟨s,d⟩).map aK)) [] []) base0 ap (ar (LsOk.no rfl)) ?_
  rw[bh,show (nI 0:AV)=I (.ofNat 0) from rfl]
  simp only[aB,bw]
  rw[JF (_b:=0)]
  rw[hlen]
  refine ⟨hpl,BH (by simp[ac]),BG (l:=[o.cust.length]) e1,br (by simp) ⟨by rw[nV];exact hput, ?_⟩⟩
  exact fY rfl rfl rfl rfl (bR _)
 | cons p r=>
  intro hpl hln hj' e1 hput
  refine fM (k:=2) (A:=ak [(2,7,.res (.ptr 27 j)),(2,8,.ld (nI q))] [] (qV ((p::r).map nI) ((eV o.cust q ⟨s,d⟩).map aK)) [] []) base0 ap (ar (LsOk.no rfl)) ?_
  rw[bh,show (nI j:AV)=I (.ofNat j) from rfl,List.map_cons]
  simp only[aB,bw]
  rw[JG (_b:=0),hlen]
  have hl2:ac (nI p::r.map nI)=r.length+1:=by rw[aC];simp
  have hc6:=ho.c
  simp only[List.length_cons] at hln hj'
  refine ⟨?_,br ?_ (br (by rw[Nat.mul_one];exact beq_iff.2 rfl) ⟨?_, ?_,br (by simp) ⟨by rw[nV];exact hput, ?_⟩⟩)⟩
  ·rw[hl2];exact hpl
  ·rw[hl2]
   have:(r.length+1+1)*8≤140737488355328:=by omega
   simp only[Bool.and_eq_true,Nat.ble_eq]
   exact ⟨rfl,this,rfl,trivial⟩
  ·refine BH ?_
   rw[hl2]
   show j<r.length+1+1
   omega
  ·have:=BG (l:=p::r++[o.cust.length]) e1
   simpa [nI,flat,AV.cells] using this
  ·exact fY rfl rfl rfl rfl (bR _)
theorem Kc {k:Kd} (hk:fz k=true) {o:Ob} (ho:dQ o) {j:Nat} (hj:kH o j k) {v:It} (hv:jD o v k=true):fB (vE k) (vF k) o j v (c8 o j v k):=by
 cases k with
 |nam=>exact J0 ho hj.1 hj.2 v
 |alg=>exact J5 o j v
 |len=>exact J6 o j v
 |mask=>exact J7 o j v
 |lnk=>
  simp only[jD,Bool.and_eq_true] at hv
  exact J8 ho hj.1 hj.2 hv.2
 |lim=>
  simp only[jD,Bool.and_eq_true] at hv
  exact J9 o j hv.2.1
 |cus s=>exact Kb ho hj v
 | dat k=>
  match k,hk with
  |1,_=>exact J1 o j v
  |2,_=>exact J2 o j v
  |3,_=>exact J3 o j v
  |4,_=>exact J4 o j v
  |k+5,hk=>
   simp only[fz,u1,Bool.and_eq_true,Nat.ble_eq] at hk
   omega
 |_=>cases hk
theorem Ke (o:Ob) (s:List UInt8):(aL o (.cus s)).length=(bI s o.cust 0).length:=by
 have h:=vC s o.cust []
 simp only[List.length_nil,List.nil_append] at h
 have h:=congrArg List.length h
 simp only[List.length_map] at h
 simp only[aL,List.length_map,h]
theorem Kf (o:Ob):SC 303 [aw o] (.bool (Nat.blt o.names.length 6)):=by
 refine cJ (A:=aX) base0 ci (ar (LsOk.no rfl)) (gA o) rfl ?_
 simp only[aw,aB,b6,b7,bw]
 rw[Jb]
 rw[aC,List.length_map]
 refine congrArg AV.bool ?_
 rw[Bool.eq_iff_iff,ltInt_iff,blt_iff]
 simp only[Int.ofNat_eq_natCast]
 omega
theorem Kg (o:Ob):SC 315 [aw o] (.bool (Nat.blt o.links.length 8)):=by
 refine cJ (A:=aX) base0 ci (ar (LsOk.no rfl)) (gA o) rfl ?_
 simp only[aw,aB,b6,b7,bw]
 rw[Jc]
 rw[aC,List.length_map]
 refine congrArg AV.bool ?_
 rw[Bool.eq_iff_iff,ltInt_iff,blt_iff]
 simp only[Int.ofNat_eq_natCast]
 omega
theorem Kh (o:Ob):SC 264 [aw o] (.bool (Nat.blt o.cust.length 6)):=by
 refine cJ (A:=aX) base0 ci (ar (LsOk.no rfl)) (gA o) rfl ?_
 simp only[aw,aB,b6,b7,bw]
 rw[Jd]
 rw[aC,List.length_map]
 refine congrArg AV.bool ?_
 rw[Bool.eq_iff_iff,ltInt_iff,blt_iff]
 simp only[Int.ofNat_eq_natCast]
 omega
end Go.Proofs.YtlljinebapfdaaaGreatDoor
namespace Go.Proofs.YtlljinebapfdaaaGreatDoor
set_option maxRecDepth 20000
open Go Go.RowKit
open Go.Proofs.Abs
noncomputable section
abbrev cF (Q:AV→Prop) (o:Ob):=(Q (AV.bool !au o.d3.2 o.d2.2))
theorem Ki (o:Ob) (M N L C:AV) (Q:AV→Prop):aq Tryz.prog opts0 40 (ak [] [] aA [] [329]) 294 [.agg (ai o M N L C)] [] 0 (fun v _ _=>Q v)=
  (aa (!o.d1.1) (aa (!o.d1.1) (aa (!o.d3.1) (aa (!o.d2.1) (Q (AV.bool true)) (aa (!o.d3.1) (Q (AV.bool true)) (cF Q o))) (aa (!o.d4.1) (aa (!o.d2.1) (Q (AV.bool true)) (aa (!o.d3.1) (Q (AV.bool true)) (cF Q o))) (aa (!au o.d4.2 o.d3.2) (aa (!o.d2.1) (Q (AV.bool true)) (aa (!o.d3.1) (Q (AV.bool true)) (cF Q o))) (Q (AV.bool false))))) (aa (!o.d2.1) (aa (!o.d3.1) (aa (!o.d2.1) (Q (AV.bool true)) (aa (!o.d3.1) (Q (AV.bool true)) (cF Q o))) (aa (!o.d4.1) (aa (!o.d2.1) (Q (AV.bool true)) (aa (!o.d3.1) (Q (AV.bool true)) (cF Q o))) (aa (!au o.d4.2 o.d3.2) (aa (!o.d2.1) (Q (AV.bool true)) (aa (!o.d3.1) (Q (AV.bool true)) (cF Q o))) (Q (AV.bool false))))) (aa (!au o.d2.2 o.d1.2) (aa (!o.d3.1) (aa (!o.d2.1) (Q (AV.bool true)) (aa (!o.d3.1) (Q (AV.bool true)) (cF Q o))) (aa (!o.d4.1) (aa (!o.d2.1) (Q (AV.bool true)) (aa (!o.d3.1) (Q (AV.bool true)) (cF Q o))) (aa (!au o.d4.2 o.d3.2) (aa (!o.d2.1) (Q (AV.bool true)) (aa (!o.d3.1) (Q (AV.bool true)) (cF Q o))) (Q (AV.bool false))))) (Q (AV.bool false))))) (aa (!o.d4.1) (aa (!o.d1.1) (aa (!o.d3.1) (aa (!o.d2.1) (Q (AV.bool true)) (aa (!o.d3.1) (Q (AV.bool true)) (cF Q o))) (aa (!o.d4.1) (aa (!o.d2.1) (Q (AV.bool true)) (aa (!o.d3.1) (Q (AV.bool true)) (cF Q o))) (aa (!au o.d4.2 o.d3.2) (aa (!o.d2.1) (Q (AV.bool true)) (aa (!o.d3.1) (Q (AV.bool true)) (cF Q o))) (Q (AV.bool false))))) (aa (!o.d2.1) (aa (!o.d3.1) (aa (!o.d2.1) (Q (AV.bool true)) (aa (!o.d3.1) (Q (AV.bool true)) (cF Q o))) (aa (!o.d4.1) (aa (!o.d2.1) (Q (AV.bool true)) (aa (!o.d3.1) (Q (AV.bool true)) (cF Q o))) (aa (!au o.d4.2 o.d3.2) (aa (!o.d2.1) (Q (AV.bool true)) (aa (!o.d3.1) (Q (AV.bool true)) (cF Q o))) (Q (AV.bool false))))) (aa (!au o.d2.2 o.d1.2) (aa (!o.d3.1) (aa (!o.d2.1) (Q (AV.bool true)) (aa (!o.d3.1) (Q (AV.bool true)) (cF Q o))) (aa (!o.d4.1) (aa (!o.d2.1) (Q (AV.bool true)) (aa (!o.d3.1) (Q (AV.bool true)) (cF Q o))) (aa (!au o.d4.2 o.d3.2) (aa (!o.d2.1) (Q (AV.bool true)) (aa (!o.d3.1) (Q (AV.bool true)) (cF Q o))) (Q (AV.bool false))))) (Q (AV.bool false))))) (aa (!au o.d4.2 o.d1.2) (aa (!o.d1.1) (aa (!o.d3.1) (aa (!o.d2.1) (Q (AV.bool true)) (aa (!o.d3.1) (Q (AV.bool true)) (cF Q o))) (aa (!o.d4.1) (aa (!o.d2.1) (Q (AV.bool true)) (aa (!o.d3.1) (Q (AV.bool true)) (cF Q o))) (aa (!au o.d4.2 o.d3.2) (aa (!o.d2.1) (Q (AV.bool true)) (aa (!o.d3.1) (Q (AV.bool true)) (cF Q o))) (Q (AV.bool false))))) (aa (!o.d2.1) (aa (!o.d3.1) (aa (!o.d2.1) (Q (AV.bool true)) (aa (!o.d3.1) (Q (AV.bool true)) (cF Q o))) (aa (!o.d4.1) (aa (!o.d2.1) (Q (AV.bool true)) (aa (!o.d3.1) (Q (AV.bool true)) (cF Q o))) (aa (!au o.d4.2 o.d3.2) (aa (!o.d2.1) (Q (AV.bool true)) (aa (!o.d3.1) (Q (AV.bool true)) (cF Q o))) (Q (AV.bool false))))) (aa (!au o.d2.2 o.d1.2) (aa (!o.d3.1) (aa (!o.d2.1) (Q (AV.bool true)) (aa (!o.d3.1) (Q (AV.bool true)) (cF Q o))) (aa (!o.d4.1) (aa (!o.d2.1) (Q (AV.bool true)) (aa (!o.d3.1) (Q (AV.bool true)) (cF Q o))) (aa (!au o.d4.2 o.d3.2) (aa (!o.d2.1) (Q (AV.bool true)) (aa (!o.d3.1) (Q (AV.bool true)) (cF Q o))) (Q (AV.bool false))))) (Q (AV.bool false))))) (Q (AV.bool false))))):=by kernel_rfl
theorem Kj (o:Ob) (M N L C:AV) (Q:AV→Prop):aq Tryz.prog opts0 40 (ak [] [] (bq [(60,M),(61,N),(62,L),(63,C)]) [] []) 25 [.agg (ai o M N L C)] [] 0 (fun v _ _=>Q v)=
  (SC 60 [M] M∧SC 61 [N] N∧SC 62 [L] L∧SC 63 [C] C∧ax (a9 Tryz.prog 23 M 1) (ax (a9 Tryz.prog 45 N 1) (ax (a9 Tryz.prog 46 L 1) (ax (a9 Tryz.prog 47 C 1) (ax (a9 Tryz.prog 51 (AV.agg (ai o M N L C)) 37) (Q (AV.agg (ai o M N L C)))))))):=by kernel_rfl
def ot (x y:Dt):Bool:= !x.has||(!y.has|| !au y.t x.t)
def ou (o:Ob):Bool:=ot o.d1 o.d4&&(ot o.d1 o.d2&&(ot o.d3 o.d4&&ot o.d2 o.d3))
theorem Kk (o:Ob):SC 294 [aw o] (.bool (ou o)):=by
 refine cJ (A:=ak [] [] aA [] [329]) base0 ap (ar (LsOk.no rfl)) (gA o) rfl ?_
 simp only[aw,aB]
 rw[Ki]
 repeat' refine ao (fun _=> ?_) (fun _=> ?_)
 all_goals
  refine congrArg AV.bool ?_
  simp_all [ou,ot]
theorem Km:eg Tryz.prog 51=some true:=by kernel_rfl
theorem Ko:eg Tryz.prog 310=some true:=by kernel_rfl
theorem ov (o:Ob):a9 Tryz.prog 51 (.agg (aB o)) 37=true:=zY Km (GF o) (GE o)
theorem Kp:eg Tryz.prog 45=some false:=by kernel_rfl
theorem Kq:eg Tryz.prog 46=some false:=by kernel_rfl
theorem Kr:eg Tryz.prog 47=some false:=by kernel_rfl
theorem Kt:eg Tryz.prog 23=some false:=by kernel_rfl
theorem vG {α:Type} {f:α→AV} {n:Nat} (h:∀x,dM n (f x)):∀l:List α,∀e∈l.map f,dM n e:=fun l e he=>by
 obtain ⟨x,_,rfl⟩:=List.mem_map.1 he
 exact h x
theorem ow {o:Ob} (ho:dQ o):SC 25 [aw o] (aw o):=by
 have h1:SC 60 [cU o] (cU o):=uR t4 (pU _) (by rw[←aC,dr];exact ho.m)
 have hn:=ho.n
 have hl:=ho.l
 have hc:=ho.c
 have h2:SC 61 [b6 o] (b6 o):=z4 (vG (f:= .str) (n:=1) (fun _=>⟨rfl,rfl⟩) _) (qd _) (by rw[List.length_map];show _≤1099511627776;omega)
 have h3:SC 62 [b7 o] (b7 o):=z5 (vG (f:=aO) (n:=2) (fun _=>⟨rfl,rfl⟩) _) (qe _) (by rw[List.length_map];show _≤1099511627776;omega)
 have h4:SC 63 [bw o] (bw o):=z6 (vG (f:=aK) (n:=2) (fun _=>⟨rfl,rfl⟩) _) (n8 _) (by rw[List.length_map];show _≤1099511627776;omega)
 refine cJ (A:=ak [] [] (bq [(60,cU o),(61,b6 o),(62,b7 o),(63,bw o)]) [] []) base0 ap (ar (LsOk.no rfl)) (gA o) (GD o) ?_
 simp only[aw,aB]
 rw[Kj]
 exact ⟨h1,h2,h3,h4,br (qb Kt rfl) (br (qb Kp rfl) (br (qb Kq rfl) (br (qb Kr rfl) (br (ov o) rfl))))⟩
def gB (k:Kd):fA:=⟨iy k,iz k,c6 k,fz k⟩
theorem qX (k:Kd):dN k=dw (gB k) (iA k) (iB k) (iC k) (jv k) (iD k) (iE k) (iF k) (gw k):=rfl
theorem BJ (k:Kd):dN k=dw (gB k) (iA k) (iB k) (iC k) (cV (qM k) (qN k)) (iD k) (iE k) (iF k) (gw k):=by rw[qX,Je]
theorem BK (k:Kd):ae (dN k)=true:=u5 k
def qY (many:Bool) (ty:Int):List It→Nat
 |[x]=>match many||(!ah ty 2|| !ah (cj x) 0) with
  |true=>1
  |false=>0
 |l=>l.length
def eJ (o:Ob) (k:Kd):Nat:=qY (c6 k) (iz k) (aL o k)
theorem qZ (k:Kd) (o:Ob) {c:List AV} (h:ae c=true):ae (.agg (dN k)::aw o::c)=true:=by
 have h1:=BK k
 have h2:=dR o h
 rw[ae,ad,h1,h2];rfl
theorem Ku {k:Kd} (hk:qW k=true) {o:Ob} (ho:dQ o):SC 248 [.agg (dN k),aw o] (I (.ofNat (eJ o k))):=by
 have hg:=BF hk ho
 have hcl:=qZ k o (c:=[]) rfl
 simp only[eJ]
 rw[BJ] at hcl⊢
 revert hg
 generalize aL o k=l
 intro hg
 match l,hg with
 |[],hg=>
  refine cJ (A:=qA [] (am 0 0 0 [] [])) base0 ap (ar (LsOk.no rfl)) hcl rfl ?_
  simp only[aw,aB] at hg⊢
  rw[vc]
  refine ⟨hg,ao (fun _=>ao (fun e=>by cases e) (fun _=>rfl)) (fun _=>rfl)⟩
 | [⟨t,y,n,d,ks⟩],hg=>
  refine cJ (A:=qA (af [⟨t,y,n,d,ks⟩]) (am t y n (aj d) (af ks))) base0 ap (ar (LsOk.no rfl)) hcl rfl ?_
  simp only[aw,aB] at hg⊢
  rw[vc]
  have hh:∀m ty,(gB k).many=m→(gB k).ty=ty→c6 k=m∧iz k=ty:=fun m ty h1 h2=>⟨h1,h2⟩
  refine ⟨hg,ao (fun e1=>ao (fun _=>ao (fun e2=>⟨cE (i:=0) rfl,ao (fun e3=> ?_) (fun e3=> ?_)⟩) (fun e2=> ?_)) (fun e=>by cases e)) (fun e1=> ?_)⟩
  all_goals
   simp only[gB] at*
   simp_all [qY,cj,af,ac]
 |a::b::r,hg=>
  refine cJ (A:=qA (af (a::b::r)) (am 0 0 0 [] [])) base0 ap (ar (LsOk.no rfl)) hcl rfl ?_
  simp only[aw,aB] at hg⊢
  rw[vc]
  have hl:ac (af (a::b::r))=r.length+2:=by rw[aC,fx];rfl
  rw[hl]
  refine ⟨hg,ao (fun e1=>ao (fun e=> ?_) (fun _=>rfl)) (fun _=>rfl)⟩
  rw[beqInt_iff] at e
  have e:((r.length+2:Nat):Int)=1:=e
  omega
def jF (v:It) (but:Int):List It→Nat→Bool
 |[],_=>false
 |x::r,i=>(!ah (.ofNat i) but&&fo x v)||jF v but r (i+1)
def q5 (o:Ob) (k:Kd) (v:It) (but:Int):Bool:=c6 k&&jF v but (aL o k) 0
theorem Kv {h:fA} {A1 A2 A3 Ge R P D RM:AV} {l:List It} {t y n:Int} {d:List UInt8} {ks:List It} {but:Int} {Q:AExit→St→Prop} (hW:ae (dw h A1 A2 A3 Ge R P D RM)=true) (hb:l.length≤1000) (hl:∀x∈l,bO aR x):
  ∀i,i≤l.length→(aa (h.many&&jF (.mk t y n d ks) but (l.drop i) i) (Q .ret (fU true).st) (Q (.exit 0) (fU false).st)→ALp Tryz.prog opts0.glob 0 (aJ Tryz.prog 250 3) (kD (dw h A1 A2 A3 Ge R P D RM) (af l) t y n (aj d) (af ks) but i).st Q):=by
 have hG:=cY l
 have hK:ae (am t y n (aj d) (af ks))=true:=by have:=cD (.mk t y n d ks);exact this
 have hlen:ac (af l)=l.length:=by rw[aC,fx]
 refine od _ (fun hq=> ?_) (fun i hi ih hq=> ?_)
 ·refine ALp.round (A:=qB (am 0 0 0 [] []) true) (V2:=kD (dw h A1 A2 A3 Ge R P D RM) (af l) t y n (aj d) (af ks) but 0) (F:=fU false) (lk:=[(0,0),(1,1)]) (lk':=[]) base0 ap (LsOk.no rfl) .refl ?_
  rw[vg]
  refine ao (fun e=> ?_) (fun _=> ?_)
  ·have e:=ltInt_iff.1 e
   simp only[hlen,Int.ofNat_eq_natCast] at e
   omega
  ·rw[List.drop_of_length_le (by omega),jF,Bool.and_false] at hq
   exact ⟨⟨⟨⟨rfl,rfl⟩,trivial⟩,trivial,trivial⟩,hq⟩
 ·have g1:=List.getElem?_eq_getElem hi
  have hok:=hl _ (List.getElem_mem hi)
  rw[List.drop_eq_getElem_cons hi,jF] at hq
  revert g1 hq hok
  generalize l[i]=x
  intro hq g1 hok
  have hs:=A8 x (.mk t y n d ks) hok
  obtain ⟨a,b,c,e',f'⟩:=x
  revert hs hq
  generalize fo (.mk a b c e' f') (.mk t y n d ks)=r
  intro hq hs
  rw[bh,bh] at hs
  cases hr:(!ah (.ofNat i) but&&(h.many&&r)) with
  | true=>
   have h3:ah (.ofNat i) but=false∧h.many=true∧r=true:=by simpa using hr
   rw[h3.1,h3.2.1,h3.2.2] at hq
   refine ALp.round (A:=qB (am a b c (aj e') (af f')) r) (V2:=kD (dw h A1 A2 A3 Ge R P D RM) (af l) t y n (aj d) (af ks) but (i+1)) (F:=fU true) (lk:=[(0,0),(1,1)]) (lk':=[]) base0 ap (LsOk.no rfl) .refl ?_
   rw[vg]
   refine ao (fun _=>⟨cE g1,ao (fun _=>ao (fun _=>⟨hs,ao (fun _=>⟨⟨⟨⟨rfl,rfl⟩,trivial⟩,trivial,trivial⟩,hq⟩) (fun e=> ?_)⟩) (fun e=> ?_)) (fun e=> ?_)⟩) (fun e=> ?_)
   ·rw[h3.2.2] at e;cases e
   ·rw[h3.2.1] at e;cases e
   ·rw[h3.1] at e;cases e
   ·have e:=ltInt_false.1 e
    simp only[hlen,Int.ofNat_eq_natCast] at e
    omega
  | false=>
   have hq':aa (h.many&&jF (.mk t y n d ks) but (l.drop (i+1)) (i+1)) (Q .ret (fU true).st) (Q (.exit 0) (fU false).st):=by
    have:(h.many&&(!ah (.ofNat i) but&&r||jF (.mk t y n d ks) but (l.drop (i+1)) (i+1)))=(h.many&&jF (.mk t y n d ks) but (l.drop (i+1)) (i+1)):=by
     revert hr
     cases ah (.ofNat i) but<;>cases h.many<;>cases r<;>simp
    rw[this] at hq
    exact hq
   have hnext:=ih hq'
   have hw:az .i64 (Int.ofNat i+1)=Int.ofNat (i+1):=eS (by simp;omega) (by simp;omega)
   refine ALp.round (A:=qB (am a b c (aj e') (af f')) r) (V2:=kD (dw h A1 A2 A3 Ge R P D RM) (af l) t y n (aj d) (af ks) but (i+1)) (F:=fU false) (lk:=[(0,0),(1,1)]) (lk':=[]) base0 ap (LsOk.no rfl) .refl ?_
   rw[vg,hw]
   have hsee:((((I but=I but∧ad (I but)=true)∧(AV.bool false= .bool false∧true=true)∧(AV.fsl false (af l)= .fsl false (af l)∧ad (.fsl false (af l))=true)∧(I (.ofNat (ac (af l)))=I (.ofNat (ac (af l)))∧ad (I (.ofNat (ac (af l))))=true)∧(I (Int.ofNat (i+1))=I (.ofNat (i+1))∧ad (I (.ofNat (i+1)))=true)∧True))):=⟨⟨rfl,rfl⟩,⟨rfl,rfl⟩,⟨rfl,hG⟩,⟨rfl,rfl⟩,⟨rfl,rfl⟩,trivial⟩
   refine ao (fun _=>⟨cE g1,ao (fun e1=>ao (fun e2=>⟨hs,ao (fun e3=> ?_) (fun _=> ?_)⟩) (fun _=> ?_)) (fun _=> ?_)⟩) (fun e=> ?_)
   ·rw[Bool.not_eq_true'] at e1
    rw[e1,e2,e3] at hr;cases hr
   ·exact ⟨⟨hsee,⟨⟨rfl,rfl⟩,⟨rfl,rfl⟩,trivial⟩,⟨rfl,hW⟩,⟨rfl,hK⟩,trivial⟩,hnext⟩
   ·exact ⟨⟨hsee,⟨⟨rfl,rfl⟩,⟨rfl,rfl⟩,trivial⟩,⟨rfl,hW⟩,⟨rfl,hK⟩,trivial⟩,hnext⟩
   ·exact ⟨⟨hsee,⟨⟨rfl,rfl⟩,⟨rfl,rfl⟩,trivial⟩,⟨rfl,hW⟩,⟨rfl,hK⟩,trivial⟩,hnext⟩
   ·have e:=ltInt_false.1 e
    simp only[hlen,Int.ofNat_eq_natCast] at e
    omega
theorem Kw:bX (dG Tryz.prog 250) 3=[aJ Tryz.prog 250 3]:=by kernel_rfl
structure ox (o:Ob) (k:Kd):Prop where
 n:(aL o k).length≤1000
 i:∀x∈aL o k,bO aR x
theorem Kx {k:Kd} (hk:qW k=true) {o:Ob} (ho:dQ o) (hg:ox o k) (v:It) (but:Int):SC 250 [.agg (dN k),aw o,aD v,I but] (.bool (q5 o k v but)):=by
 have hs:=BF hk ho
 have hcl:=qZ k o (c:=[aD v,I but]) (by simp[ae,cD,ad])
 have hW:=BK k
 rw[BJ] at hcl hW⊢
 obtain ⟨t,y,n,d,ks⟩:=v
 rw[bh] at hcl⊢
 have hK:ae (am t y n (aj d) (af ks))=true:=by have:=cD (.mk t y n d ks);exact this
 refine cJ (A:=ak [] [(3,Bm (dw (gB k) (iA k) (iB k) (iC k) (cV (qM k) (qN k)) (iD k) (iE k) (iF k) (gw k)) (af (aL o k)) t y n (aj d) (af ks) but (q5 o k (.mk t y n d ks) but))] (fun _ _ _ _=>some (.val (.fsl false (af (aL o k))))) [] []) base0 ap
  (ar (LsOk.at1 rfl Kw fun st Q hs=> .seen base0.glob hs.1 (Kv hW hg.n hg.i 0 (Nat.zero_le _) hs.2))) hcl rfl ?_
 simp only[aw,aB] at hs⊢
 rw[Ix]
 refine ⟨hs,⟨⟨⟨rfl,rfl⟩,⟨rfl,rfl⟩,⟨rfl,cY _⟩,⟨rfl,rfl⟩,⟨rfl,rfl⟩,trivial⟩,⟨⟨rfl,rfl⟩,⟨rfl,rfl⟩,trivial⟩,⟨rfl,hW⟩,⟨rfl,hK⟩,trivial⟩,ao (fun e=>by rw[e]) (fun e=>by rw[e])⟩
end
def gX:Dt:=⟨false,0⟩
def zO:Ob:=⟨[],0,0,0,0,[],0,gX,gX,gX,gX,gX,gX,gX,gX,gX,gX,0,[],[],[],[],false,0,0,0,false⟩
def eY (p:Ob × Int):AV:= .tuple [aw p.1,I p.2]
theorem Ky (p:Ob × Int):ad (eY p)=true:=by
 have:=bR p.1
 simp only[eY,aw,ad,ae,this,Bool.and_self]
theorem Kz (r:Int):Wk (.tuple [.agg (ai zO .nilsl .nilsl .nilsl .nilsl),I r]) (eY (zO,r)):=by
 refine .tuple (.cons (.agg ?_) (.refl _))
 simp only[aB,ai,cU,b6,b7,bw]
 (repeat (first|exact Wk.refl _|exact WkL.refl _|exact Wk.nil|exact Wk.row|exact WkE.refl _|exact WkL.nil|exact WkE.nil|apply Wk.agg|apply Wk.tuple|apply WkL.cons|apply Wk.rows|apply WkE.consA))
theorem fC (r:Int):cZ (eY (zO,r)) (.tuple [.agg (ai zO .nilsl .nilsl .nilsl .nilsl),I r]):=⟨rfl,Kz r⟩
theorem oy (o:Ob) (r:Int):cZ (eY (o,r)) (.tuple [.agg (aB o),I r]):=dZ (Ky (o,r))
theorem oz (s:List UInt8) (i t y n:Int) (d:List UInt8) (ks:List It):aW ⟨s,i,.mk t y n d ks⟩= .agg (.str s::I i::am t y n (aj d) (af ks)):=rfl
def dI (o:Ob) (k:Kd) (j:Nat) (v:It):Ob × Int:=match ou (c8 o j v k) with
 |true=>(c8 o j v k,0)
 |false=>(zO,7)
theorem vH {k:Kd} (h:fz k=true):mu k=true:=by cases k<;>first|rfl|cases h
theorem BL {k:Kd} (h:fz k=true):qW k=true:=by
 cases k with
 |dat k=>
  simp only[fz,u1,Bool.and_eq_true,Nat.ble_eq] at h
  exact blt_iff.2 (by omega)
 |_=>rfl
theorem KA {k:Kd} (h:mu k=true):dN k=dw (gB k) (iA k) (iB k) (iC k) (jv k) (iD k) (cV (vE k) (vF k)) (iF k) (gw k):=by rw[qX,JZ h]
theorem BM {k:Kd} (hk:fz k=true) {o:Ob} (ho:dQ o) {s:List UInt8} {j:Nat} (hj:kH o j k) {v:It} (hv:jD o v k=true):SC 251 [.agg (dN k),aw o,aW ⟨s,.ofNat j,v⟩] (eY (dI o k j v)):=by
 have hp:=Kc hk ho hj hv
 have hs:=Kk (c8 o j v k)
 have hc:=ow ho
 have hcl:=qZ k o (c:=[aW ⟨s,.ofNat j,v⟩]) (by simp[ae,mj])
 simp only[dI]
 revert hp hs
 generalize c8 o j v k=o'
 intro hp hs
 obtain ⟨t,y,n,d,ks⟩:=v
 rw[KA (vH hk),oz] at hcl⊢
 refine bt (A:=ak [] [] (Bl (aB o) (aB o') (ou o')) [] []) base0 ap (ar (LsOk.no rfl)) hcl ?_
 simp only[fB,nI,bh] at hp
 simp only[aw] at hc hs⊢
 have h:=ov o
 have h':=ov o'
 simp only[aB] at hp hc hs h h'⊢
 rw[Iw]
 refine ⟨hc,br h ⟨hp,hs,ao (fun e=> ?_) (fun e=>br h' ?_)⟩⟩
 ·rw[Bool.not_eq_true'] at e
  rw[e];exact fC 7
 ·rw[Bool.not_eq_false'] at e
  rw[e];exact oy o' 0
def my (o:Ob):Kd→Bool
 | .nam=>Nat.blt o.names.length 6
 | .lnk=>Nat.blt o.links.length 8
 | .cus _=>Nat.blt o.cust.length 6
 |_=>true
def BN:Kd→Nat
 | .nam=>303
 | .lnk=>315
 |_=>264
theorem KB {k:Kd} (h:c6 k=true):gw k=bB (BN k):=by cases k<;>first|rfl|cases h
theorem KC {k:Kd} (h:c6 k=false):gw k= .nilFunc:=by cases k<;>first|rfl|cases h
theorem KD {k:Kd} (h:c6 k=true) (o:Ob):SC (BN k) [aw o] (.bool (my o k)):=by
 cases k with
 |nam=>exact Kf o
 |lnk=>exact Kg o
 |cus s=>exact Kh o
 |_=>cases h
def dB (o:Ob) (k:Kd) (a:At):Ob × Int:=
 match ah a.idx (match c6 k with|true=> .ofNat (eJ o k)|false=>0) with
 |false=>(zO,14)
 | true=>match !c6 k&&au 0 (.ofNat (eJ o k)) with
  |true=>(zO,11)
  | false=>match jD o a.v k with
   |false=>(zO,7)
   | true=>match my o k with
    |false=>(zO,12)
    |true=>match q5 o k a.v (-1) with
     |true=>(zO,11)
     |false=>dI o k (match c6 k with|true=>eJ o k|false=>0) a.v
theorem KE {k:Kd} (h:mu k=true):dN k=dw (gB k) (iA k) (iB k) (iC k) (jv k) (cV (vw k) (vx k)) (iE k) (iF k) (gw k):=by rw[qX,Jf h]
theorem BO {k:Kd} {o:Ob} (hm:c6 k=true) (hr:my o k=true):kH o (eJ o k) k:=by
 cases k with
 | nam=>
  have h:=blt_iff.1 hr
  have:eJ o .nam=o.names.length:=by
   simp only[eJ,aL,c6,iz]
   cases hn:o.names with
   |nil=>rfl
   |cons a r=>cases r<;>simp[qY]
  exact ⟨by omega,by omega⟩
 | lnk=>
  have h:=blt_iff.1 hr
  have:eJ o .lnk=o.links.length:=by
   simp only[eJ,aL,c6,iz]
   cases hn:o.links with
   |nil=>rfl
   |cons a r=>cases r<;>simp[qY]
  exact ⟨by omega,by omega⟩
 |cus s=>
  have h:=blt_iff.1 hr
  have hl:=Ke o s
  refine .inr ⟨?_,h⟩
  rw[←hl]
  simp only[eJ,c6,iz]
  match aL o (.cus s) with
  |[]=>rfl
  |[_]=>rfl
  |_::_::_=>rfl
 |_=>cases hm
theorem BP {k:Kd} {o:Ob} (hm:c6 k=false) (j:Nat):kH o j k:=by cases k<;>first|trivial|cases hm
theorem KF {k:Kd} (hk:fz k=true) {o:Ob} (ho:dQ o) (hg:ox o k) {a:At} (ha:ec a.v):SC 220 [.agg (dN k),aw o,aW a] (eY (dB o k a)):=by
 have h1:=Ku (BL hk) ho
 have h2:=Jm (vH hk) o a.v ha
 have h3:=Kx (BL hk) ho hg a.v (-1)
 have hcl:=qZ k o (c:=[aW a]) (by simp[ae,mj])
 have hlaid:jD o a.v k=true→my o k=true→ah a.idx (match c6 k with|true=> .ofNat (eJ o k)|false=>0)=true→SC 251 [.agg (dN k),aw o,aW a] (eY (dI o k (match c6 k with|true=>eJ o k|false=>0) a.v)):=fun e1 e2 e3=>by
  rw[beqInt_iff] at e3
  obtain ⟨s,i,v⟩:=a
  simp only at e3
  cases hm:c6 k with
  |true=>
   rw[hm] at e3
   subst e3
   exact BM hk ho (BO hm e2) e1
  |false=>
   rw[hm] at e3
   subst e3
   exact BM hk ho (BP hm 0) e1
 obtain ⟨s,i,v⟩:=a
 simp only[dB] at hlaid h2 h3⊢
 revert hlaid
 generalize dI o k (match c6 k with|true=>eJ o k|false=>0) v=la
 obtain ⟨o',e'⟩:=la
 intro hlaid
 obtain ⟨t,y,n,d,ks⟩:=v
 rw[KE (vH hk)] at hcl h1 h3 hlaid⊢
 rw[oz] at hcl hlaid⊢
 rw[bh] at h2 h3
 have hf':=ov o'
 have hro:= @KD k
 have hro1:= @KB k
 have hro0:= @KC k
 have hmd:(gB k).many=c6 k:=rfl
 revert h1 h2 h3 hlaid hro
 generalize jD o (.mk t y n d ks) k=right
 generalize eJ o k=th
 generalize q5 o k (.mk t y n d ks) (-1)=twice
 intro h1 h2 h3 hlaid hro
 cases hm:c6 k with
 | true=>
  have hr:=hro hm o
  rw[hm] at hmd
  rw[hro1 hm] at hcl h1 h3 hlaid⊢
  simp only[hm] at hlaid⊢
  revert hr hlaid
  generalize my o k=room
  intro hr hlaid
  refine bt (A:=ak [] [] (qH (.ofNat th) right room twice (.tuple [.agg (aB o'),I e'])) [249] []) base0 ap (ar (LsOk.no rfl)) hcl ?_
  simp only[eY,aw] at h1 h2 h3 hlaid hr
  simp only[aw]
  simp only[aB] at h1 h2 h3 hlaid hr hf'⊢
  rw[Iy]
  refine ⟨h1, ?_⟩
  refine ao (fun e=>by rw[hmd] at e;cases e) (fun _=> ?_)
  refine ao (fun e=>by rw[hmd] at e;cases e) (fun _=> ?_)
  refine ⟨h2,hr,h3,ao (fun e=> ?_) (fun e=>ao (fun e2=> ?_) (fun e2=>ao (fun e3=> ?_) (fun e3=>ao (fun e4=> ?_) (fun e4=> ?_))))⟩
  ·rw[Bool.not_eq_true'] at e;rw[e];exact fC 14
  ·rw[Bool.not_eq_false'] at e;rw[Bool.not_eq_true'] at e2;rw[e,e2];exact fC 7
  ·rw[Bool.not_eq_false'] at e e2;rw[Bool.not_eq_true'] at e3;rw[e,e2,e3];exact fC 12
  ·rw[Bool.not_eq_false'] at e e2 e3;rw[e,e2,e3,e4];exact fC 11
  ·rw[Bool.not_eq_false'] at e e2 e3
   rw[e,e2,e3,e4]
   exact ⟨hlaid e2 e3 e,br hf' (oy o' e')⟩
 | false=>
  rw[hm] at hmd
  have hroo:my o k=true:=by cases k<;>first|rfl|cases hm
  rw[hro0 hm] at hcl h1 h3 hlaid⊢
  simp only[hm,hroo] at hlaid⊢
  refine bt (A:=ak [] [] (qH (.ofNat th) right true twice (.tuple [.agg (aB o'),I e'])) [249] []) base0 ap (ar (LsOk.no rfl)) hcl ?_
  simp only[eY,aw] at h1 h2 h3 hlaid
  simp only[aw]
  simp only[aB] at h1 h2 h3 hlaid hf'⊢
  rw[Iz]
  refine ⟨h1, ?_⟩
  refine ao (fun _=> ?_) (fun e=>by rw[hmd] at e;cases e)
  refine ao (fun _=> ?_) (fun e=>by rw[hmd] at e;cases e)
  refine ⟨h2,h3,ao (fun e=> ?_) (fun e=>ao (fun e1=> ?_) (fun e1=>ao (fun e2=> ?_) (fun e2=>ao (fun e4=> ?_) (fun e4=> ?_))))⟩
  ·rw[Bool.not_eq_true'] at e;rw[e];exact fC 14
  ·rw[Bool.not_eq_false'] at e;rw[e];simp only[e1,Bool.not_false,Bool.and_true];exact fC 11
  ·rw[Bool.not_eq_false'] at e;rw[Bool.not_eq_true'] at e2;rw[e,e2];simp only[e1,Bool.and_false];exact fC 7
  ·rw[Bool.not_eq_false'] at e e2;rw[e,e2,e4];simp only[e1,Bool.and_false];exact fC 11
  ·rw[Bool.not_eq_false'] at e e2
   rw[e,e2,e4]
   simp only[e1,Bool.and_false]
   exact ⟨hlaid e2 trivial e,br hf' (oy o' e')⟩
def cG (c:Bool) (o:Ob) (a:At):Ob × Int:=match gx c a.name with
 |none=>(zO,7)
 |some k=>match fz k with
  |false=>(zO,7)
  |true=>dB o k a
theorem KG (k:Kd):mm (some k)=vh (dN k):=rfl
theorem KH (k:Kd):a9 Tryz.prog 310 (.agg (dN k)) 12=true:=by
 have h:bu (dN k)=true:=by
  cases k with
  |dat k=>
   have h1:(ml k).one=true:=by unfold ml;split<;>rfl
   have h2:(oc k).one=true:=by unfold oc;split<;>rfl
   simp only[dN,bu,iA,iB,iC,h1,h2,jv,iD,iE,iF,gw,bB,cV,zW,zV,zX,Bool.true_and,Bool.and_true]
   rfl
  |_=>rfl
 exact zY Ko rfl h
theorem KI (o:Ob) (a:At) {c:List AV} (h:ae c=true):ae (aw o::aW a::c)=true:=dR o (by rw[ae,mj,h];rfl)
theorem KJ {c:Bool} {o:Ob} (ho:dQ o) {a:At} (hc:SC 235 [.str a.name] (.bool c)) (hg:∀k,ox o k) (ha:ec a.v):SC 178 [aw o,aW a] (eY (cG c o a)):=by
 have hf:=Hl hc
 have hcl:=KI o a (c:=[]) rfl
 simp only[cG]
 revert hf
 cases hk:gx c a.name with
 |none=>
  intro hf
  obtain ⟨s,i,⟨t,y,n,d,ks⟩⟩:=a
  rw[oz] at hcl⊢
  refine bt (A:=ak [] [] (qJ (mm none) .nilsl true) [] []) base0 ap (ar (LsOk.no rfl)) hcl ?_
  simp only[aw,aB]
  rw[IA]
  exact ⟨hf,fC 7⟩
 | some k=>
  intro hf
  dsimp only
  have hm:=fun hk=>KF (k:=k) hk ho (hg k) ha
  have hfr:=KH k
  obtain ⟨s,i,⟨t,y,n,d,ks⟩⟩:=a
  revert hm
  generalize dB o k ⟨s,i,.mk t y n d ks⟩=la
  obtain ⟨o',e'⟩:=la
  intro hm
  have hf':=ov o'
  rw[KG] at hf
  simp only at hf
  rw[oz] at hcl hm⊢
  rw[qX] at hf hm hfr
  refine bt (A:=ak [] [] (qJ (vh (dw (gB k) (iA k) (iB k) (iC k) (jv k) (iD k) (iE k) (iF k) (gw k))) (.tuple [.agg (aB o'),I e']) true) [] []) base0 ap (ar (LsOk.no rfl)) hcl ?_
  simp only[eY,aw] at hm
  simp only[aw]
  simp only[aB] at hm hf'⊢
  rw[IB]
  have hs:(gB k).set=fz k:=rfl
  refine ⟨hf,br hfr (ao (fun e=> ?_) (fun e=> ?_))⟩
  ·rw[hs,Bool.not_eq_true'] at e
   rw[e];exact fC 7
  ·rw[hs,Bool.not_eq_false'] at e
   rw[e]
   exact ⟨hm e,br hf' (oy o' e')⟩
end Go.Proofs.YtlljinebapfdaaaGreatDoor
namespace Go.Proofs.YtlljinebapfdaaaGreatDoor
open Go Go.RowKit
open Go.Proofs.Abs
theorem BQ (x y:Operand) (a b:Int):aU Tryz.prog .lss 3 x y (I a) (I b)=some (.bool (au a b)):=by kernel_rfl
theorem mz {x y:Operand} {a b:Int} (h:a<b):aU Tryz.prog .lss 3 x y (I a) (I b)=some (.bool true):=by rw[BQ,ltInt_iff.2 h]
theorem jG {x y:Operand} {a b:Int} (h:b≤a):aU Tryz.prog .lss 3 x y (I a) (I b)=some (.bool false):=by rw[BQ,ltInt_false.2 h]
theorem oA:∀l:List Rw,ae (l.map cb)=true
 |[]=>rfl
 |_::r=>oA r
def KK:List (List UInt8):=[[],[109],[108,111,115,116]]
def BR:List (List UInt8):=[[111,110,101],[116,119,111],[116,104,114,101,101],[102,111,117,114],[102,105,118,101]]
def KL:List (List UInt8):=[[120,45,97],[120,45,98]]
def KM:List (List UInt8):=[[111,110,101],[116,119,111],[116,104,114,101,101],[102,111,117,114]]
structure OxZ (o:Ob):Prop where
 d:∀k,(cr o k).has=false→(cr o k).t=0
 l:o.lh=false→o.lt=0∧o.lc=0∧o.lu=0
theorem BS (o:Ob) (x:Dt) (d k:Nat):cr (dA o x d) k=x∨cr (dA o x d) k=cr o k:=by
 unfold dA cr
 split<;>split<;>simp
theorem OxZ.date {o:Ob} (h:OxZ o) (t:Int) (d:Nat):OxZ (dA o ⟨true,t⟩ d):=⟨fun k hk=>by
 rcases BS o ⟨true,t⟩ d k with e|e
 ·rw[e] at hk;cases hk
 ·rw[e] at hk⊢;exact h.d k hk,by
 unfold dA
 split<;>exact h.l⟩
theorem OxZ.of {o p:Ob} (h:OxZ o) (hd:∀k,cr p k=cr o k) (hl:p.lh=false→p.lt=0∧p.lc=0∧p.lu=0):OxZ p:=⟨fun k=>by rw[hd];exact h.d k,hl⟩
structure OxQ (o:Ob):Prop where
 ty:o.ty=2∨o.ty=3∨o.ty=4∨o.ty=7
 alg:0≤o.alg∧o.alg≤4
 len:o.len=128
 mask:0≤o.mask∧o.mask≤396
 st:1≤o.st∧o.st≤6
 d:∀k,(cr o k).has=true→0≤(cr o k).t∧(cr o k).t<60
 why:0≤o.why∧o.why≤7
 msg:o.msg=[]∨o.why≠0
 lim:o.lh=true→(1≤o.lt∧o.lt≤50)∧(0≤o.lc∧o.lc≤o.lt)∧1≤o.lu∧o.lu≤2
theorem OxQ.date {o:Ob} (h:OxQ o) (n:Int) (d:Nat):OxQ (dA o ⟨true,n%60⟩ d):=by
 have e:∀k,(cr (dA o ⟨true,n%60⟩ d) k).has=true→0≤(cr (dA o ⟨true,n%60⟩ d) k).t∧(cr (dA o ⟨true,n%60⟩ d) k).t<60:=fun k hk=>by
  rcases BS o ⟨true,n%60⟩ d k with e|e
  ·rw[e];simp only;omega
  ·rw[e] at hk⊢;exact h.d k hk
 revert e
 unfold dA
 split<;>exact fun e=>⟨h.ty,h.alg,h.len,h.mask,h.st,e,h.why,h.msg,h.lim⟩
theorem OxQ.of {o p:Ob} (h:OxQ o) (hd:∀k,cr p k=cr o k) (h1:p.ty=o.ty) (h2:p.alg=o.alg) (h3:p.len=o.len) (h4:p.mask=o.mask) (h5:p.st=o.st) (hw:0≤p.why∧p.why≤7) (hm:p.msg=[]∨p.why≠0) (hl:p.lh=true→(1≤p.lt∧p.lt≤50)∧(0≤p.lc∧p.lc≤p.lt)∧1≤p.lu∧p.lu≤2):OxQ p:=
 ⟨by rw[h1];exact h.ty,by rw[h2];exact h.alg,by rw[h3];exact h.len,by rw[h4];exact h.mask,by rw[h5];exact h.st,fun k=>by rw[hd];exact h.d k,hw,hm,hl⟩
structure OxI (n:Nat) (o:Ob) (N:List (List UInt8)) (L:List Lk) (C:List Cu):Prop where
 n1:∀s∈N,s∈BR
 n2:N.Nodup
 l1:L.length≤n
 l2:L.Nodup
 l3:∀x∈L,x.id∈idL
 c1:C.length≤6
 c2:C.Nodup
 c3:∀x∈C,x.name∈KL∧x.text∈KM
 id:o.id∈idL
 msg:o.msg∈KK
 dat:o.d0.has=true
 z:OxZ o
 q:OxQ o
 l4:∀x∈L,101≤x.ty∧x.ty≤110
theorem BT {α:Type} [DecidableEq α]:∀ (l m:List α),l.Nodup→(∀x∈l,x∈m)→l.length≤m.length
 |[],_,_,_=>Nat.zero_le _
 |a::t,m,h,hs=>by
  have h:=List.nodup_cons.1 h
  have ha:=hs a (by simp)
  have:=BT t (m.erase a) h.2 fun x hx=>(List.mem_erase_of_ne (fun e=>by subst e;exact h.1 hx)).2 (hs x (by simp[hx]))
  rw[List.length_erase_of_mem ha] at this
  have:=List.length_pos_of_mem ha
  simp only[List.length_cons]
  omega
theorem OxI.names {n:Nat} {o:Ob} {N:List (List UInt8)} {L:List Lk} {C:List Cu} (h:OxI n o N L C):N.length≤5:=BT N BR h.n2 h.n1
theorem OxI.more {n:Nat} {o:Ob} {N:List (List UInt8)} {L:List Lk} {C:List Cu} (h:OxI n o N L C):OxI (n+1) o N L C:=⟨h.n1,h.n2,Nat.le_succ_of_le h.l1,h.l2,h.l3,h.c1,h.c2,h.c3,h.id,h.msg,h.dat,h.z,h.q,h.l4⟩
theorem OxI.date {n:Nat} {o:Ob} {N:List (List UInt8)} {L:List Lk} {C:List Cu} (h:OxI n o N L C) (t:Int):∀d,OxI (n+1) (dA o ⟨true,t%60⟩ d) N L C
 |0=>⟨h.n1,h.n2,Nat.le_succ_of_le h.l1,h.l2,h.l3,h.c1,h.c2,h.c3,h.id,h.msg,rfl,h.z.date _ 0,h.q.date t 0,h.l4⟩
 |1=>⟨h.n1,h.n2,Nat.le_succ_of_le h.l1,h.l2,h.l3,h.c1,h.c2,h.c3,h.id,h.msg,h.dat,h.z.date _ 1,h.q.date t 1,h.l4⟩
 |2=>⟨h.n1,h.n2,Nat.le_succ_of_le h.l1,h.l2,h.l3,h.c1,h.c2,h.c3,h.id,h.msg,h.dat,h.z.date _ 2,h.q.date t 2,h.l4⟩
 |3=>⟨h.n1,h.n2,Nat.le_succ_of_le h.l1,h.l2,h.l3,h.c1,h.c2,h.c3,h.id,h.msg,h.dat,h.z.date _ 3,h.q.date t 3,h.l4⟩
 |4=>⟨h.n1,h.n2,Nat.le_succ_of_le h.l1,h.l2,h.l3,h.c1,h.c2,h.c3,h.id,h.msg,h.dat,h.z.date _ 4,h.q.date t 4,h.l4⟩
 |5=>⟨h.n1,h.n2,Nat.le_succ_of_le h.l1,h.l2,h.l3,h.c1,h.c2,h.c3,h.id,h.msg,h.dat,h.z.date _ 5,h.q.date t 5,h.l4⟩
 |6=>⟨h.n1,h.n2,Nat.le_succ_of_le h.l1,h.l2,h.l3,h.c1,h.c2,h.c3,h.id,h.msg,h.dat,h.z.date _ 6,h.q.date t 6,h.l4⟩
 |7=>⟨h.n1,h.n2,Nat.le_succ_of_le h.l1,h.l2,h.l3,h.c1,h.c2,h.c3,h.id,h.msg,h.dat,h.z.date _ 7,h.q.date t 7,h.l4⟩
 |8=>⟨h.n1,h.n2,Nat.le_succ_of_le h.l1,h.l2,h.l3,h.c1,h.c2,h.c3,h.id,h.msg,h.dat,h.z.date _ 8,h.q.date t 8,h.l4⟩
 |9=>⟨h.n1,h.n2,Nat.le_succ_of_le h.l1,h.l2,h.l3,h.c1,h.c2,h.c3,h.id,h.msg,h.dat,h.z.date _ 9,h.q.date t 9,h.l4⟩
 |_+10=>⟨h.n1,h.n2,Nat.le_succ_of_le h.l1,h.l2,h.l3,h.c1,h.c2,h.c3,h.id,h.msg,h.dat,h.z.date _ _,h.q.date t _,h.l4⟩
structure Okay (o:Ob):Prop where
 fit:dQ o
 n:∀s∈o.names,s∈texts
 l:∀x∈o.links,x.id∈texts
 c:∀x∈o.cust,x.text∈texts
 i:o.id∈texts
 m:o.msg.length≤8
theorem KN:∀s∈texts,s.length≤8:=by decide
theorem vI {s:List UInt8} (h:s.length≤8):bO aR (gy s):=⟨Nat.le_trans h (by decide),by simp[aR],trivial⟩
theorem kI (y n:Int):bO aR (aP y n):=⟨by simp[aR],by simp[aR],trivial⟩
theorem oB {b:Bool} {x:It}:(cK b x).length≤1:=by cases b<;>simp[cK]
theorem oC {b:Bool} {x y:It} (h:y∈cK b x):y=x:=by
 cases b with
 |true=>simpa [cK] using h
 |false=>cases h
theorem KO {s:List UInt8} (h:s.length≤8) (a b c n:Int) (l:List It) (hl:l=[eW a b n,.mk c 7 0 s []]):bO aR (fW l):=by
 subst hl
 simp[fW,bA,bO,gu,eW,aR]
 omega
theorem Okay.g {o:Ob} (h:Okay o):∀k,ox o k:=by
 intro k
 have t:=KN
 cases k with
 | uid=>exact ⟨by simp[aL],fun x hx=>by
   simp only[aL,List.mem_singleton] at hx;subst hx;exact vI (t _ h.i)⟩
 | nam=>exact ⟨by have:=h.fit.n;simp only[aL,List.length_map];omega,fun x hx=>by
   obtain ⟨s,hs,rfl⟩:=List.mem_map.1 hx;exact vI (t _ (h.n s hs))⟩
 | typ=>exact ⟨by simp[aL],fun x hx=>by
   simp only[aL,List.mem_singleton] at hx;subst hx;exact kI _ _⟩
 |alg=>exact ⟨Nat.le_trans oB (by decide),fun x hx=>by rw[oC hx];exact kI _ _⟩
 |len=>exact ⟨Nat.le_trans oB (by decide),fun x hx=>by rw[oC hx];exact kI _ _⟩
 | mask=>exact ⟨by simp[aL],fun x hx=>by
   simp only[aL,List.mem_singleton] at hx;subst hx;exact kI _ _⟩
 | sta=>exact ⟨by simp[aL],fun x hx=>by
   simp only[aL,List.mem_singleton] at hx;subst hx;exact kI _ _⟩
 |dat k=>exact ⟨Nat.le_trans oB (by decide),fun x hx=>by rw[oC hx];exact kI _ _⟩
 | why=>exact ⟨Nat.le_trans oB (by decide),fun x hx=>by
   rw[oC hx]
   have hm:=h.m
   simp only[qL]
   match o.msg,hm with
   |[],_=>simp[fW,bA,bO,gu,eW,oh,aR]
   |a::r,hm=>
    simp only[List.length_cons] at hm
    simp[fW,bA,bO,gu,eW,oh,aR]
    omega⟩
 | lnk=>exact ⟨by have:=h.fit.l;simp only[aL,List.length_map];omega,fun x hx=>by
   obtain ⟨s,hs,rfl⟩:=List.mem_map.1 hx
   exact KO (t _ (h.l s hs)) _ _ _ _ _ rfl⟩
 | lim=>exact ⟨Nat.le_trans oB (by decide),fun x hx=>by
   rw[oC hx]
   simp[vi,fW,bA,bO,gu,eW,aR]⟩
 | cus s=>exact ⟨by
   have:=h.fit.c
   simp only[aL,List.length_map]
   exact Nat.le_trans (List.length_filter_le _ _) (by omega),fun x hx=>by
   obtain ⟨c,hc,rfl⟩:=List.mem_map.1 hx
   exact vI (t _ (h.c c (List.mem_filter.1 hc).1))⟩
theorem q6 {α:Type} {l:List α} {i:Nat} {x y:α} (h:y∈eV l i x):y∈l∨y=x:=by
 simp only[eV,List.mem_append,List.mem_cons] at h
 rcases h with h|h|h
 ·exact .inl (List.mem_of_mem_take h)
 ·exact .inr h
 ·exact .inl (List.mem_of_mem_drop h)
theorem vJ {α:Type} {l:List α} {i n:Nat} {x:α} (h:i≤l.length) (h1:l.length≤n) (h2:i<n):(eV l i x).length≤n:=by
 simp only[eV,List.length_append,List.length_cons,List.length_take,List.length_drop]
 omega
theorem KP {v:It} (h:ec v) (i:Nat):dO (kG v i)∈texts:=by
 unfold kG
 cases hk:(bf v)[i]? with
 |none=>exact kE h
 | some k=>
  have:∀ (l:List It),qO l→∀ (i:Nat) (k:It),l[i]? =some k→ec k:=by
   intro l
   induction l with
   |nil=>intro _ i k h;simp at h
   |cons a r ih=>
    intro hl i k h
    cases i with
    |zero=>simp at h;subst h;exact hl.1
    |succ i=>exact ih hl.2 i k (by simpa using h)
  refine kE (this (bf v) ?_ i k hk)
  cases v
  exact h.2
theorem Okay.date {o:Ob} (h:Okay o) (d:Dt) (k:Nat):Okay (dA o d k):=by
 have e:∀p:Ob,p.names=o.names→p.links=o.links→p.cust=o.cust→p.mat=o.mat→p.id=o.id→p.msg=o.msg→Okay p:=fun p h1 h2 h3 h4 h5 h6=>
  ⟨⟨by rw[h1];exact h.fit.n,by rw[h2];exact h.fit.l,by rw[h3];exact h.fit.c,by rw[h4];exact h.fit.m⟩,by rw[h1];exact h.n,by rw[h2];exact h.l,by rw[h3];exact h.c,by rw[h5];exact h.i,by rw[h6];exact h.m⟩
 unfold dA
 split<;>exact e _ rfl rfl rfl rfl rfl rfl
theorem Okay.put {o:Ob} (h:Okay o) {k:Kd} {j:Nat} (hj:kH o j k) {v:It} (hv:ec v):Okay (c8 o j v k):=by
 cases k with
 | nam=>exact ⟨⟨vJ hj.1 h.fit.n hj.2,h.fit.l,h.fit.c,h.fit.m⟩,fun s hs=>by
   rcases q6 hs with hs|rfl
   ·exact h.n s hs
   ·exact kE hv,h.l,h.c,h.i,h.m⟩
 |alg=>exact ⟨⟨h.fit.n,h.fit.l,h.fit.c,h.fit.m⟩,h.n,h.l,h.c,h.i,h.m⟩
 |len=>exact ⟨⟨h.fit.n,h.fit.l,h.fit.c,h.fit.m⟩,h.n,h.l,h.c,h.i,h.m⟩
 |mask=>exact ⟨⟨h.fit.n,h.fit.l,h.fit.c,h.fit.m⟩,h.n,h.l,h.c,h.i,h.m⟩
 |dat k=>exact h.date _ k
 | lnk=>exact ⟨⟨h.fit.n,vJ hj.1 h.fit.l hj.2,h.fit.c,h.fit.m⟩,h.n,fun s hs=>by
   rcases q6 hs with hs|rfl
   ·exact h.l s hs
   ·exact KP hv 1,h.c,h.i,h.m⟩
 |lim=>exact ⟨⟨h.fit.n,h.fit.l,h.fit.c,h.fit.m⟩,h.n,h.l,h.c,h.i,h.m⟩
 | cus s=>
  have hp:=BI (o:=o) (s:=s) (j:=j) (by rcases hj with hj|hj<;>omega)
  have h6:gW o s j<6:=by
   have:=h.fit.c
   rcases hj with hj|hj
   ·have:=hp.2.2 hj;omega
   ·have:=hp.2.1;omega
  exact ⟨⟨h.fit.n,h.fit.l,vJ hp.2.1 h.fit.c h6,h.fit.m⟩,h.n,h.l,fun c hc=>by
   rcases q6 hc with hc|rfl
   ·exact h.c c hc
   ·exact kE hv,h.i,h.m⟩
 |_=>exact h
def q7 (p:Ob × Int):Prop:=p.2=0→Okay p.1∧ou p.1=true
theorem jH {o:Ob} {e:Int} (h:e≠0):q7 (o,e):=fun h0=>absurd h0 h
theorem BU {o:Ob} (h:Okay o) {k:Kd} {j:Nat} (hj:kH o j k) {v:It} (hv:ec v):q7 (dI o k j v):=by
 unfold dI
 split
 ·rename_i hs
  exact fun _=>⟨h.put hj hv,hs⟩
 ·exact jH (by decide)
theorem KQ {o:Ob} (h:Okay o) {k:Kd} {a:At} (ha:ec a.v):q7 (dB o k a):=by
 unfold dB
 split
 ·exact jH (by decide)
 split
 ·exact jH (by decide)
 split
 ·exact jH (by decide)
 split
 ·exact jH (by decide)
 ·rename_i hr
  split
  ·exact jH (by decide)
  ·cases hm:c6 k with
   |true=>exact BU h (BO hm hr) ha
   |false=>exact BU h (BP hm 0) ha
theorem KR {c:Bool} {o:Ob} (h:Okay o) {a:At} (ha:ec a.v):q7 (cG c o a):=by
 unfold cG
 split
 ·exact jH (by decide)
 split
 ·exact jH (by decide)
 ·exact KQ h ha
theorem KS (s:List UInt8) (r:Rw):ec (iw s r):=by
 have hid:cd idL [] r.b∈texts:=(by decide:∀s∈idL,s∈texts) _ (qn idL [] r.b (by simp[idL]))
 have htx:cd txL [] r.a∈texts:=(by decide:∀s∈txL,s∈texts) _ (qn txL [] r.a (by simp[txL]))
 have h0:([]:List UInt8)∈texts:=by decide
 unfold iw
 repeat' split
 all_goals
  simp only[bA,iv,ec,qO]
  simp only[hid,htx,h0,and_self]
def vK (s:List UInt8):List It→Nat→List At
 |[],_=>[]
 |v::r,i=>⟨s,.ofNat i,v⟩::vK s r (i+1)
theorem BV (s:List UInt8):∀ (l:List It) (i:Nat),(vK s l i).length=l.length
 |[],_=>rfl
 |_::r,i=>congrArg (· +1) (BV s r (i+1))
theorem jI:∀l:List At,ae (l.map aW)=true
 |[]=>rfl
 |a::r=>by rw[List.map_cons,ae,mj,jI r];rfl
end Go.Proofs.YtlljinebapfdaaaGreatDoor
