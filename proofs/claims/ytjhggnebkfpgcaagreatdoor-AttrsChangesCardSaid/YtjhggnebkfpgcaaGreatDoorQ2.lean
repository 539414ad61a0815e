import Derived.Test.YtjhggnebkfpgcaaGreatDoorQ1
import Derived.KernelRfl
namespace Go.Proofs.YtjhggnebkfpgcaaGreatDoor
open Go Go.RowKit _root_.Go.Proofs.Tryz
open Go.Proofs.Abs
noncomputable section
def iS (W:List AV):AV:= .tuple [.agg W,.bool true]
def iu (fi la:AV) (may:Bool):fy:=fun _ args _ _=>match args with
 | .str _::_=>some (.val fi)
 | .agg a::rest=>match Nat.beq (ab a) 12 with
  |true=>some (.val la)
  |false=>match rest with
   |[]=>some (.val (.bool may))
   |_=>none
 |_=>none
abbrev tp:=(AV.tuple [AV.agg zL,I 7])
@[simp] abbrev AC (Q:AV→Prop) (an:List UInt8):=(SC 61 [AV.str an] (AV.tuple [AV.agg [AV.str [],I 0,AV.bool false,AV.bool false,AV.nilFunc,AV.nilFunc,AV.nilFunc,AV.nilFunc,AV.nilFunc,AV.nilFunc,AV.nilFunc,AV.nilFunc],AV.bool false])∧Q tp)
theorem P4 (o:Ob) (M N L C:AV) (an:List UInt8) (i t y n:Int) (Da Ks:List AV) (now:Int) (Q:AV→Prop):aH prog opts0 40 (aB [] [] (iu (km none) .nilsl true) [] []) 24 [.agg (aa o M N L C),.agg (.str an::I i::am t y n Da Ks),I now] [] 0 (fun v _ _=>Q v)=
 (AC Q an):=by kernel_rfl
theorem P5 (h:eZ) (A2 A3 G R P D RM:AV) (o:Ob) (M N L C:AV) (an:List UInt8) (i t y n:Int) (Da Ks:List AV) (now:Int) (Q:AV→Prop):aH prog opts0 40 (aB [] [] (iu (iS (cR h .nilFunc A2 A3 G R P D RM)) .nilsl true) [] []) 24 [.agg (aa o M N L C),.agg (.str an::I i::am t y n Da Ks),I now] [] 0 (fun v _ _=>Q v)=
 (SC 61 [AV.str an] (.tuple [AV.agg [AV.str h.1,I h.2,.bool h.3,.bool h.4,.nilFunc,A2,A3,G,R,P,D,RM],.bool true])∧aw (aY prog 89 (.agg [AV.str h.1,I h.2,.bool h.3,.bool h.4,.nilFunc,A2,A3,G,R,P,D,RM]) 12) (Q tp)):=by kernel_rfl
abbrev tq:=(AV.tuple [AV.agg zL,I 13])
abbrev vZ:=(AV.tuple [AV.agg zL,I 11])
abbrev AD (A2 A3 D G P R RM:AV) (af:Nat) (h:eZ):=[AV.str h.1,I h.2,AV.bool h.3,AV.bool h.4,AV.func (Fn.func af) [] [],A2,A3,G,R,P,D,RM]
theorem P6 (h:eZ) (A2 A3 G R P D RM:AV) (af:Nat) (o o':Ob) (M N L C M' N' L' C':AV) (an:List UInt8) (i t y n:Int) (Da Ks:List AV) (now e:Int) (may:Bool) (Q:AV→Prop):aH prog opts0 40 (aB [] [] (iu (iS (cR h (bK af) A2 A3 G R P D RM)) (.tuple [.agg (aa o' M' N' L' C'),I e]) may) [70,71] []) 24 [.agg (aa o M N L C),.agg (.str an::I i::am t y n Da Ks),I now] [] 0 (fun v _ _=>Q v)=
 (SC 61 [AV.str an] (.tuple [AV.agg (AD A2 A3 D G P R RM af h),.bool true])∧aw (aY prog 89 (.agg (AD A2 A3 D G P R RM af h)) 12) (SC af [AV.agg (aa o M N L C)] (.bool may)∧ac o.27 (Q tq) (ac (!may) (Q vZ) (SC 62 [AV.agg (AD A2 A3 D G P R RM af h),.agg (aa o M N L C),.agg [AV.str an,I i,I t,I y,I n,.fsl false Da,.fsl false Ks]] (.tuple [AV.agg (aa o' M' N' L' C'),I e])∧aw (aY prog 33 (.agg (aa o' M' N' L' C')) 37) (ac (!ao e 0) (Q (.tuple [AV.agg zL,I e])) (aw (aY prog 33 (.agg (aa {o' with d9:=⟨true,now⟩} M' N' L' C')) 37) (aw (aY prog 33 (.agg (aa {o' with d9:=⟨true,now⟩} M' N' L' C')) 37) (Q (.tuple [AV.agg (aa {o' with d9:=⟨true,now⟩} M' N' L' C'),I 0]))))))))):=by kernel_rfl
def GJ (fi la:AV) (G:List AV) (right may twice:Bool):fy:=fun f args _ nx=>match args with
 | .str _::_=>some (.val fi)
 | .agg a::rest=>match Nat.beq (ab a) 12 with
  |true=>match Nat.beq f 72 with
   |true=>some (.val (.bool twice))
   |false=>some (.val la)
  | false=>match Nat.ble nx 26 with
   |true=>some (.val (.fsl false G))
   |false=>match rest with
    | .agg _::_=>some (.val (.bool right))
    |[]=>some (.val (.bool may))
    |_=>none
 |_=>none
def GK (fi:AV) (G:List AV) (may:Bool) (O O':List AV):fy:=fun _ args _ nx=>match args with
 | .str _::_=>some (.val fi)
 | .ptr b _::_=>some (.part [b] (.tuple []) [(b,some (.cells O'))] 100)
 | .agg _::rest=>match Nat.ble nx 24 with
  |true=>some (.val (.fsl false G))
  | false=>match rest with
   |[]=>match Nat.ble nx 44 with
    |true=>some (.val (.bool may))
    |false=>some (.val (.agg O))
   |_=>none
 |_=>none
theorem P7 (o:Ob) (M N L C:AV) (an:List UInt8) (i t y n:Int) (Da Ks:List AV) (now:Int) (Q:AV→Prop):aH prog opts0 40 (aB [] [] (iu (km none) .nilsl true) [] []) 25 [.agg (aa o M N L C),.agg (.str an::I i::am t y n Da Ks),I now] [] 0 (fun v _ _=>Q v)=
 (AC Q an):=by kernel_rfl
theorem P8 (h:eZ) (A1 A3 G R P D RM:AV) (o:Ob) (M N L C:AV) (an:List UInt8) (i t y n:Int) (Da Ks:List AV) (now:Int) (Q:AV→Prop):aH prog opts0 40 (aB [] [] (iu (iS (cR h A1 .nilFunc A3 G R P D RM)) .nilsl true) [] []) 25 [.agg (aa o M N L C),.agg (.str an::I i::am t y n Da Ks),I now] [] 0 (fun v _ _=>Q v)=
 (SC 61 [AV.str an] (.tuple [AV.agg [AV.str h.1,I h.2,.bool h.3,.bool h.4,A1,.nilFunc,A3,G,R,P,D,RM],.bool true])∧aw (aY prog 89 (.agg [AV.str h.1,I h.2,.bool h.3,.bool h.4,A1,.nilFunc,A3,G,R,P,D,RM]) 12) (Q tp)):=by kernel_rfl
abbrev tr (A1 A3 D P RM:AV) (gc rc:List AV) (gf mf rf:Nat) (h:eZ):=[AV.str h.1,I h.2,AV.bool h.3,AV.bool h.4,A1,AV.func (Fn.func mf) [] [],A3,AV.func (Fn.func gf) [] gc,AV.func (Fn.func rf) [] rc,P,D,RM]
abbrev v6:=(AV.tuple [AV.agg zL,I 1])
theorem P9 (h:eZ) (A1 A3 P D RM:AV) (gf:Nat) (gc:List AV) (rf:Nat) (rc:List AV) (mf:Nat) (o o':Ob) (M N L C M' N' L' C':AV) (an:List UInt8) (i t y n:Int) (Da Ks:List AV) (now e:Int) (G:List AV) (right may twice:Bool) (Q:AV→Prop):aH prog opts0 40 (aB [] [] (GJ (iS (cR h A1 (bK mf) A3 (cM gf gc) (cM rf rc) P D RM)) (.tuple [.agg (aa o' M' N' L' C'),I e]) G right may twice) [70,71] []) 25 [.agg (aa o M N L C),.agg (.str an::I i::am t y n Da Ks),I now] [] 0 (fun v _ _=>Q v)=
 (SC 61 [AV.str an] (.tuple [AV.agg (tr A1 A3 D P RM gc rc gf mf rf h),.bool true])∧aw (aY prog 89 (.agg (tr A1 A3 D P RM gc rc gf mf rf h)) 12) (SC gf (.agg (aa o M N L C)::gc) (.fsl false G)∧ac (ay i 0) (SC mf [AV.agg (aa o M N L C)] (.bool may)∧SC rf (.agg (aa o M N L C)::AV.agg [I t,I y,I n,.fsl false Da,.fsl false Ks]::rc) (.bool right)∧SC 72 [AV.agg (tr A1 A3 D P RM gc rc gf mf rf h),.agg (aa o M N L C),.agg [I t,I y,I n,.fsl false Da,.fsl false Ks],I i] (.bool twice)∧ac o.27 (Q tq) (Q v6)) (SC mf [AV.agg (aa o M N L C)] (.bool may)∧SC rf (.agg (aa o M N L C)::AV.agg [I t,I y,I n,.fsl false Da,.fsl false Ks]::rc) (.bool right)∧SC 72 [AV.agg (tr A1 A3 D P RM gc rc gf mf rf h),.agg (aa o M N L C),.agg [I t,I y,I n,.fsl false Da,.fsl false Ks],I i] (.bool twice)∧ac o.27 (Q tq) (ac (!ay i (Int.ofNat (ab G))) (Q v6) (ac (!may) (Q vZ) (ac (!right) (Q tp) (ac twice (Q vZ) (SC 73 [AV.agg (tr A1 A3 D P RM gc rc gf mf rf h),.agg (aa o M N L C),.agg [AV.str an,I i,I t,I y,I n,.fsl false Da,.fsl false Ks]] (.tuple [AV.agg (aa o' M' N' L' C'),I e])∧aw (aY prog 33 (.agg (aa o' M' N' L' C')) 37) (ac (!ao e 0) (Q (.tuple [AV.agg zL,I e])) (aw (aY prog 33 (.agg (aa {o' with d9:=⟨true,now⟩} M' N' L' C')) 37) (aw (aY prog 33 (.agg (aa {o' with d9:=⟨true,now⟩} M' N' L' C')) 37) (Q (.tuple [AV.agg (aa {o' with d9:=⟨true,now⟩} M' N' L' C'),I 0]))))))))))))):=by kernel_rfl
theorem Qa (o:Ob) (M N L C:AV) (an:List UInt8) (i now:Int) (Q:AV→Prop):aH prog opts0 40 (aB [] [] (iu (km none) .nilsl true) [] []) 30 [.agg (aa o M N L C),.str an,I i,I now] [] 0 (fun v _ _=>Q v)=
 (AC Q an):=by kernel_rfl
theorem Qb (h:eZ) (A1 A2 G R P D RM:AV) (o:Ob) (M N L C:AV) (an:List UInt8) (i now:Int) (Q:AV→Prop):aH prog opts0 40 (aB [] [] (iu (iS (cR h A1 A2 .nilFunc G R P D RM)) .nilsl true) [] []) 30 [.agg (aa o M N L C),.str an,I i,I now] [] 0 (fun v _ _=>Q v)=
 (SC 61 [AV.str an] (.tuple [AV.agg [AV.str h.1,I h.2,.bool h.3,.bool h.4,A1,A2,.nilFunc,G,R,P,D,RM],.bool true])∧aw (aY prog 89 (.agg [AV.str h.1,I h.2,.bool h.3,.bool h.4,A1,A2,.nilFunc,G,R,P,D,RM]) 12) (Q tp)):=by kernel_rfl
theorem Qc (h:eZ) (A1 A2 R P RM:AV) (gf:Nat) (gc:List AV) (df:Nat) (dc:List AV) (mf:Nat) (o o':Ob) (M N L C M' N' L' C':AV) (an:List UInt8) (i now:Int) (G:List AV) (may:Bool) (Q:AV→Prop):aH prog opts0 40 (aB [] [] (GK (iS (cR h A1 A2 (bK mf) (cM gf gc) R P (cM df dc) RM)) G may (aa o M N L C) (aa o' M' N' L' C')) [70,71] []) 30 [.agg (aa o M N L C),.str an,I i,I now] [] 0 (fun v _ _=>Q v)=
 (SC 61 [AV.str an] (.tuple [AV.agg [AV.str h.1,I h.2,.bool h.3,.bool h.4,A1,A2,.func (Fn.func mf) [] [],.func (Fn.func gf) [] gc,R,P,.func (Fn.func df) [] dc,RM],.bool true])∧aw (aY prog 89 (.agg [AV.str h.1,I h.2,.bool h.3,.bool h.4,A1,A2,.func (Fn.func mf) [] [],.func (Fn.func gf) [] gc,R,P,.func (Fn.func df) [] dc,RM]) 12) (SC gf (.agg (aa o M N L C)::gc) (.fsl false G)∧ac (ay i 0) (SC mf [AV.agg (aa o M N L C)] (.bool may)∧ac o.27 (Q tq) (Q v6)) (SC mf [AV.agg (aa o M N L C)] (.bool may)∧ac o.27 (Q tq) (ac (!ay i (Int.ofNat (ab G))) (Q v6) (ac (!may) (Q vZ) (SC 82 [AV.agg (aa o M N L C)] (.agg (aa o M N L C))∧aw (aY prog 33 (.agg (aa o M N L C)) 37) (dw prog opts0.glob df (.ptr 0 0::I i::dc) [(0,some (Blk.cells (aa o M N L C)))] 86 (.tuple []) [(0,some (Blk.cells (aa o' M' N' L' C')))] 186∧aw (aY prog 33 (.agg (aa {o' with d9:=⟨true,now⟩} M' N' L' C')) 37) (aw (aY prog 33 (.agg (aa {o' with d9:=⟨true,now⟩} M' N' L' C')) 37) (Q (.tuple [AV.agg (aa {o' with d9:=⟨true,now⟩} M' N' L' C'),I 0])))))))))):=by kernel_rfl
end
set_option maxRecDepth 20000
noncomputable section
def ed:It→Int| .mk _ _ n _ _=>n
def gg:It→List UInt8| .mk _ _ _ d _=>d
def cC:It→List It| .mk _ _ _ _ k=>k
def dh (o:Ob):Nat→Dt
 |0=>o.d0
 |1=>o.d1
 |2=>o.d2
 |3=>o.d3
 |4=>o.d4
 |5=>o.d5
 |6=>o.d6
 |7=>o.d7
 |8=>o.d8
 |_=>o.d9
def aV (o:Ob) (d:Dt):Nat→Ob
 |0=>{o with d0:=d}
 |1=>{o with d1:=d}
 |2=>{o with d2:=d}
 |3=>{o with d3:=d}
 |4=>{o with d4:=d}
 |5=>{o with d5:=d}
 |6=>{o with d6:=d}
 |7=>{o with d7:=d}
 |8=>{o with d8:=d}
 |_=>{o with d9:=d}
def gG (s:List UInt8):It:=bY 7 0 s []
def dJ (y n:Int):It:=bY y n [] []
def gh (t y n:Int):It:= .mk t y n [] []
def hQ (ks:List It):It:=bY 1 0 [] ks
def qu (l:Lk):It:=hQ [gh 4325451 5 l.ty,.mk 4325452 7 0 l.id []]
def qv:List UInt8→List It
 |[]=>[]
 |s::t=>[.mk 4325504 7 0 (s::t) []]
def ts (o:Ob):It:=hQ (gh 4325506 5 o.why::qv o.msg)
def qw (o:Ob):It:=hQ [gh 4325527 3 o.lt,gh 4325526 3 o.lc,gh 4325528 5 o.lu]
def cV (b:Bool) (x:It):List It:=match b with
 |true=>[x]
 |false=>[]
def aA (o:Ob):Kd→List It
 | .uid=>[gG o.id]
 | .nam=>o.names.map gG
 | .typ=>[dJ 5 o.ty]
 | .alg=>cV (!ao o.alg 0) (dJ 5 o.alg)
 | .len=>cV (!ao o.len 0) (dJ 2 o.len)
 | .mask=>[dJ 2 o.mask]
 | .sta=>[dJ 5 o.st]
 | .dat k=>cV (dh o k).has (dJ 9 (dh o k).t)
 | .why=>cV (!ao o.why 0) (ts o)
 | .lnk=>o.links.map qu
 | .lim=>cV o.lh (qw o)
 | .cus s=>(o.cust.filter fun c=>aI c.name s).map fun c=>gG c.text
theorem AE {l:List AV} (h:ae l=true):ae [.agg l]=true:=by simp[ae,ag,h]
theorem jO {f:Bool} {l:List AV} (h:ae l=true):ag (.fsl f l)=true:=h
def AF (sz:Nat) (v:AV) (h:ah):Option (Nat × List AV):=match v with
 | .nilsl=>some (0,[])
 | .rsl _ id 0 len sz'=>match Nat.beq sz' sz,hget h id with
  |true,some (.cells c)=>some (len,c)
  |_,_=>none
 |_=>none
theorem Qd {sz:Nat} {v w:AV} {h:ah} {es:List AV} (e:AF sz v h=some (es.length,flat es)) (hg:∀e∈es,eH sz e) (hc:ae es=true) (hw:Wk (.fsl false es) w):lp w v h:=by
 unfold AF at e;split at e
 ·have e:=congrArg Prod.fst (Option.some.inj e);have:es=[]:=List.eq_nil_of_length_eq_zero e.symm;subst this;exact ⟨.nilsl,⟨1,rfl⟩,rfl,Wk.nil.trans hw⟩
 ·split at e
  ·rename_i h1 h2;have e:=Option.some.inj e;have h1:=beq_iff.1 h1;subst h1;exact ⟨_,(Frz.row (es:=es) rfl h2 (congrArg Prod.snd e) (congrArg Prod.fst e) hg hc).out,jO hc,hw⟩
  ·cases e
 ·cases e
theorem GL {A:bz} {f:FuncId} {args:List AV} {v:AV} {sz:Nat} {es:List AV} (hA:dH prog opts0 A) (hl:jL prog opts0.glob 0 A f) (hcl:ae args=true) (hg:∀e∈es,eH sz e) (hc:ae es=true) (hw:Wk (.fsl false es) v)
  (h:aH prog opts0 40 A f args [] 0 (fun u H _=>AF sz u H=some (es.length,flat es))=(some (es.length,flat es)=some (es.length,flat es))):SC f args v:=by
 have h:=h.mpr rfl;obtain ⟨fn,c,hfn,hc',hname,hsz,hw'⟩:=oK base0 hA hl h;refine Ag base0 hfn hc' hname hsz hcl fun w I a hr=>wp_mono (hw'.out w I _ [] [] a w (fun _ _=>rfl) hr) ?_;rintro e a' w' ⟨x,s',rfl,h2,hx,l,hl,hq⟩;refine ⟨s',l, ?_,h2,hl,Qd hq hg hc hw⟩;rcases hx with rfl|rfl
 ·exact .inl rfl
 ·exact .inr rfl
def cH:List Nat:=[128,92,131,176]
def qx:List Nat:=[124,132,133]
theorem Qe (o:Ob) (M N L C:AV) (Q:AV→Prop):aH prog opts0 40 (aB [] [] aR cH []) 127 [.agg (aa o M N L C)] [] 0 (fun v _ _=>Q v)=
 (Q (.fsl true [AV.agg [I 4325387,I 7,I 0,.fsl false (ak o.1),.nilsl]])):=by kernel_rfl
theorem Qf (o:Ob) (M N L C:AV) (Q:AV→Prop):aH prog opts0 40 (aB [] [] aR cH []) 130 [.agg (aa o M N L C)] [] 0 (fun v _ _=>Q v)=
 (Q (.fsl true [AV.agg [I 4325387,I 5,I o.2,.nilsl,.nilsl]])):=by kernel_rfl
theorem Qg (o:Ob) (M N L C:AV) (Q:AV→Prop):aH prog opts0 40 (aB [] [] aR cH []) 134 [.agg (aa o M N L C)] [] 0 (fun v _ _=>Q v)=
 (Q (.fsl true [AV.agg [I 4325387,I 5,I o.7,.nilsl,.nilsl]])):=by kernel_rfl
theorem Qh (o:Ob) (M N L C:AV) (Q:AV→Prop):aH prog opts0 40 (aB [] [] aR cH []) 184 [.agg (aa o M N L C)] [] 0 (fun v _ _=>Q v)=
 (ac (!o.23) (Q AV.nilsl) (Q (.fsl true [AV.agg [I 4325387,I 1,I 0,.nilsl,.fsl true [AV.agg [I 4325527,I 3,I o.24,.nilsl,.nilsl],.agg [I 4325526,I 3,I o.25,.nilsl,.nilsl],.agg [I 4325528,I 5,I o.26,.nilsl,.nilsl]]]]))):=by kernel_rfl
abbrev AG (o:Ob):=[AV.agg [I 4325506,I 5,I o.18,AV.nilsl,AV.nilsl]]
abbrev AH (o:Ob):=[I 4325387,I 1,I 0,AV.nilsl,AV.rsl true 16 0 (ab (AG o)+ab [AV.agg [I 4325504,I 7,I 0,AV.fsl false (ak o.19),AV.nilsl]]) 5]
abbrev tt (o:Ob):=[I 4325387,I 1,I 0,AV.nilsl,AV.fsl true (AG o)]
abbrev GM (C L M N:AV) (o:Ob):=[(29,some (Blk.cells (AH o))),(25,some (Blk.cells (AH o))),(16,some (Blk.cells (flat (AG o)++flat [AV.agg [I 4325504,I 7,I 0,AV.fsl false (ak o.19),AV.nilsl]]))),(0,some (Blk.cells (aa o M N L C)))]
theorem Qi (o:Ob) (M N L C:AV) (Q:AV→ah→Prop):aH prog opts0 40 (aB [] [] aR cH []) 138 [.agg (aa o M N L C)] [] 0 (fun v H _=>Q v H)=
 (ac (!aI o.19 []) (ac (!!ao o.18 0) (Q AV.nilsl (GM C L M N o)) (Q (.fsl true [AV.agg (AH o)]) (GM C L M N o))) (ac (!!ao o.18 0) (Q AV.nilsl [(21,some (Blk.cells (tt o))),(17,some (Blk.cells (tt o))),(0,some (Blk.cells (aa o M N L C)))]) (Q (.fsl true [AV.agg (tt o)]) [(21,some (Blk.cells (tt o))),(17,some (Blk.cells (tt o))),(0,some (Blk.cells (aa o M N L C)))]))):=by kernel_rfl
theorem Qj (o:Ob) (M N L C:AV) (Q:AV→Prop):aH prog opts0 40 (aB [] [] aR cH qx) 161 [.agg (aa o M N L C),.fptr [bK 132] 0,.fptr [I 1] 0,.fptr [I 5] 0] [] 0 (fun v _ _=>Q v)=
 (ac (!ao o.3 0) (Q (.fsl true [AV.agg [I 4325387,I 5,I o.3,.nilsl,.nilsl]])) (Q AV.nilsl)):=by kernel_rfl
theorem Qk (o:Ob) (M N L C:AV) (Q:AV→Prop):aH prog opts0 40 (aB [] [] aR cH qx) 161 [.agg (aa o M N L C),.fptr [bK 133] 0,.fptr [I 1] 0,.fptr [I 2] 0] [] 0 (fun v _ _=>Q v)=
 (ac (!ao o.4 0) (Q (.fsl true [AV.agg [I 4325387,I 2,I o.4,.nilsl,.nilsl]])) (Q AV.nilsl)):=by kernel_rfl
theorem Ql (o:Ob) (M N L C:AV) (Q:AV→Prop):aH prog opts0 40 (aB [] [] aR cH qx) 161 [.agg (aa o M N L C),.fptr [bK 124] 0,.fptr [I 0] 0,.fptr [I 2] 0] [] 0 (fun v _ _=>Q v)=
 (ac (!ao o.5 0) (Q (.fsl true [AV.agg [I 4325387,I 2,I o.5,.nilsl,.nilsl]])) (Q (.fsl true [AV.agg [I 4325387,I 2,I o.5,.nilsl,.nilsl]]))):=by kernel_rfl
theorem Qm (o:Ob) (M N L C:AV) (Q:AV→Prop):aH prog opts0 40 (aB [] [] aR cH []) 172 [.agg (aa o M N L C),.fptr [I 0] 0] [] 0 (fun v _ _=>Q v)=
 (ac (!o.d0.1) (Q AV.nilsl) (Q (.fsl true [AV.agg [I 4325387,I 9,I o.d0.2,.nilsl,.nilsl]]))):=by kernel_rfl
theorem Qn (o:Ob) (M N L C:AV) (Q:AV→Prop):aH prog opts0 40 (aB [] [] aR cH []) 172 [.agg (aa o M N L C),.fptr [I 1] 0] [] 0 (fun v _ _=>Q v)=
 (ac (!o.d1.1) (Q AV.nilsl) (Q (.fsl true [AV.agg [I 4325387,I 9,I o.d1.2,.nilsl,.nilsl]]))):=by kernel_rfl
theorem Qo (o:Ob) (M N L C:AV) (Q:AV→Prop):aH prog opts0 40 (aB [] [] aR cH []) 172 [.agg (aa o M N L C),.fptr [I 2] 0] [] 0 (fun v _ _=>Q v)=
 (ac (!o.d2.1) (Q AV.nilsl) (Q (.fsl true [AV.agg [I 4325387,I 9,I o.d2.2,.nilsl,.nilsl]]))):=by kernel_rfl
theorem Qp (o:Ob) (M N L C:AV) (Q:AV→Prop):aH prog opts0 40 (aB [] [] aR cH []) 172 [.agg (aa o M N L C),.fptr [I 3] 0] [] 0 (fun v _ _=>Q v)=
 (ac (!o.d3.1) (Q AV.nilsl) (Q (.fsl true [AV.agg [I 4325387,I 9,I o.d3.2,.nilsl,.nilsl]]))):=by kernel_rfl
theorem Qq (o:Ob) (M N L C:AV) (Q:AV→Prop):aH prog opts0 40 (aB [] [] aR cH []) 172 [.agg (aa o M N L C),.fptr [I 4] 0] [] 0 (fun v _ _=>Q v)=
 (ac (!o.d4.1) (Q AV.nilsl) (Q (.fsl true [AV.agg [I 4325387,I 9,I o.d4.2,.nilsl,.nilsl]]))):=by kernel_rfl
theorem Qr (o:Ob) (M N L C:AV) (Q:AV→Prop):aH prog opts0 40 (aB [] [] aR cH []) 172 [.agg (aa o M N L C),.fptr [I 5] 0] [] 0 (fun v _ _=>Q v)=
 (ac (!o.d5.1) (Q AV.nilsl) (Q (.fsl true [AV.agg [I 4325387,I 9,I o.d5.2,.nilsl,.nilsl]]))):=by kernel_rfl
theorem Qs (o:Ob) (M N L C:AV) (Q:AV→Prop):aH prog opts0 40 (aB [] [] aR cH []) 172 [.agg (aa o M N L C),.fptr [I 6] 0] [] 0 (fun v _ _=>Q v)=
 (ac (!o.d6.1) (Q AV.nilsl) (Q (.fsl true [AV.agg [I 4325387,I 9,I o.d6.2,.nilsl,.nilsl]]))):=by kernel_rfl
theorem Qt (o:Ob) (M N L C:AV) (Q:AV→Prop):aH prog opts0 40 (aB [] [] aR cH []) 172 [.agg (aa o M N L C),.fptr [I 7] 0] [] 0 (fun v _ _=>Q v)=
 (ac (!o.d7.1) (Q AV.nilsl) (Q (.fsl true [AV.agg [I 4325387,I 9,I o.d7.2,.nilsl,.nilsl]]))):=by kernel_rfl
theorem Qu (o:Ob) (M N L C:AV) (Q:AV→Prop):aH prog opts0 40 (aB [] [] aR cH []) 172 [.agg (aa o M N L C),.fptr [I 8] 0] [] 0 (fun v _ _=>Q v)=
 (ac (!o.d8.1) (Q AV.nilsl) (Q (.fsl true [AV.agg [I 4325387,I 9,I o.d8.2,.nilsl,.nilsl]]))):=by kernel_rfl
theorem Qv (o:Ob) (M N L C:AV) (Q:AV→Prop):aH prog opts0 40 (aB [] [] aR cH []) 172 [.agg (aa o M N L C),.fptr [I 9] 0] [] 0 (fun v _ _=>Q v)=
 (ac (!o.d9.1) (Q AV.nilsl) (Q (.fsl true [AV.agg [I 4325387,I 9,I o.d9.2,.nilsl,.nilsl]]))):=by kernel_rfl
def iv (x:List UInt8):AV:= .agg [I 4325387,I 7,I 0,.fsl false (ak x),.nilsl]
theorem tu:∀l:List (List UInt8),ae (l.map iv)=true
 |[]=>rfl
 |x::r=>by
  rw[List.map_cons,ae,tu r];simp[iv,ag,ae]
theorem GN:∀l:List (List UInt8),∀e∈l.map iv,eH 5 e:=fun l e he=>by
 obtain ⟨x,_,rfl⟩:=List.mem_map.1 he;exact rflTwoQ
theorem GO (l:List (List UInt8)):Wk (.fsl false (l.map iv)) (.fsl false (ap (l.map gG))):=by
 rw[mL,List.map_map];refine Wk.rows (WkE.map fun x _=> ?_);simp only[iv,Function.comp,gG,bY,aX,ap,AV.cells]
 (repeat (first|exact Wk.refl _|exact WkL.refl _|exact Wk.nil|exact Wk.row|exact WkE.refl _|exact WkL.nil|exact WkE.nil|apply Wk.agg|apply Wk.tuple|apply WkL.cons|apply Wk.rows|apply WkE.consA))
theorem Qw (o:Ob) {M L C:AV} (hM:ag M=true) (hL:ag L=true) (hC:ag C=true) (l:List (List UInt8)) (h:l.length≤6):SC 166 [.agg (aa o M (.fsl false (l.map .str)) L C)] (.fsl false (ap (l.map gG))):=by
 have hcl:ae [.agg (aa o M (.fsl false (l.map .str)) L C)]=true:=AE (c9 o hM (jO (fN l)) hL hC);refine GL (A:=aB [] [] aR cH []) ar (aG (LsOk.no rfl)) hcl (GN l) (tu l) (GO l) ?_;clear hcl;rcases l with _|⟨_,_|⟨_,_|⟨_,_|⟨_,_|⟨_,_|⟨_,_|⟨_,_⟩⟩⟩⟩⟩⟩⟩
 all_goals first
  |(exfalso;simp only[lConQ] at h;omega)
  |kernel_rfl
def tv (x:Lk):AV:= .agg [I 4325387,I 1,I 0,.nilsl,.fsl true [.agg [I 4325451,I 5,I x.ty,.nilsl,.nilsl],.agg [I 4325452,I 7,I 0,.fsl false (ak x.id),.nilsl]]]
theorem GP:∀l:List (Lk),ae (l.map tv)=true
 |[]=>rfl
 |x::r=>by
  rw[List.map_cons,ae,GP r];simp[tv,ag,ae]
theorem Qx:∀l:List (Lk),∀e∈l.map tv,eH 5 e:=fun l e he=>by
 obtain ⟨x,_,rfl⟩:=List.mem_map.1 he;exact rflTwoQ
theorem Qy (l:List (Lk)):Wk (.fsl false (l.map tv)) (.fsl false (ap (l.map qu))):=by
 rw[mL,List.map_map];refine Wk.rows (WkE.map fun x _=> ?_);simp only[tv,Function.comp,qu,hQ,gh,bY,aX,ap,AV.cells,ak]
 (repeat (first|exact Wk.refl _|exact WkL.refl _|exact Wk.nil|exact Wk.row|exact WkE.refl _|exact WkL.nil|exact WkE.nil|apply Wk.agg|apply Wk.tuple|apply WkL.cons|apply Wk.rows|apply WkE.consA))
theorem Qz (o:Ob) {M N C:AV} (hM:ag M=true) (hL:ag N=true) (hC:ag C=true) (l:List (Lk)) (h:l.length≤8):SC 178 [.agg (aa o M N (.fsl false (l.map aL)) C)] (.fsl false (ap (l.map qu))):=by
 have hcl:ae [.agg (aa o M N (.fsl false (l.map aL)) C)]=true:=AE (c9 o hM hL (jO (jN l)) hC);refine GL (A:=aB [] [] aR cH []) ar (aG (LsOk.no rfl)) hcl (Qx l) (GP l) (Qy l) ?_;clear hcl;rcases l with _|⟨_,_|⟨_,_|⟨_,_|⟨_,_|⟨_,_|⟨_,_|⟨_,_|⟨_,_|⟨_,_⟩⟩⟩⟩⟩⟩⟩⟩⟩
 all_goals first
  |(exfalso;simp only[lConQ] at h;omega)
  |kernel_rfl
end
noncomputable section
def lF (x lo hi:Int):Bool:= !ay x lo&& !ay hi x
def eN (x:It) (tag kind lo hi:Int):Bool:=dy x tag kind&&lF (ed x) lo hi
def jj (x:It) (tag:Int):Bool:=dy x tag 7&&qo (gg x)
def jk:List It→Bool
 |[a,b]=>eN a 4325451 5 101 110&&jj b 4325452
 |_=>false
def ef:List It→Bool
 |[a,b,c]=>eN a 4325527 3 1 1099511627776&&(eN b 4325526 3 0 (ed a)&&eN c 4325528 5 1 2)
 |_=>false
def tz:List It→Bool
 |a::b::_=>ao (ed b) (ed a)
 |_=>false
def eA (o:Ob) (v:It):Kd→Bool
 | .nam| .cus _=>jj v 4325387
 | .alg=>eN v 4325387 5 1 100
 | .len=>eN v 4325387 2 1 100000
 | .mask=>eN v 4325387 2 0 1048575
 | .dat _=>eN v 4325387 9 (-1099511627776) 1099511627776
 | .lnk=>dy v 4325387 1&&jk (cC v)
 | .lim=>dy v 4325387 1&&(ef (cC v)&&(o.lh||tz (cC v)))
 |_=>false
abbrev lG (D K:List AV) (n t y:Int):=[I t,I y,I n,AV.fsl false D,AV.fsl false K]
theorem QA (t y n tag:Int) (D K:List AV) (sh tx:Bool) (Q:AV→Prop):aH prog opts0 40 (aB [] [] (bP [(89,.bool sh),(147,.bool tx)]) [] []) 153 [.agg (am t y n D K),I tag] [] 0 (fun v _ _=>Q v)=
 (SC 89 [AV.agg (lG D K n t y),I tag,I 7] (.bool sh)∧ac sh (aw (dV D).isSome (SC 147 [AV.str (iN D)] (.bool tx)∧Q (.bool tx))) (Q (.bool false))):=by kernel_rfl
theorem QB (t y n tag kind lo hi:Int) (D K:List AV) (sh:Bool) (Q:AV→Prop):aH prog opts0 40 (aB [] [] (bP [(89,.bool sh)]) [] []) 163 [.agg (am t y n D K),I tag,I kind,I lo,I hi] [] 0 (fun v _ _=>Q v)=
 (SC 89 [AV.agg (lG D K n t y),I tag,I kind] (.bool sh)∧ac sh (ac (!ay n lo) (Q (.bool !ay hi n)) (Q (.bool false))) (Q (.bool false))):=by kernel_rfl
theorem QC (o:Ob) (M N L C:AV) (t y n:Int) (D K:List AV) (r:Bool) (Q:AV→Prop):aH prog opts0 40 (aB [] [] (bP [(153,.bool r)]) [] []) 167 [.agg (aa o M N L C),.agg (am t y n D K)] [] 0 (fun v _ _=>Q v)=
 (SC 153 [AV.agg (lG D K n t y),I 4325387] (.bool r)∧Q (.bool r)):=by kernel_rfl
theorem QD (o:Ob) (M N L C:AV) (t y n:Int) (D K:List AV) (r:Bool) (Q:AV→Prop):aH prog opts0 40 (aB [] [] (bP [(153,.bool r)]) [] []) 152 [.agg (aa o M N L C),.agg (am t y n D K)] [] 0 (fun v _ _=>Q v)=
 (SC 153 [AV.agg (lG D K n t y),I 4325387] (.bool r)∧Q (.bool r)):=by kernel_rfl
theorem QE (o:Ob) (M N L C:AV) (t y n:Int) (D K:List AV) (r:Bool) (Q:AV→Prop):aH prog opts0 40 (aB [] [] (bP [(163,.bool r)]) [] []) 173 [.agg (aa o M N L C),.agg (am t y n D K)] [] 0 (fun v _ _=>Q v)=
 (SC 163 [AV.agg (lG D K n t y),I 4325387,I 9,I (Int.negSucc 1099511627775),I 1099511627776] (.bool r)∧Q (.bool r)):=by kernel_rfl
theorem QF (o:Ob) (M N L C:AV) (t y n:Int) (D K:List AV) (a b c:Int) (r:Bool) (Q:AV→Prop):aH prog opts0 40 (aB [] [] (bP [(163,.bool r)]) [] []) 162 [.agg (aa o M N L C),.agg (am t y n D K),.fptr [I a] 0,.fptr [I b] 0,.fptr [I c] 0] [] 0 (fun v _ _=>Q v)=
 (SC 163 [AV.agg (lG D K n t y),I 4325387,I a,I b,I c] (.bool r)∧Q (.bool r)):=by kernel_rfl
def AJ (c0 c1:List AV) (sh r0 r1:Bool):bz:=aB [(1,11,.res (.fptr c0 0)),(1,18,.res (.fptr c1 0))] [] (bP [(89,.bool sh),(163,.bool r0),(153,.bool r1)]) [] []
abbrev qy (D0 K0:List AV) (n0 t0 y0:Int):=[I t0,I y0,I n0,AV.fsl false D0,AV.fsl false K0]
abbrev tA (D1 K1:List AV) (n1 t1 y1:Int):=[I t1,I y1,I n1,AV.fsl false D1,AV.fsl false K1]
theorem GQ (o:Ob) (M N L C:AV) (t y n:Int) (D K:List AV) (t0 y0 n0 t1 y1 n1:Int) (D0 K0 D1 K1:List AV) (sh r0 r1:Bool) (Q:AV→Prop):aH prog opts0 40 (AJ (am t0 y0 n0 D0 K0) (am t1 y1 n1 D1 K1) sh r0 r1) 179 [.agg (aa o M N L C),.agg (am t y n D K)] [] 0 (fun v _ _=>Q v)=
 (SC 89 [AV.agg (lG D K n t y),I 4325387,I 1] (.bool sh)∧ac sh (ac (ao (Int.ofNat (ab K)) 2) (aF prog 35 (.fsl false K) (I 0)=some (.fptr (qy D0 K0 n0 t0 y0) 0)∧SC 163 [AV.agg (qy D0 K0 n0 t0 y0),I 4325451,I 5,I 101,I 110] (.bool r0)∧ac r0 (aF prog 35 (.fsl false K) (I 1)=some (.fptr (tA D1 K1 n1 t1 y1) 0)∧SC 153 [AV.agg (tA D1 K1 n1 t1 y1),I 4325452] (.bool r1)∧Q (.bool r1)) (Q (.bool false))) (Q (.bool false))) (Q (.bool false))):=by kernel_rfl
def QG (r0 r1 r2:Bool):List AV→Option AV
 | [_,.int _ (.ofNat n),_,_,_]=>match Nat.beq n 4325527 with
  |true=>some (.bool r0)
  |false=>match Nat.beq n 4325526 with
   |true=>some (.bool r1)
   |false=>some (.bool r2)
 |_=>none
def AK (c0 c1 c2:List AV) (sh r0 r1 r2:Bool):bz:=aB [(1,11,.res (.fptr c0 0)),(1,18,.res (.fptr c1 0)),(1,22,.res (.fptr c0 0)),(1,30,.res (.fptr c2 0))] [] (fY [(89,fun _=>some (.bool sh)),(163,QG r0 r1 r2)]) [] []
theorem GR (o:Ob) (M N L C:AV) (t y n:Int) (D K:List AV) (t0 y0 n0 t1 y1 n1 t2 y2 n2:Int) (D0 K0 D1 K1 D2 K2:List AV) (sh r0 r1 r2:Bool) (Q:AV→Prop):aH prog opts0 40 (AK (am t0 y0 n0 D0 K0) (am t1 y1 n1 D1 K1) (am t2 y2 n2 D2 K2) sh r0 r1 r2) 186 [.agg (aa o M N L C),.agg (am t y n D K)] [] 0 (fun v _ _=>Q v)=
 (SC 89 [AV.agg (lG D K n t y),I 4325387,I 1] (.bool sh)∧ac sh (ac (ao (Int.ofNat (ab K)) 3) (aF prog 35 (.fsl false K) (I 0)=some (.fptr (qy D0 K0 n0 t0 y0) 0)∧SC 163 [AV.agg (qy D0 K0 n0 t0 y0),I 4325527,I 3,I 1,I 1099511627776] (.bool r0)∧ac r0 (aF prog 35 (.fsl false K) (I 1)=some (.fptr (tA D1 K1 n1 t1 y1) 0)∧aF prog 35 (.fsl false K) (I 0)=some (.fptr (qy D0 K0 n0 t0 y0) 0)∧SC 163 [AV.agg (tA D1 K1 n1 t1 y1),I 4325526,I 3,I 0,I n0] (.bool r1)∧ac r1 (aF prog 35 (.fsl false K) (I 2)=some (.fptr [I t2,I y2,I n2,.fsl false D2,.fsl false K2] 0)∧SC 163 [AV.agg [I t2,I y2,I n2,.fsl false D2,.fsl false K2],I 4325528,I 5,I 1,I 2] (.bool r2)∧Q (.bool r2)) (Q (.bool false))) (Q (.bool false))) (Q (.bool false))) (Q (.bool false))):=by kernel_rfl
def AL (c0 c1:List AV) (r:Bool):bz:=aB [(1,10,.res (.fptr c1 0)),(1,15,.res (.fptr c0 0))] [] (bP [(186,.bool r)]) [] []
theorem GS (o:Ob) (M N L C:AV) (t y n:Int) (D K:List AV) (t0 y0 n0 t1 y1 n1:Int) (D0 K0 D1 K1:List AV) (r:Bool) (Q:AV→Prop):aH prog opts0 40 (AL (am t0 y0 n0 D0 K0) (am t1 y1 n1 D1 K1) r) 185 [.agg (aa o M N L C),.agg (am t y n D K)] [] 0 (fun v _ _=>Q v)=
 (SC 186 [AV.agg (aa o M N L C),.agg (lG D K n t y)] (.bool r)∧ac r (ac o.23 (Q (.bool true)) (aF prog 35 (.fsl false K) (I 1)=some (.fptr (tA D1 K1 n1 t1 y1) 0)∧aF prog 35 (.fsl false K) (I 0)=some (.fptr (qy D0 K0 n0 t0 y0) 0)∧Q (.bool (ao n1 n0)))) (Q (.bool false))):=by kernel_rfl
theorem QH (o:Ob) (M N L C:AV) (Q:AV→Prop):aH prog opts0 40 bC 158 [.agg (aa o M N L C)] [] 0 (fun v _ _=>Q v)=
 (Q (.bool true)):=by kernel_rfl
theorem QI (o:Ob) (M N L C:AV) (Q:AV→Prop):aH prog opts0 40 bC 125 [.agg (aa o M N L C)] [] 0 (fun v _ _=>Q v)=
 (Q (.bool (ao o.7 1))):=by kernel_rfl
theorem QJ (o:Ob) (M N L C:AV) (Q:AV→Prop):aH prog opts0 40 bC 137 [.agg (aa o M N L C)] [] 0 (fun v _ _=>Q v)=
 (ac (ao o.7 1) (Q (.bool true)) (Q (.bool (ao o.7 2)))):=by kernel_rfl
theorem QK (o:Ob) (M N L C:AV) (Q:AV→Prop):aH prog opts0 40 bC 189 [.agg (aa o M N L C)] [] 0 (fun v _ _=>Q v)=
 (Q (.bool (ao o.25 o.24))):=by kernel_rfl
theorem QL (o:Ob) (M L C:AV) (es:List AV) (Q:AV→Prop):aH prog opts0 40 bC 165 [.agg (aa o M (.fsl false es) L C)] [] 0 (fun v _ _=>Q v)=
 (Q (.bool (ay (Int.ofNat (ab es)) 6))):=by kernel_rfl
theorem QM (o:Ob) (M N C:AV) (es:List AV) (Q:AV→Prop):aH prog opts0 40 bC 177 [.agg (aa o M N (.fsl false es) C)] [] 0 (fun v _ _=>Q v)=
 (Q (.bool (ay (Int.ofNat (ab es)) 8))):=by kernel_rfl
theorem QN (o:Ob) (M N L:AV) (es:List AV) (Q:AV→Prop):aH prog opts0 40 bC 149 [.agg (aa o M N L (.fsl false es))] [] 0 (fun v _ _=>Q v)=
 (Q (.bool (ay (Int.ofNat (ab es)) 6))):=by kernel_rfl
def mX:Kd→Nat
 | .uid=>127
 | .nam=>166
 | .typ=>130
 | .sta=>134
 | .dat _=>172
 | .why=>138
 | .lnk=>178
 | .lim=>184
 | .cus _=>150
 |_=>161
def mY:Kd→List AV
 | .dat k=>[.fptr [nI k] 0]
 | .cus s=>[.fptr [.str s] 0]
 | .alg=>[.fptr [fh .alg] 0,.fptr [I 1] 0,.fptr [I 5] 0]
 | .len=>[.fptr [fh .len] 0,.fptr [I 1] 0,.fptr [I 2] 0]
 | .mask=>[.fptr [fh .mask] 0,.fptr [I 0] 0,.fptr [I 2] 0]
 |_=>[]
theorem AM (k:Kd):g7 k=cM (mX k) (mY k):=by cases k<;>rfl
def tB:Kd→Nat
 | .nam=>167
 | .dat _=>173
 | .lnk=>179
 | .lim=>185
 | .cus _=>152
 |_=>162
def tC:Kd→List AV
 | .alg=>[.fptr [I 5] 0,.fptr [I 1] 0,.fptr [I 100] 0]
 | .len=>[.fptr [I 2] 0,.fptr [I 1] 0,.fptr [I 100000] 0]
 | .mask=>[.fptr [I 2] 0,.fptr [I 0] 0,.fptr [I 1048575] 0]
 |_=>[]
def qz:Kd→Bool
 | .uid| .typ| .sta| .why=>false
 |_=>true
theorem GT {k:Kd} (h:qz k=true):fP k=cM (tB k) (tC k):=by cases k<;>first|rfl|cases h
mutual
def cY:It→Prop
 | .mk _ _ _ d ks=>d∈dG∧tD ks
def tD:List It→Prop
 |[]=>True
 |k::r=>cY k∧tD r
end
theorem lH {x:It} (h:cY x):gg x∈dG:=by cases x;exact h.1
theorem AN (x:It) (tag:Int) (h:gg x∈dG):SC 153 [aX x,I tag] (.bool (jj x tag)):=by
 have hs:=vG x tag 7;have ht:=Py _ h;simp only[jj];revert hs ht;generalize dy x tag 7=sh;intro hs ht;obtain ⟨t,y,n,d,ks⟩:=x;refine bQ (A:=aB [] [] (bP [(89,.bool sh),(147,.bool (qo d))]) [] []) base0 ar (aG (LsOk.no rfl)) (by simp[ae,cG,ag]) rfl ?_;rw[bJ] at hs⊢;rw[QA];simp only[gg] at ht;refine And.intro hs (ai (fun e=>aD (by simp) ⟨by rw[oN];exact ht, ?_⟩) (fun e=> ?_))
 all_goals simp[e,gg]
theorem qA (x:It) (tag kind lo hi:Int):SC 163 [aX x,I tag,I kind,I lo,I hi] (.bool (eN x tag kind lo hi)):=by
 have hs:=vG x tag kind;simp only[eN];revert hs;generalize dy x tag kind=sh;intro hs;obtain ⟨t,y,n,d,ks⟩:=x;refine bQ (A:=aB [] [] (bP [(89,.bool sh)]) [] []) base0 ar (aG (LsOk.no rfl)) (by simp[ae,cG,ag]) rfl ?_;rw[bJ] at hs⊢;rw[QB];refine And.intro hs (ai (fun e=>ai (fun e2=> ?_) (fun e2=> ?_)) (fun e=> ?_))
 all_goals simp_all [lF,ed]
theorem lI {l m:List AV} (h:ae l=true) (h':ae m=true):ae [.agg l,.agg m]=true:=by simp[ae,ag,h,h']
theorem v7 (x:It):∃t y n D K,aX x= .agg (am t y n D K):=by obtain ⟨t,y,n,d,ks⟩:=x;exact ⟨t,y,n,_,_,rfl⟩
theorem QO (o:Ob) (v:It) (h:gg v∈dG):SC 167 [au o,aX v] (.bool (jj v 4325387)):=by
 have hs:=AN v 4325387 h;revert hs;generalize jj v 4325387=r;intro hs;have hc:=cG v;obtain ⟨t,y,n,D,K,e⟩:=v7 v;rw[e] at hs hc⊢;refine bQ (A:=aB [] [] (bP [(153,.bool r)]) [] []) base0 ar (aG (LsOk.no rfl)) (lI (bX o) hc) rfl ?_;simp only[au,ax];rw[QC];exact ⟨hs,rfl⟩
theorem QP (o:Ob) (v:It) (h:gg v∈dG):SC 152 [au o,aX v] (.bool (jj v 4325387)):=by
 have hs:=AN v 4325387 h;revert hs;generalize jj v 4325387=r;intro hs;have hc:=cG v;obtain ⟨t,y,n,D,K,e⟩:=v7 v;rw[e] at hs hc⊢;refine bQ (A:=aB [] [] (bP [(153,.bool r)]) [] []) base0 ar (aG (LsOk.no rfl)) (lI (bX o) hc) rfl ?_;simp only[au,ax];rw[QD];exact ⟨hs,rfl⟩
theorem QQ (o:Ob) (v:It):SC 173 [au o,aX v] (.bool (eN v 4325387 9 (-1099511627776) 1099511627776)):=by
 have hs:=qA v 4325387 9 (-1099511627776) 1099511627776;revert hs;generalize eN v 4325387 9 (-1099511627776) 1099511627776=r;intro hs;have hc:=cG v;obtain ⟨t,y,n,D,K,e⟩:=v7 v;rw[e] at hs hc⊢;refine bQ (A:=aB [] [] (bP [(163,.bool r)]) [] []) base0 ar (aG (LsOk.no rfl)) (lI (bX o) hc) rfl ?_;simp only[au,ax];rw[QE];exact ⟨hs,rfl⟩
theorem AO (o:Ob) (v:It) (a b c:Int):SC 162 [au o,aX v,.fptr [I a] 0,.fptr [I b] 0,.fptr [I c] 0] (.bool (eN v 4325387 a b c)):=by
 have hs:=qA v 4325387 a b c;revert hs;generalize eN v 4325387 a b c=r;intro hs;have hc:=cG v;obtain ⟨t,y,n,D,K,e⟩:=v7 v;rw[e] at hs hc⊢;refine bQ (A:=aB [] [] (bP [(163,.bool r)]) [] []) base0 ar (aG (LsOk.no rfl)) (by have:=bX o;simp only[ag] at hc;simp[ae,ag,au,this,hc]) rfl ?_;simp only[au,ax];rw[QF];exact ⟨hs,rfl⟩
theorem QR (o:Ob) (v:It) (h:cY v):SC 179 [au o,aX v] (.bool (dy v 4325387 1&&jk (cC v))):=by
 have hs:=vG v 4325387 1;revert hs;generalize dy v 4325387 1=sh;intro hs;have hc:=cG v;obtain ⟨t,y,n,d,ks⟩:=v;rw[bJ] at hs hc⊢;have key:∀ (a b:It),ks=[a,b]→SC 179 [au o,.agg (am t y n (ak d) (ap ks))] (.bool (sh&&jk (cC (.mk t y n d ks)))):=fun a b e=>by
  subst e;have h0:=qA a 4325451 5 101 110;have h1:=AN b 4325452 (lH h.2.2.1);simp only[cC,jk];revert h0 h1;generalize eN a 4325451 5 101 110=r0;generalize jj b 4325452=r1;intro h0 h1;obtain ⟨t0,y0,n0,d0,k0⟩:=a;obtain ⟨t1,y1,n1,d1,k1⟩:=b;refine bQ (A:=AJ (am t0 y0 n0 (ak d0) (ap k0)) (am t1 y1 n1 (ak d1) (ap k1)) sh r0 r1) base0 ar (aG (LsOk.no rfl)) (lI (bX o) hc) rfl ?_;simp only[au,ax];rw[GQ];rw[bJ] at h0 h1;refine And.intro hs (ai (fun e=>ai (fun e2=>And.intro (cQ (i:=0) rfl) (And.intro h0 (ai (fun e3=>And.intro (cQ (i:=1) rfl) (And.intro h1 ?_)) (fun e3=> ?_)))) (fun e2=> ?_)) (fun e=> ?_))
  ·simp[e,e3]
  ·simp[e,e3]
  ·exact absurd e2 (by simp[ap,ab,beqInt_iff])
  ·simp[e]
 have other:ab (ap ks)≠2→SC 179 [au o,.agg (am t y n (ak d) (ap ks))] (.bool false):=fun hne=>by
  refine bQ (A:=AJ (am 0 0 0 [] []) (am 0 0 0 [] []) sh true true) base0 ar (aG (LsOk.no rfl)) (lI (bX o) hc) rfl ?_;simp only[au,ax];rw[GQ];refine And.intro hs (ai (fun _=>ai (fun e2=> ?_) (fun _=>rfl)) (fun _=>rfl));rw[beqInt_iff] at e2;exact absurd (Int.ofNat.inj e2) hne
 match ks,key,other with
 |[a,b],key,_=>exact key a b rfl
 |[],_,other=>simpa [cC,jk] using other (by simp[ap,ab])
 |[_],_,other=>simpa [cC,jk] using other (by simp[ap,ab])
 |_::_::_::_,_,other=>simpa [cC,jk] using other (by simp[ap,ab])
theorem QS (o:Ob) (v:It):SC 186 [au o,aX v] (.bool (dy v 4325387 1&&ef (cC v))):=by
 have hs:=vG v 4325387 1;revert hs;generalize dy v 4325387 1=sh;intro hs;have hc:=cG v;obtain ⟨t,y,n,d,ks⟩:=v;rw[bJ] at hs hc⊢;have key:∀ (a b c:It),ks=[a,b,c]→SC 186 [au o,.agg (am t y n (ak d) (ap ks))] (.bool (sh&&ef (cC (.mk t y n d ks)))):=fun a b c e=>by
  subst e;have h0:=qA a 4325527 3 1 1099511627776;have h1:=qA b 4325526 3 0 (ed a);have h2:=qA c 4325528 5 1 2;simp only[cC,ef];revert h0 h1 h2;generalize eN a 4325527 3 1 1099511627776=r0;generalize eN b 4325526 3 0 (ed a)=r1;generalize eN c 4325528 5 1 2=r2;intro h0 h1 h2;obtain ⟨t0,y0,n0,d0,k0⟩:=a;obtain ⟨t1,y1,n1,d1,k1⟩:=b;obtain ⟨t2,y2,n2,d2,k2⟩:=c;refine bQ (A:=AK (am t0 y0 n0 (ak d0) (ap k0)) (am t1 y1 n1 (ak d1) (ap k1)) (am t2 y2 n2 (ak d2) (ap k2)) sh r0 r1 r2) base0 ar (aG (LsOk.no rfl)) (lI (bX o) hc) rfl ?_;simp only[au,ax];rw[GR];rw[bJ] at h0 h1 h2;simp only[ed] at h1;refine And.intro hs (ai (fun e=>ai (fun e2=>And.intro (cQ (i:=0) rfl) (And.intro h0 (ai (fun e3=>And.intro (cQ (i:=1) rfl) (And.intro (cQ (i:=0) rfl) (And.intro h1 (ai (fun e4=>And.intro (cQ (i:=2) rfl) (And.intro h2 ?_)) (fun e4=> ?_))))) (fun e3=> ?_)))) (fun e2=> ?_)) (fun e=> ?_))
  ·simp[e,e3,e4]
  ·simp[e,e3,e4]
  ·simp[e,e3]
  ·exact absurd e2 (by simp[ap,ab,beqInt_iff])
  ·simp[e]
 have other:ab (ap ks)≠3→SC 186 [au o,.agg (am t y n (ak d) (ap ks))] (.bool false):=fun hne=>by
  refine bQ (A:=AK (am 0 0 0 [] []) (am 0 0 0 [] []) (am 0 0 0 [] []) sh true true true) base0 ar (aG (LsOk.no rfl)) (lI (bX o) hc) rfl ?_;simp only[au,ax];rw[GR];refine And.intro hs (ai (fun _=>ai (fun e2=> ?_) (fun _=>rfl)) (fun _=>rfl));rw[beqInt_iff] at e2;exact absurd (Int.ofNat.inj e2) hne
 match ks,key,other with
 |[a,b,c],key,_=>exact key a b c rfl
 |[],_,other=>simpa [cC,ef] using other (by simp[ap,ab])
 |[_],_,other=>simpa [cC,ef] using other (by simp[ap,ab])
 |[_,_],_,other=>simpa [cC,ef] using other (by simp[ap,ab])
 |_::_::_::_::_,_,other=>simpa [cC,ef] using other (by simp[ap,ab])
theorem QT (o:Ob) (v:It):SC 185 [au o,aX v] (.bool (dy v 4325387 1&&(ef (cC v)&&(o.lh||tz (cC v))))):=by
  have hs:=QS o v;have hc:=cG v;obtain ⟨t,y,n,d,ks⟩:=v;simp only[cC] at hs⊢;rw[bJ] at hs hc⊢;rw[←Bool.and_assoc]
  match ks with
  | [⟨t0,y0,n0,d0,k0⟩,⟨t1,y1,n1,d1,k1⟩,⟨t2,y2,n2,d2,k2⟩]=>
    revert hs;generalize (dy (.mk t y n d [⟨t0,y0,n0,d0,k0⟩,⟨t1,y1,n1,d1,k1⟩,⟨t2,y2,n2,d2,k2⟩]) 4325387 1&&ef [⟨t0,y0,n0,d0,k0⟩,⟨t1,y1,n1,d1,k1⟩,⟨t2,y2,n2,d2,k2⟩])=r;intro hs;refine bQ (A:=AL (am t0 y0 n0 (ak d0) (ap k0)) (am t1 y1 n1 (ak d1) (ap k1)) r) base0 ar (aG (LsOk.no rfl)) (lI (bX o) hc) rfl ?_;simp only[au,ax] at hs⊢;rw[GS];refine And.intro hs (ai (fun e=>ai (fun e2=> ?_) (fun e2=>And.intro (cQ (i:=1) rfl) (And.intro (cQ (i:=0) rfl) ?_))) (fun e=> ?_))
    · simp[e,e2]
    · simp[e,e2,tz,ed]
    · simp[e]
  |[]=>simpa [ef] using none_sem hs hc
  |[_]=>simpa [ef] using none_sem hs hc
  |[_,_]=>simpa [ef] using none_sem hs hc
  |_::_::_::_::_=>simpa [ef] using none_sem hs hc
 where
  none_sem {o:Ob} {t y n:Int} {D K:List AV} {r:Bool} (hs:SC 186 [au o,.agg (am t y n D K)] (.bool (r&&false))) (hc:ag (.agg (am t y n D K))=true):SC 185 [au o,.agg (am t y n D K)] (.bool false):=by
   rw[Bool.and_false] at hs;refine bQ (A:=AL (am 0 0 0 [] []) (am 0 0 0 [] []) false) base0 ar (aG (LsOk.no rfl)) (lI (bX o) hc) rfl ?_;simp only[au,ax] at hs⊢;rw[GS];exact And.intro hs rfl
theorem GU {k:Kd} (hk:qz k=true) (o:Ob) (v:It) (h:cY v):SC (tB k) (au o::aX v::tC k) (.bool (eA o v k)):=by
 cases k with
 |nam=>exact QO o v (lH h)
 |cus s=>exact QP o v (lH h)
 |dat k=>exact QQ o v
 |alg=>exact AO o v 5 1 100
 |len=>exact AO o v 2 1 100000
 |mask=>exact AO o v 2 0 1048575
 |lnk=>exact QR o v h
 |lim=>exact QT o v
 |_=>cases hk
end
set_option maxRecDepth 20000
noncomputable section
def mZ (O P:List AV) (i:Nat):View:=⟨[(4,.nilsl),(9,.fsl false P),(10,I (.ofNat (ab P))),(11,I (.ofNat i))],[(2,.ptr 0 0)],[(0,.cells O,.whole)],2,27⟩
def hY (O P:List AV) (i:Nat) (es:List AV):View:=⟨[(9,.fsl false P),(10,I (.ofNat (ab P))),(11,I (.ofNat i))],[(2,.ptr 0 0),(4,.rsl true 1 0 i 5)],[(0,.cells O,.whole),(1,.cells es,.whole)],2,27⟩
def qB (p:Nat) (n t:List UInt8):bz:=aB [(4,0,.res (.fptr [nI p] 0)),(5,4,.res (.fptr [.str n,.str t] 0))] [] aR [92] []
@[simp] abbrev v8 (P:List AV):=(I (Int.ofNat (ab P))=I (Int.ofNat (ab P))∧ag (I (Int.ofNat (ab P)))=true)
@[simp] abbrev wd (P:List AV):=(AV.fsl false P=AV.fsl false P∧ag (AV.fsl false P)=true)
@[simp] abbrev we (C L M N:AV) (o:Ob):=((aa o M N L C)=(aa o M N L C)∧ae (aa o M N L C)=true)
@[simp] abbrev wg:=(some 0=some 0∧0=0)
@[simp] abbrev AP (C L M N:AV) (P:List AV) (o:Ob):=(((AV.nilsl=AV.nilsl∧true=true)∧(wd P)∧(v8 P)∧(I 0=I 0∧true=true)∧True)∧(wg∧True)∧(we C L M N o)∧True)
abbrev oV (t:List UInt8):=[AV.agg [I 4325387,I 7,I 0,AV.fsl false (ak t),AV.nilsl]]
theorem GV (o:Ob) (M N L C:AV) (P:List AV) (p:Nat) (n t:List UInt8) (es:List AV) (Nx:Prop) (Q:AExit→St→Prop):aP prog opts0 40 (qB p n t) (aJ prog 150 4) (mZ (aa o M N L C) P 0).st (cb 0 [(0,0),(1,15)] (hY (aa o M N L C) P 1 es) Nx [(0,0)] (mZ (aa o M N L C) P 0) Q)=
 (ac (ay 0 (Int.ofNat (ab P))) (aF prog 190 (.fsl false P) (I 0)=some (.fptr [I (Int.ofNat p)] 0)∧aF prog 29 C (I (Int.ofNat p))=some (.fptr [AV.str n,.str t] 0)∧(((wd P)∧(v8 P)∧(I 1=I 1∧true=true)∧True)∧(wg∧(true=true∧some 15=some 15∧0=0∧1=ab (oV t)∧5=5)∧True)∧(we C L M N o)∧(flat (oV t)=es∧ae es=true)∧True)∧Nx) ((AP C L M N P o)∧Q (AExit.exit 0) (mZ (aa o M N L C) P 0).st)):=by kernel_rfl
theorem GW (o:Ob) (M N L C:AV) (P:List AV) (p i j:Nat) (n t:List UInt8) (es es':List AV) (Nx:Prop) (Q:AExit→St→Prop):aP prog opts0 40 (qB p n t) (aJ prog 150 4) (hY (aa o M N L C) P i es).st (cb 0 [(0,0),(1,15)] (hY (aa o M N L C) P j es') Nx [(0,0),(1,1)] (hY (aa o M N L C) P i es) Q)=
 (ac (ay (Int.ofNat i) (Int.ofNat (ab P))) (aF prog 190 (.fsl false P) (I (Int.ofNat i))=some (.fptr [I (Int.ofNat p)] 0)∧aF prog 29 C (I (Int.ofNat p))=some (.fptr [AV.str n,.str t] 0)∧aw (a7 5 (oV t)&&(((i+ab (oV t))*72).ble 140737488355328&&(bq (flat (oV t))&&true))) (aw ((ab es).beq (i*5)) ((((wd P)∧(v8 P)∧(I (aj IntKind.i64 (Int.ofNat i+1))=I (Int.ofNat j)∧ag (I (Int.ofNat j))=true)∧True)∧(wg∧(true=true∧some 15=some 15∧0=0∧j=i+ab (oV t)∧5=5)∧True)∧(we C L M N o)∧(es++flat (oV t)=es'∧ae es'=true)∧True)∧Nx))) ((((wd P)∧(v8 P)∧(I (Int.ofNat i)=I (Int.ofNat i)∧ag (I (Int.ofNat i))=true)∧True)∧(wg∧(true=true∧some 1=some 1∧0=0∧i=i∧5=5)∧True)∧(we C L M N o)∧(es=es∧ae es=true)∧True)∧Q (AExit.exit 0) (hY (aa o M N L C) P i es).st)):=by kernel_rfl
def wi (O P:List AV) (F:View):bV:=fun st Q=>dr 0 [(0,0)] (mZ O P 0) st∧Q (.exit 0) F.st
theorem QU (o:Ob) (M N L C:AV) (s:List UInt8) (P:List AV) (Q:AV→ah→Prop):aH prog opts0 40 (aB [] [(4,wi (aa o M N L C) P (mZ (aa o M N L C) P 0))] (bP [(151,.fsl false P)]) [] []) 150 [.agg (aa o M N L C),.fptr [.str s] 0] [] 0 (fun v H _=>Q v H)=
 (SC 151 [AV.agg (aa o M N L C),.str s] (.fsl false P)∧(AP C L M N P o)∧Q AV.nilsl [(0,some (Blk.cells (aa o M N L C)))]):=by kernel_rfl
theorem QV (o:Ob) (M N L C:AV) (s:List UInt8) (P:List AV) (es:List AV) (Q:AV→ah→Prop):aH prog opts0 40 (aB [] [(4,wi (aa o M N L C) P (hY (aa o M N L C) P (ab P) es))] (bP [(151,.fsl false P)]) [] []) 150 [.agg (aa o M N L C),.fptr [.str s] 0] [] 0 (fun v H _=>Q v H)=
 (SC 151 [AV.agg (aa o M N L C),.str s] (.fsl false P)∧(AP C L M N P o)∧Q (.rsl true 1 0 (ab P) 5) [(0,some (Blk.cells (aa o M N L C))),(1,some (Blk.cells es))]):=by kernel_rfl
theorem QW:∀p:List Nat,∀e∈p.map nI,eH 1 e:=fun p e he=>by
 obtain ⟨x,_,rfl⟩:=List.mem_map.1 he;exact rflTwoQ
theorem GX (o:Ob) {M N L:AV} (s:List UInt8) (hM:ag M=true) (hN:ag N=true) (hL:ag L=true) (hb:o.cust.length≤cv):SC 151 [.agg (aa o M N L (bD o)),.str s] (.fsl false ((bT s o.cust 0).map nI)):=by
 have h0:=GG o s hM hN hL hb;revert h0;generalize bT s o.cust 0=p;intro h0;have hcl:ae [.agg (aa o M N L (bD o)),.str s]=true:=by simp only[ae,ag,c9 o hM hN hL (fg o),Bool.and_self]
 refine Nh base0.glob hcl h0 ?_;cases p with
 |nil=>exact ⟨.nilsl,⟨1,rfl⟩,rfl,.nil⟩
 |cons a r=>exact ⟨.fsl false ((a::r).map nI),Frz.out (Frz.row (es:=(a::r).map nI) rfl rfl (GC _).symm (by simp) (QW _) (lA _)),jO (lA _),.refl _⟩
def eB (l:List Cu) (p:Nat):List UInt8:=match l[p]? with
 |some c=>c.text
 |none=>[]
theorem AQ (s:List UInt8):∀ (l pre:List Cu),(bT s l pre.length).map (eB (pre++l))=(l.filter fun c=>aI c.name s).map Cu.text
 |[],_=>rfl
 | c::r,pre=>by
  have ih:=AQ s r (pre++[c]);simp only[List.length_append,lConQ,List.length_nil,Nat.zero_add,List.append_assoc,List.cons_append,List.nil_append] at ih;simp only[bT];cases hc:aI c.name s with
  |false=>simp only[List.filter_cons,hc,Bool.false_eq_true,if_false,ih]
  |true=>
   have:eB (pre++c::r) pre.length=c.text:=by simp[eB]
   simp only[List.filter_cons,hc,if_true,List.map_cons,ih,this]
theorem QX (l:List (List UInt8)):(flat (l.map iv)).length=l.length*5:=by
 induction l with
 |nil=>rfl
 |cons x r ih=>simp only[List.map_cons,flat,List.length_append,ih,iv,AV.cells,lConQ,List.length_nil];omega
theorem GY (l:List (List UInt8)):ae (flat (l.map iv))=true:=Ao (tu l) fun e he=>by
 obtain ⟨x,_,rfl⟩:=List.mem_map.1 he;simp[iv,AV.cells,ae,ag]
theorem AU {f:Bool} {l:List Nat} {i p:Nat} (hx:l[i]? =some p):aF prog 190 (.fsl f (l.map nI)) (.int .i64 (.ofNat i))=some (.fptr [nI p] 0):=
 gC (v:=nI p) (e:=3) (sz:=1) (by kernel_rfl) (by kernel_rfl) (by rw[List.getElem?_map,hx];rfl) rfl
def gi (T:List (List UInt8)) (i:Nat):List AV:=flat ((T.take i).map iv)
theorem GZ {T:List (List UInt8)} {i:Nat} {x:List UInt8} (h:T[i]? =some x):gi T i++flat [iv x]=gi T (i+1):=by
 rw[gi,gi,iR h,List.map_append,ea];rfl
theorem QY {T:List (List UInt8)} {i:Nat} (h:i≤T.length):(gi T i).length=i*5:=by rw[gi,QX,List.length_take,Nat.min_eq_left h]
theorem QZ {o:Ob} {M N L:AV} {ps:List Nat} {Q:AExit→St→Prop} (hM:ag M=true) (hN:ag N=true) (hL:ag L=true) (hps:∀p∈ps,p<o.cust.length) (hb:ps.length≤cv)
  (hq:Q (.exit 0) (hY (aa o M N L (bD o)) (ps.map nI) ps.length (gi (ps.map (eB o.cust)) ps.length)).st):
  ∀i,i≤ps.length→(0<i→ALp prog opts0.glob 0 (aJ prog 150 4) (hY (aa o M N L (bD o)) (ps.map nI) i (gi (ps.map (eB o.cust)) i)).st Q):=by
 have hO:=c9 o hM hN hL (fg o);have hP:=lA ps;have hlen:ab (ps.map nI)=ps.length:=by rw[aM,List.length_map]
 have hb:ps.length≤1099511627776:=hb;have hE:∀i,ae (gi (ps.map (eB o.cust)) i)=true:=fun i=>GY _;refine tm _ (fun _=> ?_) (fun i hi ih h0=> ?_)
 ·refine ALp.round (A:=qB 0 [] []) (V2:=hY (aa o M N L (bD o)) (ps.map nI) 0 []) (F:=hY (aa o M N L (bD o)) (ps.map nI) ps.length (gi (ps.map (eB o.cust)) ps.length)) (lk:=[(0,0),(1,15)]) (lk':=[(0,0),(1,1)]) base0 ar (LsOk.no rfl) .refl ?_;rw[GW];refine ai (fun h=> ?_) (fun _=>⟨⟨⟨⟨rfl,jO hP⟩,rflTwoQ,rflTwoQ,ad⟩,⟨rflTwoQ,⟨rfl,rfl,rfl,rfl,rfl⟩,ad⟩,⟨rfl,hO⟩,⟨rfl,hE _⟩,ad⟩,hq⟩);have h:=ltInt_iff.1 h;simp only[hlen,bh] at h;omega
 ·have g1:=List.getElem?_eq_getElem hi;have hp:=hps _ (List.getElem_mem hi);have hT:(ps.map (eB o.cust))[i]? =some (eB o.cust ps[i]):=by rw[List.getElem?_map,g1];rfl
  have hs:=GZ hT;revert g1 hp hs;generalize ps[i]=p;intro g1 hp hs;have g2:=List.getElem?_eq_getElem hp;have htx:eB o.cust p=(o.cust[p]).text:=by simp[eB,hp]
  rw[htx] at hs;revert g2 hs;generalize o.cust[p]=c;intro hs g2;have ih:=ih (by omega);refine ALp.round (A:=qB p c.name c.text) (V2:=hY (aa o M N L (bD o)) (ps.map nI) (i+1) (gi (ps.map (eB o.cust)) (i+1))) (F:=hY (aa o M N L (bD o)) (ps.map nI) i (gi (ps.map (eB o.cust)) i)) (lk:=[(0,0),(1,15)]) (lk':=[(0,0),(1,1)]) base0 ar (LsOk.no rfl) .refl ?_;rw[GW];refine ai (fun _=>⟨AU g1,qr g2,aD ?_ (aD ?_ ⟨⟨⟨⟨rfl,jO hP⟩,rflTwoQ,⟨?_,rfl⟩,ad⟩,⟨rflTwoQ,⟨rfl,rfl,rfl,rfl,rfl⟩,ad⟩,⟨rfl,hO⟩,⟨hs,hE _⟩,ad⟩,ih⟩)⟩) (fun h=> ?_)
  ·have hi2:(i+1)*72≤140737488355328:=by omega
   simp only[Bool.and_eq_true,Nat.ble_eq];exact ⟨rfl,hi2,rfl,ad⟩
  ·rw[beq_iff,aM,QY (by rw[List.length_map];omega)]
  ·rw[eI (by simp;omega) (by simp;omega)];rfl
  ·have h:=ltInt_false.1 h;simp only[hlen,bh] at h;omega
theorem G0:bW (dI prog 150) 4=[aJ prog 150 4]:=by kernel_rfl
theorem Q0 (o:Ob) (s:List UInt8) (hb:o.cust.length≤cv):SC 150 [au o,.fptr [.str s] 0] (.fsl false (ap (aA o (.cus s)))):=by
 have hpl:=GX o s (fA o) (eJ o) (eK o) hb;have htx:=AQ s o.cust [];have hlt:=tn s o.cust 0;have hln:=vP s o.cust 0;simp only[List.length_nil,List.nil_append] at htx;have hget:ap (aA o (.cus s))=ap (((o.cust.filter fun c=>aI c.name s).map Cu.text).map gG):=by rw[List.map_map];rfl
 rw[hget,←htx];clear hget htx;revert hpl hlt hln;generalize bT s o.cust 0=ps;intro hpl hlt hln;have hps:∀p∈ps,p<o.cust.length:=fun p hp=>by have:=hlt p hp;omega
 have hO:=bX o;have hcl:ae [au o,.fptr [.str s] 0]=true:=by simp only[ae,au,ag,hO,Bool.and_self]
 cases ps with
 | nil=>
  refine dg (A:=aB [] [(4,wi (ax o) [] (mZ (ax o) [] 0))] (bP [(151,.fsl false [])]) [] []) base0 ar
   (aG (LsOk.at1 rfl G0 fun st Q hs=> .seen base0.glob hs.1 ?_)) hcl ?_
  ·refine ALp.round (A:=qB 0 [] []) (V2:=hY (ax o) [] 1 []) (F:=mZ (ax o) [] 0) (lk:=[(0,0),(1,15)]) (lk':=[(0,0)]) base0 ar (LsOk.no rfl) .refl ?_;simp only[ax];rw[GV];refine ai (fun h=>by cases h) (fun _=>⟨⟨⟨rflTwoQ,rflTwoQ,rflTwoQ,rflTwoQ,ad⟩,⟨rflTwoQ,ad⟩,⟨rfl,hO⟩,ad⟩,hs.2⟩)
  ·simp only[au,ax];rw[QU];exact ⟨hpl,⟨⟨rflTwoQ,rflTwoQ,rflTwoQ,rflTwoQ,ad⟩,⟨rflTwoQ,ad⟩,⟨rfl,hO⟩,ad⟩,.nilsl,⟨1,rfl⟩,rfl,.nil⟩
 | cons p r=>
  have hlen:ab ((p::r).map nI)=(p::r).length:=by rw[aM,List.length_map]
  have hP:=lA (p::r);have hb':(p::r).length≤cv:=Nat.le_trans hln hb;refine dg (A:=aB [] [(4,wi (ax o) ((p::r).map nI) (hY (ax o) ((p::r).map nI) (ab ((p::r).map nI)) (gi ((p::r).map (eB o.cust)) (p::r).length)))] (bP [(151,.fsl false ((p::r).map nI))]) [] []) base0 ar
   (aG (LsOk.at1 rfl G0 fun st Q hs=> .seen base0.glob hs.1 ?_)) hcl ?_
  ·have hp:=hps p (by simp);have g2:=List.getElem?_eq_getElem hp;have htx:eB o.cust p=(o.cust[p]).text:=by simp[eB,hp]
   have hT:((p::r).map (eB o.cust))[0]? =some (eB o.cust p):=rfl;have hs1:=GZ hT;rw[htx] at hs1;revert g2 hs1;generalize o.cust[p]=c;intro g2 hs1;have hs1:flat [iv c.text]=gi ((p::r).map (eB o.cust)) 1:=hs1;have hq:=hs.2;rw[hlen] at hq;refine ALp.round (A:=qB p c.name c.text) (V2:=hY (ax o) ((p::r).map nI) 1 (gi ((p::r).map (eB o.cust)) 1)) (F:=mZ (ax o) ((p::r).map nI) 0) (lk:=[(0,0),(1,15)]) (lk':=[(0,0)]) base0 ar (LsOk.no rfl) .refl ?_;have hnext:=QZ (fA o) (eJ o) (eK o) hps hb' hq 1 (by simp) (by omega);simp only[ax];rw[GV];refine ai (fun _=>⟨AU (i:=0) rfl,qr g2,⟨⟨⟨rfl,jO hP⟩,rflTwoQ,rflTwoQ,ad⟩,⟨rflTwoQ,⟨rfl,rfl,rfl,rfl,rfl⟩,ad⟩,⟨rfl,hO⟩,⟨hs1,GY _⟩,ad⟩,hnext⟩) (fun h=> ?_);have h:=ltInt_false.1 h;simp only[hlen,bh,lConQ] at h;omega
  ·simp only[au,ax];rw[QV];refine ⟨hpl,⟨⟨rflTwoQ,⟨rfl,jO hP⟩,rflTwoQ,rflTwoQ,ad⟩,⟨rflTwoQ,ad⟩,⟨rfl,hO⟩,ad⟩,.fsl false (((p::r).map (eB o.cust)).map iv),Frz.out (Frz.row (c:=gi ((p::r).map (eB o.cust)) (p::r).length) (es:=((p::r).map (eB o.cust)).map iv) rfl rfl ?_ ?_ (GN _) (tu _)),jO (tu _),GO _⟩
   ·rw[gi,List.take_of_length_le (by simp)]
   ·rw[hlen,List.length_map,List.length_map]
end
noncomputable section
abbrev jl (D K:List AV) (n t y:Int):=(15,some (Blk.cells [I t,I y,I n,AV.fsl false D,AV.fsl false K]))
theorem Q1 (o:Ob) (M N L C:AV) (i t y n:Int) (D K R:List AV) (Q:AV→ah→Nat→Prop):aH prog opts0 40 (aB [] [] (bP [(169,.fsl false R)]) [] []) 168 [.ptr 1 0,I i,.agg (am t y n D K)] [(1,some (.cells (aa o M N L C)))] 15 Q=
 (aw (dV D).isSome (SC 169 [N,I i,.str (iN D)] (.fsl false R)∧Q (.tuple []) [(jl D K n t y),(1,some (Blk.cells (aa o M (.fsl false R) L C)))] 29)):=by kernel_rfl
theorem Q2 (o:Ob) (M N L C:AV) (i t y n:Int) (D K:List AV) (Q:AV→ah→Nat→Prop):aH prog opts0 40 bC 174 [.ptr 1 0,I i,.agg (am t y n D K),.fptr [I 1] 0] [(1,some (.cells (aa o M N L C)))] 15 Q=
 (Q (.tuple []) [(jl D K n t y),(1,some (Blk.cells (aa {o with d1:=⟨true,n⟩} M N L C)))] 25):=by kernel_rfl
theorem Q3 (o:Ob) (M N L C:AV) (i t y n:Int) (D K:List AV) (Q:AV→ah→Nat→Prop):aH prog opts0 40 bC 174 [.ptr 1 0,I i,.agg (am t y n D K),.fptr [I 2] 0] [(1,some (.cells (aa o M N L C)))] 15 Q=
 (Q (.tuple []) [(jl D K n t y),(1,some (Blk.cells (aa {o with d2:=⟨true,n⟩} M N L C)))] 25):=by kernel_rfl
theorem Q4 (o:Ob) (M N L C:AV) (i t y n:Int) (D K:List AV) (Q:AV→ah→Nat→Prop):aH prog opts0 40 bC 174 [.ptr 1 0,I i,.agg (am t y n D K),.fptr [I 3] 0] [(1,some (.cells (aa o M N L C)))] 15 Q=
 (Q (.tuple []) [(jl D K n t y),(1,some (Blk.cells (aa {o with d3:=⟨true,n⟩} M N L C)))] 25):=by kernel_rfl
theorem Q5 (o:Ob) (M N L C:AV) (i t y n:Int) (D K:List AV) (Q:AV→ah→Nat→Prop):aH prog opts0 40 bC 174 [.ptr 1 0,I i,.agg (am t y n D K),.fptr [I 4] 0] [(1,some (.cells (aa o M N L C)))] 15 Q=
 (Q (.tuple []) [(jl D K n t y),(1,some (Blk.cells (aa {o with d4:=⟨true,n⟩} M N L C)))] 25):=by kernel_rfl
theorem Q6 (o:Ob) (M N L C:AV) (i t y n:Int) (D K:List AV) (Q:AV→ah→Nat→Prop):aH prog opts0 40 (aB [] [] aR [132] []) 164 [.ptr 1 0,I i,.agg (am t y n D K),.fptr [bK 132] 0] [(1,some (.cells (aa o M N L C)))] 15 Q=
 (Q (.tuple []) [(jl D K n t y),(1,some (Blk.cells (aa {o with alg:=n} M N L C)))] 28):=by kernel_rfl
theorem Q7 (o:Ob) (M N L C:AV) (i t y n:Int) (D K:List AV) (Q:AV→ah→Nat→Prop):aH prog opts0 40 (aB [] [] aR [133] []) 164 [.ptr 1 0,I i,.agg (am t y n D K),.fptr [bK 133] 0] [(1,some (.cells (aa o M N L C)))] 15 Q=
 (Q (.tuple []) [(jl D K n t y),(1,some (Blk.cells (aa {o with len:=n} M N L C)))] 28):=by kernel_rfl
theorem Q8 (o:Ob) (M N L C:AV) (i t y n:Int) (D K:List AV) (Q:AV→ah→Nat→Prop):aH prog opts0 40 (aB [] [] aR [124] []) 164 [.ptr 1 0,I i,.agg (am t y n D K),.fptr [bK 124] 0] [(1,some (.cells (aa o M N L C)))] 15 Q=
 (Q (.tuple []) [(jl D K n t y),(1,some (Blk.cells (aa {o with mask:=n} M N L C)))] 28):=by kernel_rfl
def G1 (c0 c1 R:List AV):bz:=aB [(1,8,.res (.fptr c0 0)),(1,13,.res (.fptr c1 0))] [] (bP [(181,.fsl false R)]) [] []
theorem Q9 (o:Ob) (M N L C:AV) (i t y n:Int) (D K R:List AV) (t0 y0 n0 t1 y1 n1:Int) (D0 K0 D1 K1:List AV) (Q:AV→ah→Nat→Prop):aH prog opts0 40 (G1 (am t0 y0 n0 D0 K0) (am t1 y1 n1 D1 K1) R) 180 [.ptr 1 0,I i,.agg (am t y n D K)] [(1,some (.cells (aa o M N L C)))] 15 Q=
 (aF prog 35 (.fsl false K) (I 0)=some (.fptr [I t0,I y0,I n0,.fsl false D0,.fsl false K0] 0)∧aF prog 35 (.fsl false K) (I 1)=some (.fptr [I t1,I y1,I n1,.fsl false D1,.fsl false K1] 0)∧aw (dV D1).isSome (SC 181 [L,I i,.agg [I n0,.str (iN D1)]] (.fsl false R)∧Q (.tuple []) [(jl D K n t y),(1,some (Blk.cells (aa o M N (.fsl false R) C)))] 38)):=by kernel_rfl
def G2 (c0 c1 c2:List AV):bz:=aB [(1,3,.res (.fptr c0 0)),(1,8,.res (.fptr c1 0)),(1,13,.res (.fptr c2 0))] [] aR [] []
theorem Ra (o:Ob) (M N L C:AV) (i t y n:Int) (D K:List AV) (t0 y0 n0 t1 y1 n1 t2 y2 n2:Int) (D0 K0 D1 K1 D2 K2:List AV) (Q:AV→ah→Nat→Prop):aH prog opts0 40 (G2 (am t0 y0 n0 D0 K0) (am t1 y1 n1 D1 K1) (am t2 y2 n2 D2 K2)) 187 [.ptr 1 0,I i,.agg (am t y n D K)] [(1,some (.cells (aa o M N L C)))] 15 Q=
 (aF prog 35 (.fsl false K) (I 0)=some (.fptr [I t0,I y0,I n0,.fsl false D0,.fsl false K0] 0)∧aF prog 35 (.fsl false K) (I 1)=some (.fptr [I t1,I y1,I n1,.fsl false D1,.fsl false K1] 0)∧aF prog 35 (.fsl false K) (I 2)=some (.fptr [I t2,I y2,I n2,.fsl false D2,.fsl false K2] 0)∧Q (.tuple []) [(jl D K n t y),(1,some (Blk.cells (aa {o with lh:=true,lt:=n0,lc:=n1,lu:=n2} M N L C)))] 36):=by kernel_rfl
def wj (P R:List AV):fy:=fun f _ _ nx=>match Nat.beq f 151 with
 |true=>some (match P with
  |[]=> .part [] .nilsl [] 3
  |_::_=> .part [] (.rsl true nx 0 (ab P) 1) [(nx,some (.cells P))] 3)
 |false=>some (.val (.fsl false R))
theorem Rb (o:Ob) (M N L:AV) (i t y n:Int) (_b at' q:Nat) (es D K R:List AV) (s:List UInt8) (Q:AV→ah→Nat→Prop):aH prog opts0 40 (aB [(2,7,.res (.ptr 27 at')),(2,8,.ld (nI q))] [] (wj [] R) [] []) 154 [.ptr 1 0,I i,.agg (am t y n D K),.fptr [.str s] 0] [(1,some (.cells (aa o M N L (.fsl false es))))] 15 Q=
 (dw prog opts0.glob 151 [AV.agg (aa o M N L (.fsl false es)),.str s] [] 29 AV.nilsl [] 32∧aF prog 190 (.rsl true 27 0 (ab [I (Int.ofNat (ab es))]) 1) (I i)=some (.ptr 27 at')∧bZ prog 3 (flat [I (Int.ofNat (ab es))]) at'=some (I (Int.ofNat q))∧aw (dV D).isSome (SC 155 [AV.fsl false es,I (Int.ofNat q),.agg [AV.str s,.str (iN D)]] (.fsl false R)∧Q (.tuple []) [(27,some (Blk.cells (flat [I (Int.ofNat (ab es))]))),(jl D K n t y),(1,some (Blk.cells (aa o M N L (.fsl false R))))] 50)):=by kernel_rfl
theorem Rc (o:Ob) (M N L:AV) (i t y n:Int) (_b at' q:Nat) (p:AV) (P es D K R:List AV) (s:List UInt8) (Q:AV→ah→Nat→Prop):aH prog opts0 40 (aB [(2,7,.res (.ptr 27 at')),(2,8,.ld (nI q))] [] (wj (p::P) R) [] []) 154 [.ptr 1 0,I i,.agg (am t y n D K),.fptr [.str s] 0] [(1,some (.cells (aa o M N L (.fsl false es))))] 15 Q=
 (dw prog opts0.glob 151 [AV.agg (aa o M N L (.fsl false es)),.str s] [] 29 (.rsl true 29 0 (ab (p::P)) 1) [(29,some (Blk.cells (p::P)))] 32∧aw (a7 1 [I (Int.ofNat (ab es))]&&(((ab (p::P)+ab [I (Int.ofNat (ab es))])*8).ble 140737488355328&&(bq (flat [I (Int.ofNat (ab es))])&&true))) (aw ((ab (p::P)).beq (ab (p::P)*1)) (aF prog 190 (.rsl true 27 0 (ab (p::P)+ab [I (Int.ofNat (ab es))]) 1) (I i)=some (.ptr 27 at')∧bZ prog 3 (p::(P++flat [I (Int.ofNat (ab es))])) at'=some (I (Int.ofNat q))∧aw (dV D).isSome (SC 155 [AV.fsl false es,I (Int.ofNat q),.agg [AV.str s,.str (iN D)]] (.fsl false R)∧Q (.tuple []) [(29,none),(27,some (Blk.cells (p::(P++flat [I (Int.ofNat (ab es))])))),(jl D K n t y),(1,some (Blk.cells (aa o M N L (.fsl false R))))] 50)))):=by kernel_rfl
theorem Rd (o:Ob) (M N L C:AV) (i:Int) (R:List AV) (Q:AV→ah→Nat→Prop):aH prog opts0 40 (aB [] [] (bP [(171,.fsl false R)]) [] []) 170 [.ptr 0 0,I i] [(0,some (.cells (aa o M N L C)))] 86 Q=
 (SC 171 [N,I i] (.fsl false R)∧Q (.tuple []) [(0,some (Blk.cells (aa o M (.fsl false R) L C)))] 96):=by kernel_rfl
theorem Re (o:Ob) (M N L C:AV) (i:Int) (R:List AV) (Q:AV→ah→Nat→Prop):aH prog opts0 40 (aB [] [] (bP [(183,.fsl false R)]) [] []) 182 [.ptr 0 0,I i] [(0,some (.cells (aa o M N L C)))] 86 Q=
 (SC 183 [L,I i] (.fsl false R)∧Q (.tuple []) [(0,some (Blk.cells (aa o M N (.fsl false R) C)))] 96):=by kernel_rfl
theorem Rf (o:Ob) (M N L C:AV) (i:Int) (Q:AV→ah→Nat→Prop):aH prog opts0 40 bC 175 [.ptr 0 0,I i,.fptr [I 2] 0] [(0,some (.cells (aa o M N L C)))] 86 Q=
 (Q (.tuple []) [(0,some (Blk.cells (aa {o with d2:=⟨false,0⟩} M N L C)))] 93):=by kernel_rfl
theorem Rg (o:Ob) (M N L C:AV) (i:Int) (Q:AV→ah→Nat→Prop):aH prog opts0 40 bC 175 [.ptr 0 0,I i,.fptr [I 3] 0] [(0,some (.cells (aa o M N L C)))] 86 Q=
 (Q (.tuple []) [(0,some (Blk.cells (aa {o with d3:=⟨false,0⟩} M N L C)))] 93):=by kernel_rfl
theorem Rh (o:Ob) (M N L C:AV) (i:Int) (Q:AV→ah→Nat→Prop):aH prog opts0 40 bC 188 [.ptr 0 0,I i] [(0,some (.cells (aa o M N L C)))] 86 Q=
 (Q (.tuple []) [(0,some (Blk.cells (aa {o with lh:=false,lt:=0,lc:=0,lu:=0} M N L C)))] 91):=by kernel_rfl
def G3 (P R:List AV) (q:Nat):bz:=aB [(0,11,.res (.fptr [nI q] 0))] [] (bP [(151,.fsl false P),(157,.fsl false R)]) [] []
theorem Ri (o:Ob) (M N L C:AV) (i:Int) (P R:List AV) (q:Nat) (s:List UInt8) (Q:AV→ah→Nat→Prop):aH prog opts0 40 (G3 P R q) 156 [.ptr 0 0,I i,.fptr [.str s] 0] [(0,some (.cells (aa o M N L C)))] 86 Q=
 (SC 151 [AV.agg (aa o M N L C),.str s] (.fsl false P)∧aF prog 190 (.fsl false P) (I i)=some (.fptr [I (Int.ofNat q)] 0)∧SC 157 [C,I (Int.ofNat q)] (.fsl false R)∧Q (.tuple []) [(0,some (Blk.cells (aa o M N L (.fsl false R))))] 103):=by kernel_rfl
end
structure cI (o:Ob):Prop where
 n:o.names.length≤6
 l:o.links.length≤8
 c:o.cust.length≤6
 m:o.mat.length≤cv
def lJ:Kd→Bool
 | .dat k=>Nat.blt k 10
 |_=>true
theorem gH (o:Ob):ae [au o]=true:=AE (bX o)
theorem cS (o:Ob) {c:List AV} (h:ae c=true):ae (au o::c)=true:=by
 have:=bX o;simp only[ae,au,ag,this,h,Bool.and_self]
theorem Rj (o:Ob):SC 127 [au o] (.fsl false (ap (aA o .uid))):=by
 refine bG (A:=aB [] [] aR cH []) base0 ar (aG (LsOk.no rfl)) (gH o) ?_;simp only[au,ax];rw[Qe];refine ⟨by simp[ae,ag], ?_⟩;simp only[aA,gG,bY,ap,aX]
 (repeat (first|exact Wk.refl _|exact WkL.refl _|exact Wk.nil|exact Wk.row|exact WkE.refl _|exact WkL.nil|exact WkE.nil|apply Wk.agg|apply Wk.tuple|apply WkL.cons|apply Wk.rows|apply WkE.consA))
theorem Rk (o:Ob):SC 130 [au o] (.fsl false (ap (aA o .typ))):=by
 refine bG (A:=aB [] [] aR cH []) base0 ar (aG (LsOk.no rfl)) (gH o) ?_;simp only[au,ax];rw[Qf];refine ⟨by simp[ae,ag], ?_⟩;simp only[aA,dJ,bY,ap,aX,ak]
 (repeat (first|exact Wk.refl _|exact WkL.refl _|exact Wk.nil|exact Wk.row|exact WkE.refl _|exact WkL.nil|exact WkE.nil|apply Wk.agg|apply Wk.tuple|apply WkL.cons|apply Wk.rows|apply WkE.consA))
theorem Rl (o:Ob):SC 134 [au o] (.fsl false (ap (aA o .sta))):=by
 refine bG (A:=aB [] [] aR cH []) base0 ar (aG (LsOk.no rfl)) (gH o) ?_;simp only[au,ax];rw[Qg];refine ⟨by simp[ae,ag], ?_⟩;simp only[aA,dJ,bY,ap,aX,ak]
 (repeat (first|exact Wk.refl _|exact WkL.refl _|exact Wk.nil|exact Wk.row|exact WkE.refl _|exact WkL.nil|exact WkE.nil|apply Wk.agg|apply Wk.tuple|apply WkL.cons|apply Wk.rows|apply WkE.consA))
theorem Rm (o:Ob):SC 161 [au o,.fptr [fh .alg] 0,.fptr [I 1] 0,.fptr [I 5] 0] (.fsl false (ap (aA o .alg))):=by
 refine bG (A:=aB [] [] aR cH qx) base0 ar (aG (LsOk.no rfl)) (cS o rfl) ?_;simp only[au,ax,fh];rw[Qj];refine ai (fun e=> ?_) (fun e=> ?_)
 all_goals
  refine ⟨by simp[ae,ag], ?_⟩;simp only[aA,cV,dJ,bY,ap,aX,ak,e]
  (repeat (first|exact Wk.refl _|exact WkL.refl _|exact Wk.nil|exact Wk.row|exact WkE.refl _|exact WkL.nil|exact WkE.nil|apply Wk.agg|apply Wk.tuple|apply WkL.cons|apply Wk.rows|apply WkE.consA))
theorem Rn (o:Ob):SC 161 [au o,.fptr [fh .len] 0,.fptr [I 1] 0,.fptr [I 2] 0] (.fsl false (ap (aA o .len))):=by
 refine bG (A:=aB [] [] aR cH qx) base0 ar (aG (LsOk.no rfl)) (cS o rfl) ?_;simp only[au,ax,fh];rw[Qk];refine ai (fun e=> ?_) (fun e=> ?_)
 all_goals
  refine ⟨by simp[ae,ag], ?_⟩;simp only[aA,cV,dJ,bY,ap,aX,ak,e]
  (repeat (first|exact Wk.refl _|exact WkL.refl _|exact Wk.nil|exact Wk.row|exact WkE.refl _|exact WkL.nil|exact WkE.nil|apply Wk.agg|apply Wk.tuple|apply WkL.cons|apply Wk.rows|apply WkE.consA))
theorem Ro (o:Ob):SC 161 [au o,.fptr [fh .mask] 0,.fptr [I 0] 0,.fptr [I 2] 0] (.fsl false (ap (aA o .mask))):=by
 refine bG (A:=aB [] [] aR cH qx) base0 ar (aG (LsOk.no rfl)) (cS o rfl) ?_;simp only[au,ax,fh];rw[Ql];refine ai (fun e=> ?_) (fun e=> ?_)
 all_goals
  refine ⟨by simp[ae,ag], ?_⟩;simp only[aA,dJ,bY,ap,aX,ak]
  (repeat (first|exact Wk.refl _|exact WkL.refl _|exact Wk.nil|exact Wk.row|exact WkE.refl _|exact WkL.nil|exact WkE.nil|apply Wk.agg|apply Wk.tuple|apply WkL.cons|apply Wk.rows|apply WkE.consA))
theorem Rp (o:Ob):SC 172 [au o,.fptr [nI 0] 0] (.fsl false (ap (aA o (.dat 0)))):=by
 refine bG (A:=aB [] [] aR cH []) base0 ar (aG (LsOk.no rfl)) (cS o rfl) ?_;have h:=Qm o (b7 o) (bR o) (bS o) (bD o) (gB (.fsl false (ap (aA o (.dat 0)))));simp only[au,ax];rw[show (nI 0:AV)=I 0 from rfl,h]
 refine ai (fun e=> ?_) (fun e=> ?_)
 all_goals
  refine ⟨by simp[ae,ag], ?_⟩
  first|rw[Bool.not_eq_true'] at e|rw[Bool.not_eq_false'] at e
  simp only[aA,cV,dh,dJ,bY,ap,aX,ak,e]
  (repeat (first|exact Wk.refl _|exact WkL.refl _|exact Wk.nil|exact Wk.row|exact WkE.refl _|exact WkL.nil|exact WkE.nil|apply Wk.agg|apply Wk.tuple|apply WkL.cons|apply Wk.rows|apply WkE.consA))
theorem Rq (o:Ob):SC 172 [au o,.fptr [nI 1] 0] (.fsl false (ap (aA o (.dat 1)))):=by
 refine bG (A:=aB [] [] aR cH []) base0 ar (aG (LsOk.no rfl)) (cS o rfl) ?_;have h:=Qn o (b7 o) (bR o) (bS o) (bD o) (gB (.fsl false (ap (aA o (.dat 1)))));simp only[au,ax];rw[show (nI 1:AV)=I 1 from rfl,h]
 refine ai (fun e=> ?_) (fun e=> ?_)
 all_goals
  refine ⟨by simp[ae,ag], ?_⟩
  first|rw[Bool.not_eq_true'] at e|rw[Bool.not_eq_false'] at e
  simp only[aA,cV,dh,dJ,bY,ap,aX,ak,e]
  (repeat (first|exact Wk.refl _|exact WkL.refl _|exact Wk.nil|exact Wk.row|exact WkE.refl _|exact WkL.nil|exact WkE.nil|apply Wk.agg|apply Wk.tuple|apply WkL.cons|apply Wk.rows|apply WkE.consA))
theorem Rr (o:Ob):SC 172 [au o,.fptr [nI 2] 0] (.fsl false (ap (aA o (.dat 2)))):=by
 refine bG (A:=aB [] [] aR cH []) base0 ar (aG (LsOk.no rfl)) (cS o rfl) ?_;have h:=Qo o (b7 o) (bR o) (bS o) (bD o) (gB (.fsl false (ap (aA o (.dat 2)))));simp only[au,ax];rw[show (nI 2:AV)=I 2 from rfl,h]
 refine ai (fun e=> ?_) (fun e=> ?_)
 all_goals
  refine ⟨by simp[ae,ag], ?_⟩
  first|rw[Bool.not_eq_true'] at e|rw[Bool.not_eq_false'] at e
  simp only[aA,cV,dh,dJ,bY,ap,aX,ak,e]
  (repeat (first|exact Wk.refl _|exact WkL.refl _|exact Wk.nil|exact Wk.row|exact WkE.refl _|exact WkL.nil|exact WkE.nil|apply Wk.agg|apply Wk.tuple|apply WkL.cons|apply Wk.rows|apply WkE.consA))
theorem Rt (o:Ob):SC 172 [au o,.fptr [nI 3] 0] (.fsl false (ap (aA o (.dat 3)))):=by
 refine bG (A:=aB [] [] aR cH []) base0 ar (aG (LsOk.no rfl)) (cS o rfl) ?_;have h:=Qp o (b7 o) (bR o) (bS o) (bD o) (gB (.fsl false (ap (aA o (.dat 3)))));simp only[au,ax];rw[show (nI 3:AV)=I 3 from rfl,h]
 refine ai (fun e=> ?_) (fun e=> ?_)
 all_goals
  refine ⟨by simp[ae,ag], ?_⟩
  first|rw[Bool.not_eq_true'] at e|rw[Bool.not_eq_false'] at e
  simp only[aA,cV,dh,dJ,bY,ap,aX,ak,e]
  (repeat (first|exact Wk.refl _|exact WkL.refl _|exact Wk.nil|exact Wk.row|exact WkE.refl _|exact WkL.nil|exact WkE.nil|apply Wk.agg|apply Wk.tuple|apply WkL.cons|apply Wk.rows|apply WkE.consA))
theorem Ru (o:Ob):SC 172 [au o,.fptr [nI 4] 0] (.fsl false (ap (aA o (.dat 4)))):=by
 refine bG (A:=aB [] [] aR cH []) base0 ar (aG (LsOk.no rfl)) (cS o rfl) ?_;have h:=Qq o (b7 o) (bR o) (bS o) (bD o) (gB (.fsl false (ap (aA o (.dat 4)))));simp only[au,ax];rw[show (nI 4:AV)=I 4 from rfl,h]
 refine ai (fun e=> ?_) (fun e=> ?_)
 all_goals
  refine ⟨by simp[ae,ag], ?_⟩
  first|rw[Bool.not_eq_true'] at e|rw[Bool.not_eq_false'] at e
  simp only[aA,cV,dh,dJ,bY,ap,aX,ak,e]
  (repeat (first|exact Wk.refl _|exact WkL.refl _|exact Wk.nil|exact Wk.row|exact WkE.refl _|exact WkL.nil|exact WkE.nil|apply Wk.agg|apply Wk.tuple|apply WkL.cons|apply Wk.rows|apply WkE.consA))
theorem Rx (o:Ob):SC 172 [au o,.fptr [nI 5] 0] (.fsl false (ap (aA o (.dat 5)))):=by
 refine bG (A:=aB [] [] aR cH []) base0 ar (aG (LsOk.no rfl)) (cS o rfl) ?_;have h:=Qr o (b7 o) (bR o) (bS o) (bD o) (gB (.fsl false (ap (aA o (.dat 5)))));simp only[au,ax];rw[show (nI 5:AV)=I 5 from rfl,h]
 refine ai (fun e=> ?_) (fun e=> ?_)
 all_goals
  refine ⟨by simp[ae,ag], ?_⟩
  first|rw[Bool.not_eq_true'] at e|rw[Bool.not_eq_false'] at e
  simp only[aA,cV,dh,dJ,bY,ap,aX,ak,e]
  (repeat (first|exact Wk.refl _|exact WkL.refl _|exact Wk.nil|exact Wk.row|exact WkE.refl _|exact WkL.nil|exact WkE.nil|apply Wk.agg|apply Wk.tuple|apply WkL.cons|apply Wk.rows|apply WkE.consA))
theorem Ry (o:Ob):SC 172 [au o,.fptr [nI 6] 0] (.fsl false (ap (aA o (.dat 6)))):=by
 refine bG (A:=aB [] [] aR cH []) base0 ar (aG (LsOk.no rfl)) (cS o rfl) ?_;have h:=Qs o (b7 o) (bR o) (bS o) (bD o) (gB (.fsl false (ap (aA o (.dat 6)))));simp only[au,ax];rw[show (nI 6:AV)=I 6 from rfl,h]
 refine ai (fun e=> ?_) (fun e=> ?_)
 all_goals
  refine ⟨by simp[ae,ag], ?_⟩
  first|rw[Bool.not_eq_true'] at e|rw[Bool.not_eq_false'] at e
  simp only[aA,cV,dh,dJ,bY,ap,aX,ak,e]
  (repeat (first|exact Wk.refl _|exact WkL.refl _|exact Wk.nil|exact Wk.row|exact WkE.refl _|exact WkL.nil|exact WkE.nil|apply Wk.agg|apply Wk.tuple|apply WkL.cons|apply Wk.rows|apply WkE.consA))
theorem Rz (o:Ob):SC 172 [au o,.fptr [nI 7] 0] (.fsl false (ap (aA o (.dat 7)))):=by
 refine bG (A:=aB [] [] aR cH []) base0 ar (aG (LsOk.no rfl)) (cS o rfl) ?_;have h:=Qt o (b7 o) (bR o) (bS o) (bD o) (gB (.fsl false (ap (aA o (.dat 7)))));simp only[au,ax];rw[show (nI 7:AV)=I 7 from rfl,h]
 refine ai (fun e=> ?_) (fun e=> ?_)
 all_goals
  refine ⟨by simp[ae,ag], ?_⟩
  first|rw[Bool.not_eq_true'] at e|rw[Bool.not_eq_false'] at e
  simp only[aA,cV,dh,dJ,bY,ap,aX,ak,e]
  (repeat (first|exact Wk.refl _|exact WkL.refl _|exact Wk.nil|exact Wk.row|exact WkE.refl _|exact WkL.nil|exact WkE.nil|apply Wk.agg|apply Wk.tuple|apply WkL.cons|apply Wk.rows|apply WkE.consA))
theorem RA (o:Ob):SC 172 [au o,.fptr [nI 8] 0] (.fsl false (ap (aA o (.dat 8)))):=by
 refine bG (A:=aB [] [] aR cH []) base0 ar (aG (LsOk.no rfl)) (cS o rfl) ?_;have h:=Qu o (b7 o) (bR o) (bS o) (bD o) (gB (.fsl false (ap (aA o (.dat 8)))));simp only[au,ax];rw[show (nI 8:AV)=I 8 from rfl,h]
 refine ai (fun e=> ?_) (fun e=> ?_)
 all_goals
  refine ⟨by simp[ae,ag], ?_⟩
  first|rw[Bool.not_eq_true'] at e|rw[Bool.not_eq_false'] at e
  simp only[aA,cV,dh,dJ,bY,ap,aX,ak,e]
  (repeat (first|exact Wk.refl _|exact WkL.refl _|exact Wk.nil|exact Wk.row|exact WkE.refl _|exact WkL.nil|exact WkE.nil|apply Wk.agg|apply Wk.tuple|apply WkL.cons|apply Wk.rows|apply WkE.consA))
theorem RB (o:Ob):SC 172 [au o,.fptr [nI 9] 0] (.fsl false (ap (aA o (.dat 9)))):=by
 refine bG (A:=aB [] [] aR cH []) base0 ar (aG (LsOk.no rfl)) (cS o rfl) ?_;have h:=Qv o (b7 o) (bR o) (bS o) (bD o) (gB (.fsl false (ap (aA o (.dat 9)))));simp only[au,ax];rw[show (nI 9:AV)=I 9 from rfl,h]
 refine ai (fun e=> ?_) (fun e=> ?_)
 all_goals
  refine ⟨by simp[ae,ag], ?_⟩
  first|rw[Bool.not_eq_true'] at e|rw[Bool.not_eq_false'] at e
  simp only[aA,cV,dh,dJ,bY,ap,aX,ak,e]
  (repeat (first|exact Wk.refl _|exact WkL.refl _|exact Wk.nil|exact Wk.row|exact WkE.refl _|exact WkL.nil|exact WkE.nil|apply Wk.agg|apply Wk.tuple|apply WkL.cons|apply Wk.rows|apply WkE.consA))
theorem RC (o:Ob):SC 184 [au o] (.fsl false (ap (aA o .lim))):=by
 refine bG (A:=aB [] [] aR cH []) base0 ar (aG (LsOk.no rfl)) (gH o) ?_;simp only[au,ax];rw[Qh];refine ai (fun e=> ?_) (fun e=> ?_)
 all_goals
  refine ⟨by simp[ae,ag], ?_⟩
  first|rw[Bool.not_eq_true'] at e|rw[Bool.not_eq_false'] at e
  simp only[aA,cV,qw,hQ,gh,bY,ap,aX,ak,e]
  (repeat (first|exact Wk.refl _|exact WkL.refl _|exact Wk.nil|exact Wk.row|exact WkE.refl _|exact WkL.nil|exact WkE.nil|apply Wk.agg|apply Wk.tuple|apply WkL.cons|apply Wk.rows|apply WkE.consA))
theorem RD (o:Ob):SC 138 [au o] (.fsl false (ap (aA o .why))):=by
 refine dg (A:=aB [] [] aR cH []) base0 ar (aG (LsOk.no rfl)) (gH o) ?_;simp only[au,ax];rw[Qi];refine ai (fun e=>ai (fun e2=> ?_) (fun e2=> ?_)) (fun e=>ai (fun e2=> ?_) (fun e2=> ?_))
 ·refine ⟨.nilsl,⟨1,rfl⟩,rfl, ?_⟩;rw[Bool.not_eq_true'] at e2;simp only[aA,cV,e2,ap];exact .nil
 ·rw[Bool.not_eq_false'] at e2;have hm:qv o.msg=[.mk 4325504 7 0 o.msg []]:=by
   cases hm:o.msg with
   |nil=>rw[hm] at e;cases e
   |cons a r=>rfl
  refine ⟨.fsl true [.agg [I 4325387,I 1,I 0,.nilsl,.fsl false [.agg [I 4325506,I 5,I o.why,.nilsl,.nilsl],.agg [I 4325504,I 7,I 0,.fsl false (ak o.msg),.nilsl]]]],Frz.out (Frz.fsl (FrzL.cons (Frz.agg (FrzL.cons (Frz.closed _ rfl) (FrzL.cons (Frz.closed _ rfl) (FrzL.cons (Frz.closed _ rfl) (FrzL.cons (Frz.closed _ rfl) (FrzL.cons (Frz.row (es:=[.agg [I 4325506,I 5,I o.why,.nilsl,.nilsl],.agg [I 4325504,I 7,I 0,.fsl false (ak o.msg),.nilsl]]) rfl rfl rfl rfl ?_ ?_) FrzL.nil)))))) FrzL.nil)), ?_, ?_⟩
  ·simp only[List.forall_mem_cons];exact ⟨rflTwoQ,rflTwoQ,fun _ h=>by cases h⟩
  ·simp[ae,ag]
  ·simp[ae,ag]
  ·simp only[aA,cV,e2,ts,hm,hQ,gh,bY,ap,aX,ak]
   (repeat (first|exact Wk.refl _|exact WkL.refl _|exact Wk.nil|exact Wk.row|exact WkE.refl _|exact WkL.nil|exact WkE.nil|apply Wk.agg|apply Wk.tuple|apply WkL.cons|apply Wk.rows|apply WkE.consA))
 ·refine ⟨.nilsl,⟨1,rfl⟩,rfl, ?_⟩;rw[Bool.not_eq_true'] at e2;simp only[aA,cV,e2,ap];exact .nil
 ·rw[Bool.not_eq_false'] at e2;have hm:qv o.msg=[]:=by
   cases hm:o.msg with
   |nil=>rfl
   |cons a r=>rw[hm] at e;cases e
  refine ⟨_,Frz.out (Frz.closed _ ?_), ?_, ?_⟩
  ·simp[ae,ag]
  ·simp[ae,ag]
  ·simp only[aA,cV,e2,ts,hm,hQ,gh,bY,ap,aX,ak]
   (repeat (first|exact Wk.refl _|exact WkL.refl _|exact Wk.nil|exact Wk.row|exact WkE.refl _|exact WkL.nil|exact WkE.nil|apply Wk.agg|apply Wk.tuple|apply WkL.cons|apply Wk.rows|apply WkE.consA))
theorem wl {k:Kd} (hk:lJ k=true) {o:Ob} (ho:cI o):SC (mX k) (au o::mY k) (.fsl false (ap (aA o k))):=by
 cases k with
 |uid=>exact Rj o
 |nam=>exact Qw o (fA o) (eK o) (fg o) o.names ho.n
 |typ=>exact Rk o
 |alg=>exact Rm o
 |len=>exact Rn o
 |mask=>exact Ro o
 |sta=>exact Rl o
 |why=>exact RD o
 |lnk=>exact Qz o (fA o) (eJ o) (fg o) o.links ho.l
 |lim=>exact RC o
 |cus s=>exact Q0 o s (by have:=ho.c;show _≤1099511627776;omega)
 |dat k=>
  match k,hk with
  |0,_=>exact Rp o
  |1,_=>exact Rq o
  |2,_=>exact Rr o
  |3,_=>exact Rt o
  |4,_=>exact Ru o
  |5,_=>exact Rx o
  |6,_=>exact Ry o
  |7,_=>exact Rz o
  |8,_=>exact RA o
  |9,_=>exact RB o
  |k+10,hk=>exact absurd (blt_iff.1 hk) (by omega)
def iw (o:Ob) (s:List UInt8) (i:Nat):Nat:=((bT s o.cust 0++[o.cust.length])[i]?).getD 0
def oX (v:It) (i:Nat):It:=((cC v)[i]?).getD v
def b9 (o:Ob) (i:Nat) (v:It):Kd→Ob
 | .nam=>{o with names:=b8 o.names i (gg v)}
 | .alg=>{o with alg:=ed v}
 | .len=>{o with len:=ed v}
 | .mask=>{o with mask:=ed v}
 | .dat k=>aV o ⟨true,ed v⟩ k
 | .lnk=>{o with links:=b8 o.links i ⟨ed (oX v 0),gg (oX v 1)⟩}
 | .lim=>{o with lh:=true,lt:=ed (oX v 0),lc:=ed (oX v 1),lu:=ed (oX v 2)}
 | .cus s=>{o with cust:=b8 o.cust (iw o s i) ⟨s,gg v⟩}
 |_=>o
def dj (o:Ob) (i:Nat):Kd→Ob
 | .nam=>{o with names:=cB o.names i}
 | .dat k=>aV o ⟨false,0⟩ k
 | .lnk=>{o with links:=cB o.links i}
 | .lim=>{o with lh:=false,lt:=0,lc:=0,lu:=0}
 | .cus s=>{o with cust:=cB o.cust (((bT s o.cust 0)[i]?).getD 0)}
 |_=>o
def m4 (o:Ob) (j:Nat):Kd→Prop
 | .nam=>j≤o.names.length∧j<6
 | .lnk=>j≤o.links.length∧j<8
 | .cus s=>j<(bT s o.cust 0).length∨j=(bT s o.cust 0).length∧o.cust.length<6
 |_=>True
def AW:Kd→Nat
 | .nam=>168
 | .dat _=>174
 | .lnk=>180
 | .lim=>187
 | .cus _=>154
 |_=>164
def AX:Kd→List AV
 | .dat k=>[.fptr [nI k] 0]
 | .cus s=>[.fptr [.str s] 0]
 | .alg=>[.fptr [fh .alg] 0]
 | .len=>[.fptr [fh .len] 0]
 | .mask=>[.fptr [fh .mask] 0]
 |_=>[]
theorem RE {k:Kd} (h:qz k=true):fm k=cM (AW k) (AX k):=by cases k<;>first|rfl|cases h
def tE:Kd→Nat
 | .nam=>170
 | .dat _=>175
 | .lnk=>182
 | .lim=>188
 |_=>156
def tF:Kd→List AV
 | .dat k=>[.fptr [nI k] 0]
 | .cus s=>[.fptr [.str s] 0]
 |_=>[]
def qC:Kd→Bool
 | .nam| .lnk| .lim| .cus _=>true
 | .dat k=>Nat.beq k 2||Nat.beq k 3
 |_=>false
theorem RF {k:Kd} (h:qC k=true):fD k=cM (tE k) (tF k):=by cases k<;>first|rfl|cases h
theorem fQ {k b nx2 m:Nat} {h:ah} {O O':List AV} (hb:Nat.blt b k=true) (hm:Nat.ble m nx2=true) (hg:hget h b=some (.cells O)) (e:O=O') (hc:ae O'=true):Aj k (.tuple []) [(b,some (.cells O'))] nx2 (.tuple []) h m:=by
 subst e;exact ⟨hm,⟨.tuple [],Frz.closed _ rfl,.refl _⟩,⟨hb,.cells O,.cells O,hg,FrzL.closed _ hc,.refl _⟩,ad⟩
abbrev iT (f:Nat) (c:List AV) (o:Ob) (j:Nat) (v:It) (o':Ob):Prop:=dw prog opts0.glob f (.ptr 1 0::nI j::aX v::c) [(1,some (.cells (ax o)))] 15 (.tuple []) [(1,some (.cells (ax o')))] 115
abbrev m5 (f:Nat) (c:List AV) (o:Ob) (j:Nat) (o':Ob):Prop:=dw prog opts0.glob f (.ptr 0 0::nI j::c) [(0,some (.cells (ax o)))] 86 (.tuple []) [(0,some (.cells (ax o')))] 186
theorem RG {o:Ob} (ho:cI o) {j:Nat} (h1:j≤o.names.length) (h2:j<6) (v:It):iT 168 [] o j v (b9 o j v .nam):=by
 have hp:=PB o.names j (gg v) h1 ho.n h2;obtain ⟨t,y,n,d,ks⟩:=v;refine fB (k:=2) (A:=aB [] [] (bP [(169,.fsl false ((b8 o.names j d).map .str))]) [] []) base0 ar (aG (LsOk.no rfl)) ?_;rw[bJ];simp only[ax,nI];rw[Q1];refine aD (by simp) ⟨by rw[oN];exact hp, ?_⟩;exact fQ rfl rfl rfl rfl (bX _)
theorem RH (o:Ob) (j:Nat) (v:It):iT 174 [.fptr [nI 1] 0] o j v (b9 o j v (.dat 1)):=by
 obtain ⟨t,y,n,d,ks⟩:=v;refine fB (k:=2) (A:=bC) base0 cX (aG (LsOk.no rfl)) ?_;rw[bJ,show (nI 1:AV)=I 1 from rfl]
 simp only[ax,nI];rw[Q2];exact fQ rfl rfl rfl rfl (bX _)
theorem RI (o:Ob) (j:Nat) (v:It):iT 174 [.fptr [nI 2] 0] o j v (b9 o j v (.dat 2)):=by
 obtain ⟨t,y,n,d,ks⟩:=v;refine fB (k:=2) (A:=bC) base0 cX (aG (LsOk.no rfl)) ?_;rw[bJ,show (nI 2:AV)=I 2 from rfl]
 simp only[ax,nI];rw[Q3];exact fQ rfl rfl rfl rfl (bX _)
theorem RJ (o:Ob) (j:Nat) (v:It):iT 174 [.fptr [nI 3] 0] o j v (b9 o j v (.dat 3)):=by
 obtain ⟨t,y,n,d,ks⟩:=v;refine fB (k:=2) (A:=bC) base0 cX (aG (LsOk.no rfl)) ?_;rw[bJ,show (nI 3:AV)=I 3 from rfl]
 simp only[ax,nI];rw[Q4];exact fQ rfl rfl rfl rfl (bX _)
theorem RK (o:Ob) (j:Nat) (v:It):iT 174 [.fptr [nI 4] 0] o j v (b9 o j v (.dat 4)):=by
 obtain ⟨t,y,n,d,ks⟩:=v;refine fB (k:=2) (A:=bC) base0 cX (aG (LsOk.no rfl)) ?_;rw[bJ,show (nI 4:AV)=I 4 from rfl]
 simp only[ax,nI];rw[Q5];exact fQ rfl rfl rfl rfl (bX _)
theorem RL (o:Ob) (j:Nat) (v:It):iT 164 [.fptr [fh .alg] 0] o j v (b9 o j v .alg):=by
 obtain ⟨t,y,n,d,ks⟩:=v;refine fB (k:=2) (A:=aB [] [] aR [132] []) base0 ar (aG (LsOk.no rfl)) ?_;rw[bJ];simp only[ax,nI,fh];rw[Q6];exact fQ rfl rfl rfl rfl (bX _)
theorem RN (o:Ob) (j:Nat) (v:It):iT 164 [.fptr [fh .len] 0] o j v (b9 o j v .len):=by
 obtain ⟨t,y,n,d,ks⟩:=v;refine fB (k:=2) (A:=aB [] [] aR [133] []) base0 ar (aG (LsOk.no rfl)) ?_;rw[bJ];simp only[ax,nI,fh];rw[Q7];exact fQ rfl rfl rfl rfl (bX _)
theorem RO (o:Ob) (j:Nat) (v:It):iT 164 [.fptr [fh .mask] 0] o j v (b9 o j v .mask):=by
 obtain ⟨t,y,n,d,ks⟩:=v;refine fB (k:=2) (A:=aB [] [] aR [124] []) base0 ar (aG (LsOk.no rfl)) ?_;rw[bJ];simp only[ax,nI,fh];rw[Q8];exact fQ rfl rfl rfl rfl (bX _)
theorem RP {o:Ob} (ho:cI o) {j:Nat} (h1:j≤o.links.length) (h2:j<8) {v:It} (hv:jk (cC v)=true):iT 180 [] o j v (b9 o j v .lnk):=by
 obtain ⟨t,y,n,d,ks⟩:=v
 match ks,hv with
 |[⟨t0,y0,n0,d0,k0⟩,⟨t1,y1,n1,d1,k1⟩],_=>
  have hp:=PD o.links j ⟨n0,d1⟩ h1 ho.l h2;refine fB (k:=2) (A:=G1 (am t0 y0 n0 (ak d0) (ap k0)) (am t1 y1 n1 (ak d1) (ap k1)) ((b8 o.links j ⟨n0,d1⟩).map aL)) base0 ar (aG (LsOk.no rfl)) ?_;rw[bJ];simp only[ax,nI];rw[Q9];refine ⟨cQ (i:=0) rfl,cQ (i:=1) rfl,aD (by simp) ⟨by rw[oN];exact hp, ?_⟩⟩;exact fQ rfl rfl rfl rfl (bX _)
theorem RQ (o:Ob) (j:Nat) {v:It} (hv:ef (cC v)=true):iT 187 [] o j v (b9 o j v .lim):=by
 obtain ⟨t,y,n,d,ks⟩:=v
 match ks,hv with
 |[⟨t0,y0,n0,d0,k0⟩,⟨t1,y1,n1,d1,k1⟩,⟨t2,y2,n2,d2,k2⟩],_=>
  refine fB (k:=2) (A:=G2 (am t0 y0 n0 (ak d0) (ap k0)) (am t1 y1 n1 (ak d1) (ap k1)) (am t2 y2 n2 (ak d2) (ap k2))) base0 ar (aG (LsOk.no rfl)) ?_;rw[bJ];simp only[ax,nI];rw[Ra];refine ⟨cQ (i:=0) rfl,cQ (i:=1) rfl,cQ (i:=2) rfl, ?_⟩;exact fQ rfl rfl rfl rfl (bX _)
theorem RS:fK prog 3=some false:=by kernel_rfl
theorem G4 {l:List Nat} {j q:Nat} (h:l[j]? =some q):bZ prog 3 (l.map nI) j=some (nI q):=by
 simp only[bZ,RS,gY,List.getElem?_map,h,Option.map_some]
theorem G5 {own:Bool} {id len j:Nat} (h:j<len):aF prog 190 (.rsl own id 0 len 1) (.int .i64 (.ofNat j))=some (.ptr id j):=by
 have h1:Tryz.prog.underlying 190=some (.slice 3):=by kernel_rfl
 have h2:ca prog 3=some 1:=by kernel_rfl
 simp only[aF,gR,h1,h2,Option.bind_eq_bind,Option.bind_some,blt_iff.2 h,Bool.true_and,Nat.zero_add,Nat.mul_one];rfl
theorem G6 {o:Ob} {s:List UInt8} {j:Nat} (h:j≤(bT s o.cust 0).length):(bT s o.cust 0++[o.cust.length])[j]? =some (iw o s j)∧iw o s j≤o.cust.length∧(j<(bT s o.cust 0).length→iw o s j<o.cust.length):=by
 have hj:j<(bT s o.cust 0++[o.cust.length]).length:=by simp;omega
 have e:=List.getElem?_eq_getElem hj;have e2:(bT s o.cust 0++[o.cust.length])[j]? =some (iw o s j):=by rw[e,iw,e];rfl
 refine ⟨e2, ?_,fun hlt=> ?_⟩
 ·have hm:=List.mem_of_getElem? e2;rcases List.mem_append.1 hm with hm|hm
  ·have:=tn s o.cust 0 _ hm;omega
  ·simp at hm;omega
 ·rw[List.getElem?_append_left hlt] at e2;have:=tn s o.cust 0 _ (List.mem_of_getElem? e2);omega
set_option maxRecDepth 20000 in
theorem RT {o:Ob} (ho:cI o) {j:Nat} {s:List UInt8} (hj:m4 o j (.cus s)) (v:It):iT 154 [.fptr [.str s] 0] o j v (b9 o j v (.cus s)):=by
 have hb:o.cust.length≤cv:=by have:=ho.c;show _≤1099511627776;omega
 have hpl:=PZ o (M:=b7 o) (N:=bR o) (L:=bS o) s 29 (fA o) (eJ o) (eK o) hb;have hln:=vP s o.cust 0;have hj':j≤(bT s o.cust 0).length:=by rcases hj with h|h<;>omega
 obtain ⟨e1,e2,e3⟩:=G6 hj';have hq:iw o s j<6:=by
  have:=ho.c;rcases hj with h|h
  ·have:=e3 h;omega
  ·omega
 have hput:=PF o.cust (iw o s j) ⟨s,gg v⟩ e2 ho.c hq;obtain ⟨t,y,n,d,ks⟩:=v;have hlen:ab (o.cust.map az)=o.cust.length:=by rw[aM,List.length_map]
 simp only[b9];revert hpl e1 hln hput hj';generalize iw o s j=q;cases bT s o.cust 0 with
 |nil=>
  intro hpl hln hj' e1 hput;obtain rfl:j=0:=by simpa using hj'
  refine fB (k:=2) (A:=aB [(2,7,.res (.ptr 27 0)),(2,8,.ld (nI q))] [] (wj [] ((b8 o.cust q ⟨s,d⟩).map az)) [] []) base0 ar (aG (LsOk.no rfl)) ?_;rw[bJ,show (nI 0:AV)=I (.ofNat 0) from rfl]
  simp only[ax,bD];rw[Rb (_b:=0)];rw[hlen];refine ⟨hpl,G5 (by simp[ab]),G4 (l:=[o.cust.length]) e1,aD (by simp) ⟨by rw[oN];exact hput, ?_⟩⟩;exact fQ rfl rfl rfl rfl (bX _)
 | cons p r=>
  intro hpl hln hj' e1 hput;refine fB (k:=2) (A:=aB [(2,7,.res (.ptr 27 j)),(2,8,.ld (nI q))] [] (wj ((p::r).map nI) ((b8 o.cust q ⟨s,d⟩).map az)) [] []) base0 ar (aG (LsOk.no rfl)) ?_;rw[bJ,show (nI j:AV)=I (.ofNat j) from rfl,List.map_cons]
  simp only[ax,bD];rw[Rc (_b:=0),hlen];have hl2:ab (nI p::r.map nI)=r.length+1:=by rw[aM];simp
  have hc6:=ho.c;simp only[lConQ] at hln hj';refine ⟨?_,aD ?_ (aD (by rw[Nat.mul_one];exact beq_iff.2 rfl) ⟨?_, ?_,aD (by simp) ⟨by rw[oN];exact hput, ?_⟩⟩)⟩
  ·rw[hl2];exact hpl
  ·rw[hl2];have:(r.length+1+1)*8≤140737488355328:=by omega
   simp only[Bool.and_eq_true,Nat.ble_eq];exact ⟨rfl,this,rfl,ad⟩
  ·refine G5 ?_;rw[hl2];show j<r.length+1+1;omega
  ·have:=G4 (l:=p::r++[o.cust.length]) e1;simpa [nI,flat,AV.cells] using this
  ·exact fQ rfl rfl rfl rfl (bX _)
theorem RU {k:Kd} (hk:dR k=true) {o:Ob} (ho:cI o) {j:Nat} (hj:m4 o j k) {v:It} (hv:eA o v k=true):iT (AW k) (AX k) o j v (b9 o j v k):=by
 cases k with
 |nam=>exact RG ho hj.1 hj.2 v
 |alg=>exact RL o j v
 |len=>exact RN o j v
 |mask=>exact RO o j v
 |lnk=>
  simp only[eA,Bool.and_eq_true] at hv;exact RP ho hj.1 hj.2 hv.2
 |lim=>
  simp only[eA,Bool.and_eq_true] at hv;exact RQ o j hv.2.1
 |cus s=>exact RT ho hj v
 | dat k=>
  match k,hk with
  |1,_=>exact RH o j v
  |2,_=>exact RI o j v
  |3,_=>exact RJ o j v
  |4,_=>exact RK o j v
  |k+5,hk=>
   simp only[dR,lz,Bool.and_eq_true,Nat.ble_eq] at hk;omega
 |_=>cases hk
theorem RV (o:Ob) (j:Nat):m5 175 [.fptr [nI 2] 0] o j (dj o j (.dat 2)):=by
 refine fB (k:=1) (A:=bC) base0 cX (aG (LsOk.no rfl)) ?_;rw[show (nI 2:AV)=I 2 from rfl]
 simp only[ax,nI];rw[Rf];exact fQ rfl rfl rfl rfl (bX _)
theorem RW (o:Ob) (j:Nat):m5 175 [.fptr [nI 3] 0] o j (dj o j (.dat 3)):=by
 refine fB (k:=1) (A:=bC) base0 cX (aG (LsOk.no rfl)) ?_;rw[show (nI 3:AV)=I 3 from rfl]
 simp only[ax,nI];rw[Rg];exact fQ rfl rfl rfl rfl (bX _)
theorem RX (o:Ob) (j:Nat):m5 188 [] o j (dj o j .lim):=by
 refine fB (k:=1) (A:=bC) base0 cX (aG (LsOk.no rfl)) ?_;simp only[ax,nI];rw[Rh];exact fQ rfl rfl rfl rfl (bX _)
theorem RY {o:Ob} (ho:cI o) {j:Nat} (h:j<o.names.length):m5 170 [] o j (dj o j .nam):=by
 refine fB (k:=1) (A:=aB [] [] (bP [(171,.fsl false ((cB o.names j).map .str))]) [] []) base0 ar (aG (LsOk.no rfl)) ?_;simp only[ax,nI];rw[Rd];exact ⟨PC o.names j h ho.n,fQ rfl rfl rfl rfl (bX _)⟩
theorem RZ {o:Ob} (ho:cI o) {j:Nat} (h:j<o.links.length):m5 182 [] o j (dj o j .lnk):=by
 refine fB (k:=1) (A:=aB [] [] (bP [(183,.fsl false ((cB o.links j).map aL))]) [] []) base0 ar (aG (LsOk.no rfl)) ?_;simp only[ax,nI];rw[Re];exact ⟨PE o.links j h ho.l,fQ rfl rfl rfl rfl (bX _)⟩
theorem R0 {o:Ob} (ho:cI o) {j:Nat} {s:List UInt8} (h:j<(bT s o.cust 0).length):m5 156 [.fptr [.str s] 0] o j (dj o j (.cus s)):=by
 have hb:o.cust.length≤cv:=by have:=ho.c;show _≤1099511627776;omega
 have e:=List.getElem?_eq_getElem h;have hq:=tn s o.cust 0 _ (List.getElem_mem h);have hd:dj o j (.cus s)={o with cust:=cB o.cust (bT s o.cust 0)[j]}:=by simp only[dj,e];rfl
 rw[hd];revert e hq;generalize (bT s o.cust 0)[j]=q;intro e hq;refine fB (k:=1) (A:=G3 ((bT s o.cust 0).map nI) ((cB o.cust q).map az) q) base0 ar (aG (LsOk.no rfl)) ?_;simp only[ax,nI];rw[Ri];exact ⟨GX o s (fA o) (eJ o) (eK o) hb,AU e,PG o.cust q (by omega) ho.c,fQ rfl rfl rfl rfl (bX _)⟩
theorem qD (o:Ob) (s:List UInt8):(aA o (.cus s)).length=(bT s o.cust 0).length:=by
 have h:=AQ s o.cust [];simp only[List.length_nil,List.nil_append] at h;have h:=congrArg List.length h;simp only[List.length_map] at h;simp only[aA,List.length_map,h]
theorem R7 {k:Kd} (hk:qC k=true) {o:Ob} (ho:cI o) {j:Nat} (hj:j<(aA o k).length):m5 (tE k) (tF k) o j (dj o j k):=by
 cases k with
 |nam=>exact RY ho (by simpa [aA] using hj)
 |lnk=>exact RZ ho (by simpa [aA] using hj)
 |lim=>exact RX o j
 |cus s=>exact R0 ho (by rw[qD] at hj;exact hj)
 |dat k=>
  simp only[qC,Bool.or_eq_true] at hk;rcases hk with h|h
  ·obtain rfl:=beq_iff.1 h;exact RV o j
  ·obtain rfl:=beq_iff.1 h;exact RW o j
 |_=>cases hk
theorem R8 (o:Ob):SC 158 [au o] (.bool true):=by
 refine bQ (A:=bC) base0 cX (aG (LsOk.no rfl)) (gH o) rfl ?_;simp only[au,ax];rw[QH]
 skip
 all_goals first|rfl|simp_all
theorem R9 (o:Ob):SC 125 [au o] (.bool (ao o.st 1)):=by
 refine bQ (A:=bC) base0 cX (aG (LsOk.no rfl)) (gH o) rfl ?_;simp only[au,ax];rw[QI]
 skip
 all_goals first|rfl|simp_all
theorem Sa (o:Ob):SC 137 [au o] (.bool (ao o.st 1||ao o.st 2)):=by
 refine bQ (A:=bC) base0 cX (aG (LsOk.no rfl)) (gH o) rfl ?_;simp only[au,ax];rw[QJ]
 repeat' refine ai (fun _=> ?_) (fun _=> ?_)
 all_goals first|rfl|simp_all
theorem Sb (o:Ob):SC 189 [au o] (.bool (ao o.lc o.lt)):=by
 refine bQ (A:=bC) base0 cX (aG (LsOk.no rfl)) (gH o) rfl ?_;simp only[au,ax];rw[QK]
 skip
 all_goals first|rfl|simp_all
theorem Sc (o:Ob):SC 165 [au o] (.bool (Nat.blt o.names.length 6)):=by
 refine bQ (A:=bC) base0 cX (aG (LsOk.no rfl)) (gH o) rfl ?_;simp only[au,ax,bR,bS,bD];rw[QL];rw[aM,List.length_map];refine congrArg AV.bool ?_;rw[Bool.eq_iff_iff,ltInt_iff,blt_iff];simp only[bh];omega
theorem Sd (o:Ob):SC 177 [au o] (.bool (Nat.blt o.links.length 8)):=by
 refine bQ (A:=bC) base0 cX (aG (LsOk.no rfl)) (gH o) rfl ?_;simp only[au,ax,bR,bS,bD];rw[QM];rw[aM,List.length_map];refine congrArg AV.bool ?_;rw[Bool.eq_iff_iff,ltInt_iff,blt_iff];simp only[bh];omega
theorem Se (o:Ob):SC 149 [au o] (.bool (Nat.blt o.cust.length 6)):=by
 refine bQ (A:=bC) base0 cX (aG (LsOk.no rfl)) (gH o) rfl ?_;simp only[au,ax,bR,bS,bD];rw[QN];rw[aM,List.length_map];refine congrArg AV.bool ?_;rw[Bool.eq_iff_iff,ltInt_iff,blt_iff];simp only[bh];omega
set_option maxRecDepth 20000
noncomputable section
abbrev bL (Q:AV→Prop) (o:Ob):=(Q (AV.bool !ay o.d3.2 o.d2.2))
theorem Sf (o:Ob) (M N L C:AV) (Q:AV→Prop):aH prog opts0 40 (aB [] [] aR [] [74]) 26 [.agg (aa o M N L C)] [] 0 (fun v _ _=>Q v)=
 (ac (!o.d1.1) (ac (!o.d1.1) (ac (!o.d3.1) (ac (!o.d2.1) (Q (.bool true)) (ac (!o.d3.1) (Q (.bool true)) (bL Q o))) (ac (!o.d4.1) (ac (!o.d2.1) (Q (.bool true)) (ac (!o.d3.1) (Q (.bool true)) (bL Q o))) (ac (!ay o.d4.2 o.d3.2) (ac (!o.d2.1) (Q (.bool true)) (ac (!o.d3.1) (Q (.bool true)) (bL Q o))) (Q (.bool false))))) (ac (!o.d2.1) (ac (!o.d3.1) (ac (!o.d2.1) (Q (.bool true)) (ac (!o.d3.1) (Q (.bool true)) (bL Q o))) (ac (!o.d4.1) (ac (!o.d2.1) (Q (.bool true)) (ac (!o.d3.1) (Q (.bool true)) (bL Q o))) (ac (!ay o.d4.2 o.d3.2) (ac (!o.d2.1) (Q (.bool true)) (ac (!o.d3.1) (Q (.bool true)) (bL Q o))) (Q (.bool false))))) (ac (!ay o.d2.2 o.d1.2) (ac (!o.d3.1) (ac (!o.d2.1) (Q (.bool true)) (ac (!o.d3.1) (Q (.bool true)) (bL Q o))) (ac (!o.d4.1) (ac (!o.d2.1) (Q (.bool true)) (ac (!o.d3.1) (Q (.bool true)) (bL Q o))) (ac (!ay o.d4.2 o.d3.2) (ac (!o.d2.1) (Q (.bool true)) (ac (!o.d3.1) (Q (.bool true)) (bL Q o))) (Q (.bool false))))) (Q (.bool false))))) (ac (!o.d4.1) (ac (!o.d1.1) (ac (!o.d3.1) (ac (!o.d2.1) (Q (.bool true)) (ac (!o.d3.1) (Q (.bool true)) (bL Q o))) (ac (!o.d4.1) (ac (!o.d2.1) (Q (.bool true)) (ac (!o.d3.1) (Q (.bool true)) (bL Q o))) (ac (!ay o.d4.2 o.d3.2) (ac (!o.d2.1) (Q (.bool true)) (ac (!o.d3.1) (Q (.bool true)) (bL Q o))) (Q (.bool false))))) (ac (!o.d2.1) (ac (!o.d3.1) (ac (!o.d2.1) (Q (.bool true)) (ac (!o.d3.1) (Q (.bool true)) (bL Q o))) (ac (!o.d4.1) (ac (!o.d2.1) (Q (.bool true)) (ac (!o.d3.1) (Q (.bool true)) (bL Q o))) (ac (!ay o.d4.2 o.d3.2) (ac (!o.d2.1) (Q (.bool true)) (ac (!o.d3.1) (Q (.bool true)) (bL Q o))) (Q (.bool false))))) (ac (!ay o.d2.2 o.d1.2) (ac (!o.d3.1) (ac (!o.d2.1) (Q (.bool true)) (ac (!o.d3.1) (Q (.bool true)) (bL Q o))) (ac (!o.d4.1) (ac (!o.d2.1) (Q (.bool true)) (ac (!o.d3.1) (Q (.bool true)) (bL Q o))) (ac (!ay o.d4.2 o.d3.2) (ac (!o.d2.1) (Q (.bool true)) (ac (!o.d3.1) (Q (.bool true)) (bL Q o))) (Q (.bool false))))) (Q (.bool false))))) (ac (!ay o.d4.2 o.d1.2) (ac (!o.d1.1) (ac (!o.d3.1) (ac (!o.d2.1) (Q (.bool true)) (ac (!o.d3.1) (Q (.bool true)) (bL Q o))) (ac (!o.d4.1) (ac (!o.d2.1) (Q (.bool true)) (ac (!o.d3.1) (Q (.bool true)) (bL Q o))) (ac (!ay o.d4.2 o.d3.2) (ac (!o.d2.1) (Q (.bool true)) (ac (!o.d3.1) (Q (.bool true)) (bL Q o))) (Q (.bool false))))) (ac (!o.d2.1) (ac (!o.d3.1) (ac (!o.d2.1) (Q (.bool true)) (ac (!o.d3.1) (Q (.bool true)) (bL Q o))) (ac (!o.d4.1) (ac (!o.d2.1) (Q (.bool true)) (ac (!o.d3.1) (Q (.bool true)) (bL Q o))) (ac (!ay o.d4.2 o.d3.2) (ac (!o.d2.1) (Q (.bool true)) (ac (!o.d3.1) (Q (.bool true)) (bL Q o))) (Q (.bool false))))) (ac (!ay o.d2.2 o.d1.2) (ac (!o.d3.1) (ac (!o.d2.1) (Q (.bool true)) (ac (!o.d3.1) (Q (.bool true)) (bL Q o))) (ac (!o.d4.1) (ac (!o.d2.1) (Q (.bool true)) (ac (!o.d3.1) (Q (.bool true)) (bL Q o))) (ac (!ay o.d4.2 o.d3.2) (ac (!o.d2.1) (Q (.bool true)) (ac (!o.d3.1) (Q (.bool true)) (bL Q o))) (Q (.bool false))))) (Q (.bool false))))) (Q (.bool false))))):=by kernel_rfl
theorem Sg (o:Ob) (M N L C:AV) (Q:AV→Prop):aH prog opts0 40 (aB [] [] aR [96] []) 49 [.agg (aa o M N L C)] [] 0 (fun v _ _=>Q v)=
 (ac (!o.d1.1) (ac (!o.d1.1) (ac (!o.d3.1) (ac (!o.d2.1) (Q (.bool true)) (ac (!o.d3.1) (Q (.bool true)) (bL Q o))) (ac (!o.d4.1) (ac (!o.d2.1) (Q (.bool true)) (ac (!o.d3.1) (Q (.bool true)) (bL Q o))) (ac (!ay o.d4.2 o.d3.2) (ac (!o.d2.1) (Q (.bool true)) (ac (!o.d3.1) (Q (.bool true)) (bL Q o))) (Q (.bool false))))) (ac (!o.d2.1) (ac (!o.d3.1) (ac (!o.d2.1) (Q (.bool true)) (ac (!o.d3.1) (Q (.bool true)) (bL Q o))) (ac (!o.d4.1) (ac (!o.d2.1) (Q (.bool true)) (ac (!o.d3.1) (Q (.bool true)) (bL Q o))) (ac (!ay o.d4.2 o.d3.2) (ac (!o.d2.1) (Q (.bool true)) (ac (!o.d3.1) (Q (.bool true)) (bL Q o))) (Q (.bool false))))) (ac (!ay o.d2.2 o.d1.2) (ac (!o.d3.1) (ac (!o.d2.1) (Q (.bool true)) (ac (!o.d3.1) (Q (.bool true)) (bL Q o))) (ac (!o.d4.1) (ac (!o.d2.1) (Q (.bool true)) (ac (!o.d3.1) (Q (.bool true)) (bL Q o))) (ac (!ay o.d4.2 o.d3.2) (ac (!o.d2.1) (Q (.bool true)) (ac (!o.d3.1) (Q (.bool true)) (bL Q o))) (Q (.bool false))))) (Q (.bool false))))) (ac (!o.d4.1) (ac (!o.d1.1) (ac (!o.d3.1) (ac (!o.d2.1) (Q (.bool true)) (ac (!o.d3.1) (Q (.bool true)) (bL Q o))) (ac (!o.d4.1) (ac (!o.d2.1) (Q (.bool true)) (ac (!o.d3.1) (Q (.bool true)) (bL Q o))) (ac (!ay o.d4.2 o.d3.2) (ac (!o.d2.1) (Q (.bool true)) (ac (!o.d3.1) (Q (.bool true)) (bL Q o))) (Q (.bool false))))) (ac (!o.d2.1) (ac (!o.d3.1) (ac (!o.d2.1) (Q (.bool true)) (ac (!o.d3.1) (Q (.bool true)) (bL Q o))) (ac (!o.d4.1) (ac (!o.d2.1) (Q (.bool true)) (ac (!o.d3.1) (Q (.bool true)) (bL Q o))) (ac (!ay o.d4.2 o.d3.2) (ac (!o.d2.1) (Q (.bool true)) (ac (!o.d3.1) (Q (.bool true)) (bL Q o))) (Q (.bool false))))) (ac (!ay o.d2.2 o.d1.2) (ac (!o.d3.1) (ac (!o.d2.1) (Q (.bool true)) (ac (!o.d3.1) (Q (.bool true)) (bL Q o))) (ac (!o.d4.1) (ac (!o.d2.1) (Q (.bool true)) (ac (!o.d3.1) (Q (.bool true)) (bL Q o))) (ac (!ay o.d4.2 o.d3.2) (ac (!o.d2.1) (Q (.bool true)) (ac (!o.d3.1) (Q (.bool true)) (bL Q o))) (Q (.bool false))))) (Q (.bool false))))) (ac (!ay o.d4.2 o.d1.2) (ac (!o.d1.1) (ac (!o.d3.1) (ac (!o.d2.1) (Q (.bool true)) (ac (!o.d3.1) (Q (.bool true)) (bL Q o))) (ac (!o.d4.1) (ac (!o.d2.1) (Q (.bool true)) (ac (!o.d3.1) (Q (.bool true)) (bL Q o))) (ac (!ay o.d4.2 o.d3.2) (ac (!o.d2.1) (Q (.bool true)) (ac (!o.d3.1) (Q (.bool true)) (bL Q o))) (Q (.bool false))))) (ac (!o.d2.1) (ac (!o.d3.1) (ac (!o.d2.1) (Q (.bool true)) (ac (!o.d3.1) (Q (.bool true)) (bL Q o))) (ac (!o.d4.1) (ac (!o.d2.1) (Q (.bool true)) (ac (!o.d3.1) (Q (.bool true)) (bL Q o))) (ac (!ay o.d4.2 o.d3.2) (ac (!o.d2.1) (Q (.bool true)) (ac (!o.d3.1) (Q (.bool true)) (bL Q o))) (Q (.bool false))))) (ac (!ay o.d2.2 o.d1.2) (ac (!o.d3.1) (ac (!o.d2.1) (Q (.bool true)) (ac (!o.d3.1) (Q (.bool true)) (bL Q o))) (ac (!o.d4.1) (ac (!o.d2.1) (Q (.bool true)) (ac (!o.d3.1) (Q (.bool true)) (bL Q o))) (ac (!ay o.d4.2 o.d3.2) (ac (!o.d2.1) (Q (.bool true)) (ac (!o.d3.1) (Q (.bool true)) (bL Q o))) (Q (.bool false))))) (Q (.bool false))))) (Q (.bool false))))):=by kernel_rfl
theorem Sh (o:Ob) (M N L C:AV) (Q:AV→Prop):aH prog opts0 40 (aB [] [] (bP [(118,M),(119,N),(120,L),(121,C)]) [] []) 82 [.agg (aa o M N L C)] [] 0 (fun v _ _=>Q v)=
 (SC 118 [M] M∧SC 119 [N] N∧SC 120 [L] L∧SC 121 [C] C∧aw (aY prog 23 M 1) (aw (aY prog 27 N 1) (aw (aY prog 28 L 1) (aw (aY prog 29 C 1) (aw (aY prog 33 (.agg (aa o M N L C)) 37) (Q (.agg (aa o M N L C)))))))):=by kernel_rfl
def qE (x y:Dt):Bool:= !x.has||(!y.has|| !ay y.t x.t)
def gk (o:Ob):Bool:=qE o.d1 o.d4&&(qE o.d1 o.d2&&(qE o.d3 o.d4&&qE o.d2 o.d3))
theorem Si (o:Ob):SC 26 [au o] (.bool (gk o)):=by
 refine bQ (A:=aB [] [] aR [] [74]) base0 ar (aG (LsOk.no rfl)) (gH o) rfl ?_;simp only[au,ax];rw[Sf]
 repeat' refine ai (fun _=> ?_) (fun _=> ?_)
 all_goals
  refine congrArg AV.bool ?_;simp_all [gk,qE]
theorem AY (o:Ob):SC 49 [au o] (.bool (gk o)):=by
 refine bQ (A:=aB [] [] aR [96] []) base0 ar (aG (LsOk.no rfl)) (gH o) rfl ?_;simp only[au,ax];rw[Sg]
 repeat' refine ai (fun _=> ?_) (fun _=> ?_)
 all_goals
  refine congrArg AV.bool ?_;simp_all [gk,qE]
theorem Sj:fK prog 33=some true:=by kernel_rfl
theorem Sk:fK prog 89=some true:=by kernel_rfl
theorem fq (o:Ob):aY prog 33 (.agg (ax o)) 37=true:=Af Sj (Nd o) (Nc o)
theorem Sl:fK prog 27=some false:=by kernel_rfl
theorem Sm:fK prog 28=some false:=by kernel_rfl
theorem Sn:fK prog 29=some false:=by kernel_rfl
theorem So:fK prog 23=some false:=by kernel_rfl
theorem AZ {α:Type} {f:α→AV} {n:Nat} (h:∀x,eH n (f x)):∀l:List α,∀e∈l.map f,eH n e:=fun l e he=>by
 obtain ⟨x,_,rfl⟩:=List.mem_map.1 he;exact h x
theorem G7 {o:Ob} (ho:cI o):SC 82 [au o] (au o):=by
 have h1:SC 118 [b7 o] (b7 o):=Nr ER (g6 _) (by rw[←aM,oM];exact ho.m);have hn:=ho.n;have hl:=ho.l;have hc:=ho.c;have h2:SC 119 [bR o] (bR o):=Nw (AZ (f:= .str) (n:=1) (fun _=>rflTwoQ) _) (fN _) (by rw[List.length_map];show _≤1099511627776;omega);have h3:SC 120 [bS o] (bS o):=NC (AZ (f:=aL) (n:=2) (fun _=>rflTwoQ) _) (jN _) (by rw[List.length_map];show _≤1099511627776;omega);have h4:SC 121 [bD o] (bD o):=NG (AZ (f:=az) (n:=2) (fun _=>rflTwoQ) _) (iQ _) (by rw[List.length_map];show _≤1099511627776;omega);refine bQ (A:=aB [] [] (bP [(118,b7 o),(119,bR o),(120,bS o),(121,bD o)]) [] []) base0 ar (aG (LsOk.no rfl)) (gH o) (Nb o) ?_;simp only[au,ax];rw[Sh];exact ⟨h1,h2,h3,h4,aD (vA So rfl) (aD (vA Sl rfl) (aD (vA Sm rfl) (aD (vA Sn rfl) (aD (fq o) rfl))))⟩
def e9 (k:Kd):eZ:=⟨aC k,ir k,ci k,dR k⟩
theorem lK (k:Kd):eb k=cR (e9 k) (f6 k) (f9 k) (gd k) (g7 k) (fP k) (fm k) (fD k) (eL k):=rfl
theorem G8 (k:Kd):eb k=cR (e9 k) (f6 k) (f9 k) (gd k) (cM (mX k) (mY k)) (fP k) (fm k) (fD k) (eL k):=by rw[lK,AM]
theorem G9 (k:Kd):ae (eb k)=true:=Ar k
def oY (many:Bool) (ty:Int):List It→Nat
 |[x]=>match many||(!ao ty 2|| !ao (ed x) 0) with
  |true=>1
  |false=>0
 |l=>l.length
def dk (o:Ob) (k:Kd):Nat:=oY (ci k) (ir k) (aA o k)
theorem wm (k:Kd) (o:Ob) {c:List AV} (h:ae c=true):ae (.agg (eb k)::au o::c)=true:=by
 have h1:=G9 k;have h2:=cS o h;rw[ae,ag,h1,h2];rfl
theorem Sp {k:Kd} (hk:lJ k=true) {o:Ob} (ho:cI o):SC 113 [.agg (eb k),au o] (I (.ofNat (dk o k))):=by
 have hg:=wl hk ho;have hcl:=wm k o (c:=[]) rfl;simp only[dk];rw[G8] at hcl⊢;revert hg;generalize aA o k=l;intro hg
 match l,hg with
 |[],hg=>
  refine bQ (A:=vQ [] (am 0 0 0 [] [])) base0 ar (aG (LsOk.no rfl)) hcl rfl ?_;simp only[au,ax] at hg⊢;rw[Ay];refine ⟨hg,ai (fun _=>ai (fun e=>by cases e) (fun _=>rfl)) (fun _=>rfl)⟩
 | [⟨t,y,n,d,ks⟩],hg=>
  refine bQ (A:=vQ (ap [⟨t,y,n,d,ks⟩]) (am t y n (ak d) (ap ks))) base0 ar (aG (LsOk.no rfl)) hcl rfl ?_;simp only[au,ax] at hg⊢;rw[Ay];have hh:∀m ty,(e9 k).many=m→(e9 k).ty=ty→ci k=m∧ir k=ty:=fun m ty h1 h2=>⟨h1,h2⟩;refine ⟨hg,ai (fun e1=>ai (fun _=>ai (fun e2=>⟨cQ (i:=0) rfl,ai (fun e3=> ?_) (fun e3=> ?_)⟩) (fun e2=> ?_)) (fun e=>by cases e)) (fun e1=> ?_)⟩
  all_goals
   simp only[e9] at*
   simp_all [oY,ed,ap,ab]
 |a::b::r,hg=>
  refine bQ (A:=vQ (ap (a::b::r)) (am 0 0 0 [] [])) base0 ar (aG (LsOk.no rfl)) hcl rfl ?_;simp only[au,ax] at hg⊢;rw[Ay];have hl:ab (ap (a::b::r))=r.length+2:=by rw[aM,fO];rfl
  rw[hl];refine ⟨hg,ai (fun e1=>ai (fun e=> ?_) (fun _=>rfl)) (fun _=>rfl)⟩;rw[beqInt_iff] at e;have e:((r.length+2:Nat):Int)=1:=e;omega
def gI (v:It) (but:Int):List It→Nat→Bool
 |[],_=>false
 |x::r,i=>(!ao (.ofNat i) but&&eY x v)||gI v but r (i+1)
def jP (o:Ob) (k:Kd) (v:It) (but:Int):Bool:=ci k&&gI v but (aA o k) 0
theorem Sq {h:eZ} {A1 A2 A3 Ge R P D RM:AV} {l:List It} {t y n:Int} {d:List UInt8} {ks:List It} {but:Int} {Q:AExit→St→Prop} (hW:ae (cR h A1 A2 A3 Ge R P D RM)=true) (hb:l.length≤1000) (hl:∀x∈l,eX cv x):
  ∀i,i≤l.length→(ac (h.many&&gI (.mk t y n d ks) but (l.drop i) i) (Q .ret (jh true).st) (Q (.exit 0) (jh false).st)→ALp prog opts0.glob 0 (aJ prog 72 3) (oU (cR h A1 A2 A3 Ge R P D RM) (ap l) t y n (ak d) (ap ks) but i).st Q):=by
 have hG:=iP l;have hK:ae (am t y n (ak d) (ap ks))=true:=by have:=cG (.mk t y n d ks);exact this
 have hlen:ab (ap l)=l.length:=by rw[aM,fO]
 refine tm _ (fun hq=> ?_) (fun i hi ih hq=> ?_)
 ·refine ALp.round (A:=vR (am 0 0 0 [] []) true) (V2:=oU (cR h A1 A2 A3 Ge R P D RM) (ap l) t y n (ak d) (ap ks) but 0) (F:=jh false) (lk:=[(0,0),(1,1)]) (lk':=[]) base0 ar (LsOk.no rfl) .refl ?_;rw[AB];refine ai (fun e=> ?_) (fun _=> ?_)
  ·have e:=ltInt_iff.1 e;simp only[hlen,bh] at e;omega
  ·rw[List.drop_of_length_le (by omega),gI,Bool.and_false] at hq;exact ⟨⟨⟨rflTwoQ,ad⟩,trivial,ad⟩,hq⟩
 ·have g1:=List.getElem?_eq_getElem hi;have hok:=hl _ (List.getElem_mem hi);rw[List.drop_eq_getElem_cons hi,gI] at hq;revert g1 hq hok;generalize l[i]=x;intro hq g1 hok;have hs:=Gv x (.mk t y n d ks) hok;obtain ⟨a,b,c,e',f'⟩:=x;revert hs hq;generalize eY (.mk a b c e' f') (.mk t y n d ks)=r;intro hq hs;rw[bJ,bJ] at hs;cases hr:(!ao (.ofNat i) but&&(h.many&&r)) with
  | true=>
   have h3:ao (.ofNat i) but=false∧h.many=true∧r=true:=by simpa using hr
   rw[h3.1,h3.2.1,h3.2.2] at hq;refine ALp.round (A:=vR (am a b c (ak e') (ap f')) r) (V2:=oU (cR h A1 A2 A3 Ge R P D RM) (ap l) t y n (ak d) (ap ks) but (i+1)) (F:=jh true) (lk:=[(0,0),(1,1)]) (lk':=[]) base0 ar (LsOk.no rfl) .refl ?_;rw[AB];refine ai (fun _=>⟨cQ g1,ai (fun _=>ai (fun _=>⟨hs,ai (fun _=>⟨⟨⟨rflTwoQ,ad⟩,trivial,ad⟩,hq⟩) (fun e=> ?_)⟩) (fun e=> ?_)) (fun e=> ?_)⟩) (fun e=> ?_)
   ·rw[h3.2.2] at e;cases e
   ·rw[h3.2.1] at e;cases e
   ·rw[h3.1] at e;cases e
   ·have e:=ltInt_false.1 e;simp only[hlen,bh] at e;omega
  | false=>
   have hq':ac (h.many&&gI (.mk t y n d ks) but (l.drop (i+1)) (i+1)) (Q .ret (jh true).st) (Q (.exit 0) (jh false).st):=by
    have:(h.many&&(!ao (.ofNat i) but&&r||gI (.mk t y n d ks) but (l.drop (i+1)) (i+1)))=(h.many&&gI (.mk t y n d ks) but (l.drop (i+1)) (i+1)):=by
     revert hr;cases ao (.ofNat i) but<;>cases h.many<;>cases r<;>simp
    rw[this] at hq;exact hq
   have hnext:=ih hq';have hw:aj .i64 (Int.ofNat i+1)=Int.ofNat (i+1):=eI (by simp;omega) (by simp;omega);refine ALp.round (A:=vR (am a b c (ak e') (ap f')) r) (V2:=oU (cR h A1 A2 A3 Ge R P D RM) (ap l) t y n (ak d) (ap ks) but (i+1)) (F:=jh false) (lk:=[(0,0),(1,1)]) (lk':=[]) base0 ar (LsOk.no rfl) .refl ?_;rw[AB,hw];have hsee:((((I but=I but∧ag (I but)=true)∧(AV.bool false= .bool false∧true=true)∧(AV.fsl false (ap l)= .fsl false (ap l)∧ag (.fsl false (ap l))=true)∧(I (.ofNat (ab (ap l)))=I (.ofNat (ab (ap l)))∧ag (I (.ofNat (ab (ap l))))=true)∧(I (Int.ofNat (i+1))=I (.ofNat (i+1))∧ag (I (.ofNat (i+1)))=true)∧True))):=⟨rflTwoQ,rflTwoQ,⟨rfl,hG⟩,rflTwoQ,rflTwoQ,ad⟩;refine ai (fun _=>⟨cQ g1,ai (fun e1=>ai (fun e2=>⟨hs,ai (fun e3=> ?_) (fun _=> ?_)⟩) (fun _=> ?_)) (fun _=> ?_)⟩) (fun e=> ?_)
   ·rw[Bool.not_eq_true'] at e1;rw[e1,e2,e3] at hr;cases hr
   ·exact ⟨⟨hsee,⟨rflTwoQ,rflTwoQ,ad⟩,⟨rfl,hW⟩,⟨rfl,hK⟩,ad⟩,hnext⟩
   ·exact ⟨⟨hsee,⟨rflTwoQ,rflTwoQ,ad⟩,⟨rfl,hW⟩,⟨rfl,hK⟩,ad⟩,hnext⟩
   ·exact ⟨⟨hsee,⟨rflTwoQ,rflTwoQ,ad⟩,⟨rfl,hW⟩,⟨rfl,hK⟩,ad⟩,hnext⟩
   ·have e:=ltInt_false.1 e;simp only[hlen,bh] at e;omega
theorem Sr:bW (dI prog 72) 3=[aJ prog 72 3]:=by kernel_rfl
structure jQ (o:Ob) (k:Kd):Prop where
 n:(aA o k).length≤1000
 i:∀x∈aA o k,eX cv x
theorem Ha {k:Kd} (hk:lJ k=true) {o:Ob} (ho:cI o) (hg:jQ o k) (v:It) (but:Int):SC 72 [.agg (eb k),au o,aX v,I but] (.bool (jP o k v but)):=by
 have hs:=wl hk ho;have hcl:=wm k o (c:=[aX v,I but]) (by simp[ae,cG,ag]);have hW:=G9 k;rw[G8] at hcl hW⊢;obtain ⟨t,y,n,d,ks⟩:=v;rw[bJ] at hcl⊢;have hK:ae (am t y n (ak d) (ap ks))=true:=by have:=cG (.mk t y n d ks);exact this
 refine bQ (A:=aB [] [(3,GI (cR (e9 k) (f6 k) (f9 k) (gd k) (cM (mX k) (mY k)) (fP k) (fm k) (fD k) (eL k)) (ap (aA o k)) t y n (ak d) (ap ks) but (jP o k (.mk t y n d ks) but))] (fun _ _ _ _=>some (.val (.fsl false (ap (aA o k))))) [] []) base0 ar
  (aG (LsOk.at1 rfl Sr fun st Q hs=> .seen base0.glob hs.1 (Sq hW hg.n hg.i 0 (Nat.zero_le _) hs.2))) hcl rfl ?_
 simp only[au,ax] at hs⊢;rw[P1];refine ⟨hs,⟨⟨rflTwoQ,rflTwoQ,⟨rfl,iP _⟩,rflTwoQ,rflTwoQ,ad⟩,⟨rflTwoQ,rflTwoQ,ad⟩,⟨rfl,hW⟩,⟨rfl,hK⟩,ad⟩,ai (fun e=>by rw[e]) (fun e=>by rw[e])⟩
end
end Go.Proofs.YtjhggnebkfpgcaaGreatDoor
