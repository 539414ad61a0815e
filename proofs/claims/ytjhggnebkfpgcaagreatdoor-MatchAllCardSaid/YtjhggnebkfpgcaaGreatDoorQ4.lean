/- Cls, Cls2, Cus, Puts, Sems, Doer, Set. -/
import Derived.Test.YtjhggnebkfpgcaaGreatDoorQ3
import Derived.KernelRfl
namespace Go.Proofs.YtjhggnebkfpgcaaGreatDoor
set_option maxRecDepth 20000
open Go Go.RowKit
open Go.Proofs.Abs
noncomputable section
def itN:It→Int| .mk _ _ n _ _=>n
def itD:It→List UInt8| .mk _ _ _ d _=>d
def itK:It→List It| .mk _ _ _ _ k=>k
def dateAt (o:Ob):Nat→Dt
 |0=>o.d0
 |1=>o.d1
 |2=>o.d2
 |3=>o.d3
 |4=>o.d4
 |5=>o.d5
 |6=>o.d6
 |7=>o.d7
 |8=>o.d8
 |_=>o.d9
def setDate (o:Ob) (d:Dt):Nat→Ob
 |0=>{o with d0:=d}
 |1=>{o with d1:=d}
 |2=>{o with d2:=d}
 |3=>{o with d3:=d}
 |4=>{o with d4:=d}
 |5=>{o with d5:=d}
 |6=>{o with d6:=d}
 |7=>{o with d7:=d}
 |8=>{o with d8:=d}
 |_=>{o with d9:=d}
def txt (s:List UInt8):It:=vlV 7 0 s []
def numI (y n:Int):It:=vlV y n [] []
def prt (t y n:Int):It:= .mk t y n [] []
def whl (ks:List It):It:=vlV 1 0 [] ks
def lkI (l:Lk):It:=whl [prt 4325451 5 l.ty,.mk 4325452 7 0 l.id []]
def msgI:List UInt8→List It
 |[]=>[]
 |s::t=>[.mk 4325504 7 0 (s::t) []]
def whyI (o:Ob):It:=whl (prt 4325506 5 o.why::msgI o.msg)
def limI (o:Ob):It:=whl [prt 4325527 3 o.lt,prt 4325526 3 o.lc,prt 4325528 5 o.lu]
def oneL (b:Bool) (x:It):List It:=match b with
 |true=>[x]
 |false=>[]
def getK (o:Ob):Kd→List It
 | .uid=>[txt o.id]
 | .nam=>o.names.map txt
 | .typ=>[numI 5 o.ty]
 | .alg=>oneL (!beqInt o.alg 0) (numI 5 o.alg)
 | .len=>oneL (!beqInt o.len 0) (numI 2 o.len)
 | .mask=>[numI 2 o.mask]
 | .sta=>[numI 5 o.st]
 | .dat k=>oneL (dateAt o k).has (numI 9 (dateAt o k).t)
 | .why=>oneL (!beqInt o.why 0) (whyI o)
 | .lnk=>o.links.map lkI
 | .lim=>oneL o.lh (limI o)
 | .cus s=>(o.cust.filter fun c=>beqBytes c.name s).map fun c=>txt c.text
theorem closed_one {l:List AV} (h:closedAll l=true):closedAll [.agg l]=true:=by simp[closedAll,closedA,h]
theorem closed_fslA {f:Bool} {l:List AV} (h:closedAll l=true):closedA (.fsl f l)=true:=h
def inlG:List Nat:=[128,92,131,176]
def inlA:List Nat:=[124,132,133]
theorem g_uid (o:Ob) (M N L C:AV) (Q:AV→Prop):fnK Tryz.prog opts0 40 (aidJ [] [] noSem inlG []) 127 [.agg (obF o M N L C)] [] 0 (fun v _ _=>Q v)=
  (Q (AV.fsl true [AV.agg [I 4325387,I 7,I 0,AV.fsl false (toBytes o.1),AV.nilsl]])):=by kernel_rfl
theorem g_typ (o:Ob) (M N L C:AV) (Q:AV→Prop):fnK Tryz.prog opts0 40 (aidJ [] [] noSem inlG []) 130 [.agg (obF o M N L C)] [] 0 (fun v _ _=>Q v)=
  (Q (AV.fsl true [AV.agg [I 4325387,I 5,I o.2,AV.nilsl,AV.nilsl]])):=by kernel_rfl
theorem g_sta (o:Ob) (M N L C:AV) (Q:AV→Prop):fnK Tryz.prog opts0 40 (aidJ [] [] noSem inlG []) 134 [.agg (obF o M N L C)] [] 0 (fun v _ _=>Q v)=
  (Q (AV.fsl true [AV.agg [I 4325387,I 5,I o.7,AV.nilsl,AV.nilsl]])):=by kernel_rfl
theorem g_lim (o:Ob) (M N L C:AV) (Q:AV→Prop):fnK Tryz.prog opts0 40 (aidJ [] [] noSem inlG []) 184 [.agg (obF o M N L C)] [] 0 (fun v _ _=>Q v)=
  (mtB (!o.23) (Q AV.nilsl) (Q (AV.fsl true [AV.agg [I 4325387,I 1,I 0,AV.nilsl,AV.fsl true [AV.agg [I 4325527,I 3,I o.24,AV.nilsl,AV.nilsl],AV.agg [I 4325526,I 3,I o.25,AV.nilsl,AV.nilsl],AV.agg [I 4325528,I 5,I o.26,AV.nilsl,AV.nilsl]]]]))):=by kernel_rfl
abbrev yv29 (o:Ob):=[AV.agg [I 4325506,I 5,I o.18,AV.nilsl,AV.nilsl]]
abbrev yv7 (o:Ob):=[I 4325387,I 1,I 0,AV.nilsl,AV.rsl true 16 0 (lenN (yv29 o)+lenN [AV.agg [I 4325504,I 7,I 0,AV.fsl false (toBytes o.19),AV.nilsl]]) 5]
abbrev yv15 (o:Ob):=[I 4325387,I 1,I 0,AV.nilsl,AV.fsl true (yv29 o)]
abbrev yv20 (C L M N:AV) (o:Ob):=[(29,some (Blk.cells (yv7 o))),(25,some (Blk.cells (yv7 o))),(16,some (Blk.cells (flat (yv29 o)++flat [AV.agg [I 4325504,I 7,I 0,AV.fsl false (toBytes o.19),AV.nilsl]]))),(0,some (Blk.cells (obF o M N L C)))]
theorem g_why (o:Ob) (M N L C:AV) (Q:AV→Heap→Prop):fnK Tryz.prog opts0 40 (aidJ [] [] noSem inlG []) 138 [.agg (obF o M N L C)] [] 0 (fun v H _=>Q v H)=
  (mtB (!beqBytes o.19 []) (mtB (!!beqInt o.18 0) (Q AV.nilsl (yv20 C L M N o)) (Q (AV.fsl true [AV.agg (yv7 o)]) (yv20 C L M N o))) (mtB (!!beqInt o.18 0) (Q AV.nilsl [(21,some (Blk.cells (yv15 o))),(17,some (Blk.cells (yv15 o))),(0,some (Blk.cells (obF o M N L C)))]) (Q (AV.fsl true [AV.agg (yv15 o)]) [(21,some (Blk.cells (yv15 o))),(17,some (Blk.cells (yv15 o))),(0,some (Blk.cells (obF o M N L C)))]))):=by kernel_rfl
theorem g_alg (o:Ob) (M N L C:AV) (Q:AV→Prop):fnK Tryz.prog opts0 40 (aidJ [] [] noSem inlG inlA) 161 [.agg (obF o M N L C),.fptr [fnA 132] 0,.fptr [I 1] 0,.fptr [I 5] 0] [] 0 (fun v _ _=>Q v)=
  (mtB (!beqInt o.3 0) (Q (AV.fsl true [AV.agg [I 4325387,I 5,I o.3,AV.nilsl,AV.nilsl]])) (Q AV.nilsl)):=by kernel_rfl
theorem g_len (o:Ob) (M N L C:AV) (Q:AV→Prop):fnK Tryz.prog opts0 40 (aidJ [] [] noSem inlG inlA) 161 [.agg (obF o M N L C),.fptr [fnA 133] 0,.fptr [I 1] 0,.fptr [I 2] 0] [] 0 (fun v _ _=>Q v)=
  (mtB (!beqInt o.4 0) (Q (AV.fsl true [AV.agg [I 4325387,I 2,I o.4,AV.nilsl,AV.nilsl]])) (Q AV.nilsl)):=by kernel_rfl
theorem g_mask (o:Ob) (M N L C:AV) (Q:AV→Prop):fnK Tryz.prog opts0 40 (aidJ [] [] noSem inlG inlA) 161 [.agg (obF o M N L C),.fptr [fnA 124] 0,.fptr [I 0] 0,.fptr [I 2] 0] [] 0 (fun v _ _=>Q v)=
  (mtB (!beqInt o.5 0) (Q (AV.fsl true [AV.agg [I 4325387,I 2,I o.5,AV.nilsl,AV.nilsl]])) (Q (AV.fsl true [AV.agg [I 4325387,I 2,I o.5,AV.nilsl,AV.nilsl]]))):=by kernel_rfl
theorem g_dat0 (o:Ob) (M N L C:AV) (Q:AV→Prop):fnK Tryz.prog opts0 40 (aidJ [] [] noSem inlG []) 172 [.agg (obF o M N L C),.fptr [I 0] 0] [] 0 (fun v _ _=>Q v)=
  (mtB (!o.d0.1) (Q AV.nilsl) (Q (AV.fsl true [AV.agg [I 4325387,I 9,I o.d0.2,AV.nilsl,AV.nilsl]]))):=by kernel_rfl
theorem g_dat1 (o:Ob) (M N L C:AV) (Q:AV→Prop):fnK Tryz.prog opts0 40 (aidJ [] [] noSem inlG []) 172 [.agg (obF o M N L C),.fptr [I 1] 0] [] 0 (fun v _ _=>Q v)=
  (mtB (!o.d1.1) (Q AV.nilsl) (Q (AV.fsl true [AV.agg [I 4325387,I 9,I o.d1.2,AV.nilsl,AV.nilsl]]))):=by kernel_rfl
theorem g_dat2 (o:Ob) (M N L C:AV) (Q:AV→Prop):fnK Tryz.prog opts0 40 (aidJ [] [] noSem inlG []) 172 [.agg (obF o M N L C),.fptr [I 2] 0] [] 0 (fun v _ _=>Q v)=
  (mtB (!o.d2.1) (Q AV.nilsl) (Q (AV.fsl true [AV.agg [I 4325387,I 9,I o.d2.2,AV.nilsl,AV.nilsl]]))):=by kernel_rfl
theorem g_dat3 (o:Ob) (M N L C:AV) (Q:AV→Prop):fnK Tryz.prog opts0 40 (aidJ [] [] noSem inlG []) 172 [.agg (obF o M N L C),.fptr [I 3] 0] [] 0 (fun v _ _=>Q v)=
  (mtB (!o.d3.1) (Q AV.nilsl) (Q (AV.fsl true [AV.agg [I 4325387,I 9,I o.d3.2,AV.nilsl,AV.nilsl]]))):=by kernel_rfl
theorem g_dat4 (o:Ob) (M N L C:AV) (Q:AV→Prop):fnK Tryz.prog opts0 40 (aidJ [] [] noSem inlG []) 172 [.agg (obF o M N L C),.fptr [I 4] 0] [] 0 (fun v _ _=>Q v)=
  (mtB (!o.d4.1) (Q AV.nilsl) (Q (AV.fsl true [AV.agg [I 4325387,I 9,I o.d4.2,AV.nilsl,AV.nilsl]]))):=by kernel_rfl
theorem g_dat5 (o:Ob) (M N L C:AV) (Q:AV→Prop):fnK Tryz.prog opts0 40 (aidJ [] [] noSem inlG []) 172 [.agg (obF o M N L C),.fptr [I 5] 0] [] 0 (fun v _ _=>Q v)=
  (mtB (!o.d5.1) (Q AV.nilsl) (Q (AV.fsl true [AV.agg [I 4325387,I 9,I o.d5.2,AV.nilsl,AV.nilsl]]))):=by kernel_rfl
theorem g_dat6 (o:Ob) (M N L C:AV) (Q:AV→Prop):fnK Tryz.prog opts0 40 (aidJ [] [] noSem inlG []) 172 [.agg (obF o M N L C),.fptr [I 6] 0] [] 0 (fun v _ _=>Q v)=
  (mtB (!o.d6.1) (Q AV.nilsl) (Q (AV.fsl true [AV.agg [I 4325387,I 9,I o.d6.2,AV.nilsl,AV.nilsl]]))):=by kernel_rfl
theorem g_dat7 (o:Ob) (M N L C:AV) (Q:AV→Prop):fnK Tryz.prog opts0 40 (aidJ [] [] noSem inlG []) 172 [.agg (obF o M N L C),.fptr [I 7] 0] [] 0 (fun v _ _=>Q v)=
  (mtB (!o.d7.1) (Q AV.nilsl) (Q (AV.fsl true [AV.agg [I 4325387,I 9,I o.d7.2,AV.nilsl,AV.nilsl]]))):=by kernel_rfl
theorem g_dat8 (o:Ob) (M N L C:AV) (Q:AV→Prop):fnK Tryz.prog opts0 40 (aidJ [] [] noSem inlG []) 172 [.agg (obF o M N L C),.fptr [I 8] 0] [] 0 (fun v _ _=>Q v)=
  (mtB (!o.d8.1) (Q AV.nilsl) (Q (AV.fsl true [AV.agg [I 4325387,I 9,I o.d8.2,AV.nilsl,AV.nilsl]]))):=by kernel_rfl
theorem g_dat9 (o:Ob) (M N L C:AV) (Q:AV→Prop):fnK Tryz.prog opts0 40 (aidJ [] [] noSem inlG []) 172 [.agg (obF o M N L C),.fptr [I 9] 0] [] 0 (fun v _ _=>Q v)=
  (mtB (!o.d9.1) (Q AV.nilsl) (Q (AV.fsl true [AV.agg [I 4325387,I 9,I o.d9.2,AV.nilsl,AV.nilsl]]))):=by kernel_rfl
theorem gN0_fn (o:Ob) (M L C:AV) (Q:AV→Heap→Prop):fnK Tryz.prog opts0 40 (aidJ [] [] noSem inlG []) 166 [.agg (obF o M (.fsl false []) L C)] [] 0 (fun v H _=>Q v H)=
  (Q AV.nilsl [(0,some (Blk.cells (obF o M (AV.fsl false []) L C)))]):=by kernel_rfl
abbrev yv9 (a:List UInt8):=[I 4325387,I 7,I 0,AV.fsl false (toBytes a),AV.nilsl]
theorem gN1_fn (o:Ob) (M L C:AV) (a:List UInt8) (Q:AV→Heap→Prop):fnK Tryz.prog opts0 40 (aidJ [] [] noSem inlG []) 166 [.agg (obF o M (.fsl false [.str a]) L C)] [] 0 (fun v H _=>Q v H)=
  (Q (AV.rsl true 15 0 (lenN [AV.agg (yv9 a)]) 5) [(17,some (Blk.cells (yv9 a))),(15,some (Blk.cells (flat [AV.agg (yv9 a)]))),(0,some (Blk.cells (obF o M (AV.fsl false [AV.str a]) L C)))]):=by kernel_rfl
abbrev yv13 (b:List UInt8):=[I 4325387,I 7,I 0,AV.fsl false (toBytes b),AV.nilsl]
theorem gN2_fn (o:Ob) (M L C:AV) (a b:List UInt8) (Q:AV→Heap→Prop):fnK Tryz.prog opts0 40 (aidJ [] [] noSem inlG []) 166 [.agg (obF o M (.fsl false [.str a,.str b]) L C)] [] 0 (fun v H _=>Q v H)=
  (Q (AV.rsl true 32 0 (lenN [AV.agg (yv9 a)]+lenN [AV.agg (yv13 b)]) 5) [(34,some (Blk.cells (yv13 b))),(32,some (Blk.cells [I 4325387,I 7,I 0,AV.fsl false (toBytes a),AV.nilsl,I 4325387,I 7,I 0,AV.fsl false (toBytes b),AV.nilsl])),(17,some (Blk.cells (yv9 a))),(15,none),(0,some (Blk.cells (obF o M (AV.fsl false [AV.str a,AV.str b]) L C)))]):=by kernel_rfl
abbrev yv16 (c:List UInt8):=[I 4325387,I 7,I 0,AV.fsl false (toBytes c),AV.nilsl]
theorem gN3_fn (o:Ob) (M L C:AV) (a b c:List UInt8) (Q:AV→Heap→Prop):fnK Tryz.prog opts0 40 (aidJ [] [] noSem inlG []) 166 [.agg (obF o M (.fsl false [.str a,.str b,.str c]) L C)] [] 0 (fun v H _=>Q v H)=
  (Q (AV.rsl true 49 0 (lenN [AV.agg (yv9 a)]+lenN [AV.agg (yv13 b)]+lenN [AV.agg (yv16 c)]) 5) [(51,some (Blk.cells (yv16 c))),(49,some (Blk.cells [I 4325387,I 7,I 0,AV.fsl false (toBytes a),AV.nilsl,I 4325387,I 7,I 0,AV.fsl false (toBytes b),AV.nilsl,I 4325387,I 7,I 0,AV.fsl false (toBytes c),AV.nilsl])),(34,some (Blk.cells (yv13 b))),(32,none),(17,some (Blk.cells (yv9 a))),(15,none),(0,some (Blk.cells (obF o M (AV.fsl false [AV.str a,AV.str b,AV.str c]) L C)))]):=by kernel_rfl
abbrev yv18 (d:List UInt8):=[I 4325387,I 7,I 0,AV.fsl false (toBytes d),AV.nilsl]
theorem gN4_fn (o:Ob) (M L C:AV) (a b c d:List UInt8) (Q:AV→Heap→Prop):fnK Tryz.prog opts0 40 (aidJ [] [] noSem inlG []) 166 [.agg (obF o M (.fsl false [.str a,.str b,.str c,.str d]) L C)] [] 0 (fun v H _=>Q v H)=
  (Q (AV.rsl true 66 0 (lenN [AV.agg (yv9 a)]+lenN [AV.agg (yv13 b)]+lenN [AV.agg (yv16 c)]+lenN [AV.agg (yv18 d)]) 5) [(68,some (Blk.cells (yv18 d))),(66,some (Blk.cells [I 4325387,I 7,I 0,AV.fsl false (toBytes a),AV.nilsl,I 4325387,I 7,I 0,AV.fsl false (toBytes b),AV.nilsl,I 4325387,I 7,I 0,AV.fsl false (toBytes c),AV.nilsl,I 4325387,I 7,I 0,AV.fsl false (toBytes d),AV.nilsl])),(51,some (Blk.cells (yv16 c))),(49,none),(34,some (Blk.cells (yv13 b))),(32,none),(17,some (Blk.cells (yv9 a))),(15,none),(0,some (Blk.cells (obF o M (AV.fsl false [AV.str a,AV.str b,AV.str c,AV.str d]) L C)))]):=by kernel_rfl
abbrev yv25 (e:List UInt8):=[I 4325387,I 7,I 0,AV.fsl false (toBytes e),AV.nilsl]
theorem gN5_fn (o:Ob) (M L C:AV) (a b c d e:List UInt8) (Q:AV→Heap→Prop):fnK Tryz.prog opts0 40 (aidJ [] [] noSem inlG []) 166 [.agg (obF o M (.fsl false [.str a,.str b,.str c,.str d,.str e]) L C)] [] 0 (fun v H _=>Q v H)=
  (Q (AV.rsl true 83 0 (lenN [AV.agg (yv9 a)]+lenN [AV.agg (yv13 b)]+lenN [AV.agg (yv16 c)]+lenN [AV.agg (yv18 d)]+lenN [AV.agg (yv25 e)]) 5) [(85,some (Blk.cells (yv25 e))),(83,some (Blk.cells [I 4325387,I 7,I 0,AV.fsl false (toBytes a),AV.nilsl,I 4325387,I 7,I 0,AV.fsl false (toBytes b),AV.nilsl,I 4325387,I 7,I 0,AV.fsl false (toBytes c),AV.nilsl,I 4325387,I 7,I 0,AV.fsl false (toBytes d),AV.nilsl,I 4325387,I 7,I 0,AV.fsl false (toBytes e),AV.nilsl])),(68,some (Blk.cells (yv18 d))),(66,none),(51,some (Blk.cells (yv16 c))),(49,none),(34,some (Blk.cells (yv13 b))),(32,none),(17,some (Blk.cells (yv9 a))),(15,none),(0,some (Blk.cells (obF o M (AV.fsl false [AV.str a,AV.str b,AV.str c,AV.str d,AV.str e]) L C)))]):=by kernel_rfl
theorem gN6_fn (o:Ob) (M L C:AV) (a b c d e f:List UInt8) (Q:AV→Heap→Prop):fnK Tryz.prog opts0 40 (aidJ [] [] noSem inlG []) 166 [.agg (obF o M (.fsl false [.str a,.str b,.str c,.str d,.str e,.str f]) L C)] [] 0 (fun v H _=>Q v H)=
  (Q (AV.rsl true 100 0 (lenN [AV.agg (yv9 a)]+lenN [AV.agg (yv13 b)]+lenN [AV.agg (yv16 c)]+lenN [AV.agg (yv18 d)]+lenN [AV.agg (yv25 e)]+lenN [AV.agg [I 4325387,I 7,I 0,AV.fsl false (toBytes f),AV.nilsl]]) 5) [(102,some (Blk.cells [I 4325387,I 7,I 0,AV.fsl false (toBytes f),AV.nilsl])),(100,some (Blk.cells [I 4325387,I 7,I 0,AV.fsl false (toBytes a),AV.nilsl,I 4325387,I 7,I 0,AV.fsl false (toBytes b),AV.nilsl,I 4325387,I 7,I 0,AV.fsl false (toBytes c),AV.nilsl,I 4325387,I 7,I 0,AV.fsl false (toBytes d),AV.nilsl,I 4325387,I 7,I 0,AV.fsl false (toBytes e),AV.nilsl,I 4325387,I 7,I 0,AV.fsl false (toBytes f),AV.nilsl])),(85,some (Blk.cells (yv25 e))),(83,none),(68,some (Blk.cells (yv18 d))),(66,none),(51,some (Blk.cells (yv16 c))),(49,none),(34,some (Blk.cells (yv13 b))),(32,none),(17,some (Blk.cells (yv9 a))),(15,none),(0,some (Blk.cells (obF o M (AV.fsl false [AV.str a,AV.str b,AV.str c,AV.str d,AV.str e,AV.str f]) L C)))]):=by kernel_rfl
def rawN (x:List UInt8):AV:= .agg [I 4325387,I 7,I 0,.fsl false (toBytes x),.nilsl]
theorem closed_rawN:∀l:List (List UInt8),closedAll (l.map rawN)=true
 |[]=>rfl
 |x::r=>by
  rw[List.map_cons,closedAll,closed_rawN r]
  simp[rawN,closedA,closedAll]
theorem good_rawN:∀l:List (List UInt8),∀e∈l.map rawN,goodEl 5 e:=fun l e he=>by
 obtain ⟨x,_,rfl⟩:=List.mem_map.1 he
 exact ⟨rfl,rfl⟩
theorem wk_rawN (l:List (List UInt8)):Wk (.fsl false (l.map rawN)) (.fsl false (itAs (l.map txt))):=by
 rw[itAs_map,List.map_map]
 refine Wk.rows (WkE.map fun x _=> ?_)
 simp only[rawN,Function.comp,txt,vlV,itA,itAs,AV.cells]
 (repeat (first|exact Wk.refl _|exact WkL.refl _|exact Wk.nil|exact Wk.row|exact WkE.refl _|exact WkL.nil|exact WkE.nil|apply Wk.agg|apply Wk.tuple|apply WkL.cons|apply Wk.rows|apply WkE.consA))
theorem gN1_sem (o:Ob) {M L C:AV} (hM:closedA M=true) (hL:closedA L=true) (hC:closedA C=true) (a:List UInt8):SC 166 [.agg (obF o M (.fsl false [.str a]) L C)] (.fsl false (itAs ([a].map txt))):=by
 refine fnK_semX (A:=aidJ [] [] noSem inlG []) base0 aidJ_ok (fnLs_of (LsOk.no rfl)) (closed_one (closed_obF o hM (closed_fslA (closed_strs [a])) hL hC)) ?_
 rw[gN1_fn]
 exact ⟨.fsl false ([a].map rawN),Frz.out (Frz.row (c:=flat ([a].map rawN)) (es:=[a].map rawN) (by kernel_rfl) (by kernel_rfl) rfl (by kernel_rfl) (good_rawN _) (closed_rawN _)),closed_fslA (closed_rawN _),wk_rawN [a]⟩
theorem gN2_sem (o:Ob) {M L C:AV} (hM:closedA M=true) (hL:closedA L=true) (hC:closedA C=true) (a b:List UInt8):SC 166 [.agg (obF o M (.fsl false [.str a,.str b]) L C)] (.fsl false (itAs ([a,b].map txt))):=by
 refine fnK_semX (A:=aidJ [] [] noSem inlG []) base0 aidJ_ok (fnLs_of (LsOk.no rfl)) (closed_one (closed_obF o hM (closed_fslA (closed_strs [a,b])) hL hC)) ?_
 rw[gN2_fn]
 exact ⟨.fsl false ([a,b].map rawN),Frz.out (Frz.row (c:=flat ([a,b].map rawN)) (es:=[a,b].map rawN) (by kernel_rfl) (by kernel_rfl) rfl (by kernel_rfl) (good_rawN _) (closed_rawN _)),closed_fslA (closed_rawN _),wk_rawN [a,b]⟩
theorem gN3_sem (o:Ob) {M L C:AV} (hM:closedA M=true) (hL:closedA L=true) (hC:closedA C=true) (a b c:List UInt8):SC 166 [.agg (obF o M (.fsl false [.str a,.str b,.str c]) L C)] (.fsl false (itAs ([a,b,c].map txt))):=by
 refine fnK_semX (A:=aidJ [] [] noSem inlG []) base0 aidJ_ok (fnLs_of (LsOk.no rfl)) (closed_one (closed_obF o hM (closed_fslA (closed_strs [a,b,c])) hL hC)) ?_
 rw[gN3_fn]
 exact ⟨.fsl false ([a,b,c].map rawN),Frz.out (Frz.row (c:=flat ([a,b,c].map rawN)) (es:=[a,b,c].map rawN) (by kernel_rfl) (by kernel_rfl) rfl (by kernel_rfl) (good_rawN _) (closed_rawN _)),closed_fslA (closed_rawN _),wk_rawN [a,b,c]⟩
theorem gN4_sem (o:Ob) {M L C:AV} (hM:closedA M=true) (hL:closedA L=true) (hC:closedA C=true) (a b c d:List UInt8):SC 166 [.agg (obF o M (.fsl false [.str a,.str b,.str c,.str d]) L C)] (.fsl false (itAs ([a,b,c,d].map txt))):=by
 refine fnK_semX (A:=aidJ [] [] noSem inlG []) base0 aidJ_ok (fnLs_of (LsOk.no rfl)) (closed_one (closed_obF o hM (closed_fslA (closed_strs [a,b,c,d])) hL hC)) ?_
 rw[gN4_fn]
 exact ⟨.fsl false ([a,b,c,d].map rawN),Frz.out (Frz.row (c:=flat ([a,b,c,d].map rawN)) (es:=[a,b,c,d].map rawN) (by kernel_rfl) (by kernel_rfl) rfl (by kernel_rfl) (good_rawN _) (closed_rawN _)),closed_fslA (closed_rawN _),wk_rawN [a,b,c,d]⟩
theorem gN5_sem (o:Ob) {M L C:AV} (hM:closedA M=true) (hL:closedA L=true) (hC:closedA C=true) (a b c d e:List UInt8):SC 166 [.agg (obF o M (.fsl false [.str a,.str b,.str c,.str d,.str e]) L C)] (.fsl false (itAs ([a,b,c,d,e].map txt))):=by
 refine fnK_semX (A:=aidJ [] [] noSem inlG []) base0 aidJ_ok (fnLs_of (LsOk.no rfl)) (closed_one (closed_obF o hM (closed_fslA (closed_strs [a,b,c,d,e])) hL hC)) ?_
 rw[gN5_fn]
 exact ⟨.fsl false ([a,b,c,d,e].map rawN),Frz.out (Frz.row (c:=flat ([a,b,c,d,e].map rawN)) (es:=[a,b,c,d,e].map rawN) (by kernel_rfl) (by kernel_rfl) rfl (by kernel_rfl) (good_rawN _) (closed_rawN _)),closed_fslA (closed_rawN _),wk_rawN [a,b,c,d,e]⟩
theorem gN6_sem (o:Ob) {M L C:AV} (hM:closedA M=true) (hL:closedA L=true) (hC:closedA C=true) (a b c d e f:List UInt8):SC 166 [.agg (obF o M (.fsl false [.str a,.str b,.str c,.str d,.str e,.str f]) L C)] (.fsl false (itAs ([a,b,c,d,e,f].map txt))):=by
 refine fnK_semX (A:=aidJ [] [] noSem inlG []) base0 aidJ_ok (fnLs_of (LsOk.no rfl)) (closed_one (closed_obF o hM (closed_fslA (closed_strs [a,b,c,d,e,f])) hL hC)) ?_
 rw[gN6_fn]
 exact ⟨.fsl false ([a,b,c,d,e,f].map rawN),Frz.out (Frz.row (c:=flat ([a,b,c,d,e,f].map rawN)) (es:=[a,b,c,d,e,f].map rawN) (by kernel_rfl) (by kernel_rfl) rfl (by kernel_rfl) (good_rawN _) (closed_rawN _)),closed_fslA (closed_rawN _),wk_rawN [a,b,c,d,e,f]⟩
theorem gN0_sem (o:Ob) {M L C:AV} (hM:closedA M=true) (hL:closedA L=true) (hC:closedA C=true):SC 166 [.agg (obF o M (.fsl false []) L C)] (.fsl false []):=by
 refine fnK_semX (A:=aidJ [] [] noSem inlG []) base0 aidJ_ok (fnLs_of (LsOk.no rfl)) (closed_one (closed_obF o hM rfl hL hC)) ?_
 rw[gN0_fn]
 exact ⟨.nilsl,⟨1,rfl⟩,rfl,.nil⟩
theorem gN_sem (o:Ob) {M L C:AV} (hM:closedA M=true) (hL:closedA L=true) (hC:closedA C=true):∀l:List (List UInt8),l.length≤6→SC 166 [.agg (obF o M (.fsl false (l.map .str)) L C)] (.fsl false (itAs (l.map txt)))
 |[],_=>gN0_sem o hM hL hC
 |[a],_=>gN1_sem o hM hL hC a
 |[a,b],_=>gN2_sem o hM hL hC a b
 |[a,b,c],_=>gN3_sem o hM hL hC a b c
 |[a,b,c,d],_=>gN4_sem o hM hL hC a b c d
 |[a,b,c,d,e],_=>gN5_sem o hM hL hC a b c d e
 |[a,b,c,d,e,f],_=>gN6_sem o hM hL hC a b c d e f
 |_::_::_::_::_::_::_::_,h=>absurd h (by simp)
theorem gL0_fn (o:Ob) (M N C:AV) (Q:AV→Heap→Prop):fnK Tryz.prog opts0 40 (aidJ [] [] noSem inlG []) 178 [.agg (obF o M N (.fsl false []) C)] [] 0 (fun v H _=>Q v H)=
  (Q AV.nilsl [(0,some (Blk.cells (obF o M N (AV.fsl false []) C)))]):=by kernel_rfl
abbrev yv1 (a:Lk):=[AV.agg [I 4325451,I 5,I a.1,AV.nilsl,AV.nilsl],AV.agg [I 4325452,I 7,I 0,AV.fsl false (toBytes a.2),AV.nilsl]]
abbrev yv8 (a:Lk):=[I 4325387,I 1,I 0,AV.nilsl,AV.fsl true (yv1 a)]
abbrev yv19 (a:Lk):=(10,some (Blk.cells [I a.1,AV.str a.2]))
theorem gL1_fn (o:Ob) (M N C:AV) (a:Lk) (Q:AV→Heap→Prop):fnK Tryz.prog opts0 40 (aidJ [] [] noSem inlG []) 178 [.agg (obF o M N (.fsl false [lkA a]) C)] [] 0 (fun v H _=>Q v H)=
  (Q (AV.rsl true 23 0 (lenN [AV.agg (yv8 a)]) 5) [(25,some (Blk.cells (yv8 a))),(23,some (Blk.cells (flat [AV.agg (yv8 a)]))),(yv19 a),(0,some (Blk.cells (obF o M N (AV.fsl false [AV.agg [I a.1,AV.str a.2]]) C)))]):=by kernel_rfl
abbrev yv2 (b:Lk):=[AV.agg [I 4325451,I 5,I b.1,AV.nilsl,AV.nilsl],AV.agg [I 4325452,I 7,I 0,AV.fsl false (toBytes b.2),AV.nilsl]]
abbrev yv10 (b:Lk):=[I 4325387,I 1,I 0,AV.nilsl,AV.fsl true (yv2 b)]
abbrev yv23 (b:Lk):=(34,some (Blk.cells [I b.1,AV.str b.2]))
theorem gL2_fn (o:Ob) (M N C:AV) (a b:Lk) (Q:AV→Heap→Prop):fnK Tryz.prog opts0 40 (aidJ [] [] noSem inlG []) 178 [.agg (obF o M N (.fsl false [lkA a,lkA b]) C)] [] 0 (fun v H _=>Q v H)=
  (Q (AV.rsl true 47 0 (lenN [AV.agg (yv8 a)]+lenN [AV.agg (yv10 b)]) 5) [(49,some (Blk.cells (yv10 b))),(47,some (Blk.cells [I 4325387,I 1,I 0,AV.nilsl,AV.fsl true (yv1 a),I 4325387,I 1,I 0,AV.nilsl,AV.fsl true (yv2 b)])),(yv23 b),(25,some (Blk.cells (yv8 a))),(23,none),(yv19 a),(0,some (Blk.cells (obF o M N (AV.fsl false [AV.agg [I a.1,AV.str a.2],AV.agg [I b.1,AV.str b.2]]) C)))]):=by kernel_rfl
abbrev yv3 (c:Lk):=[AV.agg [I 4325451,I 5,I c.1,AV.nilsl,AV.nilsl],AV.agg [I 4325452,I 7,I 0,AV.fsl false (toBytes c.2),AV.nilsl]]
abbrev yv12 (c:Lk):=[I 4325387,I 1,I 0,AV.nilsl,AV.fsl true (yv3 c)]
abbrev yv24 (c:Lk):=(58,some (Blk.cells [I c.1,AV.str c.2]))
theorem gL3_fn (o:Ob) (M N C:AV) (a b c:Lk) (Q:AV→Heap→Prop):fnK Tryz.prog opts0 40 (aidJ [] [] noSem inlG []) 178 [.agg (obF o M N (.fsl false [lkA a,lkA b,lkA c]) C)] [] 0 (fun v H _=>Q v H)=
  (Q (AV.rsl true 71 0 (lenN [AV.agg (yv8 a)]+lenN [AV.agg (yv10 b)]+lenN [AV.agg (yv12 c)]) 5) [(73,some (Blk.cells (yv12 c))),(71,some (Blk.cells [I 4325387,I 1,I 0,AV.nilsl,AV.fsl true (yv1 a),I 4325387,I 1,I 0,AV.nilsl,AV.fsl true (yv2 b),I 4325387,I 1,I 0,AV.nilsl,AV.fsl true (yv3 c)])),(yv24 c),(49,some (Blk.cells (yv10 b))),(47,none),(yv23 b),(25,some (Blk.cells (yv8 a))),(23,none),(yv19 a),(0,some (Blk.cells (obF o M N (AV.fsl false [AV.agg [I a.1,AV.str a.2],AV.agg [I b.1,AV.str b.2],AV.agg [I c.1,AV.str c.2]]) C)))]):=by kernel_rfl
abbrev yv4 (d:Lk):=[AV.agg [I 4325451,I 5,I d.1,AV.nilsl,AV.nilsl],AV.agg [I 4325452,I 7,I 0,AV.fsl false (toBytes d.2),AV.nilsl]]
abbrev yv14 (d:Lk):=[I 4325387,I 1,I 0,AV.nilsl,AV.fsl true (yv4 d)]
abbrev yv26 (d:Lk):=(82,some (Blk.cells [I d.1,AV.str d.2]))
theorem gL4_fn (o:Ob) (M N C:AV) (a b c d:Lk) (Q:AV→Heap→Prop):fnK Tryz.prog opts0 40 (aidJ [] [] noSem inlG []) 178 [.agg (obF o M N (.fsl false [lkA a,lkA b,lkA c,lkA d]) C)] [] 0 (fun v H _=>Q v H)=
  (Q (AV.rsl true 95 0 (lenN [AV.agg (yv8 a)]+lenN [AV.agg (yv10 b)]+lenN [AV.agg (yv12 c)]+lenN [AV.agg (yv14 d)]) 5) [(97,some (Blk.cells (yv14 d))),(95,some (Blk.cells [I 4325387,I 1,I 0,AV.nilsl,AV.fsl true (yv1 a),I 4325387,I 1,I 0,AV.nilsl,AV.fsl true (yv2 b),I 4325387,I 1,I 0,AV.nilsl,AV.fsl true (yv3 c),I 4325387,I 1,I 0,AV.nilsl,AV.fsl true (yv4 d)])),(yv26 d),(73,some (Blk.cells (yv12 c))),(71,none),(yv24 c),(49,some (Blk.cells (yv10 b))),(47,none),(yv23 b),(25,some (Blk.cells (yv8 a))),(23,none),(yv19 a),(0,some (Blk.cells (obF o M N (AV.fsl false [AV.agg [I a.1,AV.str a.2],AV.agg [I b.1,AV.str b.2],AV.agg [I c.1,AV.str c.2],AV.agg [I d.1,AV.str d.2]]) C)))]):=by kernel_rfl
abbrev yv5 (e:Lk):=[AV.agg [I 4325451,I 5,I e.1,AV.nilsl,AV.nilsl],AV.agg [I 4325452,I 7,I 0,AV.fsl false (toBytes e.2),AV.nilsl]]
abbrev yv17 (e:Lk):=[I 4325387,I 1,I 0,AV.nilsl,AV.fsl true (yv5 e)]
abbrev yv28 (e:Lk):=(106,some (Blk.cells [I e.1,AV.str e.2]))
theorem gL5_fn (o:Ob) (M N C:AV) (a b c d e:Lk) (Q:AV→Heap→Prop):fnK Tryz.prog opts0 40 (aidJ [] [] noSem inlG []) 178 [.agg (obF o M N (.fsl false [lkA a,lkA b,lkA c,lkA d,lkA e]) C)] [] 0 (fun v H _=>Q v H)=
  (Q (AV.rsl true 119 0 (lenN [AV.agg (yv8 a)]+lenN [AV.agg (yv10 b)]+lenN [AV.agg (yv12 c)]+lenN [AV.agg (yv14 d)]+lenN [AV.agg (yv17 e)]) 5) [(121,some (Blk.cells (yv17 e))),(119,some (Blk.cells [I 4325387,I 1,I 0,AV.nilsl,AV.fsl true (yv1 a),I 4325387,I 1,I 0,AV.nilsl,AV.fsl true (yv2 b),I 4325387,I 1,I 0,AV.nilsl,AV.fsl true (yv3 c),I 4325387,I 1,I 0,AV.nilsl,AV.fsl true (yv4 d),I 4325387,I 1,I 0,AV.nilsl,AV.fsl true (yv5 e)])),(yv28 e),(97,some (Blk.cells (yv14 d))),(95,none),(yv26 d),(73,some (Blk.cells (yv12 c))),(71,none),(yv24 c),(49,some (Blk.cells (yv10 b))),(47,none),(yv23 b),(25,some (Blk.cells (yv8 a))),(23,none),(yv19 a),(0,some (Blk.cells (obF o M N (AV.fsl false [AV.agg [I a.1,AV.str a.2],AV.agg [I b.1,AV.str b.2],AV.agg [I c.1,AV.str c.2],AV.agg [I d.1,AV.str d.2],AV.agg [I e.1,AV.str e.2]]) C)))]):=by kernel_rfl
abbrev yv6 (f:Lk):=[AV.agg [I 4325451,I 5,I f.1,AV.nilsl,AV.nilsl],AV.agg [I 4325452,I 7,I 0,AV.fsl false (toBytes f.2),AV.nilsl]]
abbrev yv22 (f:Lk):=[I 4325387,I 1,I 0,AV.nilsl,AV.fsl true (yv6 f)]
abbrev yv30 (f:Lk):=(130,some (Blk.cells [I f.1,AV.str f.2]))
theorem gL6_fn (o:Ob) (M N C:AV) (a b c d e f:Lk) (Q:AV→Heap→Prop):fnK Tryz.prog opts0 40 (aidJ [] [] noSem inlG []) 178 [.agg (obF o M N (.fsl false [lkA a,lkA b,lkA c,lkA d,lkA e,lkA f]) C)] [] 0 (fun v H _=>Q v H)=
  (Q (AV.rsl true 143 0 (lenN [AV.agg (yv8 a)]+lenN [AV.agg (yv10 b)]+lenN [AV.agg (yv12 c)]+lenN [AV.agg (yv14 d)]+lenN [AV.agg (yv17 e)]+lenN [AV.agg (yv22 f)]) 5) [(145,some (Blk.cells (yv22 f))),(143,some (Blk.cells [I 4325387,I 1,I 0,AV.nilsl,AV.fsl true (yv1 a),I 4325387,I 1,I 0,AV.nilsl,AV.fsl true (yv2 b),I 4325387,I 1,I 0,AV.nilsl,AV.fsl true (yv3 c),I 4325387,I 1,I 0,AV.nilsl,AV.fsl true (yv4 d),I 4325387,I 1,I 0,AV.nilsl,AV.fsl true (yv5 e),I 4325387,I 1,I 0,AV.nilsl,AV.fsl true (yv6 f)])),(yv30 f),(121,some (Blk.cells (yv17 e))),(119,none),(yv28 e),(97,some (Blk.cells (yv14 d))),(95,none),(yv26 d),(73,some (Blk.cells (yv12 c))),(71,none),(yv24 c),(49,some (Blk.cells (yv10 b))),(47,none),(yv23 b),(25,some (Blk.cells (yv8 a))),(23,none),(yv19 a),(0,some (Blk.cells (obF o M N (AV.fsl false [AV.agg [I a.1,AV.str a.2],AV.agg [I b.1,AV.str b.2],AV.agg [I c.1,AV.str c.2],AV.agg [I d.1,AV.str d.2],AV.agg [I e.1,AV.str e.2],AV.agg [I f.1,AV.str f.2]]) C)))]):=by kernel_rfl
abbrev yv11 (g:Lk):=[AV.agg [I 4325451,I 5,I g.1,AV.nilsl,AV.nilsl],AV.agg [I 4325452,I 7,I 0,AV.fsl false (toBytes g.2),AV.nilsl]]
abbrev yv27 (g:Lk):=[I 4325387,I 1,I 0,AV.nilsl,AV.fsl true (yv11 g)]
theorem gL7_fn (o:Ob) (M N C:AV) (a b c d e f g:Lk) (Q:AV→Heap→Prop):fnK Tryz.prog opts0 40 (aidJ [] [] noSem inlG []) 178 [.agg (obF o M N (.fsl false [lkA a,lkA b,lkA c,lkA d,lkA e,lkA f,lkA g]) C)] [] 0 (fun v H _=>Q v H)=
  (Q (AV.rsl true 167 0 (lenN [AV.agg (yv8 a)]+lenN [AV.agg (yv10 b)]+lenN [AV.agg (yv12 c)]+lenN [AV.agg (yv14 d)]+lenN [AV.agg (yv17 e)]+lenN [AV.agg (yv22 f)]+lenN [AV.agg (yv27 g)]) 5) [(169,some (Blk.cells (yv27 g))),(167,some (Blk.cells [I 4325387,I 1,I 0,AV.nilsl,AV.fsl true (yv1 a),I 4325387,I 1,I 0,AV.nilsl,AV.fsl true (yv2 b),I 4325387,I 1,I 0,AV.nilsl,AV.fsl true (yv3 c),I 4325387,I 1,I 0,AV.nilsl,AV.fsl true (yv4 d),I 4325387,I 1,I 0,AV.nilsl,AV.fsl true (yv5 e),I 4325387,I 1,I 0,AV.nilsl,AV.fsl true (yv6 f),I 4325387,I 1,I 0,AV.nilsl,AV.fsl true (yv11 g)])),(154,some (Blk.cells [I g.1,AV.str g.2])),(145,some (Blk.cells (yv22 f))),(143,none),(yv30 f),(121,some (Blk.cells (yv17 e))),(119,none),(yv28 e),(97,some (Blk.cells (yv14 d))),(95,none),(yv26 d),(73,some (Blk.cells (yv12 c))),(71,none),(yv24 c),(49,some (Blk.cells (yv10 b))),(47,none),(yv23 b),(25,some (Blk.cells (yv8 a))),(23,none),(yv19 a),(0,some (Blk.cells (obF o M N (AV.fsl false [AV.agg [I a.1,AV.str a.2],AV.agg [I b.1,AV.str b.2],AV.agg [I c.1,AV.str c.2],AV.agg [I d.1,AV.str d.2],AV.agg [I e.1,AV.str e.2],AV.agg [I f.1,AV.str f.2],AV.agg [I g.1,AV.str g.2]]) C)))]):=by kernel_rfl
abbrev yv21 (h:Lk):=[AV.agg [I 4325451,I 5,I h.1,AV.nilsl,AV.nilsl],AV.agg [I 4325452,I 7,I 0,AV.fsl false (toBytes h.2),AV.nilsl]]
theorem gL8_fn (o:Ob) (M N C:AV) (a b c d e f g h:Lk) (Q:AV→Heap→Prop):fnK Tryz.prog opts0 40 (aidJ [] [] noSem inlG []) 178 [.agg (obF o M N (.fsl false [lkA a,lkA b,lkA c,lkA d,lkA e,lkA f,lkA g,lkA h]) C)] [] 0 (fun v H _=>Q v H)=
  (Q (AV.rsl true 191 0 (lenN [AV.agg (yv8 a)]+lenN [AV.agg (yv10 b)]+lenN [AV.agg (yv12 c)]+lenN [AV.agg (yv14 d)]+lenN [AV.agg (yv17 e)]+lenN [AV.agg (yv22 f)]+lenN [AV.agg (yv27 g)]+lenN [AV.agg [I 4325387,I 1,I 0,AV.nilsl,AV.fsl true (yv21 h)]]) 5) [(193,some (Blk.cells [I 4325387,I 1,I 0,AV.nilsl,AV.fsl true (yv21 h)])),(191,some (Blk.cells [I 4325387,I 1,I 0,AV.nilsl,AV.fsl true (yv1 a),I 4325387,I 1,I 0,AV.nilsl,AV.fsl true (yv2 b),I 4325387,I 1,I 0,AV.nilsl,AV.fsl true (yv3 c),I 4325387,I 1,I 0,AV.nilsl,AV.fsl true (yv4 d),I 4325387,I 1,I 0,AV.nilsl,AV.fsl true (yv5 e),I 4325387,I 1,I 0,AV.nilsl,AV.fsl true (yv6 f),I 4325387,I 1,I 0,AV.nilsl,AV.fsl true (yv11 g),I 4325387,I 1,I 0,AV.nilsl,AV.fsl true (yv21 h)])),(178,some (Blk.cells [I h.1,AV.str h.2])),(169,some (Blk.cells (yv27 g))),(167,none),(154,some (Blk.cells [I g.1,AV.str g.2])),(145,some (Blk.cells (yv22 f))),(143,none),(yv30 f),(121,some (Blk.cells (yv17 e))),(119,none),(yv28 e),(97,some (Blk.cells (yv14 d))),(95,none),(yv26 d),(73,some (Blk.cells (yv12 c))),(71,none),(yv24 c),(49,some (Blk.cells (yv10 b))),(47,none),(yv23 b),(25,some (Blk.cells (yv8 a))),(23,none),(yv19 a),(0,some (Blk.cells (obF o M N (AV.fsl false [AV.agg [I a.1,AV.str a.2],AV.agg [I b.1,AV.str b.2],AV.agg [I c.1,AV.str c.2],AV.agg [I d.1,AV.str d.2],AV.agg [I e.1,AV.str e.2],AV.agg [I f.1,AV.str f.2],AV.agg [I g.1,AV.str g.2],AV.agg [I h.1,AV.str h.2]]) C)))]):=by kernel_rfl
def rawL (x:Lk):AV:= .agg [I 4325387,I 1,I 0,.nilsl,.fsl true [.agg [I 4325451,I 5,I x.ty,.nilsl,.nilsl],.agg [I 4325452,I 7,I 0,.fsl false (toBytes x.id),.nilsl]]]
theorem closed_rawL:∀l:List (Lk),closedAll (l.map rawL)=true
 |[]=>rfl
 |x::r=>by
  rw[List.map_cons,closedAll,closed_rawL r]
  simp[rawL,closedA,closedAll]
theorem good_rawL:∀l:List (Lk),∀e∈l.map rawL,goodEl 5 e:=fun l e he=>by
 obtain ⟨x,_,rfl⟩:=List.mem_map.1 he
 exact ⟨rfl,rfl⟩
theorem wk_rawL (l:List (Lk)):Wk (.fsl false (l.map rawL)) (.fsl false (itAs (l.map lkI))):=by
 rw[itAs_map,List.map_map]
 refine Wk.rows (WkE.map fun x _=> ?_)
 simp only[rawL,Function.comp,lkI,whl,prt,vlV,itA,itAs,AV.cells,toBytes]
 (repeat (first|exact Wk.refl _|exact WkL.refl _|exact Wk.nil|exact Wk.row|exact WkE.refl _|exact WkL.nil|exact WkE.nil|apply Wk.agg|apply Wk.tuple|apply WkL.cons|apply Wk.rows|apply WkE.consA))
theorem gL1_sem (o:Ob) {M N C:AV} (hM:closedA M=true) (hL:closedA N=true) (hC:closedA C=true) (a:Lk):SC 178 [.agg (obF o M N (.fsl false [lkA a]) C)] (.fsl false (itAs ([a].map lkI))):=by
 refine fnK_semX (A:=aidJ [] [] noSem inlG []) base0 aidJ_ok (fnLs_of (LsOk.no rfl)) (closed_one (closed_obF o hM hL (closed_fslA (closed_lks [a])) hC)) ?_
 rw[gL1_fn]
 exact ⟨.fsl false ([a].map rawL),Frz.out (Frz.row (c:=flat ([a].map rawL)) (es:=[a].map rawL) (by kernel_rfl) (by kernel_rfl) rfl (by kernel_rfl) (good_rawL _) (closed_rawL _)),closed_fslA (closed_rawL _),wk_rawL [a]⟩
theorem gL2_sem (o:Ob) {M N C:AV} (hM:closedA M=true) (hL:closedA N=true) (hC:closedA C=true) (a b:Lk):SC 178 [.agg (obF o M N (.fsl false [lkA a,lkA b]) C)] (.fsl false (itAs ([a,b].map lkI))):=by
 refine fnK_semX (A:=aidJ [] [] noSem inlG []) base0 aidJ_ok (fnLs_of (LsOk.no rfl)) (closed_one (closed_obF o hM hL (closed_fslA (closed_lks [a,b])) hC)) ?_
 rw[gL2_fn]
 exact ⟨.fsl false ([a,b].map rawL),Frz.out (Frz.row (c:=flat ([a,b].map rawL)) (es:=[a,b].map rawL) (by kernel_rfl) (by kernel_rfl) rfl (by kernel_rfl) (good_rawL _) (closed_rawL _)),closed_fslA (closed_rawL _),wk_rawL [a,b]⟩
theorem gL3_sem (o:Ob) {M N C:AV} (hM:closedA M=true) (hL:closedA N=true) (hC:closedA C=true) (a b c:Lk):SC 178 [.agg (obF o M N (.fsl false [lkA a,lkA b,lkA c]) C)] (.fsl false (itAs ([a,b,c].map lkI))):=by
 refine fnK_semX (A:=aidJ [] [] noSem inlG []) base0 aidJ_ok (fnLs_of (LsOk.no rfl)) (closed_one (closed_obF o hM hL (closed_fslA (closed_lks [a,b,c])) hC)) ?_
 rw[gL3_fn]
 exact ⟨.fsl false ([a,b,c].map rawL),Frz.out (Frz.row (c:=flat ([a,b,c].map rawL)) (es:=[a,b,c].map rawL) (by kernel_rfl) (by kernel_rfl) rfl (by kernel_rfl) (good_rawL _) (closed_rawL _)),closed_fslA (closed_rawL _),wk_rawL [a,b,c]⟩
theorem gL4_sem (o:Ob) {M N C:AV} (hM:closedA M=true) (hL:closedA N=true) (hC:closedA C=true) (a b c d:Lk):SC 178 [.agg (obF o M N (.fsl false [lkA a,lkA b,lkA c,lkA d]) C)] (.fsl false (itAs ([a,b,c,d].map lkI))):=by
 refine fnK_semX (A:=aidJ [] [] noSem inlG []) base0 aidJ_ok (fnLs_of (LsOk.no rfl)) (closed_one (closed_obF o hM hL (closed_fslA (closed_lks [a,b,c,d])) hC)) ?_
 rw[gL4_fn]
 exact ⟨.fsl false ([a,b,c,d].map rawL),Frz.out (Frz.row (c:=flat ([a,b,c,d].map rawL)) (es:=[a,b,c,d].map rawL) (by kernel_rfl) (by kernel_rfl) rfl (by kernel_rfl) (good_rawL _) (closed_rawL _)),closed_fslA (closed_rawL _),wk_rawL [a,b,c,d]⟩
theorem gL5_sem (o:Ob) {M N C:AV} (hM:closedA M=true) (hL:closedA N=true) (hC:closedA C=true) (a b c d e:Lk):SC 178 [.agg (obF o M N (.fsl false [lkA a,lkA b,lkA c,lkA d,lkA e]) C)] (.fsl false (itAs ([a,b,c,d,e].map lkI))):=by
 refine fnK_semX (A:=aidJ [] [] noSem inlG []) base0 aidJ_ok (fnLs_of (LsOk.no rfl)) (closed_one (closed_obF o hM hL (closed_fslA (closed_lks [a,b,c,d,e])) hC)) ?_
 rw[gL5_fn]
 exact ⟨.fsl false ([a,b,c,d,e].map rawL),Frz.out (Frz.row (c:=flat ([a,b,c,d,e].map rawL)) (es:=[a,b,c,d,e].map rawL) (by kernel_rfl) (by kernel_rfl) rfl (by kernel_rfl) (good_rawL _) (closed_rawL _)),closed_fslA (closed_rawL _),wk_rawL [a,b,c,d,e]⟩
theorem gL6_sem (o:Ob) {M N C:AV} (hM:closedA M=true) (hL:closedA N=true) (hC:closedA C=true) (a b c d e f:Lk):SC 178 [.agg (obF o M N (.fsl false [lkA a,lkA b,lkA c,lkA d,lkA e,lkA f]) C)] (.fsl false (itAs ([a,b,c,d,e,f].map lkI))):=by
 refine fnK_semX (A:=aidJ [] [] noSem inlG []) base0 aidJ_ok (fnLs_of (LsOk.no rfl)) (closed_one (closed_obF o hM hL (closed_fslA (closed_lks [a,b,c,d,e,f])) hC)) ?_
 rw[gL6_fn]
 exact ⟨.fsl false ([a,b,c,d,e,f].map rawL),Frz.out (Frz.row (c:=flat ([a,b,c,d,e,f].map rawL)) (es:=[a,b,c,d,e,f].map rawL) (by kernel_rfl) (by kernel_rfl) rfl (by kernel_rfl) (good_rawL _) (closed_rawL _)),closed_fslA (closed_rawL _),wk_rawL [a,b,c,d,e,f]⟩
theorem gL7_sem (o:Ob) {M N C:AV} (hM:closedA M=true) (hL:closedA N=true) (hC:closedA C=true) (a b c d e f g:Lk):SC 178 [.agg (obF o M N (.fsl false [lkA a,lkA b,lkA c,lkA d,lkA e,lkA f,lkA g]) C)] (.fsl false (itAs ([a,b,c,d,e,f,g].map lkI))):=by
 refine fnK_semX (A:=aidJ [] [] noSem inlG []) base0 aidJ_ok (fnLs_of (LsOk.no rfl)) (closed_one (closed_obF o hM hL (closed_fslA (closed_lks [a,b,c,d,e,f,g])) hC)) ?_
 rw[gL7_fn]
 exact ⟨.fsl false ([a,b,c,d,e,f,g].map rawL),Frz.out (Frz.row (c:=flat ([a,b,c,d,e,f,g].map rawL)) (es:=[a,b,c,d,e,f,g].map rawL) (by kernel_rfl) (by kernel_rfl) rfl (by kernel_rfl) (good_rawL _) (closed_rawL _)),closed_fslA (closed_rawL _),wk_rawL [a,b,c,d,e,f,g]⟩
theorem gL8_sem (o:Ob) {M N C:AV} (hM:closedA M=true) (hL:closedA N=true) (hC:closedA C=true) (a b c d e f g h:Lk):SC 178 [.agg (obF o M N (.fsl false [lkA a,lkA b,lkA c,lkA d,lkA e,lkA f,lkA g,lkA h]) C)] (.fsl false (itAs ([a,b,c,d,e,f,g,h].map lkI))):=by
 refine fnK_semX (A:=aidJ [] [] noSem inlG []) base0 aidJ_ok (fnLs_of (LsOk.no rfl)) (closed_one (closed_obF o hM hL (closed_fslA (closed_lks [a,b,c,d,e,f,g,h])) hC)) ?_
 rw[gL8_fn]
 exact ⟨.fsl false ([a,b,c,d,e,f,g,h].map rawL),Frz.out (Frz.row (c:=flat ([a,b,c,d,e,f,g,h].map rawL)) (es:=[a,b,c,d,e,f,g,h].map rawL) (by kernel_rfl) (by kernel_rfl) rfl (by kernel_rfl) (good_rawL _) (closed_rawL _)),closed_fslA (closed_rawL _),wk_rawL [a,b,c,d,e,f,g,h]⟩
theorem gL0_sem (o:Ob) {M N C:AV} (hM:closedA M=true) (hL:closedA N=true) (hC:closedA C=true):SC 178 [.agg (obF o M N (.fsl false []) C)] (.fsl false []):=by
 refine fnK_semX (A:=aidJ [] [] noSem inlG []) base0 aidJ_ok (fnLs_of (LsOk.no rfl)) (closed_one (closed_obF o hM hL rfl hC)) ?_
 rw[gL0_fn]
 exact ⟨.nilsl,⟨1,rfl⟩,rfl,.nil⟩
theorem gL_sem (o:Ob) {M N C:AV} (hM:closedA M=true) (hL:closedA N=true) (hC:closedA C=true):∀l:List (Lk),l.length≤8→SC 178 [.agg (obF o M N (.fsl false (l.map lkA)) C)] (.fsl false (itAs (l.map lkI)))
 |[],_=>gL0_sem o hM hL hC
 |[a],_=>gL1_sem o hM hL hC a
 |[a,b],_=>gL2_sem o hM hL hC a b
 |[a,b,c],_=>gL3_sem o hM hL hC a b c
 |[a,b,c,d],_=>gL4_sem o hM hL hC a b c d
 |[a,b,c,d,e],_=>gL5_sem o hM hL hC a b c d e
 |[a,b,c,d,e,f],_=>gL6_sem o hM hL hC a b c d e f
 |[a,b,c,d,e,f,g],_=>gL7_sem o hM hL hC a b c d e f g
 |[a,b,c,d,e,f,g,h],_=>gL8_sem o hM hL hC a b c d e f g h
 |_::_::_::_::_::_::_::_::_::_,h=>absurd h (by simp)
end
end Go.Proofs.YtjhggnebkfpgcaaGreatDoor
namespace Go.Proofs.YtjhggnebkfpgcaaGreatDoor
open Go Go.RowKit
open Go.Proofs.Abs
def gfn:Kd→Nat
 | .uid=>127
 | .nam=>166
 | .typ=>130
 | .sta=>134
 | .dat _=>172
 | .why=>138
 | .lnk=>178
 | .lim=>184
 | .cus _=>150
 |_=>161
def gcp:Kd→List AV
 | .dat k=>[.fptr [nI k] 0]
 | .cus s=>[.fptr [.str s] 0]
 | .alg=>[.fptr [atF .alg] 0,.fptr [I 1] 0,.fptr [I 5] 0]
 | .len=>[.fptr [atF .len] 0,.fptr [I 1] 0,.fptr [I 2] 0]
 | .mask=>[.fptr [atF .mask] 0,.fptr [I 0] 0,.fptr [I 2] 0]
 |_=>[]
theorem getF_eq (k:Kd):getF k=fnC (gfn k) (gcp k):=by cases k<;>rfl
mutual
def txI:It→Prop
 | .mk _ _ _ d ks=>d∈texts∧txIs ks
def txIs:List It→Prop
 |[]=>True
 |k::r=>txI k∧txIs r
end
theorem txI_d {x:It} (h:txI x):itD x∈texts:=by cases x;exact h.1
end Go.Proofs.YtjhggnebkfpgcaaGreatDoor
namespace Go.Proofs.YtjhggnebkfpgcaaGreatDoor
set_option maxRecDepth 20000
open Go Go.RowKit
open Go.Proofs.Abs
noncomputable section
def cgV0 (O P:List AV) (i:Nat):View:=⟨[(4,.nilsl),(9,.fsl false P),(10,I (.ofNat (lenN P))),(11,I (.ofNat i))],[(2,.ptr 0 0)],[(0,.cells O,.whole)],2,27⟩
def cgV1 (O P:List AV) (i:Nat) (es:List AV):View:=⟨[(9,.fsl false P),(10,I (.ofNat (lenN P))),(11,I (.ofNat i))],[(2,.ptr 0 0),(4,.rsl true 1 0 i 5)],[(0,.cells O,.whole),(1,.cells es,.whole)],2,27⟩
def cgA (p:Nat) (n t:List UInt8):Aid:=aidJ [(4,0,.res (.fptr [nI p] 0)),(5,4,.res (.fptr [.str n,.str t] 0))] [] noSem [92] []
@[simp] abbrev yx3 (P:List AV):=(I (Int.ofNat (lenN P))=I (Int.ofNat (lenN P))∧closedA (I (Int.ofNat (lenN P)))=true)
@[simp] abbrev yx4 (P:List AV):=(AV.fsl false P=AV.fsl false P∧closedA (AV.fsl false P)=true)
@[simp] abbrev yx5 (C L M N:AV) (o:Ob):=((obF o M N L C)=(obF o M N L C)∧closedAll (obF o M N L C)=true)
@[simp] abbrev yx6:=(some 0=some 0∧0=0)
@[simp] abbrev yx1 (C L M N:AV) (P:List AV) (o:Ob):=(((AV.nilsl=AV.nilsl∧true=true)∧(yx4 P)∧(yx3 P)∧(I 0=I 0∧true=true)∧True)∧(yx6∧True)∧(yx5 C L M N o)∧True)
abbrev yx2 (t:List UInt8):=[AV.agg [I 4325387,I 7,I 0,AV.fsl false (toBytes t),AV.nilsl]]
theorem cg_0 (o:Ob) (M N L C:AV) (P:List AV) (p:Nat) (n t:List UInt8) (es:List AV) (Nx:Prop) (Q:AExit→St→Prop):wpK Tryz.prog opts0 40 (cgA p n t) (lpCode Tryz.prog 150 4) (cgV0 (obF o M N L C) P 0).st (roundP 0 [(0,0),(1,15)] (cgV1 (obF o M N L C) P 1 es) Nx [(0,0)] (cgV0 (obF o M N L C) P 0) Q)=
  (mtB (ltInt 0 (Int.ofNat (lenN P))) (indexAddrA Tryz.prog 190 (AV.fsl false P) (I 0)=some (AV.fptr [I (Int.ofNat p)] 0)∧indexAddrA Tryz.prog 29 C (I (Int.ofNat p))=some (AV.fptr [AV.str n,AV.str t] 0)∧(((yx4 P)∧(yx3 P)∧(I 1=I 1∧true=true)∧True)∧(yx6∧(true=true∧some 15=some 15∧0=0∧1=lenN (yx2 t)∧5=5)∧True)∧(yx5 C L M N o)∧(flat (yx2 t)=es∧closedAll es=true)∧True)∧Nx) ((yx1 C L M N P o)∧Q (AExit.exit 0) (cgV0 (obF o M N L C) P 0).st)):=by kernel_rfl
theorem cg_1 (o:Ob) (M N L C:AV) (P:List AV) (p i j:Nat) (n t:List UInt8) (es es':List AV) (Nx:Prop) (Q:AExit→St→Prop):wpK Tryz.prog opts0 40 (cgA p n t) (lpCode Tryz.prog 150 4) (cgV1 (obF o M N L C) P i es).st (roundP 0 [(0,0),(1,15)] (cgV1 (obF o M N L C) P j es') Nx [(0,0),(1,1)] (cgV1 (obF o M N L C) P i es) Q)=
  (mtB (ltInt (Int.ofNat i) (Int.ofNat (lenN P))) (indexAddrA Tryz.prog 190 (AV.fsl false P) (I (Int.ofNat i))=some (AV.fptr [I (Int.ofNat p)] 0)∧indexAddrA Tryz.prog 29 C (I (Int.ofNat p))=some (AV.fptr [AV.str n,AV.str t] 0)∧oblB (allSize 5 (yx2 t)&&(((i+lenN (yx2 t))*72).ble 140737488355328&&(allOne (flat (yx2 t))&&true))) (oblB ((lenN es).beq (i*5)) ((((yx4 P)∧(yx3 P)∧(I (wrapA IntKind.i64 (Int.ofNat i+1))=I (Int.ofNat j)∧closedA (I (Int.ofNat j))=true)∧True)∧(yx6∧(true=true∧some 15=some 15∧0=0∧j=i+lenN (yx2 t)∧5=5)∧True)∧(yx5 C L M N o)∧(es++flat (yx2 t)=es'∧closedAll es'=true)∧True)∧Nx))) ((((yx4 P)∧(yx3 P)∧(I (Int.ofNat i)=I (Int.ofNat i)∧closedA (I (Int.ofNat i))=true)∧True)∧(yx6∧(true=true∧some 1=some 1∧0=0∧i=i∧5=5)∧True)∧(yx5 C L M N o)∧(es=es∧closedAll es=true)∧True)∧Q (AExit.exit 0) (cgV1 (obF o M N L C) P i es).st)):=by kernel_rfl
def cgL (O P:List AV) (F:View):LoopS:=fun st Q=>seesK 0 [(0,0)] (cgV0 O P 0) st∧Q (.exit 0) F.st
theorem cg_fn0 (o:Ob) (M N L C:AV) (s:List UInt8) (P:List AV) (Q:AV→Heap→Prop):fnK Tryz.prog opts0 40 (aidJ [] [(4,cgL (obF o M N L C) P (cgV0 (obF o M N L C) P 0))] (manyS [(151,.fsl false P)]) [] []) 150 [.agg (obF o M N L C),.fptr [.str s] 0] [] 0 (fun v H _=>Q v H)=
  (SC 151 [AV.agg (obF o M N L C),AV.str s] (AV.fsl false P)∧(yx1 C L M N P o)∧Q AV.nilsl [(0,some (Blk.cells (obF o M N L C)))]):=by kernel_rfl
theorem cg_fn1 (o:Ob) (M N L C:AV) (s:List UInt8) (P:List AV) (es:List AV) (Q:AV→Heap→Prop):fnK Tryz.prog opts0 40 (aidJ [] [(4,cgL (obF o M N L C) P (cgV1 (obF o M N L C) P (lenN P) es))] (manyS [(151,.fsl false P)]) [] []) 150 [.agg (obF o M N L C),.fptr [.str s] 0] [] 0 (fun v H _=>Q v H)=
  (SC 151 [AV.agg (obF o M N L C),AV.str s] (AV.fsl false P)∧(yx1 C L M N P o)∧Q (AV.rsl true 1 0 (lenN P) 5) [(0,some (Blk.cells (obF o M N L C))),(1,some (Blk.cells es))]):=by kernel_rfl
theorem good_nIs:∀p:List Nat,∀e∈p.map nI,goodEl 1 e:=fun p e he=>by
 obtain ⟨x,_,rfl⟩:=List.mem_map.1 he
 exact ⟨rfl,rfl⟩
theorem places_sem (o:Ob) {M N L:AV} (s:List UInt8) (hM:closedA M=true) (hN:closedA N=true) (hL:closedA L=true) (hb:o.cust.length≤big):SC 151 [.agg (obF o M N L (cusA o)),.str s] (.fsl false ((placesL s o.cust 0).map nI)):=by
 have h0:=places_body0 o s hM hN hL hb
 revert h0
 generalize placesL s o.cust 0=p
 intro h0
 have hcl:closedAll [.agg (obF o M N L (cusA o)),.str s]=true:=by simp only[closedAll,closedA,closed_obF o hM hN hL (closed_cusA o),Bool.and_self]
 refine bodySem_sem base0.glob hcl h0 ?_
 cases p with
 |nil=>exact ⟨.nilsl,⟨1,rfl⟩,rfl,.nil⟩
 |cons a r=>exact ⟨.fsl false ((a::r).map nI),Frz.out (Frz.row (es:=(a::r).map nI) rfl rfl (flat_nIs _).symm (by simp) (good_nIs _) (closed_nIs _)),closed_fslA (closed_nIs _),.refl _⟩
def textAt (l:List Cu) (p:Nat):List UInt8:=match l[p]? with
 |some c=>c.text
 |none=>[]
theorem texts_at (s:List UInt8):∀ (l pre:List Cu),(placesL s l pre.length).map (textAt (pre++l))=(l.filter fun c=>beqBytes c.name s).map Cu.text
 |[],_=>rfl
 | c::r,pre=>by
  have ih:=texts_at s r (pre++[c])
  simp only[List.length_append,List.length_cons,List.length_nil,Nat.zero_add,List.append_assoc,List.cons_append,List.nil_append] at ih
  simp only[placesL]
  cases hc:beqBytes c.name s with
  |false=>simp only[List.filter_cons,hc,Bool.false_eq_true,if_false,ih]
  |true=>
   have:textAt (pre++c::r) pre.length=c.text:=by simp[textAt]
   simp only[List.filter_cons,hc,if_true,List.map_cons,ih,this]
theorem rawN_length (l:List (List UInt8)):(flat (l.map rawN)).length=l.length*5:=by
 induction l with
 |nil=>rfl
 |cons x r ih=>simp only[List.map_cons,flat,List.length_append,ih,rawN,AV.cells,List.length_cons,List.length_nil];omega
theorem closed_flatN (l:List (List UInt8)):closedAll (flat (l.map rawN))=true:=closed_flat (closed_rawN l) fun e he=>by
 obtain ⟨x,_,rfl⟩:=List.mem_map.1 he
 simp[rawN,AV.cells,closedAll,closedA]
theorem idxP {f:Bool} {l:List Nat} {i p:Nat} (hx:l[i]? =some p):indexAddrA Tryz.prog 190 (.fsl f (l.map nI)) (.int .i64 (.ofNat i))=some (.fptr [nI p] 0):=
 fsl_index (v:=nI p) (e:=3) (sz:=1) (by kernel_rfl) (by kernel_rfl) (by rw[List.getElem?_map,hx];rfl) rfl
def cgE (T:List (List UInt8)) (i:Nat):List AV:=flat ((T.take i).map rawN)
theorem cgE_succ {T:List (List UInt8)} {i:Nat} {x:List UInt8} (h:T[i]? =some x):cgE T i++flat [rawN x]=cgE T (i+1):=by
 rw[cgE,cgE,take_snoc h,List.map_append,flat_append]
 rfl
theorem cgE_len {T:List (List UInt8)} {i:Nat} (h:i≤T.length):(cgE T i).length=i*5:=by rw[cgE,rawN_length,List.length_take,Nat.min_eq_left h]
theorem cg_loop {o:Ob} {M N L:AV} {ps:List Nat} {Q:AExit→St→Prop} (hM:closedA M=true) (hN:closedA N=true) (hL:closedA L=true) (hps:∀p∈ps,p<o.cust.length) (hb:ps.length≤big)
  (hq:Q (.exit 0) (cgV1 (obF o M N L (cusA o)) (ps.map nI) ps.length (cgE (ps.map (textAt o.cust)) ps.length)).st):
  ∀i,i≤ps.length→(0<i→ALp Tryz.prog opts0.glob 0 (lpCode Tryz.prog 150 4) (cgV1 (obF o M N L (cusA o)) (ps.map nI) i (cgE (ps.map (textAt o.cust)) i)).st Q):=by
 have hO:=closed_obF o hM hN hL (closed_cusA o)
 have hP:=closed_nIs ps
 have hlen:lenN (ps.map nI)=ps.length:=by rw[lenN_eq,List.length_map]
 have hb:ps.length≤1099511627776:=hb
 have hE:∀i,closedAll (cgE (ps.map (textAt o.cust)) i)=true:=fun i=>closed_flatN _
 refine count_up _ (fun _=> ?_) (fun i hi ih h0=> ?_)
 ·refine ALp.round (A:=cgA 0 [] []) (V1:=cgV1 (obF o M N L (cusA o)) (ps.map nI) 0 []) (V2:=cgV1 (obF o M N L (cusA o)) (ps.map nI) 0 []) (F:=cgV1 (obF o M N L (cusA o)) (ps.map nI) ps.length (cgE (ps.map (textAt o.cust)) ps.length)) (lk:=[(0,0),(1,15)]) (lk':=[(0,0),(1,1)]) base0 aidJ_ok (LsOk.no rfl) .refl ?_
  rw[cg_1]
  refine mtB_of (fun h=> ?_) (fun _=>⟨⟨⟨⟨rfl,closed_fslA hP⟩,⟨rfl,rfl⟩,⟨rfl,rfl⟩,trivial⟩,⟨⟨rfl,rfl⟩,⟨rfl,rfl,rfl,rfl,rfl⟩,trivial⟩,⟨rfl,hO⟩,⟨rfl,hE _⟩,trivial⟩,hq⟩)
  have h:=ltInt_iff.1 h
  simp only[hlen,Int.ofNat_eq_natCast] at h
  omega
 ·have g1:=List.getElem?_eq_getElem hi
  have hp:=hps _ (List.getElem_mem hi)
  have hT:(ps.map (textAt o.cust))[i]? =some (textAt o.cust ps[i]):=by rw[List.getElem?_map,g1];rfl
  have hs:=cgE_succ hT
  revert g1 hp hs
  generalize ps[i]=p
  intro g1 hp hs
  have g2:=List.getElem?_eq_getElem hp
  have htx:textAt o.cust p=(o.cust[p]).text:=by simp[textAt,hp]
  rw[htx] at hs
  revert g2 hs
  generalize o.cust[p]=c
  intro hs g2
  have ih:=ih (by omega)
  refine ALp.round (A:=cgA p c.name c.text) (V1:=cgV1 (obF o M N L (cusA o)) (ps.map nI) (i+1) (cgE (ps.map (textAt o.cust)) (i+1))) (V2:=cgV1 (obF o M N L (cusA o)) (ps.map nI) (i+1) (cgE (ps.map (textAt o.cust)) (i+1))) (F:=cgV1 (obF o M N L (cusA o)) (ps.map nI) i (cgE (ps.map (textAt o.cust)) i)) (lk:=[(0,0),(1,15)]) (lk':=[(0,0),(1,1)]) base0 aidJ_ok (LsOk.no rfl) .refl ?_
  rw[cg_1]
  refine mtB_of (fun _=>⟨idxP g1,idxC g2,oblB_of ?_ (oblB_of ?_ ⟨⟨⟨⟨rfl,closed_fslA hP⟩,⟨rfl,rfl⟩,⟨?_,rfl⟩,trivial⟩,⟨⟨rfl,rfl⟩,⟨rfl,rfl,rfl,rfl,rfl⟩,trivial⟩,⟨rfl,hO⟩,⟨hs,hE _⟩,trivial⟩,ih⟩)⟩) (fun h=> ?_)
  ·have hi2:(i+1)*72≤140737488355328:=by omega
   simp only[Bool.and_eq_true,Nat.ble_eq]
   exact ⟨rfl,hi2,rfl,trivial⟩
  ·rw[beq_iff,lenN_eq,cgE_len (by rw[List.length_map];omega)]
  ·rw[wrapA_i64 (by simp;omega) (by simp;omega)];rfl
  ·have h:=ltInt_false.1 h
   simp only[hlen,Int.ofNat_eq_natCast] at h
   omega
theorem cg_at:loopsAt (fnCode Tryz.prog 150) 4=[lpCode Tryz.prog 150 4]:=by kernel_rfl
theorem g_cus_sem (o:Ob) (s:List UInt8) (hb:o.cust.length≤big):SC 150 [obA o,.fptr [.str s] 0] (.fsl false (itAs (getK o (.cus s)))):=by
 have hpl:=places_sem o s (closed_mat o) (closed_nam o) (closed_lnk o) hb
 have htx:=texts_at s o.cust []
 have hlt:=placesL_lt s o.cust 0
 have hln:=placesL_len s o.cust 0
 simp only[List.length_nil,List.nil_append] at htx
 have hget:itAs (getK o (.cus s))=itAs (((o.cust.filter fun c=>beqBytes c.name s).map Cu.text).map txt):=by rw[List.map_map];rfl
 rw[hget,←htx]
 clear hget htx
 revert hpl hlt hln
 generalize placesL s o.cust 0=ps
 intro hpl hlt hln
 have hps:∀p∈ps,p<o.cust.length:=fun p hp=>by have:=hlt p hp;omega
 have hO:=closed_obC o
 have hcl:closedAll [obA o,.fptr [.str s] 0]=true:=by simp only[closedAll,obA,closedA,hO,Bool.and_self]
 cases ps with
 | nil=>
  refine fnK_semX (A:=aidJ [] [(4,cgL (obC o) [] (cgV0 (obC o) [] 0))] (manyS [(151,.fsl false [])]) [] []) base0 aidJ_ok
   (fnLs_of (LsOk.at1 rfl cg_at fun st Q hs=> .seen base0.glob hs.1 ?_)) hcl ?_
  ·refine ALp.round (A:=cgA 0 [] []) (V1:=cgV1 (obC o) [] 1 []) (V2:=cgV1 (obC o) [] 1 []) (F:=cgV0 (obC o) [] 0) (lk:=[(0,0),(1,15)]) (lk':=[(0,0)]) base0 aidJ_ok (LsOk.no rfl) .refl ?_
   simp only[obC]
   rw[cg_0]
   refine mtB_of (fun h=>by cases h) (fun _=>⟨⟨⟨⟨rfl,rfl⟩,⟨rfl,rfl⟩,⟨rfl,rfl⟩,⟨rfl,rfl⟩,trivial⟩,⟨⟨rfl,rfl⟩,trivial⟩,⟨rfl,hO⟩,trivial⟩,hs.2⟩)
  ·simp only[obA,obC]
   rw[cg_fn0]
   exact ⟨hpl,⟨⟨⟨rfl,rfl⟩,⟨rfl,rfl⟩,⟨rfl,rfl⟩,⟨rfl,rfl⟩,trivial⟩,⟨⟨rfl,rfl⟩,trivial⟩,⟨rfl,hO⟩,trivial⟩,.nilsl,⟨1,rfl⟩,rfl,.nil⟩
 | cons p r=>
  have hlen:lenN ((p::r).map nI)=(p::r).length:=by rw[lenN_eq,List.length_map]
  have hP:=closed_nIs (p::r)
  have hb':(p::r).length≤big:=Nat.le_trans hln hb
  refine fnK_semX (A:=aidJ [] [(4,cgL (obC o) ((p::r).map nI) (cgV1 (obC o) ((p::r).map nI) (lenN ((p::r).map nI)) (cgE ((p::r).map (textAt o.cust)) (p::r).length)))] (manyS [(151,.fsl false ((p::r).map nI))]) [] []) base0 aidJ_ok
   (fnLs_of (LsOk.at1 rfl cg_at fun st Q hs=> .seen base0.glob hs.1 ?_)) hcl ?_
  ·have hp:=hps p (by simp)
   have g2:=List.getElem?_eq_getElem hp
   have htx:textAt o.cust p=(o.cust[p]).text:=by simp[textAt,hp]
   have hT:((p::r).map (textAt o.cust))[0]? =some (textAt o.cust p):=rfl
   have hs1:=cgE_succ hT
   rw[htx] at hs1
   revert g2 hs1
   generalize o.cust[p]=c
   intro g2 hs1
   have hs1:flat [rawN c.text]=cgE ((p::r).map (textAt o.cust)) 1:=hs1
   have hq:=hs.2
   rw[hlen] at hq
   refine ALp.round (A:=cgA p c.name c.text) (V1:=cgV1 (obC o) ((p::r).map nI) 1 (cgE ((p::r).map (textAt o.cust)) 1)) (V2:=cgV1 (obC o) ((p::r).map nI) 1 (cgE ((p::r).map (textAt o.cust)) 1)) (F:=cgV0 (obC o) ((p::r).map nI) 0) (lk:=[(0,0),(1,15)]) (lk':=[(0,0)]) base0 aidJ_ok (LsOk.no rfl) .refl ?_
   have hnext:=cg_loop (closed_mat o) (closed_nam o) (closed_lnk o) hps hb' hq 1 (by simp) (by omega)
   simp only[obC]
   rw[cg_0]
   refine mtB_of (fun _=>⟨idxP (i:=0) rfl,idxC g2,⟨⟨⟨rfl,closed_fslA hP⟩,⟨rfl,rfl⟩,⟨rfl,rfl⟩,trivial⟩,⟨⟨rfl,rfl⟩,⟨rfl,rfl,rfl,rfl,rfl⟩,trivial⟩,⟨rfl,hO⟩,⟨hs1,closed_flatN _⟩,trivial⟩,hnext⟩) (fun h=> ?_)
   have h:=ltInt_false.1 h
   simp only[hlen,Int.ofNat_eq_natCast,List.length_cons] at h
   omega
  ·simp only[obA,obC]
   rw[cg_fn1]
   refine ⟨hpl,⟨⟨⟨rfl,rfl⟩,⟨rfl,closed_fslA hP⟩,⟨rfl,rfl⟩,⟨rfl,rfl⟩,trivial⟩,⟨⟨rfl,rfl⟩,trivial⟩,⟨rfl,hO⟩,trivial⟩,.fsl false (((p::r).map (textAt o.cust)).map rawN),Frz.out (Frz.row (c:=cgE ((p::r).map (textAt o.cust)) (p::r).length) (es:=((p::r).map (textAt o.cust)).map rawN) rfl rfl ?_ ?_ (good_rawN _) (closed_rawN _)),closed_fslA (closed_rawN _),wk_rawN _⟩
   ·rw[cgE,List.take_of_length_le (by simp)]
   ·rw[hlen,List.length_map,List.length_map]
end
end Go.Proofs.YtjhggnebkfpgcaaGreatDoor
namespace Go.Proofs.YtjhggnebkfpgcaaGreatDoor
open Go Go.RowKit
open Go.Proofs.Abs
structure FitO (o:Ob):Prop where
 n:o.names.length≤6
 l:o.links.length≤8
 c:o.cust.length≤6
 m:o.mat.length≤big
def kdB:Kd→Bool
 | .dat k=>Nat.blt k 10
 |_=>true
theorem closed_o (o:Ob):closedAll [obA o]=true:=closed_one (closed_obC o)
theorem closed_oc (o:Ob) {c:List AV} (h:closedAll c=true):closedAll (obA o::c)=true:=by
 have:=closed_obC o
 simp only[closedAll,obA,closedA,this,h,Bool.and_self]
theorem g_uid_sem (o:Ob):SC 127 [obA o] (.fsl false (itAs (getK o .uid))):=by
 refine fnK_semE (A:=aidJ [] [] noSem inlG []) base0 aidJ_ok (fnLs_of (LsOk.no rfl)) (closed_o o) ?_
 simp only[obA,obC]
 rw[g_uid]
 refine ⟨by simp[closedAll,closedA], ?_⟩
 simp only[getK,txt,vlV,itAs,itA]
 (repeat (first|exact Wk.refl _|exact WkL.refl _|exact Wk.nil|exact Wk.row|exact WkE.refl _|exact WkL.nil|exact WkE.nil|apply Wk.agg|apply Wk.tuple|apply WkL.cons|apply Wk.rows|apply WkE.consA))
theorem g_typ_sem (o:Ob):SC 130 [obA o] (.fsl false (itAs (getK o .typ))):=by
 refine fnK_semE (A:=aidJ [] [] noSem inlG []) base0 aidJ_ok (fnLs_of (LsOk.no rfl)) (closed_o o) ?_
 simp only[obA,obC]
 rw[g_typ]
 refine ⟨by simp[closedAll,closedA], ?_⟩
 simp only[getK,numI,vlV,itAs,itA,toBytes]
 (repeat (first|exact Wk.refl _|exact WkL.refl _|exact Wk.nil|exact Wk.row|exact WkE.refl _|exact WkL.nil|exact WkE.nil|apply Wk.agg|apply Wk.tuple|apply WkL.cons|apply Wk.rows|apply WkE.consA))
theorem g_sta_sem (o:Ob):SC 134 [obA o] (.fsl false (itAs (getK o .sta))):=by
 refine fnK_semE (A:=aidJ [] [] noSem inlG []) base0 aidJ_ok (fnLs_of (LsOk.no rfl)) (closed_o o) ?_
 simp only[obA,obC]
 rw[g_sta]
 refine ⟨by simp[closedAll,closedA], ?_⟩
 simp only[getK,numI,vlV,itAs,itA,toBytes]
 (repeat (first|exact Wk.refl _|exact WkL.refl _|exact Wk.nil|exact Wk.row|exact WkE.refl _|exact WkL.nil|exact WkE.nil|apply Wk.agg|apply Wk.tuple|apply WkL.cons|apply Wk.rows|apply WkE.consA))
theorem g_alg_sem (o:Ob):SC 161 [obA o,.fptr [atF .alg] 0,.fptr [I 1] 0,.fptr [I 5] 0] (.fsl false (itAs (getK o .alg))):=by
 refine fnK_semE (A:=aidJ [] [] noSem inlG inlA) base0 aidJ_ok (fnLs_of (LsOk.no rfl)) (closed_oc o rfl) ?_
 simp only[obA,obC,atF]
 rw[g_alg]
 refine mtB_of (fun e=> ?_) (fun e=> ?_)
 all_goals
  refine ⟨by simp[closedAll,closedA], ?_⟩
  simp only[getK,oneL,numI,vlV,itAs,itA,toBytes,e]
  (repeat (first|exact Wk.refl _|exact WkL.refl _|exact Wk.nil|exact Wk.row|exact WkE.refl _|exact WkL.nil|exact WkE.nil|apply Wk.agg|apply Wk.tuple|apply WkL.cons|apply Wk.rows|apply WkE.consA))
theorem g_len_sem (o:Ob):SC 161 [obA o,.fptr [atF .len] 0,.fptr [I 1] 0,.fptr [I 2] 0] (.fsl false (itAs (getK o .len))):=by
 refine fnK_semE (A:=aidJ [] [] noSem inlG inlA) base0 aidJ_ok (fnLs_of (LsOk.no rfl)) (closed_oc o rfl) ?_
 simp only[obA,obC,atF]
 rw[g_len]
 refine mtB_of (fun e=> ?_) (fun e=> ?_)
 all_goals
  refine ⟨by simp[closedAll,closedA], ?_⟩
  simp only[getK,oneL,numI,vlV,itAs,itA,toBytes,e]
  (repeat (first|exact Wk.refl _|exact WkL.refl _|exact Wk.nil|exact Wk.row|exact WkE.refl _|exact WkL.nil|exact WkE.nil|apply Wk.agg|apply Wk.tuple|apply WkL.cons|apply Wk.rows|apply WkE.consA))
theorem g_mask_sem (o:Ob):SC 161 [obA o,.fptr [atF .mask] 0,.fptr [I 0] 0,.fptr [I 2] 0] (.fsl false (itAs (getK o .mask))):=by
 refine fnK_semE (A:=aidJ [] [] noSem inlG inlA) base0 aidJ_ok (fnLs_of (LsOk.no rfl)) (closed_oc o rfl) ?_
 simp only[obA,obC,atF]
 rw[g_mask]
 refine mtB_of (fun e=> ?_) (fun e=> ?_)
 all_goals
  refine ⟨by simp[closedAll,closedA], ?_⟩
  simp only[getK,numI,vlV,itAs,itA,toBytes]
  (repeat (first|exact Wk.refl _|exact WkL.refl _|exact Wk.nil|exact Wk.row|exact WkE.refl _|exact WkL.nil|exact WkE.nil|apply Wk.agg|apply Wk.tuple|apply WkL.cons|apply Wk.rows|apply WkE.consA))
theorem g_dat0_sem (o:Ob):SC 172 [obA o,.fptr [nI 0] 0] (.fsl false (itAs (getK o (.dat 0)))):=by
 refine fnK_semE (A:=aidJ [] [] noSem inlG []) base0 aidJ_ok (fnLs_of (LsOk.no rfl)) (closed_oc o rfl) ?_
 have h:=g_dat0 o (matA o) (namA o) (lnkA o) (cusA o) (endV (.fsl false (itAs (getK o (.dat 0)))))
 simp only[obA,obC]
 rw[show (nI 0:AV)=I 0 from rfl,h]
 refine mtB_of (fun e=> ?_) (fun e=> ?_)
 all_goals
  refine ⟨by simp[closedAll,closedA], ?_⟩
  first|rw[Bool.not_eq_true'] at e|rw[Bool.not_eq_false'] at e
  simp only[getK,oneL,dateAt,numI,vlV,itAs,itA,toBytes,e]
  (repeat (first|exact Wk.refl _|exact WkL.refl _|exact Wk.nil|exact Wk.row|exact WkE.refl _|exact WkL.nil|exact WkE.nil|apply Wk.agg|apply Wk.tuple|apply WkL.cons|apply Wk.rows|apply WkE.consA))
theorem g_dat1_sem (o:Ob):SC 172 [obA o,.fptr [nI 1] 0] (.fsl false (itAs (getK o (.dat 1)))):=by
 refine fnK_semE (A:=aidJ [] [] noSem inlG []) base0 aidJ_ok (fnLs_of (LsOk.no rfl)) (closed_oc o rfl) ?_
 have h:=g_dat1 o (matA o) (namA o) (lnkA o) (cusA o) (endV (.fsl false (itAs (getK o (.dat 1)))))
 simp only[obA,obC]
 rw[show (nI 1:AV)=I 1 from rfl,h]
 refine mtB_of (fun e=> ?_) (fun e=> ?_)
 all_goals
  refine ⟨by simp[closedAll,closedA], ?_⟩
  first|rw[Bool.not_eq_true'] at e|rw[Bool.not_eq_false'] at e
  simp only[getK,oneL,dateAt,numI,vlV,itAs,itA,toBytes,e]
  (repeat (first|exact Wk.refl _|exact WkL.refl _|exact Wk.nil|exact Wk.row|exact WkE.refl _|exact WkL.nil|exact WkE.nil|apply Wk.agg|apply Wk.tuple|apply WkL.cons|apply Wk.rows|apply WkE.consA))
theorem g_dat2_sem (o:Ob):SC 172 [obA o,.fptr [nI 2] 0] (.fsl false (itAs (getK o (.dat 2)))):=by
 refine fnK_semE (A:=aidJ [] [] noSem inlG []) base0 aidJ_ok (fnLs_of (LsOk.no rfl)) (closed_oc o rfl) ?_
 have h:=g_dat2 o (matA o) (namA o) (lnkA o) (cusA o) (endV (.fsl false (itAs (getK o (.dat 2)))))
 simp only[obA,obC]
 rw[show (nI 2:AV)=I 2 from rfl,h]
 refine mtB_of (fun e=> ?_) (fun e=> ?_)
 all_goals
  refine ⟨by simp[closedAll,closedA], ?_⟩
  first|rw[Bool.not_eq_true'] at e|rw[Bool.not_eq_false'] at e
  simp only[getK,oneL,dateAt,numI,vlV,itAs,itA,toBytes,e]
  (repeat (first|exact Wk.refl _|exact WkL.refl _|exact Wk.nil|exact Wk.row|exact WkE.refl _|exact WkL.nil|exact WkE.nil|apply Wk.agg|apply Wk.tuple|apply WkL.cons|apply Wk.rows|apply WkE.consA))
theorem g_dat3_sem (o:Ob):SC 172 [obA o,.fptr [nI 3] 0] (.fsl false (itAs (getK o (.dat 3)))):=by
 refine fnK_semE (A:=aidJ [] [] noSem inlG []) base0 aidJ_ok (fnLs_of (LsOk.no rfl)) (closed_oc o rfl) ?_
 have h:=g_dat3 o (matA o) (namA o) (lnkA o) (cusA o) (endV (.fsl false (itAs (getK o (.dat 3)))))
 simp only[obA,obC]
 rw[show (nI 3:AV)=I 3 from rfl,h]
 refine mtB_of (fun e=> ?_) (fun e=> ?_)
 all_goals
  refine ⟨by simp[closedAll,closedA], ?_⟩
  first|rw[Bool.not_eq_true'] at e|rw[Bool.not_eq_false'] at e
  simp only[getK,oneL,dateAt,numI,vlV,itAs,itA,toBytes,e]
  (repeat (first|exact Wk.refl _|exact WkL.refl _|exact Wk.nil|exact Wk.row|exact WkE.refl _|exact WkL.nil|exact WkE.nil|apply Wk.agg|apply Wk.tuple|apply WkL.cons|apply Wk.rows|apply WkE.consA))
theorem g_dat4_sem (o:Ob):SC 172 [obA o,.fptr [nI 4] 0] (.fsl false (itAs (getK o (.dat 4)))):=by
 refine fnK_semE (A:=aidJ [] [] noSem inlG []) base0 aidJ_ok (fnLs_of (LsOk.no rfl)) (closed_oc o rfl) ?_
 have h:=g_dat4 o (matA o) (namA o) (lnkA o) (cusA o) (endV (.fsl false (itAs (getK o (.dat 4)))))
 simp only[obA,obC]
 rw[show (nI 4:AV)=I 4 from rfl,h]
 refine mtB_of (fun e=> ?_) (fun e=> ?_)
 all_goals
  refine ⟨by simp[closedAll,closedA], ?_⟩
  first|rw[Bool.not_eq_true'] at e|rw[Bool.not_eq_false'] at e
  simp only[getK,oneL,dateAt,numI,vlV,itAs,itA,toBytes,e]
  (repeat (first|exact Wk.refl _|exact WkL.refl _|exact Wk.nil|exact Wk.row|exact WkE.refl _|exact WkL.nil|exact WkE.nil|apply Wk.agg|apply Wk.tuple|apply WkL.cons|apply Wk.rows|apply WkE.consA))
theorem g_dat5_sem (o:Ob):SC 172 [obA o,.fptr [nI 5] 0] (.fsl false (itAs (getK o (.dat 5)))):=by
 refine fnK_semE (A:=aidJ [] [] noSem inlG []) base0 aidJ_ok (fnLs_of (LsOk.no rfl)) (closed_oc o rfl) ?_
 have h:=g_dat5 o (matA o) (namA o) (lnkA o) (cusA o) (endV (.fsl false (itAs (getK o (.dat 5)))))
 simp only[obA,obC]
 rw[show (nI 5:AV)=I 5 from rfl,h]
 refine mtB_of (fun e=> ?_) (fun e=> ?_)
 all_goals
  refine ⟨by simp[closedAll,closedA], ?_⟩
  first|rw[Bool.not_eq_true'] at e|rw[Bool.not_eq_false'] at e
  simp only[getK,oneL,dateAt,numI,vlV,itAs,itA,toBytes,e]
  (repeat (first|exact Wk.refl _|exact WkL.refl _|exact Wk.nil|exact Wk.row|exact WkE.refl _|exact WkL.nil|exact WkE.nil|apply Wk.agg|apply Wk.tuple|apply WkL.cons|apply Wk.rows|apply WkE.consA))
theorem g_dat6_sem (o:Ob):SC 172 [obA o,.fptr [nI 6] 0] (.fsl false (itAs (getK o (.dat 6)))):=by
 refine fnK_semE (A:=aidJ [] [] noSem inlG []) base0 aidJ_ok (fnLs_of (LsOk.no rfl)) (closed_oc o rfl) ?_
 have h:=g_dat6 o (matA o) (namA o) (lnkA o) (cusA o) (endV (.fsl false (itAs (getK o (.dat 6)))))
 simp only[obA,obC]
 rw[show (nI 6:AV)=I 6 from rfl,h]
 refine mtB_of (fun e=> ?_) (fun e=> ?_)
 all_goals
  refine ⟨by simp[closedAll,closedA], ?_⟩
  first|rw[Bool.not_eq_true'] at e|rw[Bool.not_eq_false'] at e
  simp only[getK,oneL,dateAt,numI,vlV,itAs,itA,toBytes,e]
  (repeat (first|exact Wk.refl _|exact WkL.refl _|exact Wk.nil|exact Wk.row|exact WkE.refl _|exact WkL.nil|exact WkE.nil|apply Wk.agg|apply Wk.tuple|apply WkL.cons|apply Wk.rows|apply WkE.consA))
theorem g_dat7_sem (o:Ob):SC 172 [obA o,.fptr [nI 7] 0] (.fsl false (itAs (getK o (.dat 7)))):=by
 refine fnK_semE (A:=aidJ [] [] noSem inlG []) base0 aidJ_ok (fnLs_of (LsOk.no rfl)) (closed_oc o rfl) ?_
 have h:=g_dat7 o (matA o) (namA o) (lnkA o) (cusA o) (endV (.fsl false (itAs (getK o (.dat 7)))))
 simp only[obA,obC]
 rw[show (nI 7:AV)=I 7 from rfl,h]
 refine mtB_of (fun e=> ?_) (fun e=> ?_)
 all_goals
  refine ⟨by simp[closedAll,closedA], ?_⟩
  first|rw[Bool.not_eq_true'] at e|rw[Bool.not_eq_false'] at e
  simp only[getK,oneL,dateAt,numI,vlV,itAs,itA,toBytes,e]
  (repeat (first|exact Wk.refl _|exact WkL.refl _|exact Wk.nil|exact Wk.row|exact WkE.refl _|exact WkL.nil|exact WkE.nil|apply Wk.agg|apply Wk.tuple|apply WkL.cons|apply Wk.rows|apply WkE.consA))
theorem g_dat8_sem (o:Ob):SC 172 [obA o,.fptr [nI 8] 0] (.fsl false (itAs (getK o (.dat 8)))):=by
 refine fnK_semE (A:=aidJ [] [] noSem inlG []) base0 aidJ_ok (fnLs_of (LsOk.no rfl)) (closed_oc o rfl) ?_
 have h:=g_dat8 o (matA o) (namA o) (lnkA o) (cusA o) (endV (.fsl false (itAs (getK o (.dat 8)))))
 simp only[obA,obC]
 rw[show (nI 8:AV)=I 8 from rfl,h]
 refine mtB_of (fun e=> ?_) (fun e=> ?_)
 all_goals
  refine ⟨by simp[closedAll,closedA], ?_⟩
  first|rw[Bool.not_eq_true'] at e|rw[Bool.not_eq_false'] at e
  simp only[getK,oneL,dateAt,numI,vlV,itAs,itA,toBytes,e]
  (repeat (first|exact Wk.refl _|exact WkL.refl _|exact Wk.nil|exact Wk.row|exact WkE.refl _|exact WkL.nil|exact WkE.nil|apply Wk.agg|apply Wk.tuple|apply WkL.cons|apply Wk.rows|apply WkE.consA))
theorem g_dat9_sem (o:Ob):SC 172 [obA o,.fptr [nI 9] 0] (.fsl false (itAs (getK o (.dat 9)))):=by
 refine fnK_semE (A:=aidJ [] [] noSem inlG []) base0 aidJ_ok (fnLs_of (LsOk.no rfl)) (closed_oc o rfl) ?_
 have h:=g_dat9 o (matA o) (namA o) (lnkA o) (cusA o) (endV (.fsl false (itAs (getK o (.dat 9)))))
 simp only[obA,obC]
 rw[show (nI 9:AV)=I 9 from rfl,h]
 refine mtB_of (fun e=> ?_) (fun e=> ?_)
 all_goals
  refine ⟨by simp[closedAll,closedA], ?_⟩
  first|rw[Bool.not_eq_true'] at e|rw[Bool.not_eq_false'] at e
  simp only[getK,oneL,dateAt,numI,vlV,itAs,itA,toBytes,e]
  (repeat (first|exact Wk.refl _|exact WkL.refl _|exact Wk.nil|exact Wk.row|exact WkE.refl _|exact WkL.nil|exact WkE.nil|apply Wk.agg|apply Wk.tuple|apply WkL.cons|apply Wk.rows|apply WkE.consA))
theorem g_lim_sem (o:Ob):SC 184 [obA o] (.fsl false (itAs (getK o .lim))):=by
 refine fnK_semE (A:=aidJ [] [] noSem inlG []) base0 aidJ_ok (fnLs_of (LsOk.no rfl)) (closed_o o) ?_
 simp only[obA,obC]
 rw[g_lim]
 refine mtB_of (fun e=> ?_) (fun e=> ?_)
 all_goals
  refine ⟨by simp[closedAll,closedA], ?_⟩
  first|rw[Bool.not_eq_true'] at e|rw[Bool.not_eq_false'] at e
  simp only[getK,oneL,limI,whl,prt,vlV,itAs,itA,toBytes,e]
  (repeat (first|exact Wk.refl _|exact WkL.refl _|exact Wk.nil|exact Wk.row|exact WkE.refl _|exact WkL.nil|exact WkE.nil|apply Wk.agg|apply Wk.tuple|apply WkL.cons|apply Wk.rows|apply WkE.consA))
theorem g_why_sem (o:Ob):SC 138 [obA o] (.fsl false (itAs (getK o .why))):=by
 refine fnK_semX (A:=aidJ [] [] noSem inlG []) base0 aidJ_ok (fnLs_of (LsOk.no rfl)) (closed_o o) ?_
 simp only[obA,obC]
 rw[g_why]
 refine mtB_of (fun e=>mtB_of (fun e2=> ?_) (fun e2=> ?_)) (fun e=>mtB_of (fun e2=> ?_) (fun e2=> ?_))
 ·refine ⟨.nilsl,⟨1,rfl⟩,rfl, ?_⟩
  rw[Bool.not_eq_true'] at e2
  simp only[getK,oneL,e2,itAs]
  exact .nil
 ·rw[Bool.not_eq_false'] at e2
  have hm:msgI o.msg=[.mk 4325504 7 0 o.msg []]:=by
   cases hm:o.msg with
   |nil=>rw[hm] at e;cases e
   |cons a r=>rfl
  refine ⟨.fsl true [.agg [I 4325387,I 1,I 0,.nilsl,.fsl false [.agg [I 4325506,I 5,I o.why,.nilsl,.nilsl],.agg [I 4325504,I 7,I 0,.fsl false (toBytes o.msg),.nilsl]]]],Frz.out (Frz.fsl (FrzL.cons (Frz.agg (FrzL.cons (Frz.closed _ rfl) (FrzL.cons (Frz.closed _ rfl) (FrzL.cons (Frz.closed _ rfl) (FrzL.cons (Frz.closed _ rfl) (FrzL.cons (Frz.row (es:=[.agg [I 4325506,I 5,I o.why,.nilsl,.nilsl],.agg [I 4325504,I 7,I 0,.fsl false (toBytes o.msg),.nilsl]]) rfl rfl rfl rfl ?_ ?_) FrzL.nil)))))) FrzL.nil)), ?_, ?_⟩
  ·simp only[List.forall_mem_cons];exact ⟨⟨rfl,rfl⟩,⟨rfl,rfl⟩,fun _ h=>by cases h⟩
  ·simp[closedAll,closedA]
  ·simp[closedAll,closedA]
  ·simp only[getK,oneL,e2,whyI,hm,whl,prt,vlV,itAs,itA,toBytes]
   (repeat (first|exact Wk.refl _|exact WkL.refl _|exact Wk.nil|exact Wk.row|exact WkE.refl _|exact WkL.nil|exact WkE.nil|apply Wk.agg|apply Wk.tuple|apply WkL.cons|apply Wk.rows|apply WkE.consA))
 ·refine ⟨.nilsl,⟨1,rfl⟩,rfl, ?_⟩
  rw[Bool.not_eq_true'] at e2
  simp only[getK,oneL,e2,itAs]
  exact .nil
 ·rw[Bool.not_eq_false'] at e2
  have hm:msgI o.msg=[]:=by
   cases hm:o.msg with
   |nil=>rfl
   |cons a r=>rw[hm] at e;cases e
  refine ⟨_,Frz.out (Frz.closed _ ?_), ?_, ?_⟩
  ·simp[closedAll,closedA]
  ·simp[closedAll,closedA]
  ·simp only[getK,oneL,e2,whyI,hm,whl,prt,vlV,itAs,itA,toBytes]
   (repeat (first|exact Wk.refl _|exact WkL.refl _|exact Wk.nil|exact Wk.row|exact WkE.refl _|exact WkL.nil|exact WkE.nil|apply Wk.agg|apply Wk.tuple|apply WkL.cons|apply Wk.rows|apply WkE.consA))
theorem get_sem {k:Kd} (hk:kdB k=true) {o:Ob} (ho:FitO o):SC (gfn k) (obA o::gcp k) (.fsl false (itAs (getK o k))):=by
 cases k with
 |uid=>exact g_uid_sem o
 |nam=>exact gN_sem o (closed_mat o) (closed_lnk o) (closed_cusA o) o.names ho.n
 |typ=>exact g_typ_sem o
 |alg=>exact g_alg_sem o
 |len=>exact g_len_sem o
 |mask=>exact g_mask_sem o
 |sta=>exact g_sta_sem o
 |why=>exact g_why_sem o
 |lnk=>exact gL_sem o (closed_mat o) (closed_nam o) (closed_cusA o) o.links ho.l
 |lim=>exact g_lim_sem o
 |cus s=>exact g_cus_sem o s (by have:=ho.c;show _≤1099511627776;omega)
 |dat k=>
  match k,hk with
  |0,_=>exact g_dat0_sem o
  |1,_=>exact g_dat1_sem o
  |2,_=>exact g_dat2_sem o
  |3,_=>exact g_dat3_sem o
  |4,_=>exact g_dat4_sem o
  |5,_=>exact g_dat5_sem o
  |6,_=>exact g_dat6_sem o
  |7,_=>exact g_dat7_sem o
  |8,_=>exact g_dat8_sem o
  |9,_=>exact g_dat9_sem o
  |k+10,hk=>exact absurd (blt_iff.1 hk) (by omega)
def placeAt (o:Ob) (s:List UInt8) (i:Nat):Nat:=((placesL s o.cust 0++[o.cust.length])[i]?).getD 0
def kid (v:It) (i:Nat):It:=((itK v)[i]?).getD v
def putK (o:Ob) (i:Nat) (v:It):Kd→Ob
 | .nam=>{o with names:=putL o.names i (itD v)}
 | .alg=>{o with alg:=itN v}
 | .len=>{o with len:=itN v}
 | .mask=>{o with mask:=itN v}
 | .dat k=>setDate o ⟨true,itN v⟩ k
 | .lnk=>{o with links:=putL o.links i ⟨itN (kid v 0),itD (kid v 1)⟩}
 | .lim=>{o with lh:=true,lt:=itN (kid v 0),lc:=itN (kid v 1),lu:=itN (kid v 2)}
 | .cus s=>{o with cust:=putL o.cust (placeAt o s i) ⟨s,itD v⟩}
 |_=>o
def idxOk (o:Ob) (j:Nat):Kd→Prop
 | .nam=>j≤o.names.length∧j<6
 | .lnk=>j≤o.links.length∧j<8
 | .cus s=>j<(placesL s o.cust 0).length∨j=(placesL s o.cust 0).length∧o.cust.length<6
 |_=>True
theorem place_le {o:Ob} {s:List UInt8} {j:Nat} (h:j≤(placesL s o.cust 0).length):(placesL s o.cust 0++[o.cust.length])[j]? =some (placeAt o s j)∧placeAt o s j≤o.cust.length∧(j<(placesL s o.cust 0).length→placeAt o s j<o.cust.length):=by
 have hj:j<(placesL s o.cust 0++[o.cust.length]).length:=by simp;omega
 have e:=List.getElem?_eq_getElem hj
 have e2:(placesL s o.cust 0++[o.cust.length])[j]? =some (placeAt o s j):=by rw[e,placeAt,e];rfl
 refine ⟨e2, ?_,fun hlt=> ?_⟩
 ·have hm:=List.mem_of_getElem? e2
  rcases List.mem_append.1 hm with hm|hm
  ·have:=placesL_lt s o.cust 0 _ hm;omega
  ·simp at hm;omega
 ·rw[List.getElem?_append_left hlt] at e2
  have:=placesL_lt s o.cust 0 _ (List.mem_of_getElem? e2)
  omega
theorem rowT:isAggA Tryz.prog 89=some true:=by kernel_rfl
def hdK (k:Kd):RowH:=⟨nameK k,typeK k,manyK k,setK k⟩
theorem rowC_eq (k:Kd):rowC k=rowW (hdK k) (addK k) (modK k) (remK k) (getF k) (rightF k) (putF k) (dropF k) (roomF k):=rfl
theorem rowC_get (k:Kd):rowC k=rowW (hdK k) (addK k) (modK k) (remK k) (fnC (gfn k) (gcp k)) (rightF k) (putF k) (dropF k) (roomF k):=by rw[rowC_eq,getF_eq]
theorem closed_rowC (k:Kd):closedAll (rowC k)=true:=closed_row k
theorem closed_roc (k:Kd) (o:Ob) {c:List AV} (h:closedAll c=true):closedAll (.agg (rowC k)::obA o::c)=true:=by
 have h1:=closed_rowC k
 have h2:=closed_oc o h
 rw[closedAll,closedA,h1,h2];rfl
structure OkG (o:Ob) (k:Kd):Prop where
 n:(getK o k).length≤1000
 i:∀x∈getK o k,okI big x
def dt0:Dt:=⟨false,0⟩
def zO:Ob:=⟨[],0,0,0,0,[],0,dt0,dt0,dt0,dt0,dt0,dt0,dt0,dt0,dt0,dt0,0,[],[],[],[],false,0,0,0,false⟩
theorem atA_F (s:List UInt8) (i t y n:Int) (d:List UInt8) (ks:List It):atA ⟨s,i,.mk t y n d ks⟩= .agg (.str s::I i::itF t y n (toBytes d) (itAs ks)):=rfl
theorem rowO_some (k:Kd):rowO (some k)=fiT (rowC k):=rfl
theorem fits_row (k:Kd):fitsT Tryz.prog 89 (.agg (rowC k)) 12=true:=by
 have h:allOne (rowC k)=true:=by
  cases k with
  |dat k=>
   have h1:(addD k).one=true:=by unfold addD;split<;>rfl
   have h2:(remD k).one=true:=by unfold remD;split<;>rfl
   simp only[rowC,allOne,addK,modK,remK,h1,h2,getF,rightF,putF,dropF,roomF,fnA,fnC,one_str,one_int,one_bool,Bool.true_and,Bool.and_true]
   rfl
  |_=>rfl
 exact fits_agg rowT rfl h
inductive Wh where
 |nil|alw|young|used|full
end Go.Proofs.YtjhggnebkfpgcaaGreatDoor
