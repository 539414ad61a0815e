/- Cls, Cls2, Cus, Puts. -/
import Derived.Test.YtjhggnebkfpgcaaGreatDoorQ2
import Derived.KernelRfl
namespace Go.Proofs.YtjhggnebkfpgcaaGreatDoor
set_option maxRecDepth 20000
open Go Go.RowKit
open Go.Proofs.Abs
noncomputable section
def itN:It→Int| .mk _ _ n _ _=>n
def itD:It→List UInt8| .mk _ _ _ d _=>d
def itK:It→List It| .mk _ _ _ _ k=>k
def dateAt (o:Ob):Nat→Dt
 |0=>o.d0
 |1=>o.d1
 |2=>o.d2
 |3=>o.d3
 |4=>o.d4
 |5=>o.d5
 |6=>o.d6
 |7=>o.d7
 |8=>o.d8
 |_=>o.d9
def setDate (o:Ob) (d:Dt):Nat→Ob
 |0=>{o with d0:=d}
 |1=>{o with d1:=d}
 |2=>{o with d2:=d}
 |3=>{o with d3:=d}
 |4=>{o with d4:=d}
 |5=>{o with d5:=d}
 |6=>{o with d6:=d}
 |7=>{o with d7:=d}
 |8=>{o with d8:=d}
 |_=>{o with d9:=d}
def txt (s:List UInt8):It:=vlV 7 0 s []
def numI (y n:Int):It:=vlV y n [] []
def prt (t y n:Int):It:= .mk t y n [] []
def whl (ks:List It):It:=vlV 1 0 [] ks
def lkI (l:Lk):It:=whl [prt 4325451 5 l.ty,.mk 4325452 7 0 l.id []]
def msgI:List UInt8→List It
 |[]=>[]
 |s::t=>[.mk 4325504 7 0 (s::t) []]
def whyI (o:Ob):It:=whl (prt 4325506 5 o.why::msgI o.msg)
def limI (o:Ob):It:=whl [prt 4325527 3 o.lt,prt 4325526 3 o.lc,prt 4325528 5 o.lu]
def oneL (b:Bool) (x:It):List It:=match b with
 |true=>[x]
 |false=>[]
def getK (o:Ob):Kd→List It
 | .uid=>[txt o.id]
 | .nam=>o.names.map txt
 | .typ=>[numI 5 o.ty]
 | .alg=>oneL (!beqInt o.alg 0) (numI 5 o.alg)
 | .len=>oneL (!beqInt o.len 0) (numI 2 o.len)
 | .mask=>[numI 2 o.mask]
 | .sta=>[numI 5 o.st]
 | .dat k=>oneL (dateAt o k).has (numI 9 (dateAt o k).t)
 | .why=>oneL (!beqInt o.why 0) (whyI o)
 | .lnk=>o.links.map lkI
 | .lim=>oneL o.lh (limI o)
 | .cus s=>(o.cust.filter fun c=>beqBytes c.name s).map fun c=>txt c.text
theorem closed_one {l:List AV} (h:closedAll l=true):closedAll [.agg l]=true:=by simp[closedAll,closedA,h]
theorem closed_fslA {f:Bool} {l:List AV} (h:closedAll l=true):closedA (.fsl f l)=true:=h
def inlG:List Nat:=[128,92,131,176]
def inlA:List Nat:=[124,132,133]
theorem g_uid (o:Ob) (M N L C:AV) (Q:AV→Prop):fnK Tryz.prog opts0 40 (aidJ [] [] noSem inlG []) 127 [.agg (obF o M N L C)] [] 0 (fun v _ _=>Q v)=
  (Q (AV.fsl true [AV.agg [I 4325387,I 7,I 0,AV.fsl false (toBytes o.1),AV.nilsl]])):=by kernel_rfl
theorem g_typ (o:Ob) (M N L C:AV) (Q:AV→Prop):fnK Tryz.prog opts0 40 (aidJ [] [] noSem inlG []) 130 [.agg (obF o M N L C)] [] 0 (fun v _ _=>Q v)=
  (Q (AV.fsl true [AV.agg [I 4325387,I 5,I o.2,AV.nilsl,AV.nilsl]])):=by kernel_rfl
theorem g_sta (o:Ob) (M N L C:AV) (Q:AV→Prop):fnK Tryz.prog opts0 40 (aidJ [] [] noSem inlG []) 134 [.agg (obF o M N L C)] [] 0 (fun v _ _=>Q v)=
  (Q (AV.fsl true [AV.agg [I 4325387,I 5,I o.7,AV.nilsl,AV.nilsl]])):=by kernel_rfl
theorem g_lim (o:Ob) (M N L C:AV) (Q:AV→Prop):fnK Tryz.prog opts0 40 (aidJ [] [] noSem inlG []) 184 [.agg (obF o M N L C)] [] 0 (fun v _ _=>Q v)=
  (mtB (!o.23) (Q AV.nilsl) (Q (AV.fsl true [AV.agg [I 4325387,I 1,I 0,AV.nilsl,AV.fsl true [AV.agg [I 4325527,I 3,I o.24,AV.nilsl,AV.nilsl],AV.agg [I 4325526,I 3,I o.25,AV.nilsl,AV.nilsl],AV.agg [I 4325528,I 5,I o.26,AV.nilsl,AV.nilsl]]]]))):=by kernel_rfl
abbrev ym29 (o:Ob):=[AV.agg [I 4325506,I 5,I o.18,AV.nilsl,AV.nilsl]]
abbrev ym7 (o:Ob):=[I 4325387,I 1,I 0,AV.nilsl,AV.rsl true 16 0 (lenN (ym29 o)+lenN [AV.agg [I 4325504,I 7,I 0,AV.fsl false (toBytes o.19),AV.nilsl]]) 5]
abbrev ym15 (o:Ob):=[I 4325387,I 1,I 0,AV.nilsl,AV.fsl true (ym29 o)]
abbrev ym20 (C L M N:AV) (o:Ob):=[(29,some (Blk.cells (ym7 o))),(25,some (Blk.cells (ym7 o))),(16,some (Blk.cells (flat (ym29 o)++flat [AV.agg [I 4325504,I 7,I 0,AV.fsl false (toBytes o.19),AV.nilsl]]))),(0,some (Blk.cells (obF o M N L C)))]
theorem g_why (o:Ob) (M N L C:AV) (Q:AV→Heap→Prop):fnK Tryz.prog opts0 40 (aidJ [] [] noSem inlG []) 138 [.agg (obF o M N L C)] [] 0 (fun v H _=>Q v H)=
  (mtB (!beqBytes o.19 []) (mtB (!!beqInt o.18 0) (Q AV.nilsl (ym20 C L M N o)) (Q (AV.fsl true [AV.agg (ym7 o)]) (ym20 C L M N o))) (mtB (!!beqInt o.18 0) (Q AV.nilsl [(21,some (Blk.cells (ym15 o))),(17,some (Blk.cells (ym15 o))),(0,some (Blk.cells (obF o M N L C)))]) (Q (AV.fsl true [AV.agg (ym15 o)]) [(21,some (Blk.cells (ym15 o))),(17,some (Blk.cells (ym15 o))),(0,some (Blk.cells (obF o M N L C)))]))):=by kernel_rfl
theorem g_alg (o:Ob) (M N L C:AV) (Q:AV→Prop):fnK Tryz.prog opts0 40 (aidJ [] [] noSem inlG inlA) 161 [.agg (obF o M N L C),.fptr [fnA 132] 0,.fptr [I 1] 0,.fptr [I 5] 0] [] 0 (fun v _ _=>Q v)=
  (mtB (!beqInt o.3 0) (Q (AV.fsl true [AV.agg [I 4325387,I 5,I o.3,AV.nilsl,AV.nilsl]])) (Q AV.nilsl)):=by kernel_rfl
theorem g_len (o:Ob) (M N L C:AV) (Q:AV→Prop):fnK Tryz.prog opts0 40 (aidJ [] [] noSem inlG inlA) 161 [.agg (obF o M N L C),.fptr [fnA 133] 0,.fptr [I 1] 0,.fptr [I 2] 0] [] 0 (fun v _ _=>Q v)=
  (mtB (!beqInt o.4 0) (Q (AV.fsl true [AV.agg [I 4325387,I 2,I o.4,AV.nilsl,AV.nilsl]])) (Q AV.nilsl)):=by kernel_rfl
theorem g_mask (o:Ob) (M N L C:AV) (Q:AV→Prop):fnK Tryz.prog opts0 40 (aidJ [] [] noSem inlG inlA) 161 [.agg (obF o M N L C),.fptr [fnA 124] 0,.fptr [I 0] 0,.fptr [I 2] 0] [] 0 (fun v _ _=>Q v)=
  (mtB (!beqInt o.5 0) (Q (AV.fsl true [AV.agg [I 4325387,I 2,I o.5,AV.nilsl,AV.nilsl]])) (Q (AV.fsl true [AV.agg [I 4325387,I 2,I o.5,AV.nilsl,AV.nilsl]]))):=by kernel_rfl
theorem g_dat0 (o:Ob) (M N L C:AV) (Q:AV→Prop):fnK Tryz.prog opts0 40 (aidJ [] [] noSem inlG []) 172 [.agg (obF o M N L C),.fptr [I 0] 0] [] 0 (fun v _ _=>Q v)=
  (mtB (!o.d0.1) (Q AV.nilsl) (Q (AV.fsl true [AV.agg [I 4325387,I 9,I o.d0.2,AV.nilsl,AV.nilsl]]))):=by kernel_rfl
theorem g_dat1 (o:Ob) (M N L C:AV) (Q:AV→Prop):fnK Tryz.prog opts0 40 (aidJ [] [] noSem inlG []) 172 [.agg (obF o M N L C),.fptr [I 1] 0] [] 0 (fun v _ _=>Q v)=
  (mtB (!o.d1.1) (Q AV.nilsl) (Q (AV.fsl true [AV.agg [I 4325387,I 9,I o.d1.2,AV.nilsl,AV.nilsl]]))):=by kernel_rfl
theorem g_dat2 (o:Ob) (M N L C:AV) (Q:AV→Prop):fnK Tryz.prog opts0 40 (aidJ [] [] noSem inlG []) 172 [.agg (obF o M N L C),.fptr [I 2] 0] [] 0 (fun v _ _=>Q v)=
  (mtB (!o.d2.1) (Q AV.nilsl) (Q (AV.fsl true [AV.agg [I 4325387,I 9,I o.d2.2,AV.nilsl,AV.nilsl]]))):=by kernel_rfl
theorem g_dat3 (o:Ob) (M N L C:AV) (Q:AV→Prop):fnK Tryz.prog opts0 40 (aidJ [] [] noSem inlG []) 172 [.agg (obF o M N L C),.fptr [I 3] 0] [] 0 (fun v _ _=>Q v)=
  (mtB (!o.d3.1) (Q AV.nilsl) (Q (AV.fsl true [AV.agg [I 4325387,I 9,I o.d3.2,AV.nilsl,AV.nilsl]]))):=by kernel_rfl
theorem g_dat4 (o:Ob) (M N L C:AV) (Q:AV→Prop):fnK Tryz.prog opts0 40 (aidJ [] [] noSem inlG []) 172 [.agg (obF o M N L C),.fptr [I 4] 0] [] 0 (fun v _ _=>Q v)=
  (mtB (!o.d4.1) (Q AV.nilsl) (Q (AV.fsl true [AV.agg [I 4325387,I 9,I o.d4.2,AV.nilsl,AV.nilsl]]))):=by kernel_rfl
theorem g_dat5 (o:Ob) (M N L C:AV) (Q:AV→Prop):fnK Tryz.prog opts0 40 (aidJ [] [] noSem inlG []) 172 [.agg (obF o M N L C),.fptr [I 5] 0] [] 0 (fun v _ _=>Q v)=
  (mtB (!o.d5.1) (Q AV.nilsl) (Q (AV.fsl true [AV.agg [I 4325387,I 9,I o.d5.2,AV.nilsl,AV.nilsl]]))):=by kernel_rfl
theorem g_dat6 (o:Ob) (M N L C:AV) (Q:AV→Prop):fnK Tryz.prog opts0 40 (aidJ [] [] noSem inlG []) 172 [.agg (obF o M N L C),.fptr [I 6] 0] [] 0 (fun v _ _=>Q v)=
  (mtB (!o.d6.1) (Q AV.nilsl) (Q (AV.fsl true [AV.agg [I 4325387,I 9,I o.d6.2,AV.nilsl,AV.nilsl]]))):=by kernel_rfl
theorem g_dat7 (o:Ob) (M N L C:AV) (Q:AV→Prop):fnK Tryz.prog opts0 40 (aidJ [] [] noSem inlG []) 172 [.agg (obF o M N L C),.fptr [I 7] 0] [] 0 (fun v _ _=>Q v)=
  (mtB (!o.d7.1) (Q AV.nilsl) (Q (AV.fsl true [AV.agg [I 4325387,I 9,I o.d7.2,AV.nilsl,AV.nilsl]]))):=by kernel_rfl
theorem g_dat8 (o:Ob) (M N L C:AV) (Q:AV→Prop):fnK Tryz.prog opts0 40 (aidJ [] [] noSem inlG []) 172 [.agg (obF o M N L C),.fptr [I 8] 0] [] 0 (fun v _ _=>Q v)=
  (mtB (!o.d8.1) (Q AV.nilsl) (Q (AV.fsl true [AV.agg [I 4325387,I 9,I o.d8.2,AV.nilsl,AV.nilsl]]))):=by kernel_rfl
theorem g_dat9 (o:Ob) (M N L C:AV) (Q:AV→Prop):fnK Tryz.prog opts0 40 (aidJ [] [] noSem inlG []) 172 [.agg (obF o M N L C),.fptr [I 9] 0] [] 0 (fun v _ _=>Q v)=
  (mtB (!o.d9.1) (Q AV.nilsl) (Q (AV.fsl true [AV.agg [I 4325387,I 9,I o.d9.2,AV.nilsl,AV.nilsl]]))):=by kernel_rfl
theorem gN0_fn (o:Ob) (M L C:AV) (Q:AV→Heap→Prop):fnK Tryz.prog opts0 40 (aidJ [] [] noSem inlG []) 166 [.agg (obF o M (.fsl false []) L C)] [] 0 (fun v H _=>Q v H)=
  (Q AV.nilsl [(0,some (Blk.cells (obF o M (AV.fsl false []) L C)))]):=by kernel_rfl
abbrev ym9 (a:List UInt8):=[I 4325387,I 7,I 0,AV.fsl false (toBytes a),AV.nilsl]
theorem gN1_fn (o:Ob) (M L C:AV) (a:List UInt8) (Q:AV→Heap→Prop):fnK Tryz.prog opts0 40 (aidJ [] [] noSem inlG []) 166 [.agg (obF o M (.fsl false [.str a]) L C)] [] 0 (fun v H _=>Q v H)=
  (Q (AV.rsl true 15 0 (lenN [AV.agg (ym9 a)]) 5) [(17,some (Blk.cells (ym9 a))),(15,some (Blk.cells (flat [AV.agg (ym9 a)]))),(0,some (Blk.cells (obF o M (AV.fsl false [AV.str a]) L C)))]):=by kernel_rfl
abbrev ym13 (b:List UInt8):=[I 4325387,I 7,I 0,AV.fsl false (toBytes b),AV.nilsl]
theorem gN2_fn (o:Ob) (M L C:AV) (a b:List UInt8) (Q:AV→Heap→Prop):fnK Tryz.prog opts0 40 (aidJ [] [] noSem inlG []) 166 [.agg (obF o M (.fsl false [.str a,.str b]) L C)] [] 0 (fun v H _=>Q v H)=
  (Q (AV.rsl true 32 0 (lenN [AV.agg (ym9 a)]+lenN [AV.agg (ym13 b)]) 5) [(34,some (Blk.cells (ym13 b))),(32,some (Blk.cells [I 4325387,I 7,I 0,AV.fsl false (toBytes a),AV.nilsl,I 4325387,I 7,I 0,AV.fsl false (toBytes b),AV.nilsl])),(17,some (Blk.cells (ym9 a))),(15,none),(0,some (Blk.cells (obF o M (AV.fsl false [AV.str a,AV.str b]) L C)))]):=by kernel_rfl
abbrev ym16 (c:List UInt8):=[I 4325387,I 7,I 0,AV.fsl false (toBytes c),AV.nilsl]
theorem gN3_fn (o:Ob) (M L C:AV) (a b c:List UInt8) (Q:AV→Heap→Prop):fnK Tryz.prog opts0 40 (aidJ [] [] noSem inlG []) 166 [.agg (obF o M (.fsl false [.str a,.str b,.str c]) L C)] [] 0 (fun v H _=>Q v H)=
  (Q (AV.rsl true 49 0 (lenN [AV.agg (ym9 a)]+lenN [AV.agg (ym13 b)]+lenN [AV.agg (ym16 c)]) 5) [(51,some (Blk.cells (ym16 c))),(49,some (Blk.cells [I 4325387,I 7,I 0,AV.fsl false (toBytes a),AV.nilsl,I 4325387,I 7,I 0,AV.fsl false (toBytes b),AV.nilsl,I 4325387,I 7,I 0,AV.fsl false (toBytes c),AV.nilsl])),(34,some (Blk.cells (ym13 b))),(32,none),(17,some (Blk.cells (ym9 a))),(15,none),(0,some (Blk.cells (obF o M (AV.fsl false [AV.str a,AV.str b,AV.str c]) L C)))]):=by kernel_rfl
abbrev ym18 (d:List UInt8):=[I 4325387,I 7,I 0,AV.fsl false (toBytes d),AV.nilsl]
theorem gN4_fn (o:Ob) (M L C:AV) (a b c d:List UInt8) (Q:AV→Heap→Prop):fnK Tryz.prog opts0 40 (aidJ [] [] noSem inlG []) 166 [.agg (obF o M (.fsl false [.str a,.str b,.str c,.str d]) L C)] [] 0 (fun v H _=>Q v H)=
  (Q (AV.rsl true 66 0 (lenN [AV.agg (ym9 a)]+lenN [AV.agg (ym13 b)]+lenN [AV.agg (ym16 c)]+lenN [AV.agg (ym18 d)]) 5) [(68,some (Blk.cells (ym18 d))),(66,some (Blk.cells [I 4325387,I 7,I 0,AV.fsl false (toBytes a),AV.nilsl,I 4325387,I 7,I 0,AV.fsl false (toBytes b),AV.nilsl,I 4325387,I 7,I 0,AV.fsl false (toBytes c),AV.nilsl,I 4325387,I 7,I 0,AV.fsl false (toBytes d),AV.nilsl])),(51,some (Blk.cells (ym16 c))),(49,none),(34,some (Blk.cells (ym13 b))),(32,none),(17,some (Blk.cells (ym9 a))),(15,none),(0,some (Blk.cells (obF o M (AV.fsl false [AV.str a,AV.str b,AV.str c,AV.str d]) L C)))]):=by kernel_rfl
abbrev ym25 (e:List UInt8):=[I 4325387,I 7,I 0,AV.fsl false (toBytes e),AV.nilsl]
theorem gN5_fn (o:Ob) (M L C:AV) (a b c d e:List UInt8) (Q:AV→Heap→Prop):fnK Tryz.prog opts0 40 (aidJ [] [] noSem inlG []) 166 [.agg (obF o M (.fsl false [.str a,.str b,.str c,.str d,.str e]) L C)] [] 0 (fun v H _=>Q v H)=
  (Q (AV.rsl true 83 0 (lenN [AV.agg (ym9 a)]+lenN [AV.agg (ym13 b)]+lenN [AV.agg (ym16 c)]+lenN [AV.agg (ym18 d)]+lenN [AV.agg (ym25 e)]) 5) [(85,some (Blk.cells (ym25 e))),(83,some (Blk.cells [I 4325387,I 7,I 0,AV.fsl false (toBytes a),AV.nilsl,I 4325387,I 7,I 0,AV.fsl false (toBytes b),AV.nilsl,I 4325387,I 7,I 0,AV.fsl false (toBytes c),AV.nilsl,I 4325387,I 7,I 0,AV.fsl false (toBytes d),AV.nilsl,I 4325387,I 7,I 0,AV.fsl false (toBytes e),AV.nilsl])),(68,some (Blk.cells (ym18 d))),(66,none),(51,some (Blk.cells (ym16 c))),(49,none),(34,some (Blk.cells (ym13 b))),(32,none),(17,some (Blk.cells (ym9 a))),(15,none),(0,some (Blk.cells (obF o M (AV.fsl false [AV.str a,AV.str b,AV.str c,AV.str d,AV.str e]) L C)))]):=by kernel_rfl
theorem gN6_fn (o:Ob) (M L C:AV) (a b c d e f:List UInt8) (Q:AV→Heap→Prop):fnK Tryz.prog opts0 40 (aidJ [] [] noSem inlG []) 166 [.agg (obF o M (.fsl false [.str a,.str b,.str c,.str d,.str e,.str f]) L C)] [] 0 (fun v H _=>Q v H)=
  (Q (AV.rsl true 100 0 (lenN [AV.agg (ym9 a)]+lenN [AV.agg (ym13 b)]+lenN [AV.agg (ym16 c)]+lenN [AV.agg (ym18 d)]+lenN [AV.agg (ym25 e)]+lenN [AV.agg [I 4325387,I 7,I 0,AV.fsl false (toBytes f),AV.nilsl]]) 5) [(102,some (Blk.cells [I 4325387,I 7,I 0,AV.fsl false (toBytes f),AV.nilsl])),(100,some (Blk.cells [I 4325387,I 7,I 0,AV.fsl false (toBytes a),AV.nilsl,I 4325387,I 7,I 0,AV.fsl false (toBytes b),AV.nilsl,I 4325387,I 7,I 0,AV.fsl false (toBytes c),AV.nilsl,I 4325387,I 7,I 0,AV.fsl false (toBytes d),AV.nilsl,I 4325387,I 7,I 0,AV.fsl false (toBytes e),AV.nilsl,I 4325387,I 7,I 0,AV.fsl false (toBytes f),AV.nilsl])),(85,some (Blk.cells (ym25 e))),(83,none),(68,some (Blk.cells (ym18 d))),(66,none),(51,some (Blk.cells (ym16 c))),(49,none),(34,some (Blk.cells (ym13 b))),(32,none),(17,some (Blk.cells (ym9 a))),(15,none),(0,some (Blk.cells (obF o M (AV.fsl false [AV.str a,AV.str b,AV.str c,AV.str d,AV.str e,AV.str f]) L C)))]):=by kernel_rfl
def rawN (x:List UInt8):AV:= .agg [I 4325387,I 7,I 0,.fsl false (toBytes x),.nilsl]
theorem closed_rawN:∀l:List (List UInt8),closedAll (l.map rawN)=true
 |[]=>rfl
 |x::r=>by
  rw[List.map_cons,closedAll,closed_rawN r]
  simp[rawN,closedA,closedAll]
theorem good_rawN:∀l:List (List UInt8),∀e∈l.map rawN,goodEl 5 e:=fun l e he=>by
 obtain ⟨x,_,rfl⟩:=List.mem_map.1 he
 exact ⟨rfl,rfl⟩
theorem wk_rawN (l:List (List UInt8)):Wk (.fsl false (l.map rawN)) (.fsl false (itAs (l.map txt))):=by
 rw[itAs_map,List.map_map]
 refine Wk.rows (WkE.map fun x _=> ?_)
 simp only[rawN,Function.comp,txt,vlV,itA,itAs,AV.cells]
 (repeat (first|exact Wk.refl _|exact WkL.refl _|exact Wk.nil|exact Wk.row|exact WkE.refl _|exact WkL.nil|exact WkE.nil|apply Wk.agg|apply Wk.tuple|apply WkL.cons|apply Wk.rows|apply WkE.consA))
theorem gN1_sem (o:Ob) {M L C:AV} (hM:closedA M=true) (hL:closedA L=true) (hC:closedA C=true) (a:List UInt8):SC 166 [.agg (obF o M (.fsl false [.str a]) L C)] (.fsl false (itAs ([a].map txt))):=by
 refine fnK_semX (A:=aidJ [] [] noSem inlG []) base0 aidJ_ok (fnLs_of (LsOk.no rfl)) (closed_one (closed_obF o hM (closed_fslA (closed_strs [a])) hL hC)) ?_
 rw[gN1_fn]
 exact ⟨.fsl false ([a].map rawN),Frz.out (Frz.row (c:=flat ([a].map rawN)) (es:=[a].map rawN) (by kernel_rfl) (by kernel_rfl) rfl (by kernel_rfl) (good_rawN _) (closed_rawN _)),closed_fslA (closed_rawN _),wk_rawN [a]⟩
theorem gN2_sem (o:Ob) {M L C:AV} (hM:closedA M=true) (hL:closedA L=true) (hC:closedA C=true) (a b:List UInt8):SC 166 [.agg (obF o M (.fsl false [.str a,.str b]) L C)] (.fsl false (itAs ([a,b].map txt))):=by
 refine fnK_semX (A:=aidJ [] [] noSem inlG []) base0 aidJ_ok (fnLs_of (LsOk.no rfl)) (closed_one (closed_obF o hM (closed_fslA (closed_strs [a,b])) hL hC)) ?_
 rw[gN2_fn]
 exact ⟨.fsl false ([a,b].map rawN),Frz.out (Frz.row (c:=flat ([a,b].map rawN)) (es:=[a,b].map rawN) (by kernel_rfl) (by kernel_rfl) rfl (by kernel_rfl) (good_rawN _) (closed_rawN _)),closed_fslA (closed_rawN _),wk_rawN [a,b]⟩
theorem gN3_sem (o:Ob) {M L C:AV} (hM:closedA M=true) (hL:closedA L=true) (hC:closedA C=true) (a b c:List UInt8):SC 166 [.agg (obF o M (.fsl false [.str a,.str b,.str c]) L C)] (.fsl false (itAs ([a,b,c].map txt))):=by
 refine fnK_semX (A:=aidJ [] [] noSem inlG []) base0 aidJ_ok (fnLs_of (LsOk.no rfl)) (closed_one (closed_obF o hM (closed_fslA (closed_strs [a,b,c])) hL hC)) ?_
 rw[gN3_fn]
 exact ⟨.fsl false ([a,b,c].map rawN),Frz.out (Frz.row (c:=flat ([a,b,c].map rawN)) (es:=[a,b,c].map rawN) (by kernel_rfl) (by kernel_rfl) rfl (by kernel_rfl) (good_rawN _) (closed_rawN _)),closed_fslA (closed_rawN _),wk_rawN [a,b,c]⟩
theorem gN4_sem (o:Ob) {M L C:AV} (hM:closedA M=true) (hL:closedA L=true) (hC:closedA C=true) (a b c d:List UInt8):SC 166 [.agg (obF o M (.fsl false [.str a,.str b,.str c,.str d]) L C)] (.fsl false (itAs ([a,b,c,d].map txt))):=by
 refine fnK_semX (A:=aidJ [] [] noSem inlG []) base0 aidJ_ok (fnLs_of (LsOk.no rfl)) (closed_one (closed_obF o hM (closed_fslA (closed_strs [a,b,c,d])) hL hC)) ?_
 rw[gN4_fn]
 exact ⟨.fsl false ([a,b,c,d].map rawN),Frz.out (Frz.row (c:=flat ([a,b,c,d].map rawN)) (es:=[a,b,c,d].map rawN) (by kernel_rfl) (by kernel_rfl) rfl (by kernel_rfl) (good_rawN _) (closed_rawN _)),closed_fslA (closed_rawN _),wk_rawN [a,b,c,d]⟩
theorem gN5_sem (o:Ob) {M L C:AV} (hM:closedA M=true) (hL:closedA L=true) (hC:closedA C=true) (a b c d e:List UInt8):SC 166 [.agg (obF o M (.fsl false [.str a,.str b,.str c,.str d,.str e]) L C)] (.fsl false (itAs ([a,b,c,d,e].map txt))):=by
 refine fnK_semX (A:=aidJ [] [] noSem inlG []) base0 aidJ_ok (fnLs_of (LsOk.no rfl)) (closed_one (closed_obF o hM (closed_fslA (closed_strs [a,b,c,d,e])) hL hC)) ?_
 rw[gN5_fn]
 exact ⟨.fsl false ([a,b,c,d,e].map rawN),Frz.out (Frz.row (c:=flat ([a,b,c,d,e].map rawN)) (es:=[a,b,c,d,e].map rawN) (by kernel_rfl) (by kernel_rfl) rfl (by kernel_rfl) (good_rawN _) (closed_rawN _)),closed_fslA (closed_rawN _),wk_rawN [a,b,c,d,e]⟩
theorem gN6_sem (o:Ob) {M L C:AV} (hM:closedA M=true) (hL:closedA L=true) (hC:closedA C=true) (a b c d e f:List UInt8):SC 166 [.agg (obF o M (.fsl false [.str a,.str b,.str c,.str d,.str e,.str f]) L C)] (.fsl false (itAs ([a,b,c,d,e,f].map txt))):=by
 refine fnK_semX (A:=aidJ [] [] noSem inlG []) base0 aidJ_ok (fnLs_of (LsOk.no rfl)) (closed_one (closed_obF o hM (closed_fslA (closed_strs [a,b,c,d,e,f])) hL hC)) ?_
 rw[gN6_fn]
 exact ⟨.fsl false ([a,b,c,d,e,f].map rawN),Frz.out (Frz.row (c:=flat ([a,b,c,d,e,f].map rawN)) (es:=[a,b,c,d,e,f].map rawN) (by kernel_rfl) (by kernel_rfl) rfl (by kernel_rfl) (good_rawN _) (closed_rawN _)),closed_fslA (closed_rawN _),wk_rawN [a,b,c,d,e,f]⟩
theorem gN0_sem (o:Ob) {M L C:AV} (hM:closedA M=true) (hL:closedA L=true) (hC:closedA C=true):SC 166 [.agg (obF o M (.fsl false []) L C)] (.fsl false []):=by
 refine fnK_semX (A:=aidJ [] [] noSem inlG []) base0 aidJ_ok (fnLs_of (LsOk.no rfl)) (closed_one (closed_obF o hM rfl hL hC)) ?_
 rw[gN0_fn]
 exact ⟨.nilsl,⟨1,rfl⟩,rfl,.nil⟩
theorem gN_sem (o:Ob) {M L C:AV} (hM:closedA M=true) (hL:closedA L=true) (hC:closedA C=true):∀l:List (List UInt8),l.length≤6→SC 166 [.agg (obF o M (.fsl false (l.map .str)) L C)] (.fsl false (itAs (l.map txt)))
 |[],_=>gN0_sem o hM hL hC
 |[a],_=>gN1_sem o hM hL hC a
 |[a,b],_=>gN2_sem o hM hL hC a b
 |[a,b,c],_=>gN3_sem o hM hL hC a b c
 |[a,b,c,d],_=>gN4_sem o hM hL hC a b c d
 |[a,b,c,d,e],_=>gN5_sem o hM hL hC a b c d e
 |[a,b,c,d,e,f],_=>gN6_sem o hM hL hC a b c d e f
 |_::_::_::_::_::_::_::_,h=>absurd h (by simp)
theorem gL0_fn (o:Ob) (M N C:AV) (Q:AV→Heap→Prop):fnK Tryz.prog opts0 40 (aidJ [] [] noSem inlG []) 178 [.agg (obF o M N (.fsl false []) C)] [] 0 (fun v H _=>Q v H)=
  (Q AV.nilsl [(0,some (Blk.cells (obF o M N (AV.fsl false []) C)))]):=by kernel_rfl
abbrev ym1 (a:Lk):=[AV.agg [I 4325451,I 5,I a.1,AV.nilsl,AV.nilsl],AV.agg [I 4325452,I 7,I 0,AV.fsl false (toBytes a.2),AV.nilsl]]
abbrev ym8 (a:Lk):=[I 4325387,I 1,I 0,AV.nilsl,AV.fsl true (ym1 a)]
abbrev ym19 (a:Lk):=(10,some (Blk.cells [I a.1,AV.str a.2]))
theorem gL1_fn (o:Ob) (M N C:AV) (a:Lk) (Q:AV→Heap→Prop):fnK Tryz.prog opts0 40 (aidJ [] [] noSem inlG []) 178 [.agg (obF o M N (.fsl false [lkA a]) C)] [] 0 (fun v H _=>Q v H)=
  (Q (AV.rsl true 23 0 (lenN [AV.agg (ym8 a)]) 5) [(25,some (Blk.cells (ym8 a))),(23,some (Blk.cells (flat [AV.agg (ym8 a)]))),(ym19 a),(0,some (Blk.cells (obF o M N (AV.fsl false [AV.agg [I a.1,AV.str a.2]]) C)))]):=by kernel_rfl
abbrev ym2 (b:Lk):=[AV.agg [I 4325451,I 5,I b.1,AV.nilsl,AV.nilsl],AV.agg [I 4325452,I 7,I 0,AV.fsl false (toBytes b.2),AV.nilsl]]
abbrev ym10 (b:Lk):=[I 4325387,I 1,I 0,AV.nilsl,AV.fsl true (ym2 b)]
abbrev ym23 (b:Lk):=(34,some (Blk.cells [I b.1,AV.str b.2]))
theorem gL2_fn (o:Ob) (M N C:AV) (a b:Lk) (Q:AV→Heap→Prop):fnK Tryz.prog opts0 40 (aidJ [] [] noSem inlG []) 178 [.agg (obF o M N (.fsl false [lkA a,lkA b]) C)] [] 0 (fun v H _=>Q v H)=
  (Q (AV.rsl true 47 0 (lenN [AV.agg (ym8 a)]+lenN [AV.agg (ym10 b)]) 5) [(49,some (Blk.cells (ym10 b))),(47,some (Blk.cells [I 4325387,I 1,I 0,AV.nilsl,AV.fsl true (ym1 a),I 4325387,I 1,I 0,AV.nilsl,AV.fsl true (ym2 b)])),(ym23 b),(25,some (Blk.cells (ym8 a))),(23,none),(ym19 a),(0,some (Blk.cells (obF o M N (AV.fsl false [AV.agg [I a.1,AV.str a.2],AV.agg [I b.1,AV.str b.2]]) C)))]):=by kernel_rfl
abbrev ym3 (c:Lk):=[AV.agg [I 4325451,I 5,I c.1,AV.nilsl,AV.nilsl],AV.agg [I 4325452,I 7,I 0,AV.fsl false (toBytes c.2),AV.nilsl]]
abbrev ym12 (c:Lk):=[I 4325387,I 1,I 0,AV.nilsl,AV.fsl true (ym3 c)]
abbrev ym24 (c:Lk):=(58,some (Blk.cells [I c.1,AV.str c.2]))
theorem gL3_fn (o:Ob) (M N C:AV) (a b c:Lk) (Q:AV→Heap→Prop):fnK Tryz.prog opts0 40 (aidJ [] [] noSem inlG []) 178 [.agg (obF o M N (.fsl false [lkA a,lkA b,lkA c]) C)] [] 0 (fun v H _=>Q v H)=
  (Q (AV.rsl true 71 0 (lenN [AV.agg (ym8 a)]+lenN [AV.agg (ym10 b)]+lenN [AV.agg (ym12 c)]) 5) [(73,some (Blk.cells (ym12 c))),(71,some (Blk.cells [I 4325387,I 1,I 0,AV.nilsl,AV.fsl true (ym1 a),I 4325387,I 1,I 0,AV.nilsl,AV.fsl true (ym2 b),I 4325387,I 1,I 0,AV.nilsl,AV.fsl true (ym3 c)])),(ym24 c),(49,some (Blk.cells (ym10 b))),(47,none),(ym23 b),(25,some (Blk.cells (ym8 a))),(23,none),(ym19 a),(0,some (Blk.cells (obF o M N (AV.fsl false [AV.agg [I a.1,AV.str a.2],AV.agg [I b.1,AV.str b.2],AV.agg [I c.1,AV.str c.2]]) C)))]):=by kernel_rfl
abbrev ym4 (d:Lk):=[AV.agg [I 4325451,I 5,I d.1,AV.nilsl,AV.nilsl],AV.agg [I 4325452,I 7,I 0,AV.fsl false (toBytes d.2),AV.nilsl]]
abbrev ym14 (d:Lk):=[I 4325387,I 1,I 0,AV.nilsl,AV.fsl true (ym4 d)]
abbrev ym26 (d:Lk):=(82,some (Blk.cells [I d.1,AV.str d.2]))
theorem gL4_fn (o:Ob) (M N C:AV) (a b c d:Lk) (Q:AV→Heap→Prop):fnK Tryz.prog opts0 40 (aidJ [] [] noSem inlG []) 178 [.agg (obF o M N (.fsl false [lkA a,lkA b,lkA c,lkA d]) C)] [] 0 (fun v H _=>Q v H)=
  (Q (AV.rsl true 95 0 (lenN [AV.agg (ym8 a)]+lenN [AV.agg (ym10 b)]+lenN [AV.agg (ym12 c)]+lenN [AV.agg (ym14 d)]) 5) [(97,some (Blk.cells (ym14 d))),(95,some (Blk.cells [I 4325387,I 1,I 0,AV.nilsl,AV.fsl true (ym1 a),I 4325387,I 1,I 0,AV.nilsl,AV.fsl true (ym2 b),I 4325387,I 1,I 0,AV.nilsl,AV.fsl true (ym3 c),I 4325387,I 1,I 0,AV.nilsl,AV.fsl true (ym4 d)])),(ym26 d),(73,some (Blk.cells (ym12 c))),(71,none),(ym24 c),(49,some (Blk.cells (ym10 b))),(47,none),(ym23 b),(25,some (Blk.cells (ym8 a))),(23,none),(ym19 a),(0,some (Blk.cells (obF o M N (AV.fsl false [AV.agg [I a.1,AV.str a.2],AV.agg [I b.1,AV.str b.2],AV.agg [I c.1,AV.str c.2],AV.agg [I d.1,AV.str d.2]]) C)))]):=by kernel_rfl
abbrev ym5 (e:Lk):=[AV.agg [I 4325451,I 5,I e.1,AV.nilsl,AV.nilsl],AV.agg [I 4325452,I 7,I 0,AV.fsl false (toBytes e.2),AV.nilsl]]
abbrev ym17 (e:Lk):=[I 4325387,I 1,I 0,AV.nilsl,AV.fsl true (ym5 e)]
abbrev ym28 (e:Lk):=(106,some (Blk.cells [I e.1,AV.str e.2]))
theorem gL5_fn (o:Ob) (M N C:AV) (a b c d e:Lk) (Q:AV→Heap→Prop):fnK Tryz.prog opts0 40 (aidJ [] [] noSem inlG []) 178 [.agg (obF o M N (.fsl false [lkA a,lkA b,lkA c,lkA d,lkA e]) C)] [] 0 (fun v H _=>Q v H)=
  (Q (AV.rsl true 119 0 (lenN [AV.agg (ym8 a)]+lenN [AV.agg (ym10 b)]+lenN [AV.agg (ym12 c)]+lenN [AV.agg (ym14 d)]+lenN [AV.agg (ym17 e)]) 5) [(121,some (Blk.cells (ym17 e))),(119,some (Blk.cells [I 4325387,I 1,I 0,AV.nilsl,AV.fsl true (ym1 a),I 4325387,I 1,I 0,AV.nilsl,AV.fsl true (ym2 b),I 4325387,I 1,I 0,AV.nilsl,AV.fsl true (ym3 c),I 4325387,I 1,I 0,AV.nilsl,AV.fsl true (ym4 d),I 4325387,I 1,I 0,AV.nilsl,AV.fsl true (ym5 e)])),(ym28 e),(97,some (Blk.cells (ym14 d))),(95,none),(ym26 d),(73,some (Blk.cells (ym12 c))),(71,none),(ym24 c),(49,some (Blk.cells (ym10 b))),(47,none),(ym23 b),(25,some (Blk.cells (ym8 a))),(23,none),(ym19 a),(0,some (Blk.cells (obF o M N (AV.fsl false [AV.agg [I a.1,AV.str a.2],AV.agg [I b.1,AV.str b.2],AV.agg [I c.1,AV.str c.2],AV.agg [I d.1,AV.str d.2],AV.agg [I e.1,AV.str e.2]]) C)))]):=by kernel_rfl
abbrev ym6 (f:Lk):=[AV.agg [I 4325451,I 5,I f.1,AV.nilsl,AV.nilsl],AV.agg [I 4325452,I 7,I 0,AV.fsl false (toBytes f.2),AV.nilsl]]
abbrev ym22 (f:Lk):=[I 4325387,I 1,I 0,AV.nilsl,AV.fsl true (ym6 f)]
abbrev ym30 (f:Lk):=(130,some (Blk.cells [I f.1,AV.str f.2]))
theorem gL6_fn (o:Ob) (M N C:AV) (a b c d e f:Lk) (Q:AV→Heap→Prop):fnK Tryz.prog opts0 40 (aidJ [] [] noSem inlG []) 178 [.agg (obF o M N (.fsl false [lkA a,lkA b,lkA c,lkA d,lkA e,lkA f]) C)] [] 0 (fun v H _=>Q v H)=
  (Q (AV.rsl true 143 0 (lenN [AV.agg (ym8 a)]+lenN [AV.agg (ym10 b)]+lenN [AV.agg (ym12 c)]+lenN [AV.agg (ym14 d)]+lenN [AV.agg (ym17 e)]+lenN [AV.agg (ym22 f)]) 5) [(145,some (Blk.cells (ym22 f))),(143,some (Blk.cells [I 4325387,I 1,I 0,AV.nilsl,AV.fsl true (ym1 a),I 4325387,I 1,I 0,AV.nilsl,AV.fsl true (ym2 b),I 4325387,I 1,I 0,AV.nilsl,AV.fsl true (ym3 c),I 4325387,I 1,I 0,AV.nilsl,AV.fsl true (ym4 d),I 4325387,I 1,I 0,AV.nilsl,AV.fsl true (ym5 e),I 4325387,I 1,I 0,AV.nilsl,AV.fsl true (ym6 f)])),(ym30 f),(121,some (Blk.cells (ym17 e))),(119,none),(ym28 e),(97,some (Blk.cells (ym14 d))),(95,none),(ym26 d),(73,some (Blk.cells (ym12 c))),(71,none),(ym24 c),(49,some (Blk.cells (ym10 b))),(47,none),(ym23 b),(25,some (Blk.cells (ym8 a))),(23,none),(ym19 a),(0,some (Blk.cells (obF o M N (AV.fsl false [AV.agg [I a.1,AV.str a.2],AV.agg [I b.1,AV.str b.2],AV.agg [I c.1,AV.str c.2],AV.agg [I d.1,AV.str d.2],AV.agg [I e.1,AV.str e.2],AV.agg [I f.1,AV.str f.2]]) C)))]):=by kernel_rfl
abbrev ym11 (g:Lk):=[AV.agg [I 4325451,I 5,I g.1,AV.nilsl,AV.nilsl],AV.agg [I 4325452,I 7,I 0,AV.fsl false (toBytes g.2),AV.nilsl]]
abbrev ym27 (g:Lk):=[I 4325387,I 1,I 0,AV.nilsl,AV.fsl true (ym11 g)]
theorem gL7_fn (o:Ob) (M N C:AV) (a b c d e f g:Lk) (Q:AV→Heap→Prop):fnK Tryz.prog opts0 40 (aidJ [] [] noSem inlG []) 178 [.agg (obF o M N (.fsl false [lkA a,lkA b,lkA c,lkA d,lkA e,lkA f,lkA g]) C)] [] 0 (fun v H _=>Q v H)=
  (Q (AV.rsl true 167 0 (lenN [AV.agg (ym8 a)]+lenN [AV.agg (ym10 b)]+lenN [AV.agg (ym12 c)]+lenN [AV.agg (ym14 d)]+lenN [AV.agg (ym17 e)]+lenN [AV.agg (ym22 f)]+lenN [AV.agg (ym27 g)]) 5) [(169,some (Blk.cells (ym27 g))),(167,some (Blk.cells [I 4325387,I 1,I 0,AV.nilsl,AV.fsl true (ym1 a),I 4325387,I 1,I 0,AV.nilsl,AV.fsl true (ym2 b),I 4325387,I 1,I 0,AV.nilsl,AV.fsl true (ym3 c),I 4325387,I 1,I 0,AV.nilsl,AV.fsl true (ym4 d),I 4325387,I 1,I 0,AV.nilsl,AV.fsl true (ym5 e),I 4325387,I 1,I 0,AV.nilsl,AV.fsl true (ym6 f),I 4325387,I 1,I 0,AV.nilsl,AV.fsl true (ym11 g)])),(154,some (Blk.cells [I g.1,AV.str g.2])),(145,some (Blk.cells (ym22 f))),(143,none),(ym30 f),(121,some (Blk.cells (ym17 e))),(119,none),(ym28 e),(97,some (Blk.cells (ym14 d))),(95,none),(ym26 d),(73,some (Blk.cells (ym12 c))),(71,none),(ym24 c),(49,some (Blk.cells (ym10 b))),(47,none),(ym23 b),(25,some (Blk.cells (ym8 a))),(23,none),(ym19 a),(0,some (Blk.cells (obF o M N (AV.fsl false [AV.agg [I a.1,AV.str a.2],AV.agg [I b.1,AV.str b.2],AV.agg [I c.1,AV.str c.2],AV.agg [I d.1,AV.str d.2],AV.agg [I e.1,AV.str e.2],AV.agg [I f.1,AV.str f.2],AV.agg [I g.1,AV.str g.2]]) C)))]):=by kernel_rfl
abbrev ym21 (h:Lk):=[AV.agg [I 4325451,I 5,I h.1,AV.nilsl,AV.nilsl],AV.agg [I 4325452,I 7,I 0,AV.fsl false (toBytes h.2),AV.nilsl]]
theorem gL8_fn (o:Ob) (M N C:AV) (a b c d e f g h:Lk) (Q:AV→Heap→Prop):fnK Tryz.prog opts0 40 (aidJ [] [] noSem inlG []) 178 [.agg (obF o M N (.fsl false [lkA a,lkA b,lkA c,lkA d,lkA e,lkA f,lkA g,lkA h]) C)] [] 0 (fun v H _=>Q v H)=
  (Q (AV.rsl true 191 0 (lenN [AV.agg (ym8 a)]+lenN [AV.agg (ym10 b)]+lenN [AV.agg (ym12 c)]+lenN [AV.agg (ym14 d)]+lenN [AV.agg (ym17 e)]+lenN [AV.agg (ym22 f)]+lenN [AV.agg (ym27 g)]+lenN [AV.agg [I 4325387,I 1,I 0,AV.nilsl,AV.fsl true (ym21 h)]]) 5) [(193,some (Blk.cells [I 4325387,I 1,I 0,AV.nilsl,AV.fsl true (ym21 h)])),(191,some (Blk.cells [I 4325387,I 1,I 0,AV.nilsl,AV.fsl true (ym1 a),I 4325387,I 1,I 0,AV.nilsl,AV.fsl true (ym2 b),I 4325387,I 1,I 0,AV.nilsl,AV.fsl true (ym3 c),I 4325387,I 1,I 0,AV.nilsl,AV.fsl true (ym4 d),I 4325387,I 1,I 0,AV.nilsl,AV.fsl true (ym5 e),I 4325387,I 1,I 0,AV.nilsl,AV.fsl true (ym6 f),I 4325387,I 1,I 0,AV.nilsl,AV.fsl true (ym11 g),I 4325387,I 1,I 0,AV.nilsl,AV.fsl true (ym21 h)])),(178,some (Blk.cells [I h.1,AV.str h.2])),(169,some (Blk.cells (ym27 g))),(167,none),(154,some (Blk.cells [I g.1,AV.str g.2])),(145,some (Blk.cells (ym22 f))),(143,none),(ym30 f),(121,some (Blk.cells (ym17 e))),(119,none),(ym28 e),(97,some (Blk.cells (ym14 d))),(95,none),(ym26 d),(73,some (Blk.cells (ym12 c))),(71,none),(ym24 c),(49,some (Blk.cells (ym10 b))),(47,none),(ym23 b),(25,some (Blk.cells (ym8 a))),(23,none),(ym19 a),(0,some (Blk.cells (obF o M N (AV.fsl false [AV.agg [I a.1,AV.str a.2],AV.agg [I b.1,AV.str b.2],AV.agg [I c.1,AV.str c.2],AV.agg [I d.1,AV.str d.2],AV.agg [I e.1,AV.str e.2],AV.agg [I f.1,AV.str f.2],AV.agg [I g.1,AV.str g.2],AV.agg [I h.1,AV.str h.2]]) C)))]):=by kernel_rfl
def rawL (x:Lk):AV:= .agg [I 4325387,I 1,I 0,.nilsl,.fsl true [.agg [I 4325451,I 5,I x.ty,.nilsl,.nilsl],.agg [I 4325452,I 7,I 0,.fsl false (toBytes x.id),.nilsl]]]
theorem closed_rawL:∀l:List (Lk),closedAll (l.map rawL)=true
 |[]=>rfl
 |x::r=>by
  rw[List.map_cons,closedAll,closed_rawL r]
  simp[rawL,closedA,closedAll]
theorem good_rawL:∀l:List (Lk),∀e∈l.map rawL,goodEl 5 e:=fun l e he=>by
 obtain ⟨x,_,rfl⟩:=List.mem_map.1 he
 exact ⟨rfl,rfl⟩
theorem wk_rawL (l:List (Lk)):Wk (.fsl false (l.map rawL)) (.fsl false (itAs (l.map lkI))):=by
 rw[itAs_map,List.map_map]
 refine Wk.rows (WkE.map fun x _=> ?_)
 simp only[rawL,Function.comp,lkI,whl,prt,vlV,itA,itAs,AV.cells,toBytes]
 (repeat (first|exact Wk.refl _|exact WkL.refl _|exact Wk.nil|exact Wk.row|exact WkE.refl _|exact WkL.nil|exact WkE.nil|apply Wk.agg|apply Wk.tuple|apply WkL.cons|apply Wk.rows|apply WkE.consA))
theorem gL1_sem (o:Ob) {M N C:AV} (hM:closedA M=true) (hL:closedA N=true) (hC:closedA C=true) (a:Lk):SC 178 [.agg (obF o M N (.fsl false [lkA a]) C)] (.fsl false (itAs ([a].map lkI))):=by
 refine fnK_semX (A:=aidJ [] [] noSem inlG []) base0 aidJ_ok (fnLs_of (LsOk.no rfl)) (closed_one (closed_obF o hM hL (closed_fslA (closed_lks [a])) hC)) ?_
 rw[gL1_fn]
 exact ⟨.fsl false ([a].map rawL),Frz.out (Frz.row (c:=flat ([a].map rawL)) (es:=[a].map rawL) (by kernel_rfl) (by kernel_rfl) rfl (by kernel_rfl) (good_rawL _) (closed_rawL _)),closed_fslA (closed_rawL _),wk_rawL [a]⟩
theorem gL2_sem (o:Ob) {M N C:AV} (hM:closedA M=true) (hL:closedA N=true) (hC:closedA C=true) (a b:Lk):SC 178 [.agg (obF o M N (.fsl false [lkA a,lkA b]) C)] (.fsl false (itAs ([a,b].map lkI))):=by
 refine fnK_semX (A:=aidJ [] [] noSem inlG []) base0 aidJ_ok (fnLs_of (LsOk.no rfl)) (closed_one (closed_obF o hM hL (closed_fslA (closed_lks [a,b])) hC)) ?_
 rw[gL2_fn]
 exact ⟨.fsl false ([a,b].map rawL),Frz.out (Frz.row (c:=flat ([a,b].map rawL)) (es:=[a,b].map rawL) (by kernel_rfl) (by kernel_rfl) rfl (by kernel_rfl) (good_rawL _) (closed_rawL _)),closed_fslA (closed_rawL _),wk_rawL [a,b]⟩
theorem gL3_sem (o:Ob) {M N C:AV} (hM:closedA M=true) (hL:closedA N=true) (hC:closedA C=true) (a b c:Lk):SC 178 [.agg (obF o M N (.fsl false [lkA a,lkA b,lkA c]) C)] (.fsl false (itAs ([a,b,c].map lkI))):=by
 refine fnK_semX (A:=aidJ [] [] noSem inlG []) base0 aidJ_ok (fnLs_of (LsOk.no rfl)) (closed_one (closed_obF o hM hL (closed_fslA (closed_lks [a,b,c])) hC)) ?_
 rw[gL3_fn]
 exact ⟨.fsl false ([a,b,c].map rawL),Frz.out (Frz.row (c:=flat ([a,b,c].map rawL)) (es:=[a,b,c].map rawL) (by kernel_rfl) (by kernel_rfl) rfl (by kernel_rfl) (good_rawL _) (closed_rawL _)),closed_fslA (closed_rawL _),wk_rawL [a,b,c]⟩
theorem gL4_sem (o:Ob) {M N C:AV} (hM:closedA M=true) (hL:closedA N=true) (hC:closedA C=true) (a b c d:Lk):SC 178 [.agg (obF o M N (.fsl false [lkA a,lkA b,lkA c,lkA d]) C)] (.fsl false (itAs ([a,b,c,d].map lkI))):=by
 refine fnK_semX (A:=aidJ [] [] noSem inlG []) base0 aidJ_ok (fnLs_of (LsOk.no rfl)) (closed_one (closed_obF o hM hL (closed_fslA (closed_lks [a,b,c,d])) hC)) ?_
 rw[gL4_fn]
 exact ⟨.fsl false ([a,b,c,d].map rawL),Frz.out (Frz.row (c:=flat ([a,b,c,d].map rawL)) (es:=[a,b,c,d].map rawL) (by kernel_rfl) (by kernel_rfl) rfl (by kernel_rfl) (good_rawL _) (closed_rawL _)),closed_fslA (closed_rawL _),wk_rawL [a,b,c,d]⟩
theorem gL5_sem (o:Ob) {M N C:AV} (hM:closedA M=true) (hL:closedA N=true) (hC:closedA C=true) (a b c d e:Lk):SC 178 [.agg (obF o M N (.fsl false [lkA a,lkA b,lkA c,lkA d,lkA e]) C)] (.fsl false (itAs ([a,b,c,d,e].map lkI))):=by
 refine fnK_semX (A:=aidJ [] [] noSem inlG []) base0 aidJ_ok (fnLs_of (LsOk.no rfl)) (closed_one (closed_obF o hM hL (closed_fslA (closed_lks [a,b,c,d,e])) hC)) ?_
 rw[gL5_fn]
 exact ⟨.fsl false ([a,b,c,d,e].map rawL),Frz.out (Frz.row (c:=flat ([a,b,c,d,e].map rawL)) (es:=[a,b,c,d,e].map rawL) (by kernel_rfl) (by kernel_rfl) rfl (by kernel_rfl) (good_rawL _) (closed_rawL _)),closed_fslA (closed_rawL _),wk_rawL [a,b,c,d,e]⟩
theorem gL6_sem (o:Ob) {M N C:AV} (hM:closedA M=true) (hL:closedA N=true) (hC:closedA C=true) (a b c d e f:Lk):SC 178 [.agg (obF o M N (.fsl false [lkA a,lkA b,lkA c,lkA d,lkA e,lkA f]) C)] (.fsl false (itAs ([a,b,c,d,e,f].map lkI))):=by
 refine fnK_semX (A:=aidJ [] [] noSem inlG []) base0 aidJ_ok (fnLs_of (LsOk.no rfl)) (closed_one (closed_obF o hM hL (closed_fslA (closed_lks [a,b,c,d,e,f])) hC)) ?_
 rw[gL6_fn]
 exact ⟨.fsl false ([a,b,c,d,e,f].map rawL),Frz.out (Frz.row (c:=flat ([a,b,c,d,e,f].map rawL)) (es:=[a,b,c,d,e,f].map rawL) (by kernel_rfl) (by kernel_rfl) rfl (by kernel_rfl) (good_rawL _) (closed_rawL _)),closed_fslA (closed_rawL _),wk_rawL [a,b,c,d,e,f]⟩
theorem gL7_sem (o:Ob) {M N C:AV} (hM:closedA M=true) (hL:closedA N=true) (hC:closedA C=true) (a b c d e f g:Lk):SC 178 [.agg (obF o M N (.fsl false [lkA a,lkA b,lkA c,lkA d,lkA e,lkA f,lkA g]) C)] (.fsl false (itAs ([a,b,c,d,e,f,g].map lkI))):=by
 refine fnK_semX (A:=aidJ [] [] noSem inlG []) base0 aidJ_ok (fnLs_of (LsOk.no rfl)) (closed_one (closed_obF o hM hL (closed_fslA (closed_lks [a,b,c,d,e,f,g])) hC)) ?_
 rw[gL7_fn]
 exact ⟨.fsl false ([a,b,c,d,e,f,g].map rawL),Frz.out (Frz.row (c:=flat ([a,b,c,d,e,f,g].map rawL)) (es:=[a,b,c,d,e,f,g].map rawL) (by kernel_rfl) (by kernel_rfl) rfl (by kernel_rfl) (good_rawL _) (closed_rawL _)),closed_fslA (closed_rawL _),wk_rawL [a,b,c,d,e,f,g]⟩
theorem gL8_sem (o:Ob) {M N C:AV} (hM:closedA M=true) (hL:closedA N=true) (hC:closedA C=true) (a b c d e f g h:Lk):SC 178 [.agg (obF o M N (.fsl false [lkA a,lkA b,lkA c,lkA d,lkA e,lkA f,lkA g,lkA h]) C)] (.fsl false (itAs ([a,b,c,d,e,f,g,h].map lkI))):=by
 refine fnK_semX (A:=aidJ [] [] noSem inlG []) base0 aidJ_ok (fnLs_of (LsOk.no rfl)) (closed_one (closed_obF o hM hL (closed_fslA (closed_lks [a,b,c,d,e,f,g,h])) hC)) ?_
 rw[gL8_fn]
 exact ⟨.fsl false ([a,b,c,d,e,f,g,h].map rawL),Frz.out (Frz.row (c:=flat ([a,b,c,d,e,f,g,h].map rawL)) (es:=[a,b,c,d,e,f,g,h].map rawL) (by kernel_rfl) (by kernel_rfl) rfl (by kernel_rfl) (good_rawL _) (closed_rawL _)),closed_fslA (closed_rawL _),wk_rawL [a,b,c,d,e,f,g,h]⟩
theorem gL0_sem (o:Ob) {M N C:AV} (hM:closedA M=true) (hL:closedA N=true) (hC:closedA C=true):SC 178 [.agg (obF o M N (.fsl false []) C)] (.fsl false []):=by
 refine fnK_semX (A:=aidJ [] [] noSem inlG []) base0 aidJ_ok (fnLs_of (LsOk.no rfl)) (closed_one (closed_obF o hM hL rfl hC)) ?_
 rw[gL0_fn]
 exact ⟨.nilsl,⟨1,rfl⟩,rfl,.nil⟩
theorem gL_sem (o:Ob) {M N C:AV} (hM:closedA M=true) (hL:closedA N=true) (hC:closedA C=true):∀l:List (Lk),l.length≤8→SC 178 [.agg (obF o M N (.fsl false (l.map lkA)) C)] (.fsl false (itAs (l.map lkI)))
 |[],_=>gL0_sem o hM hL hC
 |[a],_=>gL1_sem o hM hL hC a
 |[a,b],_=>gL2_sem o hM hL hC a b
 |[a,b,c],_=>gL3_sem o hM hL hC a b c
 |[a,b,c,d],_=>gL4_sem o hM hL hC a b c d
 |[a,b,c,d,e],_=>gL5_sem o hM hL hC a b c d e
 |[a,b,c,d,e,f],_=>gL6_sem o hM hL hC a b c d e f
 |[a,b,c,d,e,f,g],_=>gL7_sem o hM hL hC a b c d e f g
 |[a,b,c,d,e,f,g,h],_=>gL8_sem o hM hL hC a b c d e f g h
 |_::_::_::_::_::_::_::_::_::_,h=>absurd h (by simp)
end
end Go.Proofs.YtjhggnebkfpgcaaGreatDoor
namespace Go.Proofs.YtjhggnebkfpgcaaGreatDoor
open Go Go.RowKit
open Go.Proofs.Abs
noncomputable section
def inB (x lo hi:Int):Bool:= !ltInt x lo&& !ltInt hi x
def numB (x:It) (tag kind lo hi:Int):Bool:=shapeI x tag kind&&inB (itN x) lo hi
def textI (x:It) (tag:Int):Bool:=shapeI x tag 7&&txtB (itD x)
def lkB:List It→Bool
 |[a,b]=>numB a 4325451 5 101 110&&textI b 4325452
 |_=>false
def liB:List It→Bool
 |[a,b,c]=>numB a 4325527 3 1 1099511627776&&(numB b 4325526 3 0 (itN a)&&numB c 4325528 5 1 2)
 |_=>false
def fullB:List It→Bool
 |a::b::_=>beqInt (itN b) (itN a)
 |_=>false
def rightK (o:Ob) (v:It):Kd→Bool
 | .nam| .cus _=>textI v 4325387
 | .alg=>numB v 4325387 5 1 100
 | .len=>numB v 4325387 2 1 100000
 | .mask=>numB v 4325387 2 0 1048575
 | .dat _=>numB v 4325387 9 (-1099511627776) 1099511627776
 | .lnk=>shapeI v 4325387 1&&lkB (itK v)
 | .lim=>shapeI v 4325387 1&&(liB (itK v)&&(o.lh||fullB (itK v)))
 |_=>false
abbrev yn1 (D K:List AV) (n t y:Int):=[I t,I y,I n,AV.fsl false D,AV.fsl false K]
theorem isText_fn (t y n tag:Int) (D K:List AV) (sh tx:Bool) (Q:AV→Prop):fnK Tryz.prog opts0 40 (aidJ [] [] (manyS [(89,.bool sh),(147,.bool tx)]) [] []) 153 [.agg (itF t y n D K),I tag] [] 0 (fun v _ _=>Q v)=
  (SC 89 [AV.agg (yn1 D K n t y),I tag,I 7] (AV.bool sh)∧mtB sh (oblB (bytesOf D).isSome (SC 147 [AV.str (strOf D)] (AV.bool tx)∧Q (AV.bool tx))) (Q (AV.bool false))):=by kernel_rfl
theorem isNum_fn (t y n tag kind lo hi:Int) (D K:List AV) (sh:Bool) (Q:AV→Prop):fnK Tryz.prog opts0 40 (aidJ [] [] (manyS [(89,.bool sh)]) [] []) 163 [.agg (itF t y n D K),I tag,I kind,I lo,I hi] [] 0 (fun v _ _=>Q v)=
  (SC 89 [AV.agg (yn1 D K n t y),I tag,I kind] (AV.bool sh)∧mtB sh (mtB (!ltInt n lo) (Q (AV.bool !ltInt hi n)) (Q (AV.bool false))) (Q (AV.bool false))):=by kernel_rfl
theorem r_nam (o:Ob) (M N L C:AV) (t y n:Int) (D K:List AV) (r:Bool) (Q:AV→Prop):fnK Tryz.prog opts0 40 (aidJ [] [] (manyS [(153,.bool r)]) [] []) 167 [.agg (obF o M N L C),.agg (itF t y n D K)] [] 0 (fun v _ _=>Q v)=
  (SC 153 [AV.agg (yn1 D K n t y),I 4325387] (AV.bool r)∧Q (AV.bool r)):=by kernel_rfl
theorem r_cus (o:Ob) (M N L C:AV) (t y n:Int) (D K:List AV) (r:Bool) (Q:AV→Prop):fnK Tryz.prog opts0 40 (aidJ [] [] (manyS [(153,.bool r)]) [] []) 152 [.agg (obF o M N L C),.agg (itF t y n D K)] [] 0 (fun v _ _=>Q v)=
  (SC 153 [AV.agg (yn1 D K n t y),I 4325387] (AV.bool r)∧Q (AV.bool r)):=by kernel_rfl
theorem r_dat (o:Ob) (M N L C:AV) (t y n:Int) (D K:List AV) (r:Bool) (Q:AV→Prop):fnK Tryz.prog opts0 40 (aidJ [] [] (manyS [(163,.bool r)]) [] []) 173 [.agg (obF o M N L C),.agg (itF t y n D K)] [] 0 (fun v _ _=>Q v)=
  (SC 163 [AV.agg (yn1 D K n t y),I 4325387,I 9,I (Int.negSucc 1099511627775),I 1099511627776] (AV.bool r)∧Q (AV.bool r)):=by kernel_rfl
theorem r_pl (o:Ob) (M N L C:AV) (t y n:Int) (D K:List AV) (a b c:Int) (r:Bool) (Q:AV→Prop):fnK Tryz.prog opts0 40 (aidJ [] [] (manyS [(163,.bool r)]) [] []) 162 [.agg (obF o M N L C),.agg (itF t y n D K),.fptr [I a] 0,.fptr [I b] 0,.fptr [I c] 0] [] 0 (fun v _ _=>Q v)=
  (SC 163 [AV.agg (yn1 D K n t y),I 4325387,I a,I b,I c] (AV.bool r)∧Q (AV.bool r)):=by kernel_rfl
def lkAid (c0 c1:List AV) (sh r0 r1:Bool):Aid:=aidJ [(1,11,.res (.fptr c0 0)),(1,18,.res (.fptr c1 0))] [] (manyS [(89,.bool sh),(163,.bool r0),(153,.bool r1)]) [] []
abbrev yn2 (D0 K0:List AV) (n0 t0 y0:Int):=[I t0,I y0,I n0,AV.fsl false D0,AV.fsl false K0]
abbrev yn3 (D1 K1:List AV) (n1 t1 y1:Int):=[I t1,I y1,I n1,AV.fsl false D1,AV.fsl false K1]
theorem r_lnk (o:Ob) (M N L C:AV) (t y n:Int) (D K:List AV) (t0 y0 n0 t1 y1 n1:Int) (D0 K0 D1 K1:List AV) (sh r0 r1:Bool) (Q:AV→Prop):fnK Tryz.prog opts0 40 (lkAid (itF t0 y0 n0 D0 K0) (itF t1 y1 n1 D1 K1) sh r0 r1) 179 [.agg (obF o M N L C),.agg (itF t y n D K)] [] 0 (fun v _ _=>Q v)=
  (SC 89 [AV.agg (yn1 D K n t y),I 4325387,I 1] (AV.bool sh)∧mtB sh (mtB (beqInt (Int.ofNat (lenN K)) 2) (indexAddrA Tryz.prog 35 (AV.fsl false K) (I 0)=some (AV.fptr (yn2 D0 K0 n0 t0 y0) 0)∧SC 163 [AV.agg (yn2 D0 K0 n0 t0 y0),I 4325451,I 5,I 101,I 110] (AV.bool r0)∧mtB r0 (indexAddrA Tryz.prog 35 (AV.fsl false K) (I 1)=some (AV.fptr (yn3 D1 K1 n1 t1 y1) 0)∧SC 153 [AV.agg (yn3 D1 K1 n1 t1 y1),I 4325452] (AV.bool r1)∧Q (AV.bool r1)) (Q (AV.bool false))) (Q (AV.bool false))) (Q (AV.bool false))):=by kernel_rfl
def liT (r0 r1 r2:Bool):List AV→Option AV
 | [_,.int _ (.ofNat n),_,_,_]=>match Nat.beq n 4325527 with
  |true=>some (.bool r0)
  |false=>match Nat.beq n 4325526 with
   |true=>some (.bool r1)
   |false=>some (.bool r2)
 |_=>none
def liAid (c0 c1 c2:List AV) (sh r0 r1 r2:Bool):Aid:=aidJ [(1,11,.res (.fptr c0 0)),(1,18,.res (.fptr c1 0)),(1,22,.res (.fptr c0 0)),(1,30,.res (.fptr c2 0))] [] (manyF [(89,fun _=>some (.bool sh)),(163,liT r0 r1 r2)]) [] []
theorem isLim_fn (o:Ob) (M N L C:AV) (t y n:Int) (D K:List AV) (t0 y0 n0 t1 y1 n1 t2 y2 n2:Int) (D0 K0 D1 K1 D2 K2:List AV) (sh r0 r1 r2:Bool) (Q:AV→Prop):fnK Tryz.prog opts0 40 (liAid (itF t0 y0 n0 D0 K0) (itF t1 y1 n1 D1 K1) (itF t2 y2 n2 D2 K2) sh r0 r1 r2) 186 [.agg (obF o M N L C),.agg (itF t y n D K)] [] 0 (fun v _ _=>Q v)=
  (SC 89 [AV.agg (yn1 D K n t y),I 4325387,I 1] (AV.bool sh)∧mtB sh (mtB (beqInt (Int.ofNat (lenN K)) 3) (indexAddrA Tryz.prog 35 (AV.fsl false K) (I 0)=some (AV.fptr (yn2 D0 K0 n0 t0 y0) 0)∧SC 163 [AV.agg (yn2 D0 K0 n0 t0 y0),I 4325527,I 3,I 1,I 1099511627776] (AV.bool r0)∧mtB r0 (indexAddrA Tryz.prog 35 (AV.fsl false K) (I 1)=some (AV.fptr (yn3 D1 K1 n1 t1 y1) 0)∧indexAddrA Tryz.prog 35 (AV.fsl false K) (I 0)=some (AV.fptr (yn2 D0 K0 n0 t0 y0) 0)∧SC 163 [AV.agg (yn3 D1 K1 n1 t1 y1),I 4325526,I 3,I 0,I n0] (AV.bool r1)∧mtB r1 (indexAddrA Tryz.prog 35 (AV.fsl false K) (I 2)=some (AV.fptr [I t2,I y2,I n2,AV.fsl false D2,AV.fsl false K2] 0)∧SC 163 [AV.agg [I t2,I y2,I n2,AV.fsl false D2,AV.fsl false K2],I 4325528,I 5,I 1,I 2] (AV.bool r2)∧Q (AV.bool r2)) (Q (AV.bool false))) (Q (AV.bool false))) (Q (AV.bool false))) (Q (AV.bool false))):=by kernel_rfl
def lmAid (c0 c1:List AV) (r:Bool):Aid:=aidJ [(1,10,.res (.fptr c1 0)),(1,15,.res (.fptr c0 0))] [] (manyS [(186,.bool r)]) [] []
theorem r_lim (o:Ob) (M N L C:AV) (t y n:Int) (D K:List AV) (t0 y0 n0 t1 y1 n1:Int) (D0 K0 D1 K1:List AV) (r:Bool) (Q:AV→Prop):fnK Tryz.prog opts0 40 (lmAid (itF t0 y0 n0 D0 K0) (itF t1 y1 n1 D1 K1) r) 185 [.agg (obF o M N L C),.agg (itF t y n D K)] [] 0 (fun v _ _=>Q v)=
  (SC 186 [AV.agg (obF o M N L C),AV.agg (yn1 D K n t y)] (AV.bool r)∧mtB r (mtB o.23 (Q (AV.bool true)) (indexAddrA Tryz.prog 35 (AV.fsl false K) (I 1)=some (AV.fptr (yn3 D1 K1 n1 t1 y1) 0)∧indexAddrA Tryz.prog 35 (AV.fsl false K) (I 0)=some (AV.fptr (yn2 D0 K0 n0 t0 y0) 0)∧Q (AV.bool (beqInt n1 n0)))) (Q (AV.bool false))):=by kernel_rfl
theorem w_roomN (o:Ob) (M L C:AV) (es:List AV) (Q:AV→Prop):fnK Tryz.prog opts0 40 aid0 165 [.agg (obF o M (.fsl false es) L C)] [] 0 (fun v _ _=>Q v)=
  (Q (AV.bool (ltInt (Int.ofNat (lenN es)) 6))):=by kernel_rfl
theorem w_roomL (o:Ob) (M N C:AV) (es:List AV) (Q:AV→Prop):fnK Tryz.prog opts0 40 aid0 177 [.agg (obF o M N (.fsl false es) C)] [] 0 (fun v _ _=>Q v)=
  (Q (AV.bool (ltInt (Int.ofNat (lenN es)) 8))):=by kernel_rfl
theorem w_roomC (o:Ob) (M N L:AV) (es:List AV) (Q:AV→Prop):fnK Tryz.prog opts0 40 aid0 149 [.agg (obF o M N L (.fsl false es))] [] 0 (fun v _ _=>Q v)=
  (Q (AV.bool (ltInt (Int.ofNat (lenN es)) 6))):=by kernel_rfl
def gfn:Kd→Nat
 | .uid=>127
 | .nam=>166
 | .typ=>130
 | .sta=>134
 | .dat _=>172
 | .why=>138
 | .lnk=>178
 | .lim=>184
 | .cus _=>150
 |_=>161
def gcp:Kd→List AV
 | .dat k=>[.fptr [nI k] 0]
 | .cus s=>[.fptr [.str s] 0]
 | .alg=>[.fptr [atF .alg] 0,.fptr [I 1] 0,.fptr [I 5] 0]
 | .len=>[.fptr [atF .len] 0,.fptr [I 1] 0,.fptr [I 2] 0]
 | .mask=>[.fptr [atF .mask] 0,.fptr [I 0] 0,.fptr [I 2] 0]
 |_=>[]
theorem getF_eq (k:Kd):getF k=fnC (gfn k) (gcp k):=by cases k<;>rfl
def rfn:Kd→Nat
 | .nam=>167
 | .dat _=>173
 | .lnk=>179
 | .lim=>185
 | .cus _=>152
 |_=>162
def rcp:Kd→List AV
 | .alg=>[.fptr [I 5] 0,.fptr [I 1] 0,.fptr [I 100] 0]
 | .len=>[.fptr [I 2] 0,.fptr [I 1] 0,.fptr [I 100000] 0]
 | .mask=>[.fptr [I 2] 0,.fptr [I 0] 0,.fptr [I 1048575] 0]
 |_=>[]
def putB:Kd→Bool
 | .uid| .typ| .sta| .why=>false
 |_=>true
theorem rightF_eq {k:Kd} (h:putB k=true):rightF k=fnC (rfn k) (rcp k):=by cases k<;>first|rfl|cases h
mutual
def txI:It→Prop
 | .mk _ _ _ d ks=>d∈texts∧txIs ks
def txIs:List It→Prop
 |[]=>True
 |k::r=>txI k∧txIs r
end
theorem txI_d {x:It} (h:txI x):itD x∈texts:=by cases x;exact h.1
theorem isText_sem (x:It) (tag:Int) (h:itD x∈texts):SC 153 [itA x,I tag] (.bool (textI x tag)):=by
 have hs:=shape_sem x tag 7
 have ht:=text_sem _ h
 simp only[textI]
 revert hs ht
 generalize shapeI x tag 7=sh
 intro hs ht
 obtain ⟨t,y,n,d,ks⟩:=x
 refine fnK_semV (A:=aidJ [] [] (manyS [(89,.bool sh),(147,.bool (txtB d))]) [] []) base0 aidJ_ok (fnLs_of (LsOk.no rfl)) (by simp[closedAll,closed_it,closedA]) rfl ?_
 rw[itA_F] at hs⊢
 rw[isText_fn]
 simp only[itD] at ht
 refine And.intro hs (mtB_of (fun e=>oblB_of (by simp) ⟨by rw[strOf_toBytes];exact ht, ?_⟩) (fun e=> ?_))
 all_goals simp[e,itD]
theorem isNum_sem (x:It) (tag kind lo hi:Int):SC 163 [itA x,I tag,I kind,I lo,I hi] (.bool (numB x tag kind lo hi)):=by
 have hs:=shape_sem x tag kind
 simp only[numB]
 revert hs
 generalize shapeI x tag kind=sh
 intro hs
 obtain ⟨t,y,n,d,ks⟩:=x
 refine fnK_semV (A:=aidJ [] [] (manyS [(89,.bool sh)]) [] []) base0 aidJ_ok (fnLs_of (LsOk.no rfl)) (by simp[closedAll,closed_it,closedA]) rfl ?_
 rw[itA_F] at hs⊢
 rw[isNum_fn]
 refine And.intro hs (mtB_of (fun e=>mtB_of (fun e2=> ?_) (fun e2=> ?_)) (fun e=> ?_))
 all_goals simp_all [inB,itN]
theorem closed_two {l m:List AV} (h:closedAll l=true) (h':closedAll m=true):closedAll [.agg l,.agg m]=true:=by simp[closedAll,closedA,h,h']
theorem itA_G (x:It):∃t y n D K,itA x= .agg (itF t y n D K):=by obtain ⟨t,y,n,d,ks⟩:=x;exact ⟨t,y,n,_,_,rfl⟩
theorem r_nam_sem (o:Ob) (v:It) (h:itD v∈texts):SC 167 [obA o,itA v] (.bool (textI v 4325387)):=by
 have hs:=isText_sem v 4325387 h
 revert hs
 generalize textI v 4325387=r
 intro hs
 have hc:=closed_it v
 obtain ⟨t,y,n,D,K,e⟩:=itA_G v
 rw[e] at hs hc⊢
 refine fnK_semV (A:=aidJ [] [] (manyS [(153,.bool r)]) [] []) base0 aidJ_ok (fnLs_of (LsOk.no rfl)) (closed_two (closed_obC o) hc) rfl ?_
 simp only[obA,obC]
 rw[r_nam]
 exact ⟨hs,rfl⟩
theorem r_cus_sem (o:Ob) (v:It) (h:itD v∈texts):SC 152 [obA o,itA v] (.bool (textI v 4325387)):=by
 have hs:=isText_sem v 4325387 h
 revert hs
 generalize textI v 4325387=r
 intro hs
 have hc:=closed_it v
 obtain ⟨t,y,n,D,K,e⟩:=itA_G v
 rw[e] at hs hc⊢
 refine fnK_semV (A:=aidJ [] [] (manyS [(153,.bool r)]) [] []) base0 aidJ_ok (fnLs_of (LsOk.no rfl)) (closed_two (closed_obC o) hc) rfl ?_
 simp only[obA,obC]
 rw[r_cus]
 exact ⟨hs,rfl⟩
theorem r_dat_sem (o:Ob) (v:It):SC 173 [obA o,itA v] (.bool (numB v 4325387 9 (-1099511627776) 1099511627776)):=by
 have hs:=isNum_sem v 4325387 9 (-1099511627776) 1099511627776
 revert hs
 generalize numB v 4325387 9 (-1099511627776) 1099511627776=r
 intro hs
 have hc:=closed_it v
 obtain ⟨t,y,n,D,K,e⟩:=itA_G v
 rw[e] at hs hc⊢
 refine fnK_semV (A:=aidJ [] [] (manyS [(163,.bool r)]) [] []) base0 aidJ_ok (fnLs_of (LsOk.no rfl)) (closed_two (closed_obC o) hc) rfl ?_
 simp only[obA,obC]
 rw[r_dat]
 exact ⟨hs,rfl⟩
theorem r_pl_sem (o:Ob) (v:It) (a b c:Int):SC 162 [obA o,itA v,.fptr [I a] 0,.fptr [I b] 0,.fptr [I c] 0] (.bool (numB v 4325387 a b c)):=by
 have hs:=isNum_sem v 4325387 a b c
 revert hs
 generalize numB v 4325387 a b c=r
 intro hs
 have hc:=closed_it v
 obtain ⟨t,y,n,D,K,e⟩:=itA_G v
 rw[e] at hs hc⊢
 refine fnK_semV (A:=aidJ [] [] (manyS [(163,.bool r)]) [] []) base0 aidJ_ok (fnLs_of (LsOk.no rfl)) (by have:=closed_obC o;simp only[closedA] at hc;simp[closedAll,closedA,obA,this,hc]) rfl ?_
 simp only[obA,obC]
 rw[r_pl]
 exact ⟨hs,rfl⟩
theorem r_lnk_sem (o:Ob) (v:It) (h:txI v):SC 179 [obA o,itA v] (.bool (shapeI v 4325387 1&&lkB (itK v))):=by
 have hs:=shape_sem v 4325387 1
 revert hs
 generalize shapeI v 4325387 1=sh
 intro hs
 have hc:=closed_it v
 obtain ⟨t,y,n,d,ks⟩:=v
 rw[itA_F] at hs hc⊢
 have key:∀ (a b:It),ks=[a,b]→SC 179 [obA o,.agg (itF t y n (toBytes d) (itAs ks))] (.bool (sh&&lkB (itK (.mk t y n d ks)))):=fun a b e=>by
  subst e
  have h0:=isNum_sem a 4325451 5 101 110
  have h1:=isText_sem b 4325452 (txI_d h.2.2.1)
  simp only[itK,lkB]
  revert h0 h1
  generalize numB a 4325451 5 101 110=r0
  generalize textI b 4325452=r1
  intro h0 h1
  obtain ⟨t0,y0,n0,d0,k0⟩:=a
  obtain ⟨t1,y1,n1,d1,k1⟩:=b
  refine fnK_semV (A:=lkAid (itF t0 y0 n0 (toBytes d0) (itAs k0)) (itF t1 y1 n1 (toBytes d1) (itAs k1)) sh r0 r1) base0 aidJ_ok (fnLs_of (LsOk.no rfl)) (closed_two (closed_obC o) hc) rfl ?_
  simp only[obA,obC]
  rw[r_lnk]
  rw[itA_F] at h0 h1
  refine And.intro hs (mtB_of (fun e=>mtB_of (fun e2=>And.intro (idxI (i:=0) rfl) (And.intro h0 (mtB_of (fun e3=>And.intro (idxI (i:=1) rfl) (And.intro h1 ?_)) (fun e3=> ?_)))) (fun e2=> ?_)) (fun e=> ?_))
  ·simp[e,e3]
  ·simp[e,e3]
  ·exact absurd e2 (by simp[itAs,lenN,beqInt_iff])
  ·simp[e]
 have other:lenN (itAs ks)≠2→SC 179 [obA o,.agg (itF t y n (toBytes d) (itAs ks))] (.bool false):=fun hne=>by
  refine fnK_semV (A:=lkAid (itF 0 0 0 [] []) (itF 0 0 0 [] []) sh true true) base0 aidJ_ok (fnLs_of (LsOk.no rfl)) (closed_two (closed_obC o) hc) rfl ?_
  simp only[obA,obC]
  rw[r_lnk]
  refine And.intro hs (mtB_of (fun _=>mtB_of (fun e2=> ?_) (fun _=>rfl)) (fun _=>rfl))
  rw[beqInt_iff] at e2
  exact absurd (Int.ofNat.inj e2) hne
 match ks,key,other with
 |[a,b],key,_=>exact key a b rfl
 |[],_,other=>simpa [itK,lkB] using other (by simp[itAs,lenN])
 |[_],_,other=>simpa [itK,lkB] using other (by simp[itAs,lenN])
 |_::_::_::_,_,other=>simpa [itK,lkB] using other (by simp[itAs,lenN])
theorem lim_sem (o:Ob) (v:It):SC 186 [obA o,itA v] (.bool (shapeI v 4325387 1&&liB (itK v))):=by
 have hs:=shape_sem v 4325387 1
 revert hs
 generalize shapeI v 4325387 1=sh
 intro hs
 have hc:=closed_it v
 obtain ⟨t,y,n,d,ks⟩:=v
 rw[itA_F] at hs hc⊢
 have key:∀ (a b c:It),ks=[a,b,c]→SC 186 [obA o,.agg (itF t y n (toBytes d) (itAs ks))] (.bool (sh&&liB (itK (.mk t y n d ks)))):=fun a b c e=>by
  subst e
  have h0:=isNum_sem a 4325527 3 1 1099511627776
  have h1:=isNum_sem b 4325526 3 0 (itN a)
  have h2:=isNum_sem c 4325528 5 1 2
  simp only[itK,liB]
  revert h0 h1 h2
  generalize numB a 4325527 3 1 1099511627776=r0
  generalize numB b 4325526 3 0 (itN a)=r1
  generalize numB c 4325528 5 1 2=r2
  intro h0 h1 h2
  obtain ⟨t0,y0,n0,d0,k0⟩:=a
  obtain ⟨t1,y1,n1,d1,k1⟩:=b
  obtain ⟨t2,y2,n2,d2,k2⟩:=c
  refine fnK_semV (A:=liAid (itF t0 y0 n0 (toBytes d0) (itAs k0)) (itF t1 y1 n1 (toBytes d1) (itAs k1)) (itF t2 y2 n2 (toBytes d2) (itAs k2)) sh r0 r1 r2) base0 aidJ_ok (fnLs_of (LsOk.no rfl)) (closed_two (closed_obC o) hc) rfl ?_
  simp only[obA,obC]
  rw[isLim_fn]
  rw[itA_F] at h0 h1 h2
  simp only[itN] at h1
  refine And.intro hs (mtB_of (fun e=>mtB_of (fun e2=>And.intro (idxI (i:=0) rfl) (And.intro h0 (mtB_of (fun e3=>And.intro (idxI (i:=1) rfl) (And.intro (idxI (i:=0) rfl) (And.intro h1 (mtB_of (fun e4=>And.intro (idxI (i:=2) rfl) (And.intro h2 ?_)) (fun e4=> ?_))))) (fun e3=> ?_)))) (fun e2=> ?_)) (fun e=> ?_))
  ·simp[e,e3,e4]
  ·simp[e,e3,e4]
  ·simp[e,e3]
  ·exact absurd e2 (by simp[itAs,lenN,beqInt_iff])
  ·simp[e]
 have other:lenN (itAs ks)≠3→SC 186 [obA o,.agg (itF t y n (toBytes d) (itAs ks))] (.bool false):=fun hne=>by
  refine fnK_semV (A:=liAid (itF 0 0 0 [] []) (itF 0 0 0 [] []) (itF 0 0 0 [] []) sh true true true) base0 aidJ_ok (fnLs_of (LsOk.no rfl)) (closed_two (closed_obC o) hc) rfl ?_
  simp only[obA,obC]
  rw[isLim_fn]
  refine And.intro hs (mtB_of (fun _=>mtB_of (fun e2=> ?_) (fun _=>rfl)) (fun _=>rfl))
  rw[beqInt_iff] at e2
  exact absurd (Int.ofNat.inj e2) hne
 match ks,key,other with
 |[a,b,c],key,_=>exact key a b c rfl
 |[],_,other=>simpa [itK,liB] using other (by simp[itAs,lenN])
 |[_],_,other=>simpa [itK,liB] using other (by simp[itAs,lenN])
 |[_,_],_,other=>simpa [itK,liB] using other (by simp[itAs,lenN])
 |_::_::_::_::_,_,other=>simpa [itK,liB] using other (by simp[itAs,lenN])
theorem r_lim_sem (o:Ob) (v:It):SC 185 [obA o,itA v] (.bool (shapeI v 4325387 1&&(liB (itK v)&&(o.lh||fullB (itK v))))):=by
  have hs:=lim_sem o v
  have hc:=closed_it v
  obtain ⟨t,y,n,d,ks⟩:=v
  simp only[itK] at hs⊢
  rw[itA_F] at hs hc⊢
  rw[←Bool.and_assoc]
  match ks with
  | [⟨t0,y0,n0,d0,k0⟩,⟨t1,y1,n1,d1,k1⟩,⟨t2,y2,n2,d2,k2⟩]=>
    revert hs
    generalize (shapeI (.mk t y n d [⟨t0,y0,n0,d0,k0⟩,⟨t1,y1,n1,d1,k1⟩,⟨t2,y2,n2,d2,k2⟩]) 4325387 1&&liB [⟨t0,y0,n0,d0,k0⟩,⟨t1,y1,n1,d1,k1⟩,⟨t2,y2,n2,d2,k2⟩])=r
    intro hs
    refine fnK_semV (A:=lmAid (itF t0 y0 n0 (toBytes d0) (itAs k0)) (itF t1 y1 n1 (toBytes d1) (itAs k1)) r) base0 aidJ_ok (fnLs_of (LsOk.no rfl)) (closed_two (closed_obC o) hc) rfl ?_
    simp only[obA,obC] at hs⊢
    rw[r_lim]
    refine And.intro hs (mtB_of (fun e=>mtB_of (fun e2=> ?_) (fun e2=>And.intro (idxI (i:=1) rfl) (And.intro (idxI (i:=0) rfl) ?_))) (fun e=> ?_))
    · simp[e,e2]
    · simp[e,e2,fullB,itN]
    · simp[e]
  |[]=>simpa [liB] using none_sem hs hc
  |[_]=>simpa [liB] using none_sem hs hc
  |[_,_]=>simpa [liB] using none_sem hs hc
  |_::_::_::_::_=>simpa [liB] using none_sem hs hc
 where
  none_sem {o:Ob} {t y n:Int} {D K:List AV} {r:Bool} (hs:SC 186 [obA o,.agg (itF t y n D K)] (.bool (r&&false))) (hc:closedA (.agg (itF t y n D K))=true):SC 185 [obA o,.agg (itF t y n D K)] (.bool false):=by
    rw[Bool.and_false] at hs
    refine fnK_semV (A:=lmAid (itF 0 0 0 [] []) (itF 0 0 0 [] []) false) base0 aidJ_ok (fnLs_of (LsOk.no rfl)) (closed_two (closed_obC o) hc) rfl ?_
    simp only[obA,obC] at hs⊢
    rw[r_lim]
    exact And.intro hs rfl
theorem right_sem {k:Kd} (hk:putB k=true) (o:Ob) (v:It) (h:txI v):SC (rfn k) (obA o::itA v::rcp k) (.bool (rightK o v k)):=by
 cases k with
 |nam=>exact r_nam_sem o v (txI_d h)
 |cus s=>exact r_cus_sem o v (txI_d h)
 |dat k=>exact r_dat_sem o v
 |alg=>exact r_pl_sem o v 5 1 100
 |len=>exact r_pl_sem o v 2 1 100000
 |mask=>exact r_pl_sem o v 2 0 1048575
 |lnk=>exact r_lnk_sem o v h
 |lim=>exact r_lim_sem o v
 |_=>cases hk
end
end Go.Proofs.YtjhggnebkfpgcaaGreatDoor
namespace Go.Proofs.YtjhggnebkfpgcaaGreatDoor
set_option maxRecDepth 20000
open Go Go.RowKit
open Go.Proofs.Abs
noncomputable section
def cgV0 (O P:List AV) (i:Nat):View:=⟨[(4,.nilsl),(9,.fsl false P),(10,I (.ofNat (lenN P))),(11,I (.ofNat i))],[(2,.ptr 0 0)],[(0,.cells O,.whole)],2,27⟩
def cgV1 (O P:List AV) (i:Nat) (es:List AV):View:=⟨[(9,.fsl false P),(10,I (.ofNat (lenN P))),(11,I (.ofNat i))],[(2,.ptr 0 0),(4,.rsl true 1 0 i 5)],[(0,.cells O,.whole),(1,.cells es,.whole)],2,27⟩
def cgA (p:Nat) (n t:List UInt8):Aid:=aidJ [(4,0,.res (.fptr [nI p] 0)),(5,4,.res (.fptr [.str n,.str t] 0))] [] noSem [92] []
@[simp] abbrev yo3 (P:List AV):=(I (Int.ofNat (lenN P))=I (Int.ofNat (lenN P))∧closedA (I (Int.ofNat (lenN P)))=true)
@[simp] abbrev yo4 (P:List AV):=(AV.fsl false P=AV.fsl false P∧closedA (AV.fsl false P)=true)
@[simp] abbrev yo5 (C L M N:AV) (o:Ob):=((obF o M N L C)=(obF o M N L C)∧closedAll (obF o M N L C)=true)
@[simp] abbrev yo6:=(some 0=some 0∧0=0)
@[simp] abbrev yo1 (C L M N:AV) (P:List AV) (o:Ob):=(((AV.nilsl=AV.nilsl∧true=true)∧(yo4 P)∧(yo3 P)∧(I 0=I 0∧true=true)∧True)∧(yo6∧True)∧(yo5 C L M N o)∧True)
abbrev yo2 (t:List UInt8):=[AV.agg [I 4325387,I 7,I 0,AV.fsl false (toBytes t),AV.nilsl]]
theorem cg_0 (o:Ob) (M N L C:AV) (P:List AV) (p:Nat) (n t:List UInt8) (es:List AV) (Nx:Prop) (Q:AExit→St→Prop):wpK Tryz.prog opts0 40 (cgA p n t) (lpCode Tryz.prog 150 4) (cgV0 (obF o M N L C) P 0).st (roundP 0 [(0,0),(1,15)] (cgV1 (obF o M N L C) P 1 es) Nx [(0,0)] (cgV0 (obF o M N L C) P 0) Q)=
  (mtB (ltInt 0 (Int.ofNat (lenN P))) (indexAddrA Tryz.prog 190 (AV.fsl false P) (I 0)=some (AV.fptr [I (Int.ofNat p)] 0)∧indexAddrA Tryz.prog 29 C (I (Int.ofNat p))=some (AV.fptr [AV.str n,AV.str t] 0)∧(((yo4 P)∧(yo3 P)∧(I 1=I 1∧true=true)∧True)∧(yo6∧(true=true∧some 15=some 15∧0=0∧1=lenN (yo2 t)∧5=5)∧True)∧(yo5 C L M N o)∧(flat (yo2 t)=es∧closedAll es=true)∧True)∧Nx) ((yo1 C L M N P o)∧Q (AExit.exit 0) (cgV0 (obF o M N L C) P 0).st)):=by kernel_rfl
theorem cg_1 (o:Ob) (M N L C:AV) (P:List AV) (p i j:Nat) (n t:List UInt8) (es es':List AV) (Nx:Prop) (Q:AExit→St→Prop):wpK Tryz.prog opts0 40 (cgA p n t) (lpCode Tryz.prog 150 4) (cgV1 (obF o M N L C) P i es).st (roundP 0 [(0,0),(1,15)] (cgV1 (obF o M N L C) P j es') Nx [(0,0),(1,1)] (cgV1 (obF o M N L C) P i es) Q)=
  (mtB (ltInt (Int.ofNat i) (Int.ofNat (lenN P))) (indexAddrA Tryz.prog 190 (AV.fsl false P) (I (Int.ofNat i))=some (AV.fptr [I (Int.ofNat p)] 0)∧indexAddrA Tryz.prog 29 C (I (Int.ofNat p))=some (AV.fptr [AV.str n,AV.str t] 0)∧oblB (allSize 5 (yo2 t)&&(((i+lenN (yo2 t))*72).ble 140737488355328&&(allOne (flat (yo2 t))&&true))) (oblB ((lenN es).beq (i*5)) ((((yo4 P)∧(yo3 P)∧(I (wrapA IntKind.i64 (Int.ofNat i+1))=I (Int.ofNat j)∧closedA (I (Int.ofNat j))=true)∧True)∧(yo6∧(true=true∧some 15=some 15∧0=0∧j=i+lenN (yo2 t)∧5=5)∧True)∧(yo5 C L M N o)∧(es++flat (yo2 t)=es'∧closedAll es'=true)∧True)∧Nx))) ((((yo4 P)∧(yo3 P)∧(I (Int.ofNat i)=I (Int.ofNat i)∧closedA (I (Int.ofNat i))=true)∧True)∧(yo6∧(true=true∧some 1=some 1∧0=0∧i=i∧5=5)∧True)∧(yo5 C L M N o)∧(es=es∧closedAll es=true)∧True)∧Q (AExit.exit 0) (cgV1 (obF o M N L C) P i es).st)):=by kernel_rfl
def cgL (O P:List AV) (F:View):LoopS:=fun st Q=>seesK 0 [(0,0)] (cgV0 O P 0) st∧Q (.exit 0) F.st
theorem cg_fn0 (o:Ob) (M N L C:AV) (s:List UInt8) (P:List AV) (Q:AV→Heap→Prop):fnK Tryz.prog opts0 40 (aidJ [] [(4,cgL (obF o M N L C) P (cgV0 (obF o M N L C) P 0))] (manyS [(151,.fsl false P)]) [] []) 150 [.agg (obF o M N L C),.fptr [.str s] 0] [] 0 (fun v H _=>Q v H)=
  (SC 151 [AV.agg (obF o M N L C),AV.str s] (AV.fsl false P)∧(yo1 C L M N P o)∧Q AV.nilsl [(0,some (Blk.cells (obF o M N L C)))]):=by kernel_rfl
theorem cg_fn1 (o:Ob) (M N L C:AV) (s:List UInt8) (P:List AV) (es:List AV) (Q:AV→Heap→Prop):fnK Tryz.prog opts0 40 (aidJ [] [(4,cgL (obF o M N L C) P (cgV1 (obF o M N L C) P (lenN P) es))] (manyS [(151,.fsl false P)]) [] []) 150 [.agg (obF o M N L C),.fptr [.str s] 0] [] 0 (fun v H _=>Q v H)=
  (SC 151 [AV.agg (obF o M N L C),AV.str s] (AV.fsl false P)∧(yo1 C L M N P o)∧Q (AV.rsl true 1 0 (lenN P) 5) [(0,some (Blk.cells (obF o M N L C))),(1,some (Blk.cells es))]):=by kernel_rfl
theorem good_nIs:∀p:List Nat,∀e∈p.map nI,goodEl 1 e:=fun p e he=>by
 obtain ⟨x,_,rfl⟩:=List.mem_map.1 he
 exact ⟨rfl,rfl⟩
theorem places_sem (o:Ob) {M N L:AV} (s:List UInt8) (hM:closedA M=true) (hN:closedA N=true) (hL:closedA L=true) (hb:o.cust.length≤big):SC 151 [.agg (obF o M N L (cusA o)),.str s] (.fsl false ((placesL s o.cust 0).map nI)):=by
 have h0:=places_body0 o s hM hN hL hb
 revert h0
 generalize placesL s o.cust 0=p
 intro h0
 have hcl:closedAll [.agg (obF o M N L (cusA o)),.str s]=true:=by simp only[closedAll,closedA,closed_obF o hM hN hL (closed_cusA o),Bool.and_self]
 refine bodySem_sem base0.glob hcl h0 ?_
 cases p with
 |nil=>exact ⟨.nilsl,⟨1,rfl⟩,rfl,.nil⟩
 |cons a r=>exact ⟨.fsl false ((a::r).map nI),Frz.out (Frz.row (es:=(a::r).map nI) rfl rfl (flat_nIs _).symm (by simp) (good_nIs _) (closed_nIs _)),closed_fslA (closed_nIs _),.refl _⟩
def textAt (l:List Cu) (p:Nat):List UInt8:=match l[p]? with
 |some c=>c.text
 |none=>[]
theorem texts_at (s:List UInt8):∀ (l pre:List Cu),(placesL s l pre.length).map (textAt (pre++l))=(l.filter fun c=>beqBytes c.name s).map Cu.text
 |[],_=>rfl
 | c::r,pre=>by
  have ih:=texts_at s r (pre++[c])
  simp only[List.length_append,List.length_cons,List.length_nil,Nat.zero_add,List.append_assoc,List.cons_append,List.nil_append] at ih
  simp only[placesL]
  cases hc:beqBytes c.name s with
  |false=>simp only[List.filter_cons,hc,Bool.false_eq_true,if_false,ih]
  |true=>
   have:textAt (pre++c::r) pre.length=c.text:=by simp[textAt]
   simp only[List.filter_cons,hc,if_true,List.map_cons,ih,this]
theorem rawN_length (l:List (List UInt8)):(flat (l.map rawN)).length=l.length*5:=by
 induction l with
 |nil=>rfl
 |cons x r ih=>simp only[List.map_cons,flat,List.length_append,ih,rawN,AV.cells,List.length_cons,List.length_nil];omega
theorem closed_flatN (l:List (List UInt8)):closedAll (flat (l.map rawN))=true:=closed_flat (closed_rawN l) fun e he=>by
 obtain ⟨x,_,rfl⟩:=List.mem_map.1 he
 simp[rawN,AV.cells,closedAll,closedA]
theorem idxP {f:Bool} {l:List Nat} {i p:Nat} (hx:l[i]? =some p):indexAddrA Tryz.prog 190 (.fsl f (l.map nI)) (.int .i64 (.ofNat i))=some (.fptr [nI p] 0):=
 fsl_index (v:=nI p) (e:=3) (sz:=1) (by kernel_rfl) (by kernel_rfl) (by rw[List.getElem?_map,hx];rfl) rfl
def cgE (T:List (List UInt8)) (i:Nat):List AV:=flat ((T.take i).map rawN)
theorem cgE_succ {T:List (List UInt8)} {i:Nat} {x:List UInt8} (h:T[i]? =some x):cgE T i++flat [rawN x]=cgE T (i+1):=by
 rw[cgE,cgE,take_snoc h,List.map_append,flat_append]
 rfl
theorem cgE_len {T:List (List UInt8)} {i:Nat} (h:i≤T.length):(cgE T i).length=i*5:=by rw[cgE,rawN_length,List.length_take,Nat.min_eq_left h]
theorem cg_loop {o:Ob} {M N L:AV} {ps:List Nat} {Q:AExit→St→Prop} (hM:closedA M=true) (hN:closedA N=true) (hL:closedA L=true) (hps:∀p∈ps,p<o.cust.length) (hb:ps.length≤big)
  (hq:Q (.exit 0) (cgV1 (obF o M N L (cusA o)) (ps.map nI) ps.length (cgE (ps.map (textAt o.cust)) ps.length)).st):
  ∀i,i≤ps.length→(0<i→ALp Tryz.prog opts0.glob 0 (lpCode Tryz.prog 150 4) (cgV1 (obF o M N L (cusA o)) (ps.map nI) i (cgE (ps.map (textAt o.cust)) i)).st Q):=by
 have hO:=closed_obF o hM hN hL (closed_cusA o)
 have hP:=closed_nIs ps
 have hlen:lenN (ps.map nI)=ps.length:=by rw[lenN_eq,List.length_map]
 have hb:ps.length≤1099511627776:=hb
 have hE:∀i,closedAll (cgE (ps.map (textAt o.cust)) i)=true:=fun i=>closed_flatN _
 refine count_up _ (fun _=> ?_) (fun i hi ih h0=> ?_)
 ·refine ALp.round (A:=cgA 0 [] []) (V1:=cgV1 (obF o M N L (cusA o)) (ps.map nI) 0 []) (V2:=cgV1 (obF o M N L (cusA o)) (ps.map nI) 0 []) (F:=cgV1 (obF o M N L (cusA o)) (ps.map nI) ps.length (cgE (ps.map (textAt o.cust)) ps.length)) (lk:=[(0,0),(1,15)]) (lk':=[(0,0),(1,1)]) base0 aidJ_ok (LsOk.no rfl) .refl ?_
  rw[cg_1]
  refine mtB_of (fun h=> ?_) (fun _=>⟨⟨⟨⟨rfl,closed_fslA hP⟩,⟨rfl,rfl⟩,⟨rfl,rfl⟩,trivial⟩,⟨⟨rfl,rfl⟩,⟨rfl,rfl,rfl,rfl,rfl⟩,trivial⟩,⟨rfl,hO⟩,⟨rfl,hE _⟩,trivial⟩,hq⟩)
  have h:=ltInt_iff.1 h
  simp only[hlen,Int.ofNat_eq_natCast] at h
  omega
 ·have g1:=List.getElem?_eq_getElem hi
  have hp:=hps _ (List.getElem_mem hi)
  have hT:(ps.map (textAt o.cust))[i]? =some (textAt o.cust ps[i]):=by rw[List.getElem?_map,g1];rfl
  have hs:=cgE_succ hT
  revert g1 hp hs
  generalize ps[i]=p
  intro g1 hp hs
  have g2:=List.getElem?_eq_getElem hp
  have htx:textAt o.cust p=(o.cust[p]).text:=by simp[textAt,hp]
  rw[htx] at hs
  revert g2 hs
  generalize o.cust[p]=c
  intro hs g2
  have ih:=ih (by omega)
  refine ALp.round (A:=cgA p c.name c.text) (V1:=cgV1 (obF o M N L (cusA o)) (ps.map nI) (i+1) (cgE (ps.map (textAt o.cust)) (i+1))) (V2:=cgV1 (obF o M N L (cusA o)) (ps.map nI) (i+1) (cgE (ps.map (textAt o.cust)) (i+1))) (F:=cgV1 (obF o M N L (cusA o)) (ps.map nI) i (cgE (ps.map (textAt o.cust)) i)) (lk:=[(0,0),(1,15)]) (lk':=[(0,0),(1,1)]) base0 aidJ_ok (LsOk.no rfl) .refl ?_
  rw[cg_1]
  refine mtB_of (fun _=>⟨idxP g1,idxC g2,oblB_of ?_ (oblB_of ?_ ⟨⟨⟨⟨rfl,closed_fslA hP⟩,⟨rfl,rfl⟩,⟨?_,rfl⟩,trivial⟩,⟨⟨rfl,rfl⟩,⟨rfl,rfl,rfl,rfl,rfl⟩,trivial⟩,⟨rfl,hO⟩,⟨hs,hE _⟩,trivial⟩,ih⟩)⟩) (fun h=> ?_)
  ·have hi2:(i+1)*72≤140737488355328:=by omega
   simp only[Bool.and_eq_true,Nat.ble_eq]
   exact ⟨rfl,hi2,rfl,trivial⟩
  ·rw[beq_iff,lenN_eq,cgE_len (by rw[List.length_map];omega)]
  ·rw[wrapA_i64 (by simp;omega) (by simp;omega)];rfl
  ·have h:=ltInt_false.1 h
   simp only[hlen,Int.ofNat_eq_natCast] at h
   omega
theorem cg_at:loopsAt (fnCode Tryz.prog 150) 4=[lpCode Tryz.prog 150 4]:=by kernel_rfl
theorem g_cus_sem (o:Ob) (s:List UInt8) (hb:o.cust.length≤big):SC 150 [obA o,.fptr [.str s] 0] (.fsl false (itAs (getK o (.cus s)))):=by
 have hpl:=places_sem o s (closed_mat o) (closed_nam o) (closed_lnk o) hb
 have htx:=texts_at s o.cust []
 have hlt:=placesL_lt s o.cust 0
 have hln:=placesL_len s o.cust 0
 simp only[List.length_nil,List.nil_append] at htx
 have hget:itAs (getK o (.cus s))=itAs (((o.cust.filter fun c=>beqBytes c.name s).map Cu.text).map txt):=by rw[List.map_map];rfl
 rw[hget,←htx]
 clear hget htx
 revert hpl hlt hln
 generalize placesL s o.cust 0=ps
 intro hpl hlt hln
 have hps:∀p∈ps,p<o.cust.length:=fun p hp=>by have:=hlt p hp;omega
 have hO:=closed_obC o
 have hcl:closedAll [obA o,.fptr [.str s] 0]=true:=by simp only[closedAll,obA,closedA,hO,Bool.and_self]
 cases ps with
 | nil=>
  refine fnK_semX (A:=aidJ [] [(4,cgL (obC o) [] (cgV0 (obC o) [] 0))] (manyS [(151,.fsl false [])]) [] []) base0 aidJ_ok
   (fnLs_of (LsOk.at1 rfl cg_at fun st Q hs=> .seen base0.glob hs.1 ?_)) hcl ?_
  ·refine ALp.round (A:=cgA 0 [] []) (V1:=cgV1 (obC o) [] 1 []) (V2:=cgV1 (obC o) [] 1 []) (F:=cgV0 (obC o) [] 0) (lk:=[(0,0),(1,15)]) (lk':=[(0,0)]) base0 aidJ_ok (LsOk.no rfl) .refl ?_
   simp only[obC]
   rw[cg_0]
   refine mtB_of (fun h=>by cases h) (fun _=>⟨⟨⟨⟨rfl,rfl⟩,⟨rfl,rfl⟩,⟨rfl,rfl⟩,⟨rfl,rfl⟩,trivial⟩,⟨⟨rfl,rfl⟩,trivial⟩,⟨rfl,hO⟩,trivial⟩,hs.2⟩)
  ·simp only[obA,obC]
   rw[cg_fn0]
   exact ⟨hpl,⟨⟨⟨rfl,rfl⟩,⟨rfl,rfl⟩,⟨rfl,rfl⟩,⟨rfl,rfl⟩,trivial⟩,⟨⟨rfl,rfl⟩,trivial⟩,⟨rfl,hO⟩,trivial⟩,.nilsl,⟨1,rfl⟩,rfl,.nil⟩
 | cons p r=>
  have hlen:lenN ((p::r).map nI)=(p::r).length:=by rw[lenN_eq,List.length_map]
  have hP:=closed_nIs (p::r)
  have hb':(p::r).length≤big:=Nat.le_trans hln hb
  refine fnK_semX (A:=aidJ [] [(4,cgL (obC o) ((p::r).map nI) (cgV1 (obC o) ((p::r).map nI) (lenN ((p::r).map nI)) (cgE ((p::r).map (textAt o.cust)) (p::r).length)))] (manyS [(151,.fsl false ((p::r).map nI))]) [] []) base0 aidJ_ok
   (fnLs_of (LsOk.at1 rfl cg_at fun st Q hs=> .seen base0.glob hs.1 ?_)) hcl ?_
  ·have hp:=hps p (by simp)
   have g2:=List.getElem?_eq_getElem hp
   have htx:textAt o.cust p=(o.cust[p]).text:=by simp[textAt,hp]
   have hT:((p::r).map (textAt o.cust))[0]? =some (textAt o.cust p):=rfl
   have hs1:=cgE_succ hT
   rw[htx] at hs1
   revert g2 hs1
   generalize o.cust[p]=c
   intro g2 hs1
   have hs1:flat [rawN c.text]=cgE ((p::r).map (textAt o.cust)) 1:=hs1
   have hq:=hs.2
   rw[hlen] at hq
   refine ALp.round (A:=cgA p c.name c.text) (V1:=cgV1 (obC o) ((p::r).map nI) 1 (cgE ((p::r).map (textAt o.cust)) 1)) (V2:=cgV1 (obC o) ((p::r).map nI) 1 (cgE ((p::r).map (textAt o.cust)) 1)) (F:=cgV0 (obC o) ((p::r).map nI) 0) (lk:=[(0,0),(1,15)]) (lk':=[(0,0)]) base0 aidJ_ok (LsOk.no rfl) .refl ?_
   have hnext:=cg_loop (closed_mat o) (closed_nam o) (closed_lnk o) hps hb' hq 1 (by simp) (by omega)
   simp only[obC]
   rw[cg_0]
   refine mtB_of (fun _=>⟨idxP (i:=0) rfl,idxC g2,⟨⟨⟨rfl,closed_fslA hP⟩,⟨rfl,rfl⟩,⟨rfl,rfl⟩,trivial⟩,⟨⟨rfl,rfl⟩,⟨rfl,rfl,rfl,rfl,rfl⟩,trivial⟩,⟨rfl,hO⟩,⟨hs1,closed_flatN _⟩,trivial⟩,hnext⟩) (fun h=> ?_)
   have h:=ltInt_false.1 h
   simp only[hlen,Int.ofNat_eq_natCast,List.length_cons] at h
   omega
  ·simp only[obA,obC]
   rw[cg_fn1]
   refine ⟨hpl,⟨⟨⟨rfl,rfl⟩,⟨rfl,closed_fslA hP⟩,⟨rfl,rfl⟩,⟨rfl,rfl⟩,trivial⟩,⟨⟨rfl,rfl⟩,trivial⟩,⟨rfl,hO⟩,trivial⟩,.fsl false (((p::r).map (textAt o.cust)).map rawN),Frz.out (Frz.row (c:=cgE ((p::r).map (textAt o.cust)) (p::r).length) (es:=((p::r).map (textAt o.cust)).map rawN) rfl rfl ?_ ?_ (good_rawN _) (closed_rawN _)),closed_fslA (closed_rawN _),wk_rawN _⟩
   ·rw[cgE,List.take_of_length_le (by simp)]
   ·rw[hlen,List.length_map,List.length_map]
end
end Go.Proofs.YtjhggnebkfpgcaaGreatDoor
namespace Go.Proofs.YtjhggnebkfpgcaaGreatDoor
open Go Go.RowKit
open Go.Proofs.Abs
noncomputable section
abbrev yp1 (D K:List AV) (n t y:Int):=(15,some (Blk.cells [I t,I y,I n,AV.fsl false D,AV.fsl false K]))
theorem p_nam (o:Ob) (M N L C:AV) (i t y n:Int) (D K R:List AV) (Q:AV→Heap→Nat→Prop):fnK Tryz.prog opts0 40 (aidJ [] [] (manyS [(169,.fsl false R)]) [] []) 168 [.ptr 1 0,I i,.agg (itF t y n D K)] [(1,some (.cells (obF o M N L C)))] 15 Q=
  (oblB (bytesOf D).isSome (SC 169 [N,I i,AV.str (strOf D)] (AV.fsl false R)∧Q (AV.tuple []) [(yp1 D K n t y),(1,some (Blk.cells (obF o M (AV.fsl false R) L C)))] 29)):=by kernel_rfl
theorem p_dat1 (o:Ob) (M N L C:AV) (i t y n:Int) (D K:List AV) (Q:AV→Heap→Nat→Prop):fnK Tryz.prog opts0 40 aid0 174 [.ptr 1 0,I i,.agg (itF t y n D K),.fptr [I 1] 0] [(1,some (.cells (obF o M N L C)))] 15 Q=
  (Q (AV.tuple []) [(yp1 D K n t y),(1,some (Blk.cells (obF {o with d1:=⟨true,n⟩} M N L C)))] 25):=by kernel_rfl
theorem p_dat2 (o:Ob) (M N L C:AV) (i t y n:Int) (D K:List AV) (Q:AV→Heap→Nat→Prop):fnK Tryz.prog opts0 40 aid0 174 [.ptr 1 0,I i,.agg (itF t y n D K),.fptr [I 2] 0] [(1,some (.cells (obF o M N L C)))] 15 Q=
  (Q (AV.tuple []) [(yp1 D K n t y),(1,some (Blk.cells (obF {o with d2:=⟨true,n⟩} M N L C)))] 25):=by kernel_rfl
theorem p_dat3 (o:Ob) (M N L C:AV) (i t y n:Int) (D K:List AV) (Q:AV→Heap→Nat→Prop):fnK Tryz.prog opts0 40 aid0 174 [.ptr 1 0,I i,.agg (itF t y n D K),.fptr [I 3] 0] [(1,some (.cells (obF o M N L C)))] 15 Q=
  (Q (AV.tuple []) [(yp1 D K n t y),(1,some (Blk.cells (obF {o with d3:=⟨true,n⟩} M N L C)))] 25):=by kernel_rfl
theorem p_dat4 (o:Ob) (M N L C:AV) (i t y n:Int) (D K:List AV) (Q:AV→Heap→Nat→Prop):fnK Tryz.prog opts0 40 aid0 174 [.ptr 1 0,I i,.agg (itF t y n D K),.fptr [I 4] 0] [(1,some (.cells (obF o M N L C)))] 15 Q=
  (Q (AV.tuple []) [(yp1 D K n t y),(1,some (Blk.cells (obF {o with d4:=⟨true,n⟩} M N L C)))] 25):=by kernel_rfl
theorem p_alg (o:Ob) (M N L C:AV) (i t y n:Int) (D K:List AV) (Q:AV→Heap→Nat→Prop):fnK Tryz.prog opts0 40 (aidJ [] [] noSem [132] []) 164 [.ptr 1 0,I i,.agg (itF t y n D K),.fptr [fnA 132] 0] [(1,some (.cells (obF o M N L C)))] 15 Q=
  (Q (AV.tuple []) [(yp1 D K n t y),(1,some (Blk.cells (obF {o with alg:=n} M N L C)))] 28):=by kernel_rfl
theorem p_len (o:Ob) (M N L C:AV) (i t y n:Int) (D K:List AV) (Q:AV→Heap→Nat→Prop):fnK Tryz.prog opts0 40 (aidJ [] [] noSem [133] []) 164 [.ptr 1 0,I i,.agg (itF t y n D K),.fptr [fnA 133] 0] [(1,some (.cells (obF o M N L C)))] 15 Q=
  (Q (AV.tuple []) [(yp1 D K n t y),(1,some (Blk.cells (obF {o with len:=n} M N L C)))] 28):=by kernel_rfl
theorem p_mask (o:Ob) (M N L C:AV) (i t y n:Int) (D K:List AV) (Q:AV→Heap→Nat→Prop):fnK Tryz.prog opts0 40 (aidJ [] [] noSem [124] []) 164 [.ptr 1 0,I i,.agg (itF t y n D K),.fptr [fnA 124] 0] [(1,some (.cells (obF o M N L C)))] 15 Q=
  (Q (AV.tuple []) [(yp1 D K n t y),(1,some (Blk.cells (obF {o with mask:=n} M N L C)))] 28):=by kernel_rfl
def plkA (c0 c1 R:List AV):Aid:=aidJ [(1,8,.res (.fptr c0 0)),(1,13,.res (.fptr c1 0))] [] (manyS [(181,.fsl false R)]) [] []
theorem p_lnk (o:Ob) (M N L C:AV) (i t y n:Int) (D K R:List AV) (t0 y0 n0 t1 y1 n1:Int) (D0 K0 D1 K1:List AV) (Q:AV→Heap→Nat→Prop):fnK Tryz.prog opts0 40 (plkA (itF t0 y0 n0 D0 K0) (itF t1 y1 n1 D1 K1) R) 180 [.ptr 1 0,I i,.agg (itF t y n D K)] [(1,some (.cells (obF o M N L C)))] 15 Q=
  (indexAddrA Tryz.prog 35 (AV.fsl false K) (I 0)=some (AV.fptr [I t0,I y0,I n0,AV.fsl false D0,AV.fsl false K0] 0)∧indexAddrA Tryz.prog 35 (AV.fsl false K) (I 1)=some (AV.fptr [I t1,I y1,I n1,AV.fsl false D1,AV.fsl false K1] 0)∧oblB (bytesOf D1).isSome (SC 181 [L,I i,AV.agg [I n0,AV.str (strOf D1)]] (AV.fsl false R)∧Q (AV.tuple []) [(yp1 D K n t y),(1,some (Blk.cells (obF o M N (AV.fsl false R) C)))] 38)):=by kernel_rfl
def pliA (c0 c1 c2:List AV):Aid:=aidJ [(1,3,.res (.fptr c0 0)),(1,8,.res (.fptr c1 0)),(1,13,.res (.fptr c2 0))] [] noSem [] []
theorem p_lim (o:Ob) (M N L C:AV) (i t y n:Int) (D K:List AV) (t0 y0 n0 t1 y1 n1 t2 y2 n2:Int) (D0 K0 D1 K1 D2 K2:List AV) (Q:AV→Heap→Nat→Prop):fnK Tryz.prog opts0 40 (pliA (itF t0 y0 n0 D0 K0) (itF t1 y1 n1 D1 K1) (itF t2 y2 n2 D2 K2)) 187 [.ptr 1 0,I i,.agg (itF t y n D K)] [(1,some (.cells (obF o M N L C)))] 15 Q=
  (indexAddrA Tryz.prog 35 (AV.fsl false K) (I 0)=some (AV.fptr [I t0,I y0,I n0,AV.fsl false D0,AV.fsl false K0] 0)∧indexAddrA Tryz.prog 35 (AV.fsl false K) (I 1)=some (AV.fptr [I t1,I y1,I n1,AV.fsl false D1,AV.fsl false K1] 0)∧indexAddrA Tryz.prog 35 (AV.fsl false K) (I 2)=some (AV.fptr [I t2,I y2,I n2,AV.fsl false D2,AV.fsl false K2] 0)∧Q (AV.tuple []) [(yp1 D K n t y),(1,some (Blk.cells (obF {o with lh:=true,lt:=n0,lc:=n1,lu:=n2} M N L C)))] 36):=by kernel_rfl
def pcS (P R:List AV):SemT:=fun f _ _ nx=>match Nat.beq f 151 with
 |true=>some (match P with
  |[]=> .part [] .nilsl [] 3
  |_::_=> .part [] (.rsl true nx 0 (lenN P) 1) [(nx,some (.cells P))] 3)
 |false=>some (.val (.fsl false R))
theorem p_cus0 (o:Ob) (M N L:AV) (i t y n:Int) (_b at' q:Nat) (es D K R:List AV) (s:List UInt8) (Q:AV→Heap→Nat→Prop):fnK Tryz.prog opts0 40 (aidJ [(2,7,.res (.ptr 27 at')),(2,8,.ld (nI q))] [] (pcS [] R) [] []) 154 [.ptr 1 0,I i,.agg (itF t y n D K),.fptr [.str s] 0] [(1,some (.cells (obF o M N L (.fsl false es))))] 15 Q=
  (BodySem Tryz.prog opts0.glob 151 [AV.agg (obF o M N L (AV.fsl false es)),AV.str s] [] 29 AV.nilsl [] 32∧indexAddrA Tryz.prog 190 (AV.rsl true 27 0 (lenN [I (Int.ofNat (lenN es))]) 1) (I i)=some (AV.ptr 27 at')∧partA Tryz.prog 3 (flat [I (Int.ofNat (lenN es))]) at'=some (I (Int.ofNat q))∧oblB (bytesOf D).isSome (SC 155 [AV.fsl false es,I (Int.ofNat q),AV.agg [AV.str s,AV.str (strOf D)]] (AV.fsl false R)∧Q (AV.tuple []) [(27,some (Blk.cells (flat [I (Int.ofNat (lenN es))]))),(yp1 D K n t y),(1,some (Blk.cells (obF o M N L (AV.fsl false R))))] 50)):=by kernel_rfl
theorem p_cus1 (o:Ob) (M N L:AV) (i t y n:Int) (_b at' q:Nat) (p:AV) (P es D K R:List AV) (s:List UInt8) (Q:AV→Heap→Nat→Prop):fnK Tryz.prog opts0 40 (aidJ [(2,7,.res (.ptr 27 at')),(2,8,.ld (nI q))] [] (pcS (p::P) R) [] []) 154 [.ptr 1 0,I i,.agg (itF t y n D K),.fptr [.str s] 0] [(1,some (.cells (obF o M N L (.fsl false es))))] 15 Q=
  (BodySem Tryz.prog opts0.glob 151 [AV.agg (obF o M N L (AV.fsl false es)),AV.str s] [] 29 (AV.rsl true 29 0 (lenN (p::P)) 1) [(29,some (Blk.cells (p::P)))] 32∧oblB (allSize 1 [I (Int.ofNat (lenN es))]&&(((lenN (p::P)+lenN [I (Int.ofNat (lenN es))])*8).ble 140737488355328&&(allOne (flat [I (Int.ofNat (lenN es))])&&true))) (oblB ((lenN (p::P)).beq (lenN (p::P)*1)) (indexAddrA Tryz.prog 190 (AV.rsl true 27 0 (lenN (p::P)+lenN [I (Int.ofNat (lenN es))]) 1) (I i)=some (AV.ptr 27 at')∧partA Tryz.prog 3 (p::(P++flat [I (Int.ofNat (lenN es))])) at'=some (I (Int.ofNat q))∧oblB (bytesOf D).isSome (SC 155 [AV.fsl false es,I (Int.ofNat q),AV.agg [AV.str s,AV.str (strOf D)]] (AV.fsl false R)∧Q (AV.tuple []) [(29,none),(27,some (Blk.cells (p::(P++flat [I (Int.ofNat (lenN es))])))),(yp1 D K n t y),(1,some (Blk.cells (obF o M N L (AV.fsl false R))))] 50)))):=by kernel_rfl
end
end Go.Proofs.YtjhggnebkfpgcaaGreatDoor
