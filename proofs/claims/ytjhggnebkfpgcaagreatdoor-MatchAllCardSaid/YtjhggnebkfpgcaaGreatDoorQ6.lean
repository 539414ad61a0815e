/- Obj4, Bytes, Obj5, Obj6, Okay, AllS, AllW, AllP, NamesW, NamesP. -/
import Derived.Test.YtjhggnebkfpgcaaGreatDoorQ5
import Derived.KernelRfl
import Derived.Test.YtjhggnebkfpgcaaGreatDoorQ2
import Derived.Test.YtjhggnebkfpgcaaGreatDoorG5
namespace Go.Proofs.YtjhggnebkfpgcaaGreatDoor
set_option maxRecDepth 20000
open Go Go.RowKit
open Go.Proofs.Abs
def lkEq (z x:Lk):Bool:=beqInt z.ty x.ty&&(beqBytes z.id x.id&&true)
def cuEq (z x:Cu):Bool:=beqBytes z.name x.name&&(beqBytes z.text x.text&&true)
def hasLk (x:Lk) (l:List Lk):Bool:=l.any fun z=>lkEq z x
theorem lnk_none {i:Nat} {Rs:List AV} {o:Ob} {M N C:AV} {BN BC:Option Blk} {x:Lk} {b:Bool} (hR:closedAll Rs=true) (hM:closedA M=true) (rN:Rv 1 N) (rX:Rv 3 C) (bn:ClosedOB BN) (bx:ClosedOB BC) {Q:AExit→St→Prop} (hq:Q (.exit 3) (stO (ilnkV (.ofNat i) Rs (obF o M N .nilsl C) [I x.ty,.str x.id] b 0 []) [(1,BN),(3,BC)])):ALp Tryz.prog opts0.glob 0 (lpCode Tryz.prog 22 22) (stO (ilnkV (.ofNat i) Rs (obF o M N .nilsl C) [I x.ty,.str x.id] b 0 []) [(1,BN),(3,BC)]) Q:=by
 refine ALp.roundO (A:=aidJ [] [] noSem [] []) (V1:=ilnkV (.ofNat i) Rs [] [] b 0 []) (F:=ilnkV (.ofNat i) Rs (obF o M N .nilsl C) [I x.ty,.str x.id] b 0 []) (opt:=[]) (opt':=[(1,BN),(3,BC)]) (lk:=[]) (lk':=[(0,0),(1,1),(3,3),(4,4),(5,5)]) base0 aidJ_ok (LsOk.no rfl) .refl ?_
 rw[ilnk_nil]
 exact ⟨⟨⟨⟨⟨rfl,hR⟩,⟨rfl,rfl⟩,⟨rfl,rfl⟩,⟨rfl,rfl⟩,trivial⟩,⟨⟨rfl,rfl⟩,⟨rfl,rfl⟩,⟨rfl,rfl⟩,trivial⟩,renR_ob (o:=o) hM (rN _ rfl) (.same _ rfl) (rX _ rfl),⟨rfl,rfl⟩,⟨rfl,rfl⟩,trivial⟩,⟨rfl,bn⟩,⟨rfl,bx⟩,trivial⟩,hq⟩
theorem lnk_loop {i:Nat} {Rs:List AV} {o:Ob} {M N C:AV} {BN BC:Option Blk} {x:Lk} (hR:closedAll Rs=true) (hM:closedA M=true) (rN:Rv 1 N) (rX:Rv 3 C) (bn:ClosedOB BN) (bx:ClosedOB BC) {l:List Lk} (hl:l.length≤1000) {Q:AExit→St→Prop}:∀ (m t:Nat) (b:Bool),t+m=l.length→Q (.exit 3) (stO (ilnkV (.ofNat i) Rs (obF o M N (.rsl true 2 0 l.length 2) C) [I x.ty,.str x.id] (b||hasLk x (l.drop t)) (.ofNat l.length) [(2,.cells (flat (l.map lkA)),.whole)]) [(1,BN),(3,BC)])→ALp Tryz.prog opts0.glob 0 (lpCode Tryz.prog 22 22) (stO (ilnkV (.ofNat i) Rs (obF o M N (.rsl true 2 0 l.length 2) C) [I x.ty,.str x.id] b (.ofNat t) [(2,.cells (flat (l.map lkA)),.whole)]) [(1,BN),(3,BC)]) Q:=by
 have hc:=closed_flk l
 intro m
 induction m with
 |zero=>
  intro t b ht hq
  rw[Nat.add_zero] at ht
  subst ht
  rw[List.drop_of_length_le (Nat.le_refl _),show hasLk x []=false from rfl,Bool.or_false] at hq
  refine ALp.roundO (A:=aidJ [(23,5,.res .nilp),(35,5,.res .nilp)] [] noSem [] []) (V1:=ilnkV (.ofNat i) Rs [] [] b 0 []) (F:=ilnkV (.ofNat i) Rs (obF o M N (.rsl true 2 0 l.length 2) C) [I x.ty,.str x.id] b (.ofNat l.length) [(2,.cells (flat (l.map lkA)),.whole)]) (opt:=[]) (opt':=[(1,BN),(3,BC)]) (lk:=[]) (lk':=[(0,0),(1,1),(2,2),(3,3),(4,4),(5,5)]) base0 aidJ_ok (LsOk.no rfl) .refl ?_
  rw[ilnk_end]
  refine mtB_of (fun e=> ?_) (fun _=>⟨⟨⟨⟨⟨rfl,hR⟩,⟨rfl,rfl⟩,⟨rfl,rfl⟩,⟨rfl,rfl⟩,trivial⟩,⟨⟨rfl,rfl⟩,⟨rfl,rfl⟩,⟨rfl,rfl⟩,trivial⟩,renR_ob (o:=o) hM (rN _ rfl) (.rsl _ _ _ _ _ _ rfl) (rX _ rfl),⟨rfl,rfl⟩,⟨rfl,rfl⟩,⟨rfl,hc⟩,trivial⟩,⟨rfl,bn⟩,⟨rfl,bx⟩,trivial⟩,hq⟩)
  have e:=ltInt_iff.1 e
  omega
 | succ m ih=>
  intro t b ht hq
  have hi:t<l.length:=by omega
  have g1:=List.getElem?_eq_getElem hi
  rw[List.drop_eq_getElem_cons hi] at hq
  revert g1 hq
  generalize l[t]=z
  intro hq g1
  have hw:wrapA .i64 (Int.ofNat t+1)=Int.ofNat (t+1):=wrapA_i64 (by simp;omega) (by simp;omega)
  have hob:(nonneg (Int.ofNat t)&&((Int.ofNat t).toNat.blt l.length&&true))=true:=by
   simp only[nonneg,Bool.true_and,Bool.and_true]
   exact blt_iff.2 hi
  have hn:=ih (t+1) (b||lkEq z x) (by omega) (by
   simpa only[hasLk,List.any_cons,Bool.or_assoc] using hq)
  refine ALp.roundO (A:=aidJ [(21,4,.res (.bool true)),(23,6,.ld (.agg [I z.ty,.str z.id]))] [] noSem [] []) (V1:=ilnkV (.ofNat i) Rs (obF o M N (.rsl true 2 0 l.length 2) C) [I x.ty,.str x.id] (b||lkEq z x) (.ofNat (t+1)) [(2,.cells (flat (l.map lkA)),.whole)]) (F:=ilnkV (.ofNat i) Rs [] [] b 0 []) (opt:=[(1,BN),(3,BC)]) (opt':=[]) (lk:=[(0,0),(1,1),(2,2),(3,3),(4,4),(5,5)]) (lk':=[]) base0 aidJ_ok (LsOk.no rfl) .refl ?_
  rw[ilnk_go,hw]
  refine ⟨lss_t (by simp;omega),mtB_of (fun e=>⟨⟨⟨⟨⟨rfl,hR⟩,⟨rfl,rfl⟩,⟨by rw[e];rfl,rfl⟩,⟨rfl,rfl⟩,trivial⟩,⟨⟨rfl,rfl⟩,⟨rfl,rfl⟩,⟨rfl,rfl⟩,trivial⟩,renR_ob (o:=o) hM (rN _ rfl) (.rsl _ _ _ _ _ _ rfl) (rX _ rfl),⟨rfl,rfl⟩,⟨rfl,rfl⟩,⟨rfl,hc⟩,trivial⟩,⟨rfl,bn⟩,⟨rfl,bx⟩,trivial⟩,hn⟩)
   (fun e=>oblB_of hob ⟨part_lk g1,⟨⟨⟨⟨rfl,hR⟩,⟨rfl,rfl⟩,⟨by rw[e];rfl,rfl⟩,⟨rfl,rfl⟩,trivial⟩,⟨⟨rfl,rfl⟩,⟨rfl,rfl⟩,⟨rfl,rfl⟩,trivial⟩,renR_ob (o:=o) hM (rN _ rfl) (.rsl _ _ _ _ _ _ rfl) (rX _ rfl),⟨rfl,rfl⟩,⟨rfl,rfl⟩,⟨rfl,hc⟩,trivial⟩,⟨rfl,bn⟩,⟨rfl,bx⟩,trivial⟩,hn⟩)⟩
theorem lnk_at:loopsAt (lpCode Tryz.prog 22 5) 22=[lpCode Tryz.prog 22 22]:=by kernel_rfl
def lkOf (y:Rw):Lk:=⟨wrapA .i64 (101+y.a%5),ofL idL [] y.b⟩
theorem st_lnk0 {y:Rw} {i:Nat} {Rs:List AV} {M N C:AV} {BN BC:Option Blk} (o:Ob) (g:Go1 i Rs y) (hM:closedA M=true) (rN:Rv 1 N) (rX:Rv 3 C) (bn:ClosedOB BN) (bx:ClosedOB BC) (hk:y.k%9=4):Step (stO (oW (.ofNat i) Rs (obF o M N .nilsl C) []) [(1,BN),(3,BC)]) (stO (oW (.ofNat (i+1)) Rs (obF o M N (.rsl true 2 0 1 2) C) [(2,.cells [I (wrapA .i64 (101+y.a%5)),.str (ofL idL [] y.b)],.whole)]) [(1,BN),(3,BC)]):=by
 intro Q hq
 have hR:=g.c
 refine ALp.roundO (A:=oA 4 0 y [] [(22,fun s Q=>seesO 0 [(0,0),(1,1),(3,3),(4,4),(5,41)] (ilnkV (.ofNat i) Rs (obF o M N .nilsl C) [I (wrapA .i64 (101+y.a%5)),.str (ofL idL [] y.b)] false 0 []) [(1,BN),(3,BC)] s∧Q (.exit 3) (stO (ilnkV (.ofNat i) Rs (obF o M N .nilsl C) [I (wrapA .i64 (101+y.a%5)),.str (ofL idL [] y.b)] false 0 []) [(1,BN),(3,BC)]))] none (ofL idL [] y.b)) (V1:=oW (.ofNat (i+1)) Rs (obF o M N (.rsl true 2 0 1 2) C) [(2,.cells [I (wrapA .i64 (101+y.a%5)),.str (ofL idL [] y.b)],.whole)]) (F:=oW (.ofNat i) Rs [] []) (opt:=[(1,BN),(3,BC)]) (opt':=[]) (lk:=[(0,0),(1,1),(2,13),(3,3),(4,4)]) (lk':=[]) base0 aidJ_ok (LsOk.at1 rfl lnk_at fun st Q hs=> .seenO base0.glob hs.1 (lnk_none (x:=lkOf y) g.c hM rN rX bn bx hs.2)) .refl ?_
 rw[ob_lnk0,g.w]
 exact ⟨g.a,g.b,g.x,pk hk (by decide) (by decide),pick_sem _ (by decide) (by decide),id_sem _,⟨⟨⟨⟨rfl,hR⟩,⟨rfl,rfl⟩,⟨rfl,rfl⟩,⟨rfl,rfl⟩,trivial⟩,⟨⟨rfl,rfl⟩,⟨rfl,rfl⟩,⟨rfl,rfl⟩,trivial⟩,renR_ob (o:=o) hM (rN _ rfl) (.same _ rfl) (rX _ rfl),⟨rfl,rfl⟩,⟨rfl,rfl⟩,trivial⟩,⟨rfl,bn⟩,⟨rfl,bx⟩,trivial⟩,⟨⟨⟨⟨⟨rfl,g.c⟩,⟨rfl,rfl⟩,trivial⟩,⟨⟨rfl,rfl⟩,⟨rfl,rfl⟩,trivial⟩,renR_ob (o:=o) hM (rN _ rfl) (.rsl _ _ _ _ _ _ rfl) (rX _ rfl),⟨rfl,rfl⟩,⟨rfl,rfl⟩,trivial⟩,⟨rfl,bn⟩,⟨rfl,bx⟩,trivial⟩,hq⟩⟩
theorem st_lnk1t {y:Rw} {i:Nat} {Rs:List AV} {M N C:AV} {BN BC:Option Blk} (o:Ob) (g:Go1 i Rs y) (hM:closedA M=true) (rN:Rv 1 N) (rX:Rv 3 C) (bn:ClosedOB BN) (bx:ClosedOB BC) (hk:y.k%9=4) {l:List Lk} (hl:l.length≤1000) (hin:hasLk (lkOf y) l=true):Step (stO (oW (.ofNat i) Rs (obF o M N (.rsl true 2 0 l.length 2) C) [(2,.cells (flat (l.map lkA)),.whole)]) [(1,BN),(3,BC)]) (stO (oW (.ofNat (i+1)) Rs (obF o M N (.rsl true 2 0 l.length 2) C) [(2,.cells (flat (l.map lkA)),.whole)]) [(1,BN),(3,BC)]):=by
 intro Q hq
 have hR:=g.c
 refine ALp.roundO (A:=oA 4 0 y [] [(22,fun s Q=>seesO 0 [(0,0),(1,1),(2,2),(3,3),(4,4),(5,41)] (ilnkV (.ofNat i) Rs (obF o M N (.rsl true 2 0 l.length 2) C) [I (wrapA .i64 (101+y.a%5)),.str (ofL idL [] y.b)] false 0 [(2,.cells (flat (l.map lkA)),.whole)]) [(1,BN),(3,BC)] s∧Q (.exit 3) (stO (ilnkV (.ofNat i) Rs (obF o M N (.rsl true 2 0 l.length 2) C) [I (wrapA .i64 (101+y.a%5)),.str (ofL idL [] y.b)] true (.ofNat l.length) [(2,.cells (flat (l.map lkA)),.whole)]) [(1,BN),(3,BC)]))] none (ofL idL [] y.b)) (V1:=oW (.ofNat (i+1)) Rs (obF o M N (.rsl true 2 0 l.length 2) C) [(2,.cells (flat (l.map lkA)),.whole)]) (F:=oW (.ofNat i) Rs [] []) (opt:=[(1,BN),(3,BC)]) (opt':=[]) (lk:=[(0,0),(1,1),(2,2),(3,3),(4,4)]) (lk':=[]) base0 aidJ_ok (LsOk.at1 rfl lnk_at fun st Q hs=> .seenO base0.glob hs.1 (lnk_loop (x:=lkOf y) g.c hM rN rX bn bx hl l.length 0 false (by omega) (by rw[List.drop_zero,hin];exact hs.2))) .refl ?_
 rw[ob_lnk1t,g.w]
 exact ⟨g.a,g.b,g.x,pk hk (by decide) (by decide),pick_sem _ (by decide) (by decide),id_sem _,⟨⟨⟨⟨rfl,hR⟩,⟨rfl,rfl⟩,⟨rfl,rfl⟩,⟨rfl,rfl⟩,trivial⟩,⟨⟨rfl,rfl⟩,⟨rfl,rfl⟩,⟨rfl,rfl⟩,trivial⟩,renR_ob (o:=o) hM (rN _ rfl) (.rsl _ _ _ _ _ _ rfl) (rX _ rfl),⟨rfl,rfl⟩,⟨rfl,rfl⟩,⟨rfl,closed_flk l⟩,trivial⟩,⟨rfl,bn⟩,⟨rfl,bx⟩,trivial⟩,⟨⟨⟨⟨⟨rfl,g.c⟩,⟨rfl,rfl⟩,trivial⟩,⟨⟨rfl,rfl⟩,⟨rfl,rfl⟩,trivial⟩,renR_ob (o:=o) hM (rN _ rfl) (.rsl _ _ _ _ _ _ rfl) (rX _ rfl),⟨rfl,rfl⟩,⟨rfl,closed_flk l⟩,trivial⟩,⟨rfl,bn⟩,⟨rfl,bx⟩,trivial⟩,hq⟩⟩
theorem flat_lnk:∀l:List Lk,(flat (l.map lkA)).length=l.length*2
 |[]=>rfl
 |_::r=>by
  have ih:=flat_lnk r
  rw[List.length_cons,Nat.succ_mul,←ih]
  rfl
theorem st_lnk1f {y:Rw} {i:Nat} {Rs:List AV} {M N C:AV} {BN BC:Option Blk} (o:Ob) (g:Go1 i Rs y) (hM:closedA M=true) (rN:Rv 1 N) (rX:Rv 3 C) (bn:ClosedOB BN) (bx:ClosedOB BC) (hk:y.k%9=4) {l:List Lk} (hl:l.length≤1000) (hin:hasLk (lkOf y) l=false):Step (stO (oW (.ofNat i) Rs (obF o M N (.rsl true 2 0 l.length 2) C) [(2,.cells (flat (l.map lkA)),.whole)]) [(1,BN),(3,BC)]) (stO (oW (.ofNat (i+1)) Rs (obF o M N (.rsl true 2 0 (l.length+1) 2) C) [(2,.cells (flat (l.map lkA)++[I (wrapA .i64 (101+y.a%5)),.str (ofL idL [] y.b)]),.whole)]) [(1,BN),(3,BC)]):=by
 intro Q hq
 have hR:=g.c
 refine ALp.roundO (A:=oA 4 0 y [] [(22,fun s Q=>seesO 0 [(0,0),(1,1),(2,2),(3,3),(4,4),(5,41)] (ilnkV (.ofNat i) Rs (obF o M N (.rsl true 2 0 l.length 2) C) [I (wrapA .i64 (101+y.a%5)),.str (ofL idL [] y.b)] false 0 [(2,.cells (flat (l.map lkA)),.whole)]) [(1,BN),(3,BC)] s∧Q (.exit 3) (stO (ilnkV (.ofNat i) Rs (obF o M N (.rsl true 2 0 l.length 2) C) [I (wrapA .i64 (101+y.a%5)),.str (ofL idL [] y.b)] false (.ofNat l.length) [(2,.cells (flat (l.map lkA)),.whole)]) [(1,BN),(3,BC)]))] none (ofL idL [] y.b)) (V1:=oW (.ofNat (i+1)) Rs (obF o M N (.rsl true 2 0 (l.length+1) 2) C) [(2,.cells (flat (l.map lkA)++[I (wrapA .i64 (101+y.a%5)),.str (ofL idL [] y.b)]),.whole)]) (F:=oW (.ofNat i) Rs [] []) (opt:=[(1,BN),(3,BC)]) (opt':=[]) (lk:=[(0,0),(1,1),(2,13),(3,3),(4,4)]) (lk':=[]) base0 aidJ_ok (LsOk.at1 rfl lnk_at fun st Q hs=> .seenO base0.glob hs.1 (lnk_loop (x:=lkOf y) g.c hM rN rX bn bx hl l.length 0 false (by omega) (by rw[List.drop_zero,hin];exact hs.2))) .refl ?_
 rw[ob_lnk1f,g.w]
 exact ⟨g.a,g.b,g.x,pk hk (by decide) (by decide),pick_sem _ (by decide) (by decide),id_sem _,⟨⟨⟨⟨rfl,hR⟩,⟨rfl,rfl⟩,⟨rfl,rfl⟩,⟨rfl,rfl⟩,trivial⟩,⟨⟨rfl,rfl⟩,⟨rfl,rfl⟩,⟨rfl,rfl⟩,trivial⟩,renR_ob (o:=o) hM (rN _ rfl) (.rsl _ _ _ _ _ _ rfl) (rX _ rfl),⟨rfl,rfl⟩,⟨rfl,rfl⟩,⟨rfl,closed_flk l⟩,trivial⟩,⟨rfl,bn⟩,⟨rfl,bx⟩,trivial⟩,oblB_of (by simp[allSize,allOne,flat,AV.cells,lenN];omega) (oblB_of (by simp[lenN_eq,flat_lnk]) ⟨⟨⟨⟨⟨rfl,g.c⟩,⟨rfl,rfl⟩,trivial⟩,⟨⟨rfl,rfl⟩,⟨rfl,rfl⟩,trivial⟩,renR_ob (o:=o) hM (rN _ rfl) (.rsl _ _ _ _ _ _ rfl) (rX _ rfl),⟨rfl,rfl⟩,⟨rfl,by simp[closedAll_append,closed_flk];rfl⟩,trivial⟩,⟨rfl,bn⟩,⟨rfl,bx⟩,trivial⟩,hq⟩)⟩
def hasCu (x:Cu) (l:List Cu):Bool:=l.any fun z=>cuEq z x
theorem cus_none {i:Nat} {Rs:List AV} {o:Ob} {M N L:AV} {BN BL:Option Blk} {x:Cu} {b:Bool} (hR:closedAll Rs=true) (hM:closedA M=true) (rN:Rv 1 N) (rX:Rv 2 L) (bn:ClosedOB BN) (bx:ClosedOB BL) {Q:AExit→St→Prop} (hq:Q (.exit 5) (stO (icusV (.ofNat i) Rs (obF o M N L .nilsl) [.str x.name,.str x.text] b 0 []) [(1,BN),(2,BL)])):ALp Tryz.prog opts0.glob 0 (lpCode Tryz.prog 22 34) (stO (icusV (.ofNat i) Rs (obF o M N L .nilsl) [.str x.name,.str x.text] b 0 []) [(1,BN),(2,BL)]) Q:=by
 refine ALp.roundO (A:=aidJ [] [] noSem [] []) (V1:=icusV (.ofNat i) Rs [] [] b 0 []) (F:=icusV (.ofNat i) Rs (obF o M N L .nilsl) [.str x.name,.str x.text] b 0 []) (opt:=[]) (opt':=[(1,BN),(2,BL)]) (lk:=[]) (lk':=[(0,0),(1,1),(2,2),(4,4),(5,5)]) base0 aidJ_ok (LsOk.no rfl) .refl ?_
 rw[icus_nil]
 exact ⟨⟨⟨⟨⟨rfl,hR⟩,⟨rfl,rfl⟩,⟨rfl,rfl⟩,⟨rfl,rfl⟩,trivial⟩,⟨⟨rfl,rfl⟩,⟨rfl,rfl⟩,⟨rfl,rfl⟩,trivial⟩,renR_ob (o:=o) hM (rN _ rfl) (rX _ rfl) (.same _ rfl),⟨rfl,rfl⟩,⟨rfl,rfl⟩,trivial⟩,⟨rfl,bn⟩,⟨rfl,bx⟩,trivial⟩,hq⟩
theorem cus_loop {i:Nat} {Rs:List AV} {o:Ob} {M N L:AV} {BN BL:Option Blk} {x:Cu} (hR:closedAll Rs=true) (hM:closedA M=true) (rN:Rv 1 N) (rX:Rv 2 L) (bn:ClosedOB BN) (bx:ClosedOB BL) {l:List Cu} (hl:l.length≤1000) {Q:AExit→St→Prop}:∀ (m t:Nat) (b:Bool),t+m=l.length→Q (.exit 5) (stO (icusV (.ofNat i) Rs (obF o M N L (.rsl true 3 0 l.length 2)) [.str x.name,.str x.text] (b||hasCu x (l.drop t)) (.ofNat l.length) [(3,.cells (flat (l.map cuA)),.whole)]) [(1,BN),(2,BL)])→ALp Tryz.prog opts0.glob 0 (lpCode Tryz.prog 22 34) (stO (icusV (.ofNat i) Rs (obF o M N L (.rsl true 3 0 l.length 2)) [.str x.name,.str x.text] b (.ofNat t) [(3,.cells (flat (l.map cuA)),.whole)]) [(1,BN),(2,BL)]) Q:=by
 have hc:=closed_fcu l
 intro m
 induction m with
 |zero=>
  intro t b ht hq
  rw[Nat.add_zero] at ht
  subst ht
  rw[List.drop_of_length_le (Nat.le_refl _),show hasCu x []=false from rfl,Bool.or_false] at hq
  refine ALp.roundO (A:=aidJ [(23,5,.res .nilp),(35,5,.res .nilp)] [] noSem [] []) (V1:=icusV (.ofNat i) Rs [] [] b 0 []) (F:=icusV (.ofNat i) Rs (obF o M N L (.rsl true 3 0 l.length 2)) [.str x.name,.str x.text] b (.ofNat l.length) [(3,.cells (flat (l.map cuA)),.whole)]) (opt:=[]) (opt':=[(1,BN),(2,BL)]) (lk:=[]) (lk':=[(0,0),(1,1),(2,2),(3,3),(4,4),(5,5)]) base0 aidJ_ok (LsOk.no rfl) .refl ?_
  rw[icus_end]
  refine mtB_of (fun e=> ?_) (fun _=>⟨⟨⟨⟨⟨rfl,hR⟩,⟨rfl,rfl⟩,⟨rfl,rfl⟩,⟨rfl,rfl⟩,trivial⟩,⟨⟨rfl,rfl⟩,⟨rfl,rfl⟩,⟨rfl,rfl⟩,trivial⟩,renR_ob (o:=o) hM (rN _ rfl) (rX _ rfl) (.rsl _ _ _ _ _ _ rfl),⟨rfl,rfl⟩,⟨rfl,rfl⟩,⟨rfl,hc⟩,trivial⟩,⟨rfl,bn⟩,⟨rfl,bx⟩,trivial⟩,hq⟩)
  have e:=ltInt_iff.1 e
  omega
 | succ m ih=>
  intro t b ht hq
  have hi:t<l.length:=by omega
  have g1:=List.getElem?_eq_getElem hi
  rw[List.drop_eq_getElem_cons hi] at hq
  revert g1 hq
  generalize l[t]=z
  intro hq g1
  have hw:wrapA .i64 (Int.ofNat t+1)=Int.ofNat (t+1):=wrapA_i64 (by simp;omega) (by simp;omega)
  have hob:(nonneg (Int.ofNat t)&&((Int.ofNat t).toNat.blt l.length&&true))=true:=by
   simp only[nonneg,Bool.true_and,Bool.and_true]
   exact blt_iff.2 hi
  have hn:=ih (t+1) (b||cuEq z x) (by omega) (by
   simpa only[hasCu,List.any_cons,Bool.or_assoc] using hq)
  refine ALp.roundO (A:=aidJ [(33,4,.res (.bool true)),(35,6,.ld (.agg [.str z.name,.str z.text]))] [] noSem [] []) (V1:=icusV (.ofNat i) Rs (obF o M N L (.rsl true 3 0 l.length 2)) [.str x.name,.str x.text] (b||cuEq z x) (.ofNat (t+1)) [(3,.cells (flat (l.map cuA)),.whole)]) (F:=icusV (.ofNat i) Rs [] [] b 0 []) (opt:=[(1,BN),(2,BL)]) (opt':=[]) (lk:=[(0,0),(1,1),(2,2),(3,3),(4,4),(5,5)]) (lk':=[]) base0 aidJ_ok (LsOk.no rfl) .refl ?_
  rw[icus_go,hw]
  refine ⟨lss_t (by simp;omega),mtB_of (fun e=>⟨⟨⟨⟨⟨rfl,hR⟩,⟨rfl,rfl⟩,⟨by rw[e];rfl,rfl⟩,⟨rfl,rfl⟩,trivial⟩,⟨⟨rfl,rfl⟩,⟨rfl,rfl⟩,⟨rfl,rfl⟩,trivial⟩,renR_ob (o:=o) hM (rN _ rfl) (rX _ rfl) (.rsl _ _ _ _ _ _ rfl),⟨rfl,rfl⟩,⟨rfl,rfl⟩,⟨rfl,hc⟩,trivial⟩,⟨rfl,bn⟩,⟨rfl,bx⟩,trivial⟩,hn⟩)
   (fun e=>oblB_of hob ⟨part_cu g1,⟨⟨⟨⟨rfl,hR⟩,⟨rfl,rfl⟩,⟨by rw[e];rfl,rfl⟩,⟨rfl,rfl⟩,trivial⟩,⟨⟨rfl,rfl⟩,⟨rfl,rfl⟩,⟨rfl,rfl⟩,trivial⟩,renR_ob (o:=o) hM (rN _ rfl) (rX _ rfl) (.rsl _ _ _ _ _ _ rfl),⟨rfl,rfl⟩,⟨rfl,rfl⟩,⟨rfl,hc⟩,trivial⟩,⟨rfl,bn⟩,⟨rfl,bx⟩,trivial⟩,hn⟩)⟩
theorem cus_at:loopsAt (lpCode Tryz.prog 22 5) 34=[lpCode Tryz.prog 22 34]:=by kernel_rfl
def cnL:List (List UInt8):=[[120,45,97],[120,45,98]]
def ctL:List (List UInt8):=[[111,110,101],[116,119,111],[116,104,114,101,101],[102,111,117,114]]
def cuOf (y:Rw):Cu:=⟨ofL cnL [] y.a,ofL ctL [] y.b⟩
theorem idx_cn (n:Int):indexA Tryz.prog 108 (.agg (cnL.map .str)) (I (n%2))=some (.str (ofL cnL [] n)):=
 idx_pick (T:=108) (d:=[]) (l:=cnL) (f:= .str) (by decide) fun k x h=>by
  match k,h with
  |0,h=>obtain rfl:_=x:=Option.some.inj h;show indexA _ _ _ _=_;kernel_rfl
  |1,h=>obtain rfl:_=x:=Option.some.inj h;show indexA _ _ _ _=_;kernel_rfl
theorem idx_ct (n:Int):indexA Tryz.prog 109 (.agg (ctL.map .str)) (I (n%4))=some (.str (ofL ctL [] n)):=
 idx_pick (T:=109) (d:=[]) (l:=ctL) (f:= .str) (by decide) fun k x h=>by
  match k,h with
  |0,h=>obtain rfl:_=x:=Option.some.inj h;show indexA _ _ _ _=_;kernel_rfl
  |1,h=>obtain rfl:_=x:=Option.some.inj h;show indexA _ _ _ _=_;kernel_rfl
  |2,h=>obtain rfl:_=x:=Option.some.inj h;show indexA _ _ _ _=_;kernel_rfl
  |3,h=>obtain rfl:_=x:=Option.some.inj h;show indexA _ _ _ _=_;kernel_rfl
theorem st_cus0 {y:Rw} {i:Nat} {Rs:List AV} {M N L:AV} {BN BL:Option Blk} (o:Ob) (g:Go1 i Rs y) (hM:closedA M=true) (rN:Rv 1 N) (rX:Rv 2 L) (bn:ClosedOB BN) (bx:ClosedOB BL) (hk:y.k%9=6):Step (stO (oW (.ofNat i) Rs (obF o M N L .nilsl) []) [(1,BN),(2,BL)]) (stO (oW (.ofNat (i+1)) Rs (obF o M N L (.rsl true 3 0 1 2)) [(3,.cells [.str (ofL cnL [] y.a),.str (ofL ctL [] y.b)],.whole)]) [(1,BN),(2,BL)]):=by
 intro Q hq
 have hR:=g.c
 refine ALp.roundO (A:=oA 6 0 y [(30,4,.res (.str (ofL cnL [] y.a))),(30,9,.res (.str (ofL ctL [] y.b)))] [(34,fun s Q=>seesO 0 [(0,0),(1,1),(2,2),(4,4),(5,48)] (icusV (.ofNat i) Rs (obF o M N L .nilsl) [.str (ofL cnL [] y.a),.str (ofL ctL [] y.b)] false 0 []) [(1,BN),(2,BL)] s∧Q (.exit 5) (stO (icusV (.ofNat i) Rs (obF o M N L .nilsl) [.str (ofL cnL [] y.a),.str (ofL ctL [] y.b)] false 0 []) [(1,BN),(2,BL)]))] none []) (V1:=oW (.ofNat (i+1)) Rs (obF o M N L (.rsl true 3 0 1 2)) [(3,.cells [.str (ofL cnL [] y.a),.str (ofL ctL [] y.b)],.whole)]) (F:=oW (.ofNat i) Rs [] []) (opt:=[(1,BN),(2,BL)]) (opt':=[]) (lk:=[(0,0),(1,1),(2,2),(3,19),(4,4)]) (lk':=[]) base0 aidJ_ok (LsOk.at1 rfl cus_at fun st Q hs=> .seenO base0.glob hs.1 (cus_none (x:=cuOf y) g.c hM rN rX bn bx hs.2)) .refl ?_
 rw[ob_cus0,g.w]
 exact ⟨g.a,g.b,g.x,pk hk (by decide) (by decide),pick_sem _ (by decide) (by decide),idx_cn _,pick_sem _ (by decide) (by decide),idx_ct _,⟨⟨⟨⟨rfl,hR⟩,⟨rfl,rfl⟩,⟨rfl,rfl⟩,⟨rfl,rfl⟩,trivial⟩,⟨⟨rfl,rfl⟩,⟨rfl,rfl⟩,⟨rfl,rfl⟩,trivial⟩,renR_ob (o:=o) hM (rN _ rfl) (rX _ rfl) (.same _ rfl),⟨rfl,rfl⟩,⟨rfl,rfl⟩,trivial⟩,⟨rfl,bn⟩,⟨rfl,bx⟩,trivial⟩,⟨⟨⟨⟨⟨rfl,g.c⟩,⟨rfl,rfl⟩,trivial⟩,⟨⟨rfl,rfl⟩,⟨rfl,rfl⟩,trivial⟩,renR_ob (o:=o) hM (rN _ rfl) (rX _ rfl) (.rsl _ _ _ _ _ _ rfl),⟨rfl,rfl⟩,⟨rfl,rfl⟩,trivial⟩,⟨rfl,bn⟩,⟨rfl,bx⟩,trivial⟩,hq⟩⟩
theorem st_cus1t {y:Rw} {i:Nat} {Rs:List AV} {M N L:AV} {BN BL:Option Blk} (o:Ob) (g:Go1 i Rs y) (hM:closedA M=true) (rN:Rv 1 N) (rX:Rv 2 L) (bn:ClosedOB BN) (bx:ClosedOB BL) (hk:y.k%9=6) {l:List Cu} (hl:l.length≤1000) (hin:hasCu (cuOf y) l=true):Step (stO (oW (.ofNat i) Rs (obF o M N L (.rsl true 3 0 l.length 2)) [(3,.cells (flat (l.map cuA)),.whole)]) [(1,BN),(2,BL)]) (stO (oW (.ofNat (i+1)) Rs (obF o M N L (.rsl true 3 0 l.length 2)) [(3,.cells (flat (l.map cuA)),.whole)]) [(1,BN),(2,BL)]):=by
 intro Q hq
 have hR:=g.c
 refine ALp.roundO (A:=oA 6 0 y [(30,4,.res (.str (ofL cnL [] y.a))),(30,9,.res (.str (ofL ctL [] y.b)))] [(34,fun s Q=>seesO 0 [(0,0),(1,1),(2,2),(3,3),(4,4),(5,48)] (icusV (.ofNat i) Rs (obF o M N L (.rsl true 3 0 l.length 2)) [.str (ofL cnL [] y.a),.str (ofL ctL [] y.b)] false 0 [(3,.cells (flat (l.map cuA)),.whole)]) [(1,BN),(2,BL)] s∧Q (.exit 5) (stO (icusV (.ofNat i) Rs (obF o M N L (.rsl true 3 0 l.length 2)) [.str (ofL cnL [] y.a),.str (ofL ctL [] y.b)] true (.ofNat l.length) [(3,.cells (flat (l.map cuA)),.whole)]) [(1,BN),(2,BL)]))] none []) (V1:=oW (.ofNat (i+1)) Rs (obF o M N L (.rsl true 3 0 l.length 2)) [(3,.cells (flat (l.map cuA)),.whole)]) (F:=oW (.ofNat i) Rs [] []) (opt:=[(1,BN),(2,BL)]) (opt':=[]) (lk:=[(0,0),(1,1),(2,2),(3,3),(4,4)]) (lk':=[]) base0 aidJ_ok (LsOk.at1 rfl cus_at fun st Q hs=> .seenO base0.glob hs.1 (cus_loop (x:=cuOf y) g.c hM rN rX bn bx hl l.length 0 false (by omega) (by rw[List.drop_zero,hin];exact hs.2))) .refl ?_
 rw[ob_cus1t,g.w]
 exact ⟨g.a,g.b,g.x,pk hk (by decide) (by decide),pick_sem _ (by decide) (by decide),idx_cn _,pick_sem _ (by decide) (by decide),idx_ct _,⟨⟨⟨⟨rfl,hR⟩,⟨rfl,rfl⟩,⟨rfl,rfl⟩,⟨rfl,rfl⟩,trivial⟩,⟨⟨rfl,rfl⟩,⟨rfl,rfl⟩,⟨rfl,rfl⟩,trivial⟩,renR_ob (o:=o) hM (rN _ rfl) (rX _ rfl) (.rsl _ _ _ _ _ _ rfl),⟨rfl,rfl⟩,⟨rfl,rfl⟩,⟨rfl,closed_fcu l⟩,trivial⟩,⟨rfl,bn⟩,⟨rfl,bx⟩,trivial⟩,⟨⟨⟨⟨⟨rfl,g.c⟩,⟨rfl,rfl⟩,trivial⟩,⟨⟨rfl,rfl⟩,⟨rfl,rfl⟩,trivial⟩,renR_ob (o:=o) hM (rN _ rfl) (rX _ rfl) (.rsl _ _ _ _ _ _ rfl),⟨rfl,rfl⟩,⟨rfl,closed_fcu l⟩,trivial⟩,⟨rfl,bn⟩,⟨rfl,bx⟩,trivial⟩,hq⟩⟩
theorem flat_cus:∀l:List Cu,(flat (l.map cuA)).length=l.length*2
 |[]=>rfl
 |_::r=>by
  have ih:=flat_cus r
  rw[List.length_cons,Nat.succ_mul,←ih]
  rfl
theorem st_cus1f {y:Rw} {i:Nat} {Rs:List AV} {M N L:AV} {BN BL:Option Blk} (o:Ob) (g:Go1 i Rs y) (hM:closedA M=true) (rN:Rv 1 N) (rX:Rv 2 L) (bn:ClosedOB BN) (bx:ClosedOB BL) (hk:y.k%9=6) {l:List Cu} (hl:l.length≤1000) (hin:hasCu (cuOf y) l=false) (h6:l.length<6):Step (stO (oW (.ofNat i) Rs (obF o M N L (.rsl true 3 0 l.length 2)) [(3,.cells (flat (l.map cuA)),.whole)]) [(1,BN),(2,BL)]) (stO (oW (.ofNat (i+1)) Rs (obF o M N L (.rsl true 3 0 (l.length+1) 2)) [(3,.cells (flat (l.map cuA)++[.str (ofL cnL [] y.a),.str (ofL ctL [] y.b)]),.whole)]) [(1,BN),(2,BL)]):=by
 intro Q hq
 have hR:=g.c
 refine ALp.roundO (A:=oA 6 0 y [(30,4,.res (.str (ofL cnL [] y.a))),(30,9,.res (.str (ofL ctL [] y.b))),(36,6,.res (.bool true))] [(34,fun s Q=>seesO 0 [(0,0),(1,1),(2,2),(3,3),(4,4),(5,48)] (icusV (.ofNat i) Rs (obF o M N L (.rsl true 3 0 l.length 2)) [.str (ofL cnL [] y.a),.str (ofL ctL [] y.b)] false 0 [(3,.cells (flat (l.map cuA)),.whole)]) [(1,BN),(2,BL)] s∧Q (.exit 5) (stO (icusV (.ofNat i) Rs (obF o M N L (.rsl true 3 0 l.length 2)) [.str (ofL cnL [] y.a),.str (ofL ctL [] y.b)] false (.ofNat l.length) [(3,.cells (flat (l.map cuA)),.whole)]) [(1,BN),(2,BL)]))] none []) (V1:=oW (.ofNat (i+1)) Rs (obF o M N L (.rsl true 3 0 (l.length+1) 2)) [(3,.cells (flat (l.map cuA)++[.str (ofL cnL [] y.a),.str (ofL ctL [] y.b)]),.whole)]) (F:=oW (.ofNat i) Rs [] []) (opt:=[(1,BN),(2,BL)]) (opt':=[]) (lk:=[(0,0),(1,1),(2,2),(3,19),(4,4)]) (lk':=[]) base0 aidJ_ok (LsOk.at1 rfl cus_at fun st Q hs=> .seenO base0.glob hs.1 (cus_loop (x:=cuOf y) g.c hM rN rX bn bx hl l.length 0 false (by omega) (by rw[List.drop_zero,hin];exact hs.2))) .refl ?_
 rw[ob_cus1f,g.w]
 exact ⟨g.a,g.b,g.x,pk hk (by decide) (by decide),pick_sem _ (by decide) (by decide),idx_cn _,pick_sem _ (by decide) (by decide),idx_ct _,⟨⟨⟨⟨rfl,hR⟩,⟨rfl,rfl⟩,⟨rfl,rfl⟩,⟨rfl,rfl⟩,trivial⟩,⟨⟨rfl,rfl⟩,⟨rfl,rfl⟩,⟨rfl,rfl⟩,trivial⟩,renR_ob (o:=o) hM (rN _ rfl) (rX _ rfl) (.rsl _ _ _ _ _ _ rfl),⟨rfl,rfl⟩,⟨rfl,rfl⟩,⟨rfl,closed_fcu l⟩,trivial⟩,⟨rfl,bn⟩,⟨rfl,bx⟩,trivial⟩,lss_t (by simp;omega),oblB_of (by simp[allSize,allOne,flat,AV.cells,lenN];omega) (oblB_of (by simp[lenN_eq,flat_cus]) ⟨⟨⟨⟨⟨rfl,g.c⟩,⟨rfl,rfl⟩,trivial⟩,⟨⟨rfl,rfl⟩,⟨rfl,rfl⟩,trivial⟩,renR_ob (o:=o) hM (rN _ rfl) (rX _ rfl) (.rsl _ _ _ _ _ _ rfl),⟨rfl,rfl⟩,⟨rfl,by simp[closedAll_append,closed_fcu];rfl⟩,trivial⟩,⟨rfl,bn⟩,⟨rfl,bx⟩,trivial⟩,hq⟩)⟩
theorem st_cus1s {y:Rw} {i:Nat} {Rs:List AV} {M N L:AV} {BN BL:Option Blk} (o:Ob) (g:Go1 i Rs y) (hM:closedA M=true) (rN:Rv 1 N) (rX:Rv 2 L) (bn:ClosedOB BN) (bx:ClosedOB BL) (hk:y.k%9=6) {l:List Cu} (hl:l.length≤1000) (hin:hasCu (cuOf y) l=false) (h6:6≤l.length):Step (stO (oW (.ofNat i) Rs (obF o M N L (.rsl true 3 0 l.length 2)) [(3,.cells (flat (l.map cuA)),.whole)]) [(1,BN),(2,BL)]) (stO (oW (.ofNat (i+1)) Rs (obF o M N L (.rsl true 3 0 l.length 2)) [(3,.cells (flat (l.map cuA)),.whole)]) [(1,BN),(2,BL)]):=by
 intro Q hq
 have hR:=g.c
 refine ALp.roundO (A:=oA 6 0 y [(30,4,.res (.str (ofL cnL [] y.a))),(30,9,.res (.str (ofL ctL [] y.b))),(36,6,.res (.bool false))] [(34,fun s Q=>seesO 0 [(0,0),(1,1),(2,2),(3,3),(4,4),(5,48)] (icusV (.ofNat i) Rs (obF o M N L (.rsl true 3 0 l.length 2)) [.str (ofL cnL [] y.a),.str (ofL ctL [] y.b)] false 0 [(3,.cells (flat (l.map cuA)),.whole)]) [(1,BN),(2,BL)] s∧Q (.exit 5) (stO (icusV (.ofNat i) Rs (obF o M N L (.rsl true 3 0 l.length 2)) [.str (ofL cnL [] y.a),.str (ofL ctL [] y.b)] false (.ofNat l.length) [(3,.cells (flat (l.map cuA)),.whole)]) [(1,BN),(2,BL)]))] none []) (V1:=oW (.ofNat (i+1)) Rs (obF o M N L (.rsl true 3 0 l.length 2)) [(3,.cells (flat (l.map cuA)),.whole)]) (F:=oW (.ofNat i) Rs [] []) (opt:=[(1,BN),(2,BL)]) (opt':=[]) (lk:=[(0,0),(1,1),(2,2),(3,3),(4,4)]) (lk':=[]) base0 aidJ_ok (LsOk.at1 rfl cus_at fun st Q hs=> .seenO base0.glob hs.1 (cus_loop (x:=cuOf y) g.c hM rN rX bn bx hl l.length 0 false (by omega) (by rw[List.drop_zero,hin];exact hs.2))) .refl ?_
 rw[ob_cus1s,g.w]
 exact ⟨g.a,g.b,g.x,pk hk (by decide) (by decide),pick_sem _ (by decide) (by decide),idx_cn _,pick_sem _ (by decide) (by decide),idx_ct _,⟨⟨⟨⟨rfl,hR⟩,⟨rfl,rfl⟩,⟨rfl,rfl⟩,⟨rfl,rfl⟩,trivial⟩,⟨⟨rfl,rfl⟩,⟨rfl,rfl⟩,⟨rfl,rfl⟩,trivial⟩,renR_ob (o:=o) hM (rN _ rfl) (rX _ rfl) (.rsl _ _ _ _ _ _ rfl),⟨rfl,rfl⟩,⟨rfl,rfl⟩,⟨rfl,closed_fcu l⟩,trivial⟩,⟨rfl,bn⟩,⟨rfl,bx⟩,trivial⟩,lss_f (by simp;omega),⟨⟨⟨⟨⟨rfl,g.c⟩,⟨rfl,rfl⟩,trivial⟩,⟨⟨rfl,rfl⟩,⟨rfl,rfl⟩,trivial⟩,renR_ob (o:=o) hM (rN _ rfl) (rX _ rfl) (.rsl _ _ _ _ _ _ rfl),⟨rfl,rfl⟩,⟨rfl,closed_fcu l⟩,trivial⟩,⟨rfl,bn⟩,⟨rfl,bx⟩,trivial⟩,hq⟩⟩
noncomputable section
def byV (n i:Nat) (x:Int) (es:List AV):View:=⟨[(0,I (.ofNat n)),(6,.int .u64 x),(7,I (.ofNat i))],[(5,.rsl true 0 0 n 1)],[(0,.cells es,.whole)],1,27⟩
@[simp] abbrev zi1 (n:Nat):=(I (Int.ofNat n)=I (Int.ofNat n)∧closedA (I (Int.ofNat n))=true)
theorem by_round (n i j:Nat) (x x':Int) (es es':List AV) (N:Prop) (Q:AExit→St→Prop):wpK Tryz.prog opts0 40 (aidJ [] [] noSem [] []) (lpCode Tryz.prog 68 5) (byV n i x es).st (roundP 0 [(0,0)] (byV n j x' es') N [(0,0)] (byV n i x es) Q)=
  (mtB (ltInt (Int.ofNat i) (Int.ofNat n)) (oblB (nonneg (Int.ofNat i)&&((Int.ofNat i).toNat.blt n&&true)) (oblB ((0+(Int.ofNat i).toNat*1+1).ble (lenN es)) ((((zi1 n)∧(AV.int IntKind.u64 (wrapA IntKind.u64 (wrapA IntKind.u64 (x*6364136223846793005)+1442695040888963407))=AV.int IntKind.u64 x'∧closedA (AV.int IntKind.u64 x')=true)∧(I (wrapA IntKind.i64 (Int.ofNat i+1))=I (Int.ofNat j)∧closedA (I (Int.ofNat j))=true)∧True)∧((true=true∧some 0=some 0∧0=0∧n=n∧1=1)∧True)∧(List.take (0+(Int.ofNat i).toNat*1) es++AV.int IntKind.u8 (wrapA IntKind.u8 ((wrapA IntKind.u64 (wrapA IntKind.u64 (x*6364136223846793005)+1442695040888963407)).fdiv 1099511627776))::List.drop (0+(Int.ofNat i).toNat*1+lenN [AV.int IntKind.u8 (wrapA IntKind.u8 ((wrapA IntKind.u64 (wrapA IntKind.u64 (x*6364136223846793005)+1442695040888963407)).fdiv 1099511627776))]) es=es'∧closedAll es'=true)∧True)∧N))) ((((zi1 n)∧(AV.int IntKind.u64 x=AV.int IntKind.u64 x∧closedA (AV.int IntKind.u64 x)=true)∧(I (Int.ofNat i)=I (Int.ofNat i)∧closedA (I (Int.ofNat i))=true)∧True)∧((true=true∧some 0=some 0∧0=0∧n=n∧1=1)∧True)∧(es=es∧closedAll es=true)∧True)∧Q (AExit.exit 0) (byV n i x es).st)):=by kernel_rfl
def byL (n:Nat) (s x:Int) (es es':List AV):LoopS:=fun st Q=>seesK 0 [(0,2)] (byV n 0 (wrapA .u64 s) es) st∧Q (.exit 0) (byV n n x es').st
theorem by_fn (n:Nat) (s x:Int) (es es':List AV) (Q:AV→Heap→Nat→Prop):fnK Tryz.prog opts0 40 (aidJ [] [(5,byL n s x es es')] noSem [] []) 68 [I (.ofNat n),I s] [] 0 Q=
  (oblB (nonneg (Int.ofNat n)&&(nonneg (Int.ofNat n)&&((Int.ofNat n).toNat.ble (Int.ofNat n).toNat&&(1*(Int.ofNat n).toNat).ble 281474976710656&&(Int.ofNat n).toNat.ble 9223372036854775807&&true&&true))) ((((zi1 n)∧(AV.int IntKind.u64 (wrapA IntKind.u64 s)=AV.int IntKind.u64 (wrapA IntKind.u64 s)∧closedA (AV.int IntKind.u64 (wrapA IntKind.u64 s))=true)∧(I 0=I 0∧true=true)∧True)∧((true=true∧some 2=some 2∧0=0∧n=(Int.ofNat n).toNat∧1=1)∧True)∧(flat (repE (AV.int IntKind.u8 0) (Int.ofNat n).toNat)=es∧closedAll es=true)∧True)∧Q (AV.rsl true 0 0 n 1) [(0,some (Blk.cells es'))] 3)):=by kernel_rfl
def byS (x:Int):Int:=wrapA .u64 (wrapA .u64 (x*6364136223846793005)+1442695040888963407)
def byB (x:Int):UInt8:=UInt8.ofNat (wrapA .u8 (x.fdiv 1099511627776)).toNat
def byR:Nat→Int→List UInt8
 |0,_=>[]
 |k+1,x=>byB (byS x)::byR k (byS x)
def byE:Nat→Int→Int
 |0,x=>x
 |k+1,x=>byE k (byS x)
theorem byR_length:∀k x,(byR k x).length=k
 |0,_=>rfl
 |k+1,_x=>congrArg (· +1) (byR_length k _)
theorem byB_eq (x:Int):AV.int .u8 (wrapA .u8 (x.fdiv 1099511627776))= .int .u8 (.ofNat (byB x).toNat):=by
 unfold byB
 rw[wrapA_eq]
 generalize x.fdiv 1099511627776=y
 have h0:0≤IntKind.wrap .u8 y∧IntKind.wrap .u8 y<256:=by simp[IntKind.wrap,IntKind.signed,IntKind.bits];omega
 obtain ⟨h0,h1⟩:=h0
 congr 1
 rw[UInt8.toNat_ofNat']
 simp only[Int.ofNat_eq_natCast]
 omega
theorem by_loop {n:Nat} {Q:AExit→St→Prop} (hn:n≤1000):∀ (k:Nat) (x:Int) (p:List UInt8),p.length+k=n→Q (.exit 0) (byV n n (byE k x) (toBytes (p++byR k x))).st→ALp Tryz.prog opts0.glob 0 (lpCode Tryz.prog 68 5) (byV n p.length x (toBytes (p++List.replicate k 0))).st Q:=by
 intro k
 induction k with
 |zero=>
  intro x p hp hq
  simp only[Nat.add_zero] at hp
  subst hp
  refine ALp.round (A:=aidJ [] [] noSem [] []) (V1:=byV p.length 0 x []) (V2:=byV p.length 0 x []) (F:=byV p.length p.length x (toBytes (p++List.replicate 0 0))) (lk:=[(0,0)]) (lk':=[(0,0)]) base0 aidJ_ok (LsOk.no rfl) .refl ?_
  rw[by_round]
  refine mtB_of (fun h=> ?_) (fun _=>⟨⟨⟨⟨rfl,rfl⟩,⟨rfl,rfl⟩,⟨rfl,rfl⟩,trivial⟩,⟨⟨rfl,rfl,rfl,rfl,rfl⟩,trivial⟩,⟨rfl,closedAll_toBytes _⟩,trivial⟩,hq⟩)
  have h:=ltInt_iff.1 h
  omega
 | succ k ih=>
  intro x p hp hq
  have h2:=ih (byS x) (p++[byB (byS x)]) (by simp;omega) (by simpa [byR,byE] using hq)
  have hl:(p++[byB (byS x)]).length=p.length+1:=by simp
  rw[hl,List.append_assoc,List.singleton_append] at h2
  have hw:wrapA .i64 (Int.ofNat p.length+1)=Int.ofNat (p.length+1):=wrapA_i64 (by simp;omega) (by simp;omega)
  refine ALp.round (A:=aidJ [] [] noSem [] []) (V1:=byV n (p.length+1) (byS x) (toBytes (p++byB (byS x)::List.replicate k 0))) (V2:=byV n (p.length+1) (byS x) (toBytes (p++byB (byS x)::List.replicate k 0))) (F:=byV n p.length x (toBytes (p++List.replicate (k+1) 0))) (lk:=[(0,0)]) (lk':=[(0,0)]) base0 aidJ_ok (LsOk.no rfl) .refl ?_
  rw[by_round,hw,show wrapA .u64 (wrapA .u64 (x*6364136223846793005)+1442695040888963407)=byS x from rfl,byB_eq]
  refine mtB_of (fun _=>oblB_of ?_ (oblB_of ?_ ⟨⟨⟨⟨rfl,rfl⟩,⟨rfl,rfl⟩,⟨rfl,rfl⟩,trivial⟩,⟨⟨rfl,rfl,rfl,rfl,rfl⟩,trivial⟩,⟨?_,closedAll_toBytes _⟩,trivial⟩,h2⟩)) (fun h=> ?_)
  ·simp only[nonneg,Bool.true_and,Bool.and_true]
   exact blt_iff.2 (by simp;omega)
  ·rw[lenN_toBytes]
   simp
  ·simp[toBytes_map,lenN,List.replicate_succ]
   rw[List.drop_append,List.drop_of_length_le (by simp),List.nil_append,List.length_map,Nat.add_sub_cancel_left]
   rfl
  ·have h:=ltInt_false.1 h
   simp only[Int.ofNat_eq_natCast] at h
   omega
theorem by_at:loopsAt (fnCode Tryz.prog 68) 5=[lpCode Tryz.prog 68 5]:=by kernel_rfl
theorem bytes_sem {n:Nat} (hn:n≤1000) (s:Int):SC 68 [I (.ofNat n),I s] (.fsl false (toBytes (byR n (wrapA .u64 s)))):=by
 refine fnK_semX (A:=aidJ [] [(5,byL n s (byE n (wrapA .u64 s)) (toBytes ([]++List.replicate n 0)) (toBytes ([]++byR n (wrapA .u64 s))))] noSem [] []) base0 aidJ_ok
  (fnLs_of (LsOk.at1 rfl by_at fun st Q hs=> .seen base0.glob hs.1 (by_loop hn n _ [] (by simp) hs.2))) rfl ?_
 rw[by_fn]
 refine oblB_of ?_ ⟨⟨⟨⟨rfl,rfl⟩,⟨rfl,rfl⟩,⟨rfl,rfl⟩,trivial⟩,⟨⟨rfl,rfl,rfl,rfl,rfl⟩,trivial⟩,⟨?_,closedAll_toBytes _⟩,trivial⟩, ?_⟩
 ·simp[nonneg];omega
 ·show flat (repE _ n)=_
  rw[repE_zero,flat_toBytes,List.nil_append]
 ·exact ⟨_,(Frz.bytes (s:=byR n (wrapA .u64 s)) rfl rfl rfl (byR_length _ _).symm).out,closedAll_toBytes _,.refl _⟩
end
end Go.Proofs.YtjhggnebkfpgcaaGreatDoor
namespace Go.Proofs.YtjhggnebkfpgcaaGreatDoor
open Go Go.RowKit
open Go.Proofs.Abs
noncomputable section
@[simp] abbrev zj2 (Rs:List AV):=(AV.fsl false Rs=AV.fsl false Rs∧closedA (AV.fsl false Rs)=true)
@[simp] abbrev zj1 (BC BL BN:Option Blk) (C L M N:AV) (Rs:List AV) (i:Int) (o:Ob):=((((zj2 Rs)∧(I i=I i∧closedA (I i)=true)∧True)∧((some 4=some 4∧0=0)∧(some 0=some 0∧0=0)∧True)∧RenR [(0,0),(1,1),(2,2),(3,3),(4,4)] (obF o M N L C) (obF o M N L C)∧(zL=zL∧true=true)∧True)∧(BN=BN∧ClosedOB BN)∧(BL=BL∧ClosedOB BL)∧(BC=BC∧ClosedOB BC)∧True)
theorem ob_endA (i:Int) (Rs:List AV) (o:Ob) (M N L C:AV) (BN BL BC:Option Blk) (Nx:Prop) (Q:AExit→St→Prop):wpK Tryz.prog opts0 40 (aidJ [(4,3,.res (.bool false))] [] noSem [] []) (lpCode Tryz.prog 22 5) (stO (oW i Rs (obF o M N L C) []) [(1,BN),(2,BL),(3,BC)]) (roundO 0 [] (oW i Rs [] []) [] Nx [(0,0),(1,1),(2,2),(3,3),(4,4)] (oW i Rs (obF o M N L C) []) [(1,BN),(2,BL),(3,BC)] Q)=
  (binA Tryz.prog BinOp.lss 3 (Operand.tmp 55) (Operand.tmp 57) (I i) (I (Int.ofNat (lenN Rs)))=some (AV.bool false)∧(zj1 BC BL BN C L M N Rs i o)∧Q (AExit.exit 0) (stO (oW i Rs (obF o M N L C) []) [(1,BN),(2,BL),(3,BC)])):=by kernel_rfl
theorem ob_endB (i:Int) (Rs:List AV) (o:Ob) (M N L C:AV) (BN BL BC:Option Blk) (Nx:Prop) (Q:AExit→St→Prop):wpK Tryz.prog opts0 40 (aidJ [(4,3,.res (.bool true)),(4,6,.res (.bool false))] [] noSem [] []) (lpCode Tryz.prog 22 5) (stO (oW i Rs (obF o M N L C) []) [(1,BN),(2,BL),(3,BC)]) (roundO 0 [] (oW i Rs [] []) [] Nx [(0,0),(1,1),(2,2),(3,3),(4,4)] (oW i Rs (obF o M N L C) []) [(1,BN),(2,BL),(3,BC)] Q)=
  (binA Tryz.prog BinOp.lss 3 (Operand.tmp 55) (Operand.tmp 57) (I i) (I (Int.ofNat (lenN Rs)))=some (AV.bool true)∧binA Tryz.prog BinOp.lss 3 (Operand.tmp 60) (Operand.const (Value.int IntKind.i64 10)) (I i) (I 10)=some (AV.bool false)∧(zj1 BC BL BN C L M N Rs i o)∧Q (AExit.exit 0) (stO (oW i Rs (obF o M N L C) []) [(1,BN),(2,BL),(3,BC)])):=by kernel_rfl
def obA0 (id:List UInt8) (ty alg mask n:Int) (m:List AV) (ls:LoopS):Aid:=aidJ [(1,7,.res (I ty)),(1,12,.res (I alg)),(1,18,.res (I mask)),(1,24,.res (I n))] [(5,ls)] (manyF [(23,pkF),(67,fun _=>some (.str id)),(68,fun _=>some (.fsl false m))]) [] []
def ob0 (x:Rw) (id:List UInt8) (ty alg mask:Int) (mat:List UInt8):Ob:=⟨id,ty,alg,128,mask,mat,wrapA .i64 (1+x.k%6),⟨true,x.c%20⟩,⟨false,0⟩,⟨false,0⟩,⟨false,0⟩,⟨false,0⟩,⟨false,0⟩,⟨false,0⟩,⟨false,0⟩,⟨false,0⟩,⟨false,0⟩,0,[],[],[],[],false,0,0,0,false⟩
def obL (Rs:List AV) (o0 o:Ob) (m:List AV) (j:Int) (N L C:AV) (BN BL BC:Option Blk):LoopS:=fun st Q=>seesO 0 [(0,35),(4,1)] (oW 0 Rs (obF o0 (.fsl false m) .nilsl .nilsl .nilsl) []) [] st∧Q (.exit 0) (stO (oW j Rs (obF o (.fsl false m) N L C) []) [(1,BN),(2,BL),(3,BC)])
@[simp] abbrev zj3:=((some 1=some 1∧0=0)∧(some 35=some 35∧0=0)∧True)
theorem ob_fn0 (x:Rw) (Rs:List AV) (id:List UInt8) (ty alg mask n:Int) (mat:List UInt8) (m:List AV) (o:Ob) (j:Int) (N C:AV) (BN BL BC:Option Blk) (Q:AV→Heap→Prop):fnK Tryz.prog opts0 40 (obA0 id ty alg mask n m (obL Rs (ob0 x id ty alg mask mat) o m j N .nilsl C BN BL BC)) 22 [rwA x,.fsl false Rs] [] 0 (fun v H _=>Q v H)=
  (SC 67 [I x.2] (AV.str id)∧SC 23 [I x.3,I 5] (I (x.3%5))∧indexA Tryz.prog 103 (AV.agg [I 2,I 2,I 3,I 4,I 7]) (I (x.3%5))=some (I ty)∧SC 23 [I x.4,I 4] (I (x.4%4))∧indexA Tryz.prog 104 (AV.agg [I 3,I 3,I 0,I 4]) (I (x.4%4))=some (I alg)∧SC 23 [I (wrapA IntKind.i64 (x.2.tdiv 12)),I 5] (I (wrapA IntKind.i64 (x.2.tdiv 12)%5))∧indexA Tryz.prog 103 (AV.agg [I 396,I 12,I 4,I 384,I 0]) (I (wrapA IntKind.i64 (x.2.tdiv 12)%5))=some (I mask)∧SC 23 [I (wrapA IntKind.i64 (x.3.tdiv 5)),I 5] (I (wrapA IntKind.i64 (x.3.tdiv 5)%5))∧indexA Tryz.prog 103 (AV.agg [I 16,I 16,I 32,I 0,I 24]) (I (wrapA IntKind.i64 (x.3.tdiv 5)%5))=some (I n)∧SC 68 [I n,I x.4] (AV.fsl false m)∧SC 23 [I x.1,I 6] (I (x.1%6))∧SC 23 [I x.4,I 20] (I (x.4%20))∧((((zj2 Rs)∧(I 0=I 0∧true=true)∧True)∧zj3∧RenR [(0,35),(4,1)] [AV.str id,I ty,I alg,I 128,I mask,AV.fsl false m,I (wrapA IntKind.i64 (1+x.1%6)),AV.bool true,I (x.4%20),AV.bool false,I 0,AV.bool false,I 0,AV.bool false,I 0,AV.bool false,I 0,AV.bool false,I 0,AV.bool false,I 0,AV.bool false,I 0,AV.bool false,I 0,AV.bool false,I 0,I 0,AV.str [],AV.nilsl,AV.nilsl,AV.nilsl,AV.bool false,I 0,I 0,I 0,AV.bool false] [AV.str id,I ty,I alg,I 128,I mask,AV.fsl false m,I (wrapA IntKind.i64 (1+x.1%6)),AV.bool true,I (x.4%20),AV.bool false,I 0,AV.bool false,I 0,AV.bool false,I 0,AV.bool false,I 0,AV.bool false,I 0,AV.bool false,I 0,AV.bool false,I 0,AV.bool false,I 0,AV.bool false,I 0,I 0,AV.str [],AV.nilsl,AV.nilsl,AV.nilsl,AV.bool false,I 0,I 0,I 0,AV.bool false]∧(zL=zL∧true=true)∧True)∧True)∧oblB (fitsT Tryz.prog 33 (AV.agg (obF o (AV.fsl false m) N AV.nilsl C)) 37) (Q (AV.agg (obF o (AV.fsl false m) N AV.nilsl C)) [(4,some (Blk.cells (obF o (AV.fsl false m) N AV.nilsl C))),(0,some (Blk.cells (obF o (AV.fsl false m) N AV.nilsl C))),(4,some (Blk.cells zL)),(1,BN),(2,BL),(3,BC)])):=by kernel_rfl
abbrev zj4 (C N:AV) (m:List AV) (o:Ob):=(obF o (AV.fsl false m) N (AV.rsl true 2 0 8 2) C)
theorem ob_fn1 (x:Rw) (Rs:List AV) (id:List UInt8) (ty alg mask n:Int) (mat:List UInt8) (m:List AV) (o:Ob) (j:Int) (N C:AV) (k:Nat) (es:List AV) (BN BC:Option Blk) (Q:AV→Heap→Prop):fnK Tryz.prog opts0 40 (obA0 id ty alg mask n m (obL Rs (ob0 x id ty alg mask mat) o m j N (.rsl true 2 0 k 2) C BN (some (.cells es)) BC)) 22 [rwA x,.fsl false Rs] [] 0 (fun v H _=>Q v H)=
  (SC 67 [I x.2] (AV.str id)∧SC 23 [I x.3,I 5] (I (x.3%5))∧indexA Tryz.prog 103 (AV.agg [I 2,I 2,I 3,I 4,I 7]) (I (x.3%5))=some (I ty)∧SC 23 [I x.4,I 4] (I (x.4%4))∧indexA Tryz.prog 104 (AV.agg [I 3,I 3,I 0,I 4]) (I (x.4%4))=some (I alg)∧SC 23 [I (wrapA IntKind.i64 (x.2.tdiv 12)),I 5] (I (wrapA IntKind.i64 (x.2.tdiv 12)%5))∧indexA Tryz.prog 103 (AV.agg [I 396,I 12,I 4,I 384,I 0]) (I (wrapA IntKind.i64 (x.2.tdiv 12)%5))=some (I mask)∧SC 23 [I (wrapA IntKind.i64 (x.3.tdiv 5)),I 5] (I (wrapA IntKind.i64 (x.3.tdiv 5)%5))∧indexA Tryz.prog 103 (AV.agg [I 16,I 16,I 32,I 0,I 24]) (I (wrapA IntKind.i64 (x.3.tdiv 5)%5))=some (I n)∧SC 68 [I n,I x.4] (AV.fsl false m)∧SC 23 [I x.1,I 6] (I (x.1%6))∧SC 23 [I x.4,I 20] (I (x.4%20))∧((((zj2 Rs)∧(I 0=I 0∧true=true)∧True)∧zj3∧RenR [(0,35),(4,1)] [AV.str id,I ty,I alg,I 128,I mask,AV.fsl false m,I (wrapA IntKind.i64 (1+x.1%6)),AV.bool true,I (x.4%20),AV.bool false,I 0,AV.bool false,I 0,AV.bool false,I 0,AV.bool false,I 0,AV.bool false,I 0,AV.bool false,I 0,AV.bool false,I 0,AV.bool false,I 0,AV.bool false,I 0,I 0,AV.str [],AV.nilsl,AV.nilsl,AV.nilsl,AV.bool false,I 0,I 0,I 0,AV.bool false] [AV.str id,I ty,I alg,I 128,I mask,AV.fsl false m,I (wrapA IntKind.i64 (1+x.1%6)),AV.bool true,I (x.4%20),AV.bool false,I 0,AV.bool false,I 0,AV.bool false,I 0,AV.bool false,I 0,AV.bool false,I 0,AV.bool false,I 0,AV.bool false,I 0,AV.bool false,I 0,AV.bool false,I 0,I 0,AV.str [],AV.nilsl,AV.nilsl,AV.nilsl,AV.bool false,I 0,I 0,I 0,AV.bool false]∧(zL=zL∧true=true)∧True)∧True)∧mtB (ltInt 8 (Int.ofNat k)) (oblB (Nat.ble 8 k) (oblB (fitsT Tryz.prog 33 (AV.agg (zj4 C N m o)) 37) (Q (AV.agg (zj4 C N m o)) [(4,some (Blk.cells (zj4 C N m o))),(0,some (Blk.cells (zj4 C N m o))),(4,some (Blk.cells zL)),(1,BN),(2,some (Blk.cells es)),(3,BC)]))) (oblB (fitsT Tryz.prog 33 (AV.agg (obF o (AV.fsl false m) N (AV.rsl true 2 0 k 2) C)) 37) (Q (AV.agg (obF o (AV.fsl false m) N (AV.rsl true 2 0 k 2) C)) [(4,some (Blk.cells (obF o (AV.fsl false m) N (AV.rsl true 2 0 k 2) C))),(0,some (Blk.cells (obF o (AV.fsl false m) N (AV.rsl true 2 0 k 2) C))),(4,some (Blk.cells zL)),(1,BN),(2,some (Blk.cells es)),(3,BC)]))):=by kernel_rfl
end
def nsl (id w:Nat):Nat→AV
 |0=> .nilsl
 |k+1=> .rsl true id 0 (k+1) w
def nb (l:List AV):Nat→Option Blk
 |0=>none
 |_+1=>some (.cells l)
theorem nsl_rv (id w:Nat):∀n,Rv id (nsl id w n)
 |0=>fun _ _=> .same _ rfl
 |_+1=>fun _ h=> .rsl _ _ _ _ _ _ h
theorem nb_cl {l:List AV} (h:closedAll l=true):∀n,ClosedOB (nb l n)
 |0=>⟨trivial⟩
 |_+1=>⟨h⟩
noncomputable def obQ (i:Nat) (Rs:List AV) (M:AV) (o:Ob) (N:List (List UInt8)) (L:List Lk) (C:List Cu):St:=stO (oW (.ofNat i) Rs (obF o M (nsl 1 1 N.length) (nsl 2 2 L.length) (nsl 3 2 C.length)) []) [(1,nb (N.map .str) N.length),(2,nb (flat (L.map lkA)) L.length),(3,nb (flat (C.map cuA)) C.length)]
structure OxZ (o:Ob):Prop where
 d:∀k,(dateAt o k).has=false→(dateAt o k).t=0
 l:o.lh=false→o.lt=0∧o.lc=0∧o.lu=0
theorem date_or (o:Ob) (x:Dt) (d k:Nat):dateAt (setDate o x d) k=x∨dateAt (setDate o x d) k=dateAt o k:=by
 unfold setDate dateAt
 split<;>split<;>simp
theorem OxZ.date {o:Ob} (h:OxZ o) (t:Int) (d:Nat):OxZ (setDate o ⟨true,t⟩ d):=⟨fun k hk=>by
 rcases date_or o ⟨true,t⟩ d k with e|e
 ·rw[e] at hk;cases hk
 ·rw[e] at hk⊢;exact h.d k hk,by
 unfold setDate
 split<;>exact h.l⟩
theorem dateAt_of {o p:Ob} (h0:p.d0=o.d0) (h1:p.d1=o.d1) (h2:p.d2=o.d2) (h3:p.d3=o.d3) (h4:p.d4=o.d4) (h5:p.d5=o.d5) (h6:p.d6=o.d6) (h7:p.d7=o.d7) (h8:p.d8=o.d8) (h9:p.d9=o.d9) (k:Nat):dateAt p k=dateAt o k:=by
 unfold dateAt
 split<;>assumption
theorem OxZ.of {o p:Ob} (h:OxZ o) (hd:∀k,dateAt p k=dateAt o k) (hl:p.lh=false→p.lt=0∧p.lc=0∧p.lu=0):OxZ p:=⟨fun k=>by rw[hd];exact h.d k,hl⟩
structure OxI (n:Nat) (o:Ob) (N:List (List UInt8)) (L:List Lk) (C:List Cu):Prop where
 n1:∀s∈N,s∈nmL
 n2:N.Nodup
 l1:L.length≤n
 l2:L.Nodup
 l3:∀x∈L,x.id∈idL
 c1:C.length≤6
 c2:C.Nodup
 c3:∀x∈C,x.name∈cnL∧x.text∈ctL
 id:o.id∈idL
 msg:o.msg∈msL
 dat:o.d0.has=true
 z:OxZ o
theorem nodup_le {α:Type} [DecidableEq α]:∀ (l m:List α),l.Nodup→(∀x∈l,x∈m)→l.length≤m.length
 |[],_,_,_=>Nat.zero_le _
 |a::t,m,h,hs=>by
  have h:=List.nodup_cons.1 h
  have ha:=hs a (by simp)
  have:=nodup_le t (m.erase a) h.2 fun x hx=>(List.mem_erase_of_ne (fun e=>by subst e;exact h.1 hx)).2 (hs x (by simp[hx]))
  rw[List.length_erase_of_mem ha] at this
  have:=List.length_pos_of_mem ha
  simp only[List.length_cons]
  omega
theorem OxI.names {n:Nat} {o:Ob} {N:List (List UInt8)} {L:List Lk} {C:List Cu} (h:OxI n o N L C):N.length≤5:=nodup_le N nmL h.n2 h.n1
theorem inL_no {l:List (List UInt8)} {s:List UInt8} (h:inL' l s=false):s∉l:=fun hm=>by
 have:inL' l s=true:=List.any_eq_true.2 ⟨s,hm,beqBytes_iff.2 rfl⟩
 rw[this] at h;cases h
theorem hasLk_no {l:List Lk} {x:Lk} (h:hasLk x l=false):x∉l:=fun hm=>by
 have:hasLk x l=true:=List.any_eq_true.2 ⟨x,hm,by simp[lkEq,beqInt_iff,beqBytes_iff]⟩
 rw[this] at h;cases h
theorem hasCu_no {l:List Cu} {x:Cu} (h:hasCu x l=false):x∉l:=fun hm=>by
 have:hasCu x l=true:=List.any_eq_true.2 ⟨x,hm,by simp[cuEq,beqBytes_iff]⟩
 rw[this] at h;cases h
theorem nodup_snoc {α:Type} {l:List α} {x:α} (h:l.Nodup) (hx:x∉l):(l++[x]).Nodup:=by
 rw[List.nodup_append]
 refine ⟨h,by simp,fun a ha b hb=> ?_⟩
 rw[List.mem_singleton] at hb
 subst hb
 intro e
 subst e
 exact hx ha
theorem mem_snoc {α:Type} {l:List α} {x:α} {p:α→Prop} (h:∀y∈l,p y) (hx:p x):∀y∈l++[x],p y:=fun y hy=>by
 rcases List.mem_append.1 hy with hy|hy
 ·exact h y hy
 ·rw[List.mem_singleton] at hy;subst hy;exact hx
theorem OxI.more {n:Nat} {o:Ob} {N:List (List UInt8)} {L:List Lk} {C:List Cu} (h:OxI n o N L C):OxI (n+1) o N L C:=⟨h.n1,h.n2,Nat.le_succ_of_le h.l1,h.l2,h.l3,h.c1,h.c2,h.c3,h.id,h.msg,h.dat,h.z⟩
theorem OxI.date {n:Nat} {o:Ob} {N:List (List UInt8)} {L:List Lk} {C:List Cu} (h:OxI n o N L C) (t:Int):∀d,OxI (n+1) (setDate o ⟨true,t⟩ d) N L C
 |0=>⟨h.n1,h.n2,Nat.le_succ_of_le h.l1,h.l2,h.l3,h.c1,h.c2,h.c3,h.id,h.msg,rfl,h.z.date t 0⟩
 |1=>⟨h.n1,h.n2,Nat.le_succ_of_le h.l1,h.l2,h.l3,h.c1,h.c2,h.c3,h.id,h.msg,h.dat,h.z.date t 1⟩
 |2=>⟨h.n1,h.n2,Nat.le_succ_of_le h.l1,h.l2,h.l3,h.c1,h.c2,h.c3,h.id,h.msg,h.dat,h.z.date t 2⟩
 |3=>⟨h.n1,h.n2,Nat.le_succ_of_le h.l1,h.l2,h.l3,h.c1,h.c2,h.c3,h.id,h.msg,h.dat,h.z.date t 3⟩
 |4=>⟨h.n1,h.n2,Nat.le_succ_of_le h.l1,h.l2,h.l3,h.c1,h.c2,h.c3,h.id,h.msg,h.dat,h.z.date t 4⟩
 |5=>⟨h.n1,h.n2,Nat.le_succ_of_le h.l1,h.l2,h.l3,h.c1,h.c2,h.c3,h.id,h.msg,h.dat,h.z.date t 5⟩
 |6=>⟨h.n1,h.n2,Nat.le_succ_of_le h.l1,h.l2,h.l3,h.c1,h.c2,h.c3,h.id,h.msg,h.dat,h.z.date t 6⟩
 |7=>⟨h.n1,h.n2,Nat.le_succ_of_le h.l1,h.l2,h.l3,h.c1,h.c2,h.c3,h.id,h.msg,h.dat,h.z.date t 7⟩
 |8=>⟨h.n1,h.n2,Nat.le_succ_of_le h.l1,h.l2,h.l3,h.c1,h.c2,h.c3,h.id,h.msg,h.dat,h.z.date t 8⟩
 |9=>⟨h.n1,h.n2,Nat.le_succ_of_le h.l1,h.l2,h.l3,h.c1,h.c2,h.c3,h.id,h.msg,h.dat,h.z.date t 9⟩
 |_+10=>⟨h.n1,h.n2,Nat.le_succ_of_le h.l1,h.l2,h.l3,h.c1,h.c2,h.c3,h.id,h.msg,h.dat,h.z.date t _⟩
theorem thin {S S2:St} {Q:AExit→St→Prop} {b:Code} (h:ALp Tryz.prog opts0.glob 0 b S2 Q) (h1:S2.slots=S.slots) (h2:∀i b,hget S2.heap i=some b→hget S.heap i=some b) (h3:S2.nx=S.nx) (h4:S2.n=S.n):ALp Tryz.prog opts0.glob 0 b S Q:=h.says (.sub h1 h2 h3 h4)
theorem ob_step {l:List Rw} {i:Nat} {y:Rw} {M:AV} (hy:l[i]? =some y) (hi:i<10) (hM:closedA M=true) {o:Ob} {N:List (List UInt8)} {L:List Lk} {C:List Cu} (h:OxI i o N L C):∃o' N' L' C',OxI (i+1) o' N' L' C'∧Step (obQ i (l.map rwA) M o N L C) (obQ (i+1) (l.map rwA) M o' N' L' C'):=by
 have g:=go_of hy hi
 have rN:=nsl_rv 1 1 N.length
 have rL:=nsl_rv 2 2 L.length
 have rC:=nsl_rv 3 2 C.length
 have bn:=nb_cl (closed_strs N) N.length
 have bl:=nb_cl (closed_flk L) L.length
 have bc:=nb_cl (closed_fcu C) C.length
 obtain ⟨k,hk,hlt⟩:=mod_nat (n:=y.k) (m:=9) (by decide)
 obtain ⟨d,hd,hdlt⟩:=mod_nat (n:=y.a) (m:=10) (by decide)
 match k,hk,hlt with
 |0,hk,_=>
  match d,hd,hdlt with
  |0,hd,_=>exact ⟨_,N,L,C,h.date (y.b%60) 0,st_dat00 o g hM rN rL rC bn bl bc hk hd⟩
  |1,hd,_=>exact ⟨_,N,L,C,h.date (y.b%60) 1,st_dat01 o g hM rN rL rC bn bl bc hk hd⟩
  |2,hd,_=>exact ⟨_,N,L,C,h.date (y.b%60) 2,st_dat02 o g hM rN rL rC bn bl bc hk hd⟩
  |3,hd,_=>exact ⟨_,N,L,C,h.date (y.b%60) 3,st_dat03 o g hM rN rL rC bn bl bc hk hd⟩
  |4,hd,_=>exact ⟨_,N,L,C,h.date (y.b%60) 4,st_dat04 o g hM rN rL rC bn bl bc hk hd⟩
  |5,hd,_=>exact ⟨_,N,L,C,h.date (y.b%60) 5,st_dat05 o g hM rN rL rC bn bl bc hk hd⟩
  |6,hd,_=>exact ⟨_,N,L,C,h.date (y.b%60) 6,st_dat06 o g hM rN rL rC bn bl bc hk hd⟩
  |7,hd,_=>exact ⟨_,N,L,C,h.date (y.b%60) 7,st_dat07 o g hM rN rL rC bn bl bc hk hd⟩
  |8,hd,_=>exact ⟨_,N,L,C,h.date (y.b%60) 8,st_dat08 o g hM rN rL rC bn bl bc hk hd⟩
  |9,hd,_=>exact ⟨_,N,L,C,h.date (y.b%60) 9,st_dat09 o g hM rN rL rC bn bl bc hk hd⟩
  |_+10,_,hdlt=>exact absurd hdlt (by omega)
 |1,hk,_=>
  match d,hd,hdlt with
  |0,hd,_=>exact ⟨_,N,L,C,h.date (y.b%60) 0,st_dat10 o g hM rN rL rC bn bl bc hk hd⟩
  |1,hd,_=>exact ⟨_,N,L,C,h.date (y.b%60) 1,st_dat11 o g hM rN rL rC bn bl bc hk hd⟩
  |2,hd,_=>exact ⟨_,N,L,C,h.date (y.b%60) 2,st_dat12 o g hM rN rL rC bn bl bc hk hd⟩
  |3,hd,_=>exact ⟨_,N,L,C,h.date (y.b%60) 3,st_dat13 o g hM rN rL rC bn bl bc hk hd⟩
  |4,hd,_=>exact ⟨_,N,L,C,h.date (y.b%60) 4,st_dat14 o g hM rN rL rC bn bl bc hk hd⟩
  |5,hd,_=>exact ⟨_,N,L,C,h.date (y.b%60) 5,st_dat15 o g hM rN rL rC bn bl bc hk hd⟩
  |6,hd,_=>exact ⟨_,N,L,C,h.date (y.b%60) 6,st_dat16 o g hM rN rL rC bn bl bc hk hd⟩
  |7,hd,_=>exact ⟨_,N,L,C,h.date (y.b%60) 7,st_dat17 o g hM rN rL rC bn bl bc hk hd⟩
  |8,hd,_=>exact ⟨_,N,L,C,h.date (y.b%60) 8,st_dat18 o g hM rN rL rC bn bl bc hk hd⟩
  |9,hd,_=>exact ⟨_,N,L,C,h.date (y.b%60) 9,st_dat19 o g hM rN rL rC bn bl bc hk hd⟩
  |_+10,_,hdlt=>exact absurd hdlt (by omega)
 |2,hk,_=>
  match d,hd,hdlt with
  |0,hd,_=>exact ⟨_,N,L,C,h.date (y.b%60) 0,st_dat20 o g hM rN rL rC bn bl bc hk hd⟩
  |1,hd,_=>exact ⟨_,N,L,C,h.date (y.b%60) 1,st_dat21 o g hM rN rL rC bn bl bc hk hd⟩
  |2,hd,_=>exact ⟨_,N,L,C,h.date (y.b%60) 2,st_dat22 o g hM rN rL rC bn bl bc hk hd⟩
  |3,hd,_=>exact ⟨_,N,L,C,h.date (y.b%60) 3,st_dat23 o g hM rN rL rC bn bl bc hk hd⟩
  |4,hd,_=>exact ⟨_,N,L,C,h.date (y.b%60) 4,st_dat24 o g hM rN rL rC bn bl bc hk hd⟩
  |5,hd,_=>exact ⟨_,N,L,C,h.date (y.b%60) 5,st_dat25 o g hM rN rL rC bn bl bc hk hd⟩
  |6,hd,_=>exact ⟨_,N,L,C,h.date (y.b%60) 6,st_dat26 o g hM rN rL rC bn bl bc hk hd⟩
  |7,hd,_=>exact ⟨_,N,L,C,h.date (y.b%60) 7,st_dat27 o g hM rN rL rC bn bl bc hk hd⟩
  |8,hd,_=>exact ⟨_,N,L,C,h.date (y.b%60) 8,st_dat28 o g hM rN rL rC bn bl bc hk hd⟩
  |9,hd,_=>exact ⟨_,N,L,C,h.date (y.b%60) 9,st_dat29 o g hM rN rL rC bn bl bc hk hd⟩
  |_+10,_,hdlt=>exact absurd hdlt (by omega)
 | 3,hk,_=>
  match N,h,bn with
  |[],h,_=>
   refine ⟨o,[ofL nmL [] y.a],L,C,⟨mem_snoc (l:=[]) (fun _ h=>by cases h) (ofL_mem _ _ _ (by decide)),by simp,Nat.le_succ_of_le h.l1,h.l2,h.l3,h.c1,h.c2,h.c3,h.id,h.msg,h.dat,h.z⟩,fun Q hq=> ?_⟩
   exact thin (st_nam0 o g hM rL rC bl bc hk Q hq) rfl (fun i b h=>match i,h with|0,h=>h|1,h=>h|2,h=>h|3,h=>h|4,h=>h|_+5,h=>h) rfl rfl
  | s::N,h,_=>
   have hl:=h.names
   cases hin:inL' (s::N) (ofL nmL [] y.a) with
   |true=>exact ⟨o,s::N,L,C,h.more,fun Q hq=>st_nam1t o g hM rL rC bl bc hk (l:=s::N) (by omega) hin Q hq⟩
   |false=>
    refine ⟨o,s::N++[ofL nmL [] y.a],L,C,⟨mem_snoc h.n1 (ofL_mem _ _ _ (by decide)),nodup_snoc h.n2 (inL_no hin),Nat.le_succ_of_le h.l1,h.l2,h.l3,h.c1,h.c2,h.c3,h.id,h.msg,h.dat,h.z⟩,fun Q hq=> ?_⟩
    refine st_nam1f o g hM rL rC bl bc hk (l:=s::N) (by omega) hin Q ?_
    have e1:(s::N++[ofL nmL [] y.a]).length=(s::N).length+1:=by simp
    have e2:(s::N++[ofL nmL [] y.a]).map AV.str=(s::N).map .str++[.str (ofL nmL [] y.a)]:=by simp
    unfold obQ at hq
    rw[e1,e2] at hq
    exact hq
 | 4,hk,_=>
  match L,h,bl with
  |[],h,_=>
   refine ⟨o,N,[lkOf y],C,⟨h.n1,h.n2,by simp,by simp,mem_snoc (l:=[]) (fun _ h=>by cases h) (ofL_mem idL _ _ (by decide)),h.c1,h.c2,h.c3,h.id,h.msg,h.dat,h.z⟩,fun Q hq=> ?_⟩
   exact thin (st_lnk0 o g hM rN rC bn bc hk Q (thin hq rfl (fun i b h=>match i,h with|0,h=>h|1,h=>h|2,h=>h|3,h=>h|4,h=>h|_+5,h=>h) rfl rfl)) rfl (fun i b h=>match i,h with|0,h=>h|1,h=>h|2,h=>h|3,h=>h|4,h=>h|_+5,h=>h) rfl rfl
  | s::L,h,_=>
   have hl:=h.l1
   cases hin:hasLk (lkOf y) (s::L) with
   |true=>exact ⟨o,N,s::L,C,h.more,fun Q hq=>thin (st_lnk1t o g hM rN rC bn bc hk (l:=s::L) (by omega) hin Q (thin hq rfl (fun i b h=>match i,h with|0,h=>h|1,h=>h|2,h=>h|3,h=>h|4,h=>h|_+5,h=>h) rfl rfl)) rfl (fun i b h=>match i,h with|0,h=>h|1,h=>h|2,h=>h|3,h=>h|4,h=>h|_+5,h=>h) rfl rfl⟩
   |false=>
    refine ⟨o,N,s::L++[lkOf y],C,⟨h.n1,h.n2,by simp only[List.length_append,List.length_singleton];omega,nodup_snoc h.l2 (hasLk_no hin),mem_snoc h.l3 (ofL_mem idL _ _ (by decide)),h.c1,h.c2,h.c3,h.id,h.msg,h.dat,h.z⟩,fun Q hq=> ?_⟩
    have e1:(s::L++[lkOf y]).length=(s::L).length+1:=by simp
    have e2:flat ((s::L++[lkOf y]).map lkA)=flat ((s::L).map lkA)++[I (wrapA .i64 (101+y.a%5)),.str (ofL idL [] y.b)]:=by rw[List.map_append,flat_append];rfl
    unfold obQ at hq
    rw[e1,e2] at hq
    exact thin (st_lnk1f o g hM rN rC bn bc hk (l:=s::L) (by omega) hin Q (thin hq rfl (fun i b h=>match i,h with|0,h=>h|1,h=>h|2,h=>h|3,h=>h|4,h=>h|_+5,h=>h) rfl rfl)) rfl (fun i b h=>match i,h with|0,h=>h|1,h=>h|2,h=>h|3,h=>h|4,h=>h|_+5,h=>h) rfl rfl
 |5,hk,_=>exact ⟨limOb o y,N,L,C,⟨h.n1,h.n2,Nat.le_succ_of_le h.l1,h.l2,h.l3,h.c1,h.c2,h.c3,h.id,h.msg,h.dat,h.z.of (dateAt_of rfl rfl rfl rfl rfl rfl rfl rfl rfl rfl) fun h=>by cases h⟩,st_lim o g hM rN rL rC bn bl bc hk⟩
 | 6,hk,_=>
  match C,h,bc with
  |[],h,_=>
   refine ⟨o,N,L,[cuOf y],⟨h.n1,h.n2,Nat.le_succ_of_le h.l1,h.l2,h.l3,by simp,by simp,mem_snoc (l:=[]) (fun _ h=>by cases h) ⟨ofL_mem cnL _ _ (by decide),ofL_mem ctL _ _ (by decide)⟩,h.id,h.msg,h.dat,h.z⟩,fun Q hq=> ?_⟩
   exact thin (st_cus0 o g hM rN rL bn bl hk Q (thin hq rfl (fun i b h=>match i,h with|0,h=>h|1,h=>h|2,h=>h|3,h=>h|4,h=>h|_+5,h=>h) rfl rfl)) rfl (fun i b h=>match i,h with|0,h=>h|1,h=>h|2,h=>h|3,h=>h|4,h=>h|_+5,h=>h) rfl rfl
  | s::C,h,_=>
   have hl:=h.c1
   cases hin:hasCu (cuOf y) (s::C) with
   |true=>exact ⟨o,N,L,s::C,h.more,fun Q hq=>thin (st_cus1t o g hM rN rL bn bl hk (l:=s::C) (by omega) hin Q (thin hq rfl (fun i b h=>match i,h with|0,h=>h|1,h=>h|2,h=>h|3,h=>h|4,h=>h|_+5,h=>h) rfl rfl)) rfl (fun i b h=>match i,h with|0,h=>h|1,h=>h|2,h=>h|3,h=>h|4,h=>h|_+5,h=>h) rfl rfl⟩
   | false=>
    by_cases h6:(s::C).length<6
    ·refine ⟨o,N,L,s::C++[cuOf y],⟨h.n1,h.n2,Nat.le_succ_of_le h.l1,h.l2,h.l3,by simp only[List.length_append,List.length_singleton];omega,nodup_snoc h.c2 (hasCu_no hin),mem_snoc h.c3 ⟨ofL_mem cnL _ _ (by decide),ofL_mem ctL _ _ (by decide)⟩,h.id,h.msg,h.dat,h.z⟩,fun Q hq=> ?_⟩
     have e1:(s::C++[cuOf y]).length=(s::C).length+1:=by simp
     have e2:flat ((s::C++[cuOf y]).map cuA)=flat ((s::C).map cuA)++[.str (ofL cnL [] y.a),.str (ofL ctL [] y.b)]:=by rw[List.map_append,flat_append];rfl
     unfold obQ at hq
     rw[e1,e2] at hq
     exact thin (st_cus1f o g hM rN rL bn bl hk (l:=s::C) (by omega) hin h6 Q (thin hq rfl (fun i b h=>match i,h with|0,h=>h|1,h=>h|2,h=>h|3,h=>h|4,h=>h|_+5,h=>h) rfl rfl)) rfl (fun i b h=>match i,h with|0,h=>h|1,h=>h|2,h=>h|3,h=>h|4,h=>h|_+5,h=>h) rfl rfl
    ·exact ⟨o,N,L,s::C,h.more,fun Q hq=>thin (st_cus1s o g hM rN rL bn bl hk (l:=s::C) (by omega) hin (by omega) Q (thin hq rfl (fun i b h=>match i,h with|0,h=>h|1,h=>h|2,h=>h|3,h=>h|4,h=>h|_+5,h=>h) rfl rfl)) rfl (fun i b h=>match i,h with|0,h=>h|1,h=>h|2,h=>h|3,h=>h|4,h=>h|_+5,h=>h) rfl rfl⟩
 |7,hk,_=>exact ⟨whyOb o y,N,L,C,⟨h.n1,h.n2,Nat.le_succ_of_le h.l1,h.l2,h.l3,h.c1,h.c2,h.c3,h.id,ofL_mem msL _ _ (by decide),h.dat,h.z.of (dateAt_of rfl rfl rfl rfl rfl rfl rfl rfl rfl rfl) h.z.l⟩,st_why o g hM rN rL rC bn bl bc hk⟩
 |8,hk,_=>exact ⟨arcOb o y,N,L,C,⟨h.n1,h.n2,Nat.le_succ_of_le h.l1,h.l2,h.l3,h.c1,h.c2,h.c3,h.id,h.msg,h.dat,h.z.of (dateAt_of rfl rfl rfl rfl rfl rfl rfl rfl rfl rfl) h.z.l⟩,st_arc o g hM rN rL rC bn bl bc hk⟩
 |_+9,_,hlt=>exact absurd hlt (by omega)
theorem ob_run {l:List Rw} {M:AV} (hM:closedA M=true):∀ (m i:Nat) (o:Ob) (N:List (List UInt8)) (L:List Lk) (C:List Cu),i+m=min l.length 10→OxI i o N L C→∃o' N' L' C',OxI 10 o' N' L' C'∧∀Q:AExit→St→Prop,Q (.exit 0) (obQ (min l.length 10) (l.map rwA) M o' N' L' C')→ALp Tryz.prog opts0.glob 0 (lpCode Tryz.prog 22 5) (obQ i (l.map rwA) M o N L C) Q
 | 0,i,o,N,L,C,hm,h=>by
  rw[Nat.add_zero] at hm
  have rN:=nsl_rv 1 1 N.length
  have rL:=nsl_rv 2 2 L.length
  have rC:=nsl_rv 3 2 C.length
  have bn:=nb_cl (closed_strs N) N.length
  have bl:=nb_cl (closed_flk L) L.length
  have bc:=nb_cl (closed_fcu C) C.length
  refine ⟨o,N,L,C,⟨h.n1,h.n2,Nat.le_trans h.l1 (by omega),h.l2,h.l3,h.c1,h.c2,h.c3,h.id,h.msg,h.dat,h.z⟩,fun Q hq=> ?_⟩
  rw[←hm] at hq
  unfold obQ at hq⊢
  have hc:=closed_rws l
  by_cases hi:i<10
  ·refine ALp.roundO (A:=aidJ [(4,3,.res (.bool false))] [] noSem [] []) (V1:=oW (.ofNat i) (l.map rwA) [] []) (F:=oW (.ofNat i) (l.map rwA) (obF o M (nsl 1 1 N.length) (nsl 2 2 L.length) (nsl 3 2 C.length)) []) (opt:=[]) (opt':=[(1,nb (N.map .str) N.length),(2,nb (flat (L.map lkA)) L.length),(3,nb (flat (C.map cuA)) C.length)]) (lk:=[]) (lk':=[(0,0),(1,1),(2,2),(3,3),(4,4)]) base0 aidJ_ok (LsOk.no rfl) .refl ?_
   rw[ob_endA]
   exact ⟨lss_f (by simp only[lenN_eq,List.length_map,Int.ofNat_eq_natCast];omega),⟨⟨⟨⟨rfl,hc⟩,⟨rfl,rfl⟩,trivial⟩,⟨⟨rfl,rfl⟩,⟨rfl,rfl⟩,trivial⟩,renR_ob (o:=o) hM (rN _ rfl) (rL _ rfl) (rC _ rfl),⟨rfl,rfl⟩,trivial⟩,⟨rfl,bn⟩,⟨rfl,bl⟩,⟨rfl,bc⟩,trivial⟩,hq⟩
  ·by_cases hl:i<l.length
   ·refine ALp.roundO (A:=aidJ [(4,3,.res (.bool true)),(4,6,.res (.bool false))] [] noSem [] []) (V1:=oW (.ofNat i) (l.map rwA) [] []) (F:=oW (.ofNat i) (l.map rwA) (obF o M (nsl 1 1 N.length) (nsl 2 2 L.length) (nsl 3 2 C.length)) []) (opt:=[]) (opt':=[(1,nb (N.map .str) N.length),(2,nb (flat (L.map lkA)) L.length),(3,nb (flat (C.map cuA)) C.length)]) (lk:=[]) (lk':=[(0,0),(1,1),(2,2),(3,3),(4,4)]) base0 aidJ_ok (LsOk.no rfl) .refl ?_
    rw[ob_endB]
    exact ⟨lss_t (by simp only[lenN_eq,List.length_map,Int.ofNat_eq_natCast];omega),lss_f (by simp only[Int.ofNat_eq_natCast];omega),⟨⟨⟨⟨rfl,hc⟩,⟨rfl,rfl⟩,trivial⟩,⟨⟨rfl,rfl⟩,⟨rfl,rfl⟩,trivial⟩,renR_ob (o:=o) hM (rN _ rfl) (rL _ rfl) (rC _ rfl),⟨rfl,rfl⟩,trivial⟩,⟨rfl,bn⟩,⟨rfl,bl⟩,⟨rfl,bc⟩,trivial⟩,hq⟩
   ·refine ALp.roundO (A:=aidJ [(4,3,.res (.bool false))] [] noSem [] []) (V1:=oW (.ofNat i) (l.map rwA) [] []) (F:=oW (.ofNat i) (l.map rwA) (obF o M (nsl 1 1 N.length) (nsl 2 2 L.length) (nsl 3 2 C.length)) []) (opt:=[]) (opt':=[(1,nb (N.map .str) N.length),(2,nb (flat (L.map lkA)) L.length),(3,nb (flat (C.map cuA)) C.length)]) (lk:=[]) (lk':=[(0,0),(1,1),(2,2),(3,3),(4,4)]) base0 aidJ_ok (LsOk.no rfl) .refl ?_
    rw[ob_endA]
    exact ⟨lss_f (by simp only[lenN_eq,List.length_map,Int.ofNat_eq_natCast];omega),⟨⟨⟨⟨rfl,hc⟩,⟨rfl,rfl⟩,trivial⟩,⟨⟨rfl,rfl⟩,⟨rfl,rfl⟩,trivial⟩,renR_ob (o:=o) hM (rN _ rfl) (rL _ rfl) (rC _ rfl),⟨rfl,rfl⟩,trivial⟩,⟨rfl,bn⟩,⟨rfl,bl⟩,⟨rfl,bc⟩,trivial⟩,hq⟩
 |m+1,i,o,N,L,C,hm,h=>by
  have hi:i<l.length:=by omega
  obtain ⟨o1,N1,L1,C1,h1,s1⟩:=ob_step (l:=l) (List.getElem?_eq_getElem hi) (by omega) hM h
  obtain ⟨o2,N2,L2,C2,h2,s2⟩:=ob_run (l:=l) hM m (i+1) o1 N1 L1 C1 (by omega) h1
  exact ⟨o2,N2,L2,C2,h2,fun Q hq=>s1 Q (s2 Q hq)⟩
theorem good_str (s:List UInt8):goodEl 1 (.str s):=⟨rfl,rfl⟩
theorem good_lk (l:Lk):goodEl 2 (lkA l):=⟨rfl,rfl⟩
theorem good_cu (c:Cu):goodEl 2 (cuA c):=⟨rfl,rfl⟩
def fr (l:List AV):AV:=match l with
 |[]=> .nilsl
 |a::t=> .fsl false (a::t)
theorem wk_fr (l:List AV):Wk (fr l) (.fsl false l):=match l with
 |[]=> .nil
 |_::_=> .refl _
theorem closed_fr {l:List AV} (h:closedAll l=true):closedA (fr l)=true:=match l,h with
 |[],_=>rfl
 |_::_,h=>h
theorem flat_strs:∀l:List (List UInt8),flat (l.map .str)=l.map AV.str
 |[]=>rfl
 |s::t=>by rw[List.map_cons,flat,flat_strs t];rfl
theorem frz_nsl {H:Heap} {id w:Nat} {es:List AV} {c:List AV} (hid:hget H id=nb c es.length) (hc:c=flat es) (hes:∀e∈es,goodEl w e) (hcl:closedAll es=true):Frz 0 H (nsl id w es.length) (fr es):=by
 cases es with
 |nil=>exact .closed _ rfl
 |cons a t=>exact .row rfl hid hc rfl hes hcl
theorem frz_ob {H:Heap} {o:Ob} {M N L C N' L' C':AV} (hM:closedA M=true) (hN:Frz 0 H N N') (hL:Frz 0 H L L') (hC:Frz 0 H C C'):Frz 0 H (.agg (obF o M N L C)) (.agg (obF o M N' L' C')):=by
 refine .agg ?_
 simp only[obF]
 repeat (first|exact FrzL.nil|refine FrzL.cons hN ?_|refine FrzL.cons hL ?_|refine FrzL.cons hC ?_|refine FrzL.cons (.closed _ hM) ?_|refine FrzL.cons (.closed _ rfl) ?_)
theorem wk_ob {o:Ob} {m:List UInt8} {N:List (List UInt8)} {L:List Lk} {C:List Cu}:Wk (.agg (obF o (.fsl false (toBytes m)) (fr (N.map .str)) (fr (L.map lkA)) (fr (C.map cuA)))) (obA {o with mat:=m,names:=N,links:=L,cust:=C}):=by
 refine .agg ?_
 simp only[obC,obF,matA,namA,lnkA,cusA]
 repeat (first|exact WkL.nil|refine WkL.cons (.refl _) ?_|refine WkL.cons (wk_fr _) ?_)
theorem closed_frO {o:Ob} {m:List UInt8} {N:List (List UInt8)} {L:List Lk} {C:List Cu}:closedA (.agg (obF o (.fsl false (toBytes m)) (fr (N.map .str)) (fr (L.map lkA)) (fr (C.map cuA))))=true:=
 closed_obF o (closedAll_toBytes m) (closed_fr (closed_strs N)) (closed_fr (closed_lks L)) (closed_fr (closed_cus C))
theorem fits_ob0 (o:Ob) (m:List AV) (n c:Nat):fitsT Tryz.prog 33 (.agg (obF o (.fsl false m) (nsl 1 1 n) .nilsl (nsl 3 2 c))) 37=true:=by
 cases n<;>cases c<;>kernel_rfl
theorem fits_ob1 (o:Ob) (m:List AV) (n k c:Nat):fitsT Tryz.prog 33 (.agg (obF o (.fsl false m) (nsl 1 1 n) (.rsl true 2 0 k 2) (nsl 3 2 c))) 37=true:=by
 cases n<;>cases c<;>kernel_rfl
def tyL:List Int:=[2,2,3,4,7]
def agL:List Int:=[3,3,0,4]
def mkL:List Int:=[396,12,4,384,0]
def nuL:List Nat:=[16,16,32,0,24]
theorem idx5 {T:Nat} {l:List Int} (hT:T=103) (h5:l.length=5) (n:Int):indexA Tryz.prog T (.agg (l.map I)) (I (n%5))=some (I (ofL l 0 n)):=by
 subst hT
 match l,h5 with
 | [a0,a1,a2,a3,a4],_=>
  exact idx_pick (T:=103) (d:=0) (l:=[a0,a1,a2,a3,a4]) (f:=I) (by simp) fun k x h=>by
   match k,h with
   |0,h=>obtain rfl:_=x:=Option.some.inj h;show indexA _ _ _ _=_;kernel_rfl
   |1,h=>obtain rfl:_=x:=Option.some.inj h;show indexA _ _ _ _=_;kernel_rfl
   |2,h=>obtain rfl:_=x:=Option.some.inj h;show indexA _ _ _ _=_;kernel_rfl
   |3,h=>obtain rfl:_=x:=Option.some.inj h;show indexA _ _ _ _=_;kernel_rfl
   |4,h=>obtain rfl:_=x:=Option.some.inj h;show indexA _ _ _ _=_;kernel_rfl
theorem idx_ag (n:Int):indexA Tryz.prog 104 (.agg (agL.map I)) (I (n%4))=some (I (ofL agL 0 n)):=
 idx_pick (T:=104) (d:=0) (l:=agL) (f:=I) (by decide) fun k x h=>by
  match k,h with
  |0,h=>obtain rfl:_=x:=Option.some.inj h;show indexA _ _ _ _=_;kernel_rfl
  |1,h=>obtain rfl:_=x:=Option.some.inj h;show indexA _ _ _ _=_;kernel_rfl
  |2,h=>obtain rfl:_=x:=Option.some.inj h;show indexA _ _ _ _=_;kernel_rfl
  |3,h=>obtain rfl:_=x:=Option.some.inj h;show indexA _ _ _ _=_;kernel_rfl
theorem idx_nu (n:Int):indexA Tryz.prog 103 (.agg (nuL.map fun n=>I (.ofNat n))) (I (n%5))=some (I (.ofNat (ofL nuL 0 n))):=
 idx_pick (T:=103) (d:=0) (l:=nuL) (f:=fun n=>I (.ofNat n)) (by decide) fun k x h=>by
  match k,h with
  |0,h=>obtain rfl:_=x:=Option.some.inj h;show indexA _ _ _ _=_;kernel_rfl
  |1,h=>obtain rfl:_=x:=Option.some.inj h;show indexA _ _ _ _=_;kernel_rfl
  |2,h=>obtain rfl:_=x:=Option.some.inj h;show indexA _ _ _ _=_;kernel_rfl
  |3,h=>obtain rfl:_=x:=Option.some.inj h;show indexA _ _ _ _=_;kernel_rfl
  |4,h=>obtain rfl:_=x:=Option.some.inj h;show indexA _ _ _ _=_;kernel_rfl
structure OxF (o:Ob):Prop where
 i:OxI 8 o o.names o.links o.cust
 m:o.mat.length≤32
theorem ob_at:loopsAt (fnCode Tryz.prog 22) 5=[lpCode Tryz.prog 22 5]:=by kernel_rfl
set_option maxRecDepth 20000 in
theorem object_sem (x:Rw) (l:List Rw):∃o,OxF o∧SC 22 [rwA x,.fsl false (l.map rwA)] (obA o):=by
 have hn:ofL nuL 0 (wrapA .i64 (x.b.tdiv 5))≤32:=(by decide:∀n∈nuL,n≤32) _ (ofL_mem nuL 0 _ (by decide))
 have hbytes:=bytes_sem (n:=ofL nuL 0 (wrapA .i64 (x.b.tdiv 5))) (by omega) x.c
 have hml:=byR_length (ofL nuL 0 (wrapA .i64 (x.b.tdiv 5))) (wrapA .u64 x.c)
 have hnu:=idx_nu (wrapA .i64 (x.b.tdiv 5))
 revert hbytes hml hnu hn
 generalize ofL nuL 0 (wrapA .i64 (x.b.tdiv 5))=n
 generalize byR n (wrapA .u64 x.c)=mat
 intro hn hbytes hml hnu
 have hcl:closedAll [rwA x,.fsl false (l.map rwA)]=true:=by
  have:=closed_rws l
  simp only[closedAll,closedA,this,rwA,rwC,Bool.and_self]
 obtain ⟨o,N,L,C,h,hrun⟩:=ob_run (l:=l) (M:= .fsl false (toBytes mat)) (closedAll_toBytes _) (min l.length 10) 0 (ob0 x (ofL idL [] x.a) (ofL tyL 0 x.b) (ofL agL 0 x.c) (ofL mkL 0 (wrapA .i64 (x.a.tdiv 12))) mat) [] [] [] (Nat.zero_add _)
  ⟨(fun _ h=>by cases h),.nil,Nat.le_refl _,.nil,(fun _ h=>by cases h),by simp,.nil,(fun _ h=>by cases h),ofL_mem idL [] _ (by decide),(by decide:([]:List UInt8)∈msL),rfl,⟨fun k hk=>by
   match k,hk with
   |0,hk=>cases hk
   |1,_=>rfl
   |2,_=>rfl
   |3,_=>rfl
   |4,_=>rfl
   |5,_=>rfl
   |6,_=>rfl
   |7,_=>rfl
   |8,_=>rfl
   |9,_=>rfl
   |_+10,_=>rfl,fun _=>⟨rfl,rfl,rfl⟩⟩⟩
 have hR:=closed_rws l
 match L,h,hrun with
 | [],h,hrun=>
  refine ⟨{o with mat:=mat,names:=N,links:=[],cust:=C},⟨⟨h.n1,h.n2,by simp,h.l2,h.l3,h.c1,h.c2,h.c3,h.id,h.msg,h.dat,h.z.of (dateAt_of rfl rfl rfl rfl rfl rfl rfl rfl rfl rfl) h.z.l⟩,by show mat.length≤32;omega⟩, ?_⟩
  refine fnK_semX (A:=obA0 (ofL idL [] x.a) (ofL tyL 0 x.b) (ofL agL 0 x.c) (ofL mkL 0 (wrapA .i64 (x.a.tdiv 12))) (.ofNat n) (toBytes mat) (obL (l.map rwA) (ob0 x (ofL idL [] x.a) (ofL tyL 0 x.b) (ofL agL 0 x.c) (ofL mkL 0 (wrapA .i64 (x.a.tdiv 12))) mat) o (toBytes mat) (.ofNat (min l.length 10)) (nsl 1 1 N.length) .nilsl (nsl 3 2 C.length) (nb (N.map .str) N.length) none (nb (flat (C.map cuA)) C.length))) base0 aidJ_ok
   (fnLs_of (LsOk.at1 rfl ob_at fun st Q hs=> .seenO base0.glob hs.1 (thin (hrun Q hs.2) rfl (fun i b h=>match i,h with|0,h=>h|1,h=>h|2,h=>h|3,h=>h|4,h=>h|_+5,h=>h) rfl rfl))) hcl ?_
  rw[ob_fn0]
  refine ⟨id_sem _,pick_sem _ (by decide) (by decide),idx5 (l:=tyL) rfl rfl _,pick_sem _ (by decide) (by decide),idx_ag _,pick_sem _ (by decide) (by decide),idx5 (l:=mkL) rfl rfl _,pick_sem _ (by decide) (by decide),hnu,hbytes,pick_sem _ (by decide) (by decide),pick_sem _ (by decide) (by decide),
   ⟨⟨⟨⟨rfl,hR⟩,⟨rfl,rfl⟩,trivial⟩,⟨⟨rfl,rfl⟩,⟨rfl,rfl⟩,trivial⟩,renR_ob (o:=ob0 x (ofL idL [] x.a) (ofL tyL 0 x.b) (ofL agL 0 x.c) (ofL mkL 0 (wrapA .i64 (x.a.tdiv 12))) mat) (closedAll_toBytes mat) (.same _ rfl) (.same _ rfl) (.same _ rfl),⟨rfl,rfl⟩,trivial⟩,trivial⟩,
   oblB_of (fits_ob0 o _ _ _) ?_⟩
  have f1:=frz_nsl (H:=[(4,some (.cells (obF o (.fsl false (toBytes mat)) (nsl 1 1 N.length) .nilsl (nsl 3 2 C.length)))),(0,some (.cells (obF o (.fsl false (toBytes mat)) (nsl 1 1 N.length) .nilsl (nsl 3 2 C.length)))),(4,some (.cells zC)),(1,nb (N.map .str) N.length),(2,none),(3,nb (flat (C.map cuA)) C.length)]) (id:=1) (w:=1) (es:=N.map .str) (c:=N.map .str) (by rw[List.length_map];rfl) (flat_strs N).symm (fun e he=>by obtain ⟨s,_,rfl⟩:=List.mem_map.1 he;exact good_str s) (closed_strs N)
  have f3:=frz_nsl (H:=[(4,some (.cells (obF o (.fsl false (toBytes mat)) (nsl 1 1 N.length) .nilsl (nsl 3 2 C.length)))),(0,some (.cells (obF o (.fsl false (toBytes mat)) (nsl 1 1 N.length) .nilsl (nsl 3 2 C.length)))),(4,some (.cells zC)),(1,nb (N.map .str) N.length),(2,none),(3,nb (flat (C.map cuA)) C.length)]) (id:=3) (w:=2) (es:=C.map cuA) (c:=flat (C.map cuA)) (by rw[List.length_map];rfl) rfl (fun e he=>by obtain ⟨s,_,rfl⟩:=List.mem_map.1 he;exact good_cu s) (closed_cus C)
  rw[List.length_map] at f1 f3
  exact ⟨_,(frz_ob (M:= .fsl false (toBytes mat)) (closedAll_toBytes mat) f1 (.closed _ rfl) f3).out,closed_frO (L:=[]),wk_ob (L:=[])⟩
 | s::L,h,hrun=>
  have hlen:((s::L).take 8).length≤8:=List.length_take_le _ _
  refine ⟨{o with mat:=mat,names:=N,links:=(s::L).take 8,cust:=C},⟨⟨h.n1,h.n2,hlen,h.l2.sublist (List.take_sublist _ _),fun y hy=>h.l3 y (List.mem_of_mem_take hy),h.c1,h.c2,h.c3,h.id,h.msg,h.dat,h.z.of (dateAt_of rfl rfl rfl rfl rfl rfl rfl rfl rfl rfl) h.z.l⟩,by show mat.length≤32;omega⟩, ?_⟩
  refine fnK_semX (A:=obA0 (ofL idL [] x.a) (ofL tyL 0 x.b) (ofL agL 0 x.c) (ofL mkL 0 (wrapA .i64 (x.a.tdiv 12))) (.ofNat n) (toBytes mat) (obL (l.map rwA) (ob0 x (ofL idL [] x.a) (ofL tyL 0 x.b) (ofL agL 0 x.c) (ofL mkL 0 (wrapA .i64 (x.a.tdiv 12))) mat) o (toBytes mat) (.ofNat (min l.length 10)) (nsl 1 1 N.length) (.rsl true 2 0 (s::L).length 2) (nsl 3 2 C.length) (nb (N.map .str) N.length) (some (.cells (flat ((s::L).map lkA)))) (nb (flat (C.map cuA)) C.length))) base0 aidJ_ok
   (fnLs_of (LsOk.at1 rfl ob_at fun st Q hs=> .seenO base0.glob hs.1 (thin (hrun Q hs.2) rfl (fun i b h=>match i,h with|0,h=>h|1,h=>h|2,h=>h|3,h=>h|4,h=>h|_+5,h=>h) rfl rfl))) hcl ?_
  rw[ob_fn1]
  refine ⟨id_sem _,pick_sem _ (by decide) (by decide),idx5 (l:=tyL) rfl rfl _,pick_sem _ (by decide) (by decide),idx_ag _,pick_sem _ (by decide) (by decide),idx5 (l:=mkL) rfl rfl _,pick_sem _ (by decide) (by decide),hnu,hbytes,pick_sem _ (by decide) (by decide),pick_sem _ (by decide) (by decide),
   ⟨⟨⟨⟨rfl,hR⟩,⟨rfl,rfl⟩,trivial⟩,⟨⟨rfl,rfl⟩,⟨rfl,rfl⟩,trivial⟩,renR_ob (o:=ob0 x (ofL idL [] x.a) (ofL tyL 0 x.b) (ofL agL 0 x.c) (ofL mkL 0 (wrapA .i64 (x.a.tdiv 12))) mat) (closedAll_toBytes mat) (.same _ rfl) (.same _ rfl) (.same _ rfl),⟨rfl,rfl⟩,trivial⟩,trivial⟩,
   mtB_of (fun e=>oblB_of ?_ (oblB_of (fits_ob1 o _ _ _ _) ?_)) (fun e=>oblB_of (fits_ob1 o _ _ _ _) ?_)⟩
  ·have e:=ltInt_iff.1 e
   simp only[Int.ofNat_eq_natCast] at e
   exact Nat.ble_eq_true_of_le (by omega)
  ·have e:=ltInt_iff.1 e
   simp only[Int.ofNat_eq_natCast] at e
   have e8:((s::L).take 8).length=8:=by rw[List.length_take];omega
   have hcut:cutElems 2 8 ((flat ((s::L).map lkA)).drop 0)=some (((s::L).take 8).map lkA):=by
    have:=cutElems_flat (sz:=2) (es:=((s::L).take 8).map lkA) (flat (((s::L).drop 8).map lkA)) (fun e he=>by obtain ⟨s,_,rfl⟩:=List.mem_map.1 he;exact good_lk s)
    rw[List.length_map,e8,←flat_append,←List.map_append,List.take_append_drop] at this
    exact this
   have f1:=frz_nsl (H:=[(4,some (.cells (obF o (.fsl false (toBytes mat)) (nsl 1 1 N.length) (.rsl true 2 0 8 2) (nsl 3 2 C.length)))),(0,some (.cells (obF o (.fsl false (toBytes mat)) (nsl 1 1 N.length) (.rsl true 2 0 8 2) (nsl 3 2 C.length)))),(4,some (.cells zC)),(1,nb (N.map .str) N.length),(2,some (.cells (flat ((s::L).map lkA)))),(3,nb (flat (C.map cuA)) C.length)]) (id:=1) (w:=1) (es:=N.map .str) (c:=N.map .str) (by rw[List.length_map];rfl) (flat_strs N).symm (fun e he=>by obtain ⟨s,_,rfl⟩:=List.mem_map.1 he;exact good_str s) (closed_strs N)
   have f2:Frz 0 [(4,some (.cells (obF o (.fsl false (toBytes mat)) (nsl 1 1 N.length) (.rsl true 2 0 8 2) (nsl 3 2 C.length)))),(0,some (.cells (obF o (.fsl false (toBytes mat)) (nsl 1 1 N.length) (.rsl true 2 0 8 2) (nsl 3 2 C.length)))),(4,some (.cells zC)),(1,nb (N.map .str) N.length),(2,some (.cells (flat ((s::L).map lkA)))),(3,nb (flat (C.map cuA)) C.length)] (.rsl true 2 0 8 2) (fr (((s::L).take 8).map lkA)):= .rsl rfl rfl hcut (FrzL.closed _ (closed_lks _))
   have f3:=frz_nsl (H:=[(4,some (.cells (obF o (.fsl false (toBytes mat)) (nsl 1 1 N.length) (.rsl true 2 0 8 2) (nsl 3 2 C.length)))),(0,some (.cells (obF o (.fsl false (toBytes mat)) (nsl 1 1 N.length) (.rsl true 2 0 8 2) (nsl 3 2 C.length)))),(4,some (.cells zC)),(1,nb (N.map .str) N.length),(2,some (.cells (flat ((s::L).map lkA)))),(3,nb (flat (C.map cuA)) C.length)]) (id:=3) (w:=2) (es:=C.map cuA) (c:=flat (C.map cuA)) (by rw[List.length_map];rfl) rfl (fun e he=>by obtain ⟨s,_,rfl⟩:=List.mem_map.1 he;exact good_cu s) (closed_cus C)
   rw[List.length_map] at f1 f3
   exact ⟨_,(frz_ob (M:= .fsl false (toBytes mat)) (closedAll_toBytes mat) f1 f2 f3).out,closed_frO (L:=((s::L).take 8)),wk_ob (L:=((s::L).take 8))⟩
  ·have e:=ltInt_false.1 e
   simp only[Int.ofNat_eq_natCast] at e
   have e8:(s::L).take 8=s::L:=List.take_of_length_le (by omega)
   rw[e8]
   have f1:=frz_nsl (H:=[(4,some (.cells (obF o (.fsl false (toBytes mat)) (nsl 1 1 N.length) (.rsl true 2 0 (s::L).length 2) (nsl 3 2 C.length)))),(0,some (.cells (obF o (.fsl false (toBytes mat)) (nsl 1 1 N.length) (.rsl true 2 0 (s::L).length 2) (nsl 3 2 C.length)))),(4,some (.cells zC)),(1,nb (N.map .str) N.length),(2,some (.cells (flat ((s::L).map lkA)))),(3,nb (flat (C.map cuA)) C.length)]) (id:=1) (w:=1) (es:=N.map .str) (c:=N.map .str) (by rw[List.length_map];rfl) (flat_strs N).symm (fun e he=>by obtain ⟨s,_,rfl⟩:=List.mem_map.1 he;exact good_str s) (closed_strs N)
   have f2:Frz 0 [(4,some (.cells (obF o (.fsl false (toBytes mat)) (nsl 1 1 N.length) (.rsl true 2 0 (s::L).length 2) (nsl 3 2 C.length)))),(0,some (.cells (obF o (.fsl false (toBytes mat)) (nsl 1 1 N.length) (.rsl true 2 0 (s::L).length 2) (nsl 3 2 C.length)))),(4,some (.cells zC)),(1,nb (N.map .str) N.length),(2,some (.cells (flat ((s::L).map lkA)))),(3,nb (flat (C.map cuA)) C.length)] (.rsl true 2 0 (s::L).length 2) (fr ((s::L).map lkA)):=by
    have:=Frz.row (n:=0) (own:=true) (id:=2) (len:=(s::L).length) (es:=(s::L).map lkA) (sz:=2) (h:=[(4,some (.cells (obF o (.fsl false (toBytes mat)) (nsl 1 1 N.length) (.rsl true 2 0 (s::L).length 2) (nsl 3 2 C.length)))),(0,some (.cells (obF o (.fsl false (toBytes mat)) (nsl 1 1 N.length) (.rsl true 2 0 (s::L).length 2) (nsl 3 2 C.length)))),(4,some (.cells zC)),(1,nb (N.map .str) N.length),(2,some (.cells (flat ((s::L).map lkA)))),(3,nb (flat (C.map cuA)) C.length)]) rfl rfl rfl (by rw[List.length_map]) (fun e he=>by obtain ⟨s,_,rfl⟩:=List.mem_map.1 he;exact good_lk s) (closed_lks _)
    exact this
   have f3:=frz_nsl (H:=[(4,some (.cells (obF o (.fsl false (toBytes mat)) (nsl 1 1 N.length) (.rsl true 2 0 (s::L).length 2) (nsl 3 2 C.length)))),(0,some (.cells (obF o (.fsl false (toBytes mat)) (nsl 1 1 N.length) (.rsl true 2 0 (s::L).length 2) (nsl 3 2 C.length)))),(4,some (.cells zC)),(1,nb (N.map .str) N.length),(2,some (.cells (flat ((s::L).map lkA)))),(3,nb (flat (C.map cuA)) C.length)]) (id:=3) (w:=2) (es:=C.map cuA) (c:=flat (C.map cuA)) (by rw[List.length_map];rfl) rfl (fun e he=>by obtain ⟨s,_,rfl⟩:=List.mem_map.1 he;exact good_cu s) (closed_cus C)
   rw[List.length_map] at f1 f3
   exact ⟨_,(frz_ob (M:= .fsl false (toBytes mat)) (closedAll_toBytes mat) f1 f2 f3).out,closed_frO (L:=(s::L)),wk_ob (L:=(s::L))⟩
structure Okay (o:Ob):Prop where
 fit:FitO o
 n:∀s∈o.names,s∈texts
 l:∀x∈o.links,x.id∈texts
 c:∀x∈o.cust,x.text∈texts
 i:o.id∈texts
 m:o.msg.length≤8
theorem texts_short:∀s∈texts,s.length≤8:=by decide
theorem ok_txt {s:List UInt8} (h:s.length≤8):okI big (txt s):=⟨Nat.le_trans h (by decide),by simp[big],trivial⟩
theorem ok_num (y n:Int):okI big (numI y n):=⟨by simp[big],by simp[big],trivial⟩
theorem one_len {b:Bool} {x:It}:(oneL b x).length≤1:=by cases b<;>simp[oneL]
theorem one_mem {b:Bool} {x y:It} (h:y∈oneL b x):y=x:=by
 cases b with
 |true=>simpa [oneL] using h
 |false=>cases h
theorem ok_kids {s:List UInt8} (h:s.length≤8) (a b c n:Int) (l:List It) (hl:l=[prt a b n,.mk c 7 0 s []]):okI big (whl l):=by
 subst hl
 simp[whl,vlV,okI,okIs,prt,big]
 omega
theorem Okay.g {o:Ob} (h:Okay o):∀k,OkG o k:=by
 intro k
 have t:=texts_short
 cases k with
 | uid=>exact ⟨by simp[getK],fun x hx=>by
   simp only[getK,List.mem_singleton] at hx;subst hx;exact ok_txt (t _ h.i)⟩
 | nam=>exact ⟨by have:=h.fit.n;simp only[getK,List.length_map];omega,fun x hx=>by
   obtain ⟨s,hs,rfl⟩:=List.mem_map.1 hx;exact ok_txt (t _ (h.n s hs))⟩
 | typ=>exact ⟨by simp[getK],fun x hx=>by
   simp only[getK,List.mem_singleton] at hx;subst hx;exact ok_num _ _⟩
 |alg=>exact ⟨Nat.le_trans one_len (by decide),fun x hx=>by rw[one_mem hx];exact ok_num _ _⟩
 |len=>exact ⟨Nat.le_trans one_len (by decide),fun x hx=>by rw[one_mem hx];exact ok_num _ _⟩
 | mask=>exact ⟨by simp[getK],fun x hx=>by
   simp only[getK,List.mem_singleton] at hx;subst hx;exact ok_num _ _⟩
 | sta=>exact ⟨by simp[getK],fun x hx=>by
   simp only[getK,List.mem_singleton] at hx;subst hx;exact ok_num _ _⟩
 |dat k=>exact ⟨Nat.le_trans one_len (by decide),fun x hx=>by rw[one_mem hx];exact ok_num _ _⟩
 | why=>exact ⟨Nat.le_trans one_len (by decide),fun x hx=>by
   rw[one_mem hx]
   have hm:=h.m
   simp only[whyI]
   match o.msg,hm with
   |[],_=>simp[whl,vlV,okI,okIs,prt,msgI,big]
   |a::r,hm=>
    simp only[List.length_cons] at hm
    simp[whl,vlV,okI,okIs,prt,msgI,big]
    omega⟩
 | lnk=>exact ⟨by have:=h.fit.l;simp only[getK,List.length_map];omega,fun x hx=>by
   obtain ⟨s,hs,rfl⟩:=List.mem_map.1 hx
   exact ok_kids (t _ (h.l s hs)) _ _ _ _ _ rfl⟩
 | lim=>exact ⟨Nat.le_trans one_len (by decide),fun x hx=>by
   rw[one_mem hx]
   simp[limI,whl,vlV,okI,okIs,prt,big]⟩
 | cus s=>exact ⟨by
   have:=h.fit.c
   simp only[getK,List.length_map]
   exact Nat.le_trans (List.length_filter_le _ _) (by omega),fun x hx=>by
   obtain ⟨c,hc,rfl⟩:=List.mem_map.1 hx
   exact ok_txt (t _ (h.c c (List.mem_filter.1 hc).1))⟩
theorem okay_of {o:Ob} (h:OxF o):Okay o:=by
 have hc:=h.i.names
 refine ⟨⟨by omega,h.i.l1,h.i.c1,Nat.le_trans h.m (by decide)⟩,fun s hs=> ?_,fun s hs=> ?_,fun s hs=> ?_, ?_, ?_⟩
 ·exact (by decide:∀s∈nmL,s∈texts) s (h.i.n1 s hs)
 ·exact (by decide:∀s∈idL,s∈texts) _ (h.i.l3 s hs)
 ·exact (by decide:∀s∈ctL,s∈texts) _ (h.i.c3 s hs).2
 ·exact (by decide:∀s∈idL,s∈texts) _ h.i.id
 ·exact (by decide:∀s∈msL,s.length≤8) _ h.i.msg
theorem mem_put {α:Type} {l:List α} {i:Nat} {x y:α} (h:y∈putL l i x):y∈l∨y=x:=by
 simp only[putL,List.mem_append,List.mem_cons] at h
 rcases h with h|h|h
 ·exact .inl (List.mem_of_mem_take h)
 ·exact .inr h
 ·exact .inl (List.mem_of_mem_drop h)
theorem len_put {α:Type} {l:List α} {i n:Nat} {x:α} (h:i≤l.length) (h1:l.length≤n) (h2:i<n):(putL l i x).length≤n:=by
 simp only[putL,List.length_append,List.length_cons,List.length_take,List.length_drop]
 omega
theorem txI_kid {v:It} (h:txI v) (i:Nat):itD (kid v i)∈texts:=by
 unfold kid
 cases hk:(itK v)[i]? with
 |none=>exact txI_d h
 | some k=>
  have:∀ (l:List It),txIs l→∀ (i:Nat) (k:It),l[i]? =some k→txI k:=by
   intro l
   induction l with
   |nil=>intro _ i k h;simp at h
   |cons a r ih=>
    intro hl i k h
    cases i with
    |zero=>simp at h;subst h;exact hl.1
    |succ i=>exact ih hl.2 i k (by simpa using h)
  refine txI_d (this (itK v) ?_ i k hk)
  cases v
  exact h.2
theorem Okay.date {o:Ob} (h:Okay o) (d:Dt) (k:Nat):Okay (setDate o d k):=by
 have e:∀p:Ob,p.names=o.names→p.links=o.links→p.cust=o.cust→p.mat=o.mat→p.id=o.id→p.msg=o.msg→Okay p:=fun p h1 h2 h3 h4 h5 h6=>
  ⟨⟨by rw[h1];exact h.fit.n,by rw[h2];exact h.fit.l,by rw[h3];exact h.fit.c,by rw[h4];exact h.fit.m⟩,by rw[h1];exact h.n,by rw[h2];exact h.l,by rw[h3];exact h.c,by rw[h5];exact h.i,by rw[h6];exact h.m⟩
 unfold setDate
 split<;>exact e _ rfl rfl rfl rfl rfl rfl
theorem Okay.put {o:Ob} (h:Okay o) {k:Kd} {j:Nat} (hj:idxOk o j k) {v:It} (hv:txI v):Okay (putK o j v k):=by
 cases k with
 | nam=>exact ⟨⟨len_put hj.1 h.fit.n hj.2,h.fit.l,h.fit.c,h.fit.m⟩,fun s hs=>by
   rcases mem_put hs with hs|rfl
   ·exact h.n s hs
   ·exact txI_d hv,h.l,h.c,h.i,h.m⟩
 |alg=>exact ⟨⟨h.fit.n,h.fit.l,h.fit.c,h.fit.m⟩,h.n,h.l,h.c,h.i,h.m⟩
 |len=>exact ⟨⟨h.fit.n,h.fit.l,h.fit.c,h.fit.m⟩,h.n,h.l,h.c,h.i,h.m⟩
 |mask=>exact ⟨⟨h.fit.n,h.fit.l,h.fit.c,h.fit.m⟩,h.n,h.l,h.c,h.i,h.m⟩
 |dat k=>exact h.date _ k
 | lnk=>exact ⟨⟨h.fit.n,len_put hj.1 h.fit.l hj.2,h.fit.c,h.fit.m⟩,h.n,fun s hs=>by
   rcases mem_put hs with hs|rfl
   ·exact h.l s hs
   ·exact txI_kid hv 1,h.c,h.i,h.m⟩
 |lim=>exact ⟨⟨h.fit.n,h.fit.l,h.fit.c,h.fit.m⟩,h.n,h.l,h.c,h.i,h.m⟩
 | cus s=>
  have hp:=place_le (o:=o) (s:=s) (j:=j) (by rcases hj with hj|hj<;>omega)
  have h6:placeAt o s j<6:=by
   have:=h.fit.c
   rcases hj with hj|hj
   ·have:=hp.2.2 hj;omega
   ·have:=hp.2.1;omega
  exact ⟨⟨h.fit.n,h.fit.l,len_put hp.2.1 h.fit.c h6,h.fit.m⟩,h.n,h.l,fun c hc=>by
   rcases mem_put hc with hc|rfl
   ·exact h.c c hc
   ·exact txI_d hv,h.i,h.m⟩
 |_=>exact h
def cntC (s:List UInt8) (l:List Cu):Nat:=(l.filter fun c=>beqBytes c.name s).length
def cusTl:List Cu→List Cu→List At
 |_,[]=>[]
 |pre,c::r=>⟨c.name,.ofNat (cntC c.name pre),txt c.text⟩::cusTl (pre++[c]) r
def stdT (o:Ob):List Kd→List At
 |[]=>[]
 |k::r=>tellL (nameK k) (getK o k) 0++stdT o r
def allS (o:Ob):List At:=stdT o kinds++cusTl [] o.cust
theorem beqBytes_no {a b:List UInt8} (h:a≠b):beqBytes a b=false:=by
 cases hb:beqBytes a b with
 |false=>rfl
 |true=>exact absurd (beqBytes_iff.1 hb) h
theorem allSize_at:∀l:List At,allSize 7 (l.map atA)=true
 |[]=>rfl
 |⟨_,_,⟨_,_,_,_,_⟩⟩::r=>by
  rw[List.map_cons,allSize,allSize_at r]
  rfl
theorem allOne_at:∀l:List At,allOne (flat (l.map atA))=true
  |[]=>rfl
  | ⟨_,_,⟨_,_,_,_,_⟩⟩::r=>by
    rw[List.map_cons,flat,allOne_append,allOne_at r]
    rfl
 where
  allOne_append:∀ {l r:List AV},allOne (l++r)=(allOne l&&allOne r)
    |[],_=>rfl
    |a::t,r=>by rw[List.cons_append,allOne,allOne,allOne_append,Bool.and_assoc]
inductive MpOk (pre:List Cu):Blk→Prop
 |m (hp:cntC [120,45,97] pre=0) (hq:cntC [120,45,98] pre=0):MpOk pre (.mapb 0 [] [])
 |ma (p:Nat) (hp:cntC [120,45,97] pre=p) (hq:cntC [120,45,98] pre=0):MpOk pre (.mapb 1 [0] [(.str [120,45,97],I (.ofNat p))])
 |mb (p:Nat) (hp:cntC [120,45,98] pre=p) (hq:cntC [120,45,97] pre=0):MpOk pre (.mapb 1 [0] [(.str [120,45,98],I (.ofNat p))])
 |mab (p q:Nat) (hp:cntC [120,45,97] pre=p) (hq:cntC [120,45,98] pre=q):MpOk pre (.mapb 2 [0,1] [(.str [120,45,97],I (.ofNat p)),(.str [120,45,98],I (.ofNat q))])
 |mba (p q:Nat) (hp:cntC [120,45,98] pre=p) (hq:cntC [120,45,97] pre=q):MpOk pre (.mapb 2 [0,1] [(.str [120,45,98],I (.ofNat p)),(.str [120,45,97],I (.ofNat q))])
section
variable {o:Ob} {C:List Cu} {i k:Nat} {t:List UInt8} {es:List AV} {Q:AExit→St→Prop}
end
theorem all_cons (o:Ob):∃r,allS o=⟨nameK .uid,0,txt o.id⟩::r:=⟨_,rfl⟩
end Go.Proofs.YtjhggnebkfpgcaaGreatDoor
