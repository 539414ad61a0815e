/- Obj2, OSame, Obj3, Obj4, Bytes. -/
import Derived.Test.YtjhggnebkfpgcaaGreatDoorQ3
import Derived.KernelRfl
import Derived.Test.YtjhggnebkfpgcaaGreatDoorQ2
import Derived.Test.YtjhggnebkfpgcaaGreatDoorG5
import Derived.Test.YtjhggnebkfpgcaaGreatDoorQ1
namespace Go.Proofs.YtjhggnebkfpgcaaGreatDoor
set_option maxRecDepth 20000
open Go Go.RowKit
open Go.Proofs.Abs
def idl:Nat→List (Nat × Nat)
 |0=>[]
 |n+1=>(n,n)::idl n
noncomputable def inV (s:List UInt8) (k i:Nat) (es:List AV):View:=⟨[(1,.str s),(4,.bool false),(5,I (.ofNat i))],[(0,.rsl true 1 0 k 1)],[(1,.cells es,.whole)],42,18⟩
noncomputable def inF (b:Bool) (es:List AV):View:=⟨[(4,.bool b)],[],[(1,.cells es,.whole)],60,18⟩
noncomputable def inA (x:List UInt8):Aid:=aidJ [(4,3,.ld (.str x))] [] noSem [] []
theorem in_round (s x:List UInt8) (k i j:Nat) (es:List AV) (q:Bool) (N:Prop) (Q:AExit→St→Prop):wpK Tryz.prog opts0 40 (inA x) (lpCode Tryz.prog 69 3) (inV s k i es).st (roundP 42 (idl 42) (inV s k j es) N (idl 42) (inF q es) Q)=
  (mtB (ltInt (Int.ofNat i) (Int.ofNat k)) (oblB (nonneg (Int.ofNat i)&&((Int.ofNat i).toNat.blt k&&true)) (partA Tryz.prog 9 es (0+(Int.ofNat i).toNat*1)=some (AV.str x)∧mtB (beqBytes x s) ((((AV.bool true=AV.bool q∧closedA (AV.bool q)=true)∧True)∧True∧(es=es∧closedAll es=true)∧True)∧Q AExit.ret (inF q es).st) ((((AV.str s=AV.str s∧closedA (AV.str s)=true)∧(AV.bool false=AV.bool false∧true=true)∧(I (wrapA IntKind.i64 (Int.ofNat i+1))=I (Int.ofNat j)∧closedA (I (Int.ofNat j))=true)∧True)∧((true=true∧some 1=some 1∧0=0∧k=k∧1=1)∧True)∧(es=es∧closedAll es=true)∧True)∧N))) ((((AV.bool false=AV.bool q∧closedA (AV.bool q)=true)∧True)∧True∧(es=es∧closedAll es=true)∧True)∧Q (AExit.exit 0) (inF q es).st)):=by kernel_rfl
noncomputable def inL (s:List UInt8) (k:Nat) (es:List AV) (q:Bool):LoopS:=fun st Q=>seesK 42 (idl 42) (inV s k 0 es) st∧mtB q (Q .ret (inF true es).st) (Q (.exit 0) (inF false es).st)
theorem in_fn (s:List UInt8) (k:Nat) (es:List AV) (q:Bool) (Q:AV→Heap→Nat→Prop):fnK Tryz.prog opts0 40 (aidJ [] [(3,inL s k es q)] noSem [] []) 69 [.rsl true 1 0 k 1,.str s] [(1,some (.cells es))] 42 Q=
  ((((AV.str s=AV.str s∧closedA (AV.str s)=true)∧(AV.bool false=AV.bool false∧true=true)∧(I 0=I 0∧true=true)∧True)∧((true=true∧some 1=some 1∧0=0∧k=k∧1=1)∧True)∧(es=es∧closedAll es=true)∧True)∧mtB q (Q (AV.bool true) [(1,some (Blk.cells es))] 60) (Q (AV.bool false) [(1,some (Blk.cells es))] 61)):=by kernel_rfl
theorem in_nil (s:List UInt8) (Q:AV→Prop):fnK Tryz.prog opts0 40 aid0 69 [.nilsl,.str s] [] 0 (fun v _ _=>Q v)=
  (Q (AV.bool false)):=by kernel_rfl
theorem cnt_up {p:Nat→Prop} (n:Nat) (hn:p n) (hs:∀i,i<n→p (i+1)→p i):∀i,i≤n→p i:=by
 intro i hi
 obtain ⟨m,rfl⟩:∃m,n=i+m:=⟨n-i,by omega⟩
 clear hi
 induction m generalizing i with
 |zero=>exact hn
 |succ m ih=>exact hs i (by omega) (ih (i+1) (by rw[show i+1+m=i+(m+1) by omega];exact hn) (by intro j hj;exact hs j (by omega)))
def inL' (l:List (List UInt8)) (s:List UInt8):Bool:=l.any fun x=>beqBytes x s
theorem inT:isAggA Tryz.prog 9=some false:=by kernel_rfl
theorem part_str {l:List (List UInt8)} {j:Nat} {x:List UInt8} (h:l[j]? =some x):partA Tryz.prog 9 (l.map .str) (0+j*1)=some (.str x):=by
 simp only[partA,inT,getN_eq,Nat.zero_add,Nat.mul_one,List.getElem?_map,h,Option.map_some]
theorem in_loop {s:List UInt8} {l:List (List UInt8)} {Q:AExit→St→Prop} (hb:l.length≤1000):∀i,i≤l.length→(mtB (inL' (l.drop i) s) (Q .ret (inF true (l.map .str)).st) (Q (.exit 0) (inF false (l.map .str)).st)→ALp Tryz.prog opts0.glob 42 (lpCode Tryz.prog 69 3) (inV s l.length i (l.map .str)).st Q):=by
 have hc:=closed_strs l
 refine cnt_up _ (fun hq=> ?_) (fun i hi ih hq=> ?_)
 ·rw[List.drop_of_length_le (Nat.le_refl _)] at hq
  refine ALp.round (A:=inA []) (V1:=inV s l.length 0 (l.map .str)) (V2:=inV s l.length 0 (l.map .str)) (F:=inF false (l.map .str)) (lk:=idl 42) (lk':=idl 42) base0 aidJ_ok (LsOk.no rfl) .refl ?_
  rw[in_round]
  refine mtB_of (fun h=> ?_) (fun _=>⟨⟨⟨⟨rfl,rfl⟩,trivial⟩,trivial,⟨rfl,hc⟩,trivial⟩,hq⟩)
  have h:=ltInt_iff.1 h
  simp only[Int.ofNat_eq_natCast] at h
  omega
 ·have g1:=List.getElem?_eq_getElem hi
  rw[List.drop_eq_getElem_cons hi] at hq
  revert g1 hq
  generalize l[i]=x
  intro hq g1
  simp only[inL',List.any_cons] at hq
  have hno:ltInt (Int.ofNat i) (Int.ofNat l.length)=false→False:=fun h=>by
   have h:=ltInt_false.1 h
   simp only[Int.ofNat_eq_natCast] at h
   omega
  have hob:(nonneg (Int.ofNat i)&&((Int.ofNat i).toNat.blt l.length&&true))=true:=by
   simp only[nonneg,Bool.true_and,Bool.and_true]
   exact blt_iff.2 hi
  have hw:wrapA .i64 (Int.ofNat i+1)=Int.ofNat (i+1):=wrapA_i64 (by simp;omega) (by simp;omega)
  cases hx:beqBytes x s with
  |true=>
   rw[hx] at hq
   refine ALp.round (A:=inA x) (V1:=inV s l.length (i+1) (l.map .str)) (V2:=inV s l.length (i+1) (l.map .str)) (F:=inF true (l.map .str)) (lk:=idl 42) (lk':=idl 42) base0 aidJ_ok (LsOk.no rfl) .refl ?_
   rw[in_round]
   refine mtB_of (fun _=>oblB_of hob ⟨part_str g1,mtB_of (fun _=>⟨⟨⟨⟨rfl,rfl⟩,trivial⟩,trivial,⟨rfl,hc⟩,trivial⟩,hq⟩) (fun h=>by rw[hx] at h;cases h)⟩) (fun h=>(hno h).elim)
  |false=>
   rw[hx] at hq
   have hn:=ih hq
   refine ALp.round (A:=inA x) (V1:=inV s l.length (i+1) (l.map .str)) (V2:=inV s l.length (i+1) (l.map .str)) (F:=inF false (l.map .str)) (lk:=idl 42) (lk':=idl 42) base0 aidJ_ok (LsOk.no rfl) .refl ?_
   rw[in_round,hw]
   refine mtB_of (fun _=>oblB_of hob ⟨part_str g1,mtB_of (fun h=>by rw[hx] at h;cases h) (fun _=>⟨⟨⟨⟨rfl,rfl⟩,⟨rfl,rfl⟩,⟨rfl,rfl⟩,trivial⟩,⟨⟨rfl,rfl,rfl,rfl,rfl⟩,trivial⟩,⟨rfl,hc⟩,trivial⟩,hn⟩)⟩) (fun h=>(hno h).elim)
theorem in_at:loopsAt (fnCode Tryz.prog 69) 3=[lpCode Tryz.prog 69 3]:=by kernel_rfl
theorem in_body (l:List (List UInt8)) (s:List UInt8) (hb:l.length≤1000):BodySem Tryz.prog opts0.glob 69 [.rsl true 1 0 l.length 1,.str s] [(1,some (.cells (l.map .str)))] 42 (.bool (inL' l s)) [(1,some (.cells (l.map .str)))] 62:=by
 have hc:=closed_strs l
 refine fnK_bodyX (k:=2) (A:=aidJ [] [(3,inL s l.length (l.map .str) (inL' l s))] noSem [] []) base0 aidJ_ok
  (fnLs_of (LsOk.at1 rfl in_at fun st Q hs=> .seen base0.glob hs.1 (in_loop hb 0 (Nat.zero_le _) hs.2))) ?_
 rw[in_fn]
 refine ⟨⟨⟨⟨rfl,rfl⟩,⟨rfl,rfl⟩,⟨rfl,rfl⟩,trivial⟩,⟨⟨rfl,rfl,rfl,rfl,rfl⟩,trivial⟩,⟨rfl,hc⟩,trivial⟩,mtB_of (fun e=> ?_) (fun e=> ?_)⟩
 ·rw[e]
  exact ⟨rfl,⟨.bool true,Frz.closed _ rfl,.refl _⟩,⟨rfl,.cells (l.map .str),.cells (l.map .str),rfl,FrzL.closed _ hc,WkL.refl _⟩,trivial⟩
 ·rw[e]
  exact ⟨rfl,⟨.bool false,Frz.closed _ rfl,.refl _⟩,⟨rfl,.cells (l.map .str),.cells (l.map .str),rfl,FrzL.closed _ hc,WkL.refl _⟩,trivial⟩
theorem in_none (s:List UInt8):SC 69 [.nilsl,.str s] (.bool false):=by
 refine fnK_semV (A:=aid0) base0 aidOk0 (fnLs_of (LsOk.no rfl)) rfl rfl ?_
 rw[in_nil]
theorem part_lk {l:List Lk} {j:Nat} {x:Lk} (h:l[j]? =some x):partA Tryz.prog 99 (flat (l.map lkA)) (0+j*2)=some (.agg [I x.ty,.str x.id]):=by
  have h1:isAggA Tryz.prog 99=some true:=by kernel_rfl
  have h2:sizeA Tryz.prog 99=some 2:=by kernel_rfl
  simp only[partA,h1,h2,Nat.zero_add]
  rw[chunk_flat l j x h];rfl
 where
  chunk_flat:∀ (l:List Lk) (j:Nat) (x:Lk),l[j]? =some x→chunk (flat (l.map lkA)) (j*2) 2=some [I x.ty,.str x.id]
    |[],_,_,h=>by simp at h
    | a::r,0,x,h=>by
      simp at h;subst h
      show chunk (flat (lkA a::r.map lkA)) 0 2=_
      simp[flat,lkA,AV.cells,chunk]
    | a::r,j+1,x,h=>by
      have ih:=chunk_flat r j x (by simpa using h)
      rw[show (j+1)*2=j*2+1+1 by omega]
      exact ih
theorem part_cu {l:List Cu} {j:Nat} {x:Cu} (h:l[j]? =some x):partA Tryz.prog 101 (flat (l.map cuA)) (0+j*2)=some (.agg [.str x.name,.str x.text]):=by
  have h1:isAggA Tryz.prog 101=some true:=by kernel_rfl
  have h2:sizeA Tryz.prog 101=some 2:=by kernel_rfl
  simp only[partA,h1,h2,Nat.zero_add]
  rw[chunk_flat l j x h];rfl
 where
  chunk_flat:∀ (l:List Cu) (j:Nat) (x:Cu),l[j]? =some x→chunk (flat (l.map cuA)) (j*2) 2=some [.str x.name,.str x.text]
    |[],_,_,h=>by simp at h
    | a::r,0,x,h=>by
      simp at h;subst h
      show chunk (flat (cuA a::r.map cuA)) 0 2=_
      simp[flat,cuA,AV.cells,chunk]
    | a::r,j+1,x,h=>by
      have ih:=chunk_flat r j x (by simpa using h)
      rw[show (j+1)*2=j*2+1+1 by omega]
      exact ih
theorem closed_flk:∀l:List Lk,closedAll (flat (l.map lkA))=true
 |[]=>rfl
 |_::r=>closed_flk r
theorem closed_fcu:∀l:List Cu,closedAll (flat (l.map cuA))=true
 |[]=>rfl
 |_::r=>closed_fcu r
theorem renR_ob {lk:List (Nat × Nat)} {o:Ob} {M N L C N' L' C':AV} (hM:closedA M=true) (hN:RenV lk N N') (hL:RenV lk L L') (hC:RenV lk C C'):RenR lk (obF o M N L C) (obF o M N' L' C'):=by
 refine ⟨?_⟩
 simp only[obF,RenL]
 exact ⟨.same _ rfl,.same _ rfl,.same _ rfl,.same _ rfl,.same _ rfl,.same _ hM,.same _ rfl,.same _ rfl,.same _ rfl,.same _ rfl,.same _ rfl,.same _ rfl,.same _ rfl,.same _ rfl,.same _ rfl,.same _ rfl,.same _ rfl,.same _ rfl,.same _ rfl,.same _ rfl,.same _ rfl,.same _ rfl,.same _ rfl,.same _ rfl,.same _ rfl,.same _ rfl,.same _ rfl,.same _ rfl,.same _ rfl,hN,hL,hC,.same _ rfl,.same _ rfl,.same _ rfl,.same _ rfl,.same _ rfl,trivial⟩
end Go.Proofs.YtjhggnebkfpgcaaGreatDoor
namespace Go.Proofs.YtjhggnebkfpgcaaGreatDoor
open Go Go.RowKit
open Go.Proofs.Abs
theorem lss_eq (x y:Operand) (a b:Int):binA Tryz.prog .lss 3 x y (I a) (I b)=some (.bool (ltInt a b)):=by kernel_rfl
theorem lss_t {x y:Operand} {a b:Int} (h:a<b):binA Tryz.prog .lss 3 x y (I a) (I b)=some (.bool true):=by rw[lss_eq,ltInt_iff.2 h]
theorem lss_f {x y:Operand} {a b:Int} (h:b≤a):binA Tryz.prog .lss 3 x y (I a) (I b)=some (.bool false):=by rw[lss_eq,ltInt_false.2 h]
theorem pk {n m v:Int} (h:n%m=v) (h0:0<m) (h1:m≤4611686018427387904):SC 23 [I n,I m] (I v):=h▸pick_sem n h0 h1
structure Go1 (i:Nat) (Rs:List AV) (y:Rw):Prop where
 c:closedAll Rs=true
 a:binA Tryz.prog .lss 3 (.tmp 55) (.tmp 57) (I (.ofNat i)) (I (.ofNat (lenN Rs)))=some (.bool true)
 b:binA Tryz.prog .lss 3 (.tmp 60) (.const (.int .i64 10)) (I (.ofNat i)) (I 10)=some (.bool true)
 x:indexAddrA Tryz.prog 22 (.fsl false Rs) (I (.ofNat i))=some (.fptr (rwC y) 0)
 w:wrapA .i64 (Int.ofNat i+1)=Int.ofNat (i+1)
theorem closed_rws:∀l:List Rw,closedAll (l.map rwA)=true
 |[]=>rfl
 |_::r=>closed_rws r
theorem go_of {l:List Rw} {i:Nat} {y:Rw} (h:l[i]? =some y) (hi:i<10):Go1 i (l.map rwA) y:=by
 refine ⟨closed_rws l,lss_t ?_,lss_t ?_, ?_,wrapA_i64 (by simp;omega) (by simp;omega)⟩
 ·obtain ⟨h1,_⟩:=List.getElem?_eq_some_iff.1 h
  simp only[lenN_eq,List.length_map,Int.ofNat_eq_natCast]
  omega
 ·simp only[Int.ofNat_eq_natCast];omega
 ·exact fsl_index (v:=rwA y) (e:=42) (sz:=4) (by kernel_rfl) (by kernel_rfl) (by rw[List.getElem?_map,h];rfl) rfl
abbrev Step (S S':St):Prop:=∀Q,ALp Tryz.prog opts0.glob 0 (lpCode Tryz.prog 22 5) S' Q→ALp Tryz.prog opts0.glob 0 (lpCode Tryz.prog 22 5) S Q
def Rv (k:Nat) (A:AV):Prop:=∀lk,lookN lk k=some k→RenV lk A A
theorem idx_pick {α:Type} {T:Nat} {l:List α} {d:α} {f:α→AV} {n:Int} (hl:l≠[]) (h:∀ (k:Nat) x,l[k]? =some x→indexA Tryz.prog T (.agg (l.map f)) (I (k:Int))=some (f x)):indexA Tryz.prog T (.agg (l.map f)) (I (n%(l.length:Int)))=some (f (ofL l d n)):=by
 have hp:0<l.length:=List.length_pos_iff.2 hl
 obtain ⟨k,h1,h2⟩:=mod_nat (n:=n) (m:=(l.length:Int)) (by omega)
 have hk:k<l.length:=by omega
 have e:=List.getElem?_eq_getElem hk
 unfold ofL
 rw[h1,Int.toNat_natCast,e]
 exact h k _ e
theorem st_dat00 {y:Rw} {i:Nat} {Rs:List AV} {M N L C:AV} {BN BL BC:Option Blk} (o:Ob) (g:Go1 i Rs y) (hM:closedA M=true) (rN:Rv 1 N) (rL:Rv 2 L) (rC:Rv 3 C) (bn:ClosedOB BN) (bl:ClosedOB BL) (bc:ClosedOB BC) (hk:y.k%9=0) (ha:y.a%10=0):Step (stO (oW (.ofNat i) Rs (obF o M N L C) []) [(1,BN),(2,BL),(3,BC)]) (stO (oW (.ofNat (i+1)) Rs (obF (setDate o ⟨true,y.b%60⟩ 0) M N L C) []) [(1,BN),(2,BL),(3,BC)]):=by
 intro Q hq
 refine ALp.roundO (A:=oA 0 0 y [] [] none []) (V1:=oW (.ofNat (i+1)) Rs (obF (setDate o ⟨true,y.b%60⟩ 0) M N L C) []) (F:=oW (.ofNat i) Rs [] []) (opt:=[(1,BN),(2,BL),(3,BC)]) (opt':=[]) (lk:=[(0,0),(1,1),(2,2),(3,3),(4,4)]) (lk':=[]) base0 aidJ_ok (LsOk.no rfl) .refl ?_
 rw[ob_dat00,g.w]
 exact ⟨g.a,g.b,g.x,pk hk (by decide) (by decide),pk ha (by decide) (by decide),pick_sem _ (by decide) (by decide),⟨⟨⟨⟨⟨rfl,g.c⟩,⟨rfl,rfl⟩,trivial⟩,⟨⟨rfl,rfl⟩,⟨rfl,rfl⟩,trivial⟩,renR_ob (o:=(setDate o ⟨true,y.b%60⟩ 0)) hM (rN _ rfl) (rL _ rfl) (rC _ rfl),⟨rfl,rfl⟩,trivial⟩,⟨rfl,bn⟩,⟨rfl,bl⟩,⟨rfl,bc⟩,trivial⟩,hq⟩⟩
theorem st_dat01 {y:Rw} {i:Nat} {Rs:List AV} {M N L C:AV} {BN BL BC:Option Blk} (o:Ob) (g:Go1 i Rs y) (hM:closedA M=true) (rN:Rv 1 N) (rL:Rv 2 L) (rC:Rv 3 C) (bn:ClosedOB BN) (bl:ClosedOB BL) (bc:ClosedOB BC) (hk:y.k%9=0) (ha:y.a%10=1):Step (stO (oW (.ofNat i) Rs (obF o M N L C) []) [(1,BN),(2,BL),(3,BC)]) (stO (oW (.ofNat (i+1)) Rs (obF (setDate o ⟨true,y.b%60⟩ 1) M N L C) []) [(1,BN),(2,BL),(3,BC)]):=by
 intro Q hq
 refine ALp.roundO (A:=oA 0 1 y [] [] none []) (V1:=oW (.ofNat (i+1)) Rs (obF (setDate o ⟨true,y.b%60⟩ 1) M N L C) []) (F:=oW (.ofNat i) Rs [] []) (opt:=[(1,BN),(2,BL),(3,BC)]) (opt':=[]) (lk:=[(0,0),(1,1),(2,2),(3,3),(4,4)]) (lk':=[]) base0 aidJ_ok (LsOk.no rfl) .refl ?_
 rw[ob_dat01,g.w]
 exact ⟨g.a,g.b,g.x,pk hk (by decide) (by decide),pk ha (by decide) (by decide),pick_sem _ (by decide) (by decide),⟨⟨⟨⟨⟨rfl,g.c⟩,⟨rfl,rfl⟩,trivial⟩,⟨⟨rfl,rfl⟩,⟨rfl,rfl⟩,trivial⟩,renR_ob (o:=(setDate o ⟨true,y.b%60⟩ 1)) hM (rN _ rfl) (rL _ rfl) (rC _ rfl),⟨rfl,rfl⟩,trivial⟩,⟨rfl,bn⟩,⟨rfl,bl⟩,⟨rfl,bc⟩,trivial⟩,hq⟩⟩
theorem st_dat02 {y:Rw} {i:Nat} {Rs:List AV} {M N L C:AV} {BN BL BC:Option Blk} (o:Ob) (g:Go1 i Rs y) (hM:closedA M=true) (rN:Rv 1 N) (rL:Rv 2 L) (rC:Rv 3 C) (bn:ClosedOB BN) (bl:ClosedOB BL) (bc:ClosedOB BC) (hk:y.k%9=0) (ha:y.a%10=2):Step (stO (oW (.ofNat i) Rs (obF o M N L C) []) [(1,BN),(2,BL),(3,BC)]) (stO (oW (.ofNat (i+1)) Rs (obF (setDate o ⟨true,y.b%60⟩ 2) M N L C) []) [(1,BN),(2,BL),(3,BC)]):=by
 intro Q hq
 refine ALp.roundO (A:=oA 0 2 y [] [] none []) (V1:=oW (.ofNat (i+1)) Rs (obF (setDate o ⟨true,y.b%60⟩ 2) M N L C) []) (F:=oW (.ofNat i) Rs [] []) (opt:=[(1,BN),(2,BL),(3,BC)]) (opt':=[]) (lk:=[(0,0),(1,1),(2,2),(3,3),(4,4)]) (lk':=[]) base0 aidJ_ok (LsOk.no rfl) .refl ?_
 rw[ob_dat02,g.w]
 exact ⟨g.a,g.b,g.x,pk hk (by decide) (by decide),pk ha (by decide) (by decide),pick_sem _ (by decide) (by decide),⟨⟨⟨⟨⟨rfl,g.c⟩,⟨rfl,rfl⟩,trivial⟩,⟨⟨rfl,rfl⟩,⟨rfl,rfl⟩,trivial⟩,renR_ob (o:=(setDate o ⟨true,y.b%60⟩ 2)) hM (rN _ rfl) (rL _ rfl) (rC _ rfl),⟨rfl,rfl⟩,trivial⟩,⟨rfl,bn⟩,⟨rfl,bl⟩,⟨rfl,bc⟩,trivial⟩,hq⟩⟩
theorem st_dat03 {y:Rw} {i:Nat} {Rs:List AV} {M N L C:AV} {BN BL BC:Option Blk} (o:Ob) (g:Go1 i Rs y) (hM:closedA M=true) (rN:Rv 1 N) (rL:Rv 2 L) (rC:Rv 3 C) (bn:ClosedOB BN) (bl:ClosedOB BL) (bc:ClosedOB BC) (hk:y.k%9=0) (ha:y.a%10=3):Step (stO (oW (.ofNat i) Rs (obF o M N L C) []) [(1,BN),(2,BL),(3,BC)]) (stO (oW (.ofNat (i+1)) Rs (obF (setDate o ⟨true,y.b%60⟩ 3) M N L C) []) [(1,BN),(2,BL),(3,BC)]):=by
 intro Q hq
 refine ALp.roundO (A:=oA 0 3 y [] [] none []) (V1:=oW (.ofNat (i+1)) Rs (obF (setDate o ⟨true,y.b%60⟩ 3) M N L C) []) (F:=oW (.ofNat i) Rs [] []) (opt:=[(1,BN),(2,BL),(3,BC)]) (opt':=[]) (lk:=[(0,0),(1,1),(2,2),(3,3),(4,4)]) (lk':=[]) base0 aidJ_ok (LsOk.no rfl) .refl ?_
 rw[ob_dat03,g.w]
 exact ⟨g.a,g.b,g.x,pk hk (by decide) (by decide),pk ha (by decide) (by decide),pick_sem _ (by decide) (by decide),⟨⟨⟨⟨⟨rfl,g.c⟩,⟨rfl,rfl⟩,trivial⟩,⟨⟨rfl,rfl⟩,⟨rfl,rfl⟩,trivial⟩,renR_ob (o:=(setDate o ⟨true,y.b%60⟩ 3)) hM (rN _ rfl) (rL _ rfl) (rC _ rfl),⟨rfl,rfl⟩,trivial⟩,⟨rfl,bn⟩,⟨rfl,bl⟩,⟨rfl,bc⟩,trivial⟩,hq⟩⟩
theorem st_dat04 {y:Rw} {i:Nat} {Rs:List AV} {M N L C:AV} {BN BL BC:Option Blk} (o:Ob) (g:Go1 i Rs y) (hM:closedA M=true) (rN:Rv 1 N) (rL:Rv 2 L) (rC:Rv 3 C) (bn:ClosedOB BN) (bl:ClosedOB BL) (bc:ClosedOB BC) (hk:y.k%9=0) (ha:y.a%10=4):Step (stO (oW (.ofNat i) Rs (obF o M N L C) []) [(1,BN),(2,BL),(3,BC)]) (stO (oW (.ofNat (i+1)) Rs (obF (setDate o ⟨true,y.b%60⟩ 4) M N L C) []) [(1,BN),(2,BL),(3,BC)]):=by
 intro Q hq
 refine ALp.roundO (A:=oA 0 4 y [] [] none []) (V1:=oW (.ofNat (i+1)) Rs (obF (setDate o ⟨true,y.b%60⟩ 4) M N L C) []) (F:=oW (.ofNat i) Rs [] []) (opt:=[(1,BN),(2,BL),(3,BC)]) (opt':=[]) (lk:=[(0,0),(1,1),(2,2),(3,3),(4,4)]) (lk':=[]) base0 aidJ_ok (LsOk.no rfl) .refl ?_
 rw[ob_dat04,g.w]
 exact ⟨g.a,g.b,g.x,pk hk (by decide) (by decide),pk ha (by decide) (by decide),pick_sem _ (by decide) (by decide),⟨⟨⟨⟨⟨rfl,g.c⟩,⟨rfl,rfl⟩,trivial⟩,⟨⟨rfl,rfl⟩,⟨rfl,rfl⟩,trivial⟩,renR_ob (o:=(setDate o ⟨true,y.b%60⟩ 4)) hM (rN _ rfl) (rL _ rfl) (rC _ rfl),⟨rfl,rfl⟩,trivial⟩,⟨rfl,bn⟩,⟨rfl,bl⟩,⟨rfl,bc⟩,trivial⟩,hq⟩⟩
theorem st_dat05 {y:Rw} {i:Nat} {Rs:List AV} {M N L C:AV} {BN BL BC:Option Blk} (o:Ob) (g:Go1 i Rs y) (hM:closedA M=true) (rN:Rv 1 N) (rL:Rv 2 L) (rC:Rv 3 C) (bn:ClosedOB BN) (bl:ClosedOB BL) (bc:ClosedOB BC) (hk:y.k%9=0) (ha:y.a%10=5):Step (stO (oW (.ofNat i) Rs (obF o M N L C) []) [(1,BN),(2,BL),(3,BC)]) (stO (oW (.ofNat (i+1)) Rs (obF (setDate o ⟨true,y.b%60⟩ 5) M N L C) []) [(1,BN),(2,BL),(3,BC)]):=by
 intro Q hq
 refine ALp.roundO (A:=oA 0 5 y [] [] none []) (V1:=oW (.ofNat (i+1)) Rs (obF (setDate o ⟨true,y.b%60⟩ 5) M N L C) []) (F:=oW (.ofNat i) Rs [] []) (opt:=[(1,BN),(2,BL),(3,BC)]) (opt':=[]) (lk:=[(0,0),(1,1),(2,2),(3,3),(4,4)]) (lk':=[]) base0 aidJ_ok (LsOk.no rfl) .refl ?_
 rw[ob_dat05,g.w]
 exact ⟨g.a,g.b,g.x,pk hk (by decide) (by decide),pk ha (by decide) (by decide),pick_sem _ (by decide) (by decide),⟨⟨⟨⟨⟨rfl,g.c⟩,⟨rfl,rfl⟩,trivial⟩,⟨⟨rfl,rfl⟩,⟨rfl,rfl⟩,trivial⟩,renR_ob (o:=(setDate o ⟨true,y.b%60⟩ 5)) hM (rN _ rfl) (rL _ rfl) (rC _ rfl),⟨rfl,rfl⟩,trivial⟩,⟨rfl,bn⟩,⟨rfl,bl⟩,⟨rfl,bc⟩,trivial⟩,hq⟩⟩
theorem st_dat06 {y:Rw} {i:Nat} {Rs:List AV} {M N L C:AV} {BN BL BC:Option Blk} (o:Ob) (g:Go1 i Rs y) (hM:closedA M=true) (rN:Rv 1 N) (rL:Rv 2 L) (rC:Rv 3 C) (bn:ClosedOB BN) (bl:ClosedOB BL) (bc:ClosedOB BC) (hk:y.k%9=0) (ha:y.a%10=6):Step (stO (oW (.ofNat i) Rs (obF o M N L C) []) [(1,BN),(2,BL),(3,BC)]) (stO (oW (.ofNat (i+1)) Rs (obF (setDate o ⟨true,y.b%60⟩ 6) M N L C) []) [(1,BN),(2,BL),(3,BC)]):=by
 intro Q hq
 refine ALp.roundO (A:=oA 0 6 y [] [] none []) (V1:=oW (.ofNat (i+1)) Rs (obF (setDate o ⟨true,y.b%60⟩ 6) M N L C) []) (F:=oW (.ofNat i) Rs [] []) (opt:=[(1,BN),(2,BL),(3,BC)]) (opt':=[]) (lk:=[(0,0),(1,1),(2,2),(3,3),(4,4)]) (lk':=[]) base0 aidJ_ok (LsOk.no rfl) .refl ?_
 rw[ob_dat06,g.w]
 exact ⟨g.a,g.b,g.x,pk hk (by decide) (by decide),pk ha (by decide) (by decide),pick_sem _ (by decide) (by decide),⟨⟨⟨⟨⟨rfl,g.c⟩,⟨rfl,rfl⟩,trivial⟩,⟨⟨rfl,rfl⟩,⟨rfl,rfl⟩,trivial⟩,renR_ob (o:=(setDate o ⟨true,y.b%60⟩ 6)) hM (rN _ rfl) (rL _ rfl) (rC _ rfl),⟨rfl,rfl⟩,trivial⟩,⟨rfl,bn⟩,⟨rfl,bl⟩,⟨rfl,bc⟩,trivial⟩,hq⟩⟩
theorem st_dat07 {y:Rw} {i:Nat} {Rs:List AV} {M N L C:AV} {BN BL BC:Option Blk} (o:Ob) (g:Go1 i Rs y) (hM:closedA M=true) (rN:Rv 1 N) (rL:Rv 2 L) (rC:Rv 3 C) (bn:ClosedOB BN) (bl:ClosedOB BL) (bc:ClosedOB BC) (hk:y.k%9=0) (ha:y.a%10=7):Step (stO (oW (.ofNat i) Rs (obF o M N L C) []) [(1,BN),(2,BL),(3,BC)]) (stO (oW (.ofNat (i+1)) Rs (obF (setDate o ⟨true,y.b%60⟩ 7) M N L C) []) [(1,BN),(2,BL),(3,BC)]):=by
 intro Q hq
 refine ALp.roundO (A:=oA 0 7 y [] [] none []) (V1:=oW (.ofNat (i+1)) Rs (obF (setDate o ⟨true,y.b%60⟩ 7) M N L C) []) (F:=oW (.ofNat i) Rs [] []) (opt:=[(1,BN),(2,BL),(3,BC)]) (opt':=[]) (lk:=[(0,0),(1,1),(2,2),(3,3),(4,4)]) (lk':=[]) base0 aidJ_ok (LsOk.no rfl) .refl ?_
 rw[ob_dat07,g.w]
 exact ⟨g.a,g.b,g.x,pk hk (by decide) (by decide),pk ha (by decide) (by decide),pick_sem _ (by decide) (by decide),⟨⟨⟨⟨⟨rfl,g.c⟩,⟨rfl,rfl⟩,trivial⟩,⟨⟨rfl,rfl⟩,⟨rfl,rfl⟩,trivial⟩,renR_ob (o:=(setDate o ⟨true,y.b%60⟩ 7)) hM (rN _ rfl) (rL _ rfl) (rC _ rfl),⟨rfl,rfl⟩,trivial⟩,⟨rfl,bn⟩,⟨rfl,bl⟩,⟨rfl,bc⟩,trivial⟩,hq⟩⟩
theorem st_dat08 {y:Rw} {i:Nat} {Rs:List AV} {M N L C:AV} {BN BL BC:Option Blk} (o:Ob) (g:Go1 i Rs y) (hM:closedA M=true) (rN:Rv 1 N) (rL:Rv 2 L) (rC:Rv 3 C) (bn:ClosedOB BN) (bl:ClosedOB BL) (bc:ClosedOB BC) (hk:y.k%9=0) (ha:y.a%10=8):Step (stO (oW (.ofNat i) Rs (obF o M N L C) []) [(1,BN),(2,BL),(3,BC)]) (stO (oW (.ofNat (i+1)) Rs (obF (setDate o ⟨true,y.b%60⟩ 8) M N L C) []) [(1,BN),(2,BL),(3,BC)]):=by
 intro Q hq
 refine ALp.roundO (A:=oA 0 8 y [] [] none []) (V1:=oW (.ofNat (i+1)) Rs (obF (setDate o ⟨true,y.b%60⟩ 8) M N L C) []) (F:=oW (.ofNat i) Rs [] []) (opt:=[(1,BN),(2,BL),(3,BC)]) (opt':=[]) (lk:=[(0,0),(1,1),(2,2),(3,3),(4,4)]) (lk':=[]) base0 aidJ_ok (LsOk.no rfl) .refl ?_
 rw[ob_dat08,g.w]
 exact ⟨g.a,g.b,g.x,pk hk (by decide) (by decide),pk ha (by decide) (by decide),pick_sem _ (by decide) (by decide),⟨⟨⟨⟨⟨rfl,g.c⟩,⟨rfl,rfl⟩,trivial⟩,⟨⟨rfl,rfl⟩,⟨rfl,rfl⟩,trivial⟩,renR_ob (o:=(setDate o ⟨true,y.b%60⟩ 8)) hM (rN _ rfl) (rL _ rfl) (rC _ rfl),⟨rfl,rfl⟩,trivial⟩,⟨rfl,bn⟩,⟨rfl,bl⟩,⟨rfl,bc⟩,trivial⟩,hq⟩⟩
theorem st_dat09 {y:Rw} {i:Nat} {Rs:List AV} {M N L C:AV} {BN BL BC:Option Blk} (o:Ob) (g:Go1 i Rs y) (hM:closedA M=true) (rN:Rv 1 N) (rL:Rv 2 L) (rC:Rv 3 C) (bn:ClosedOB BN) (bl:ClosedOB BL) (bc:ClosedOB BC) (hk:y.k%9=0) (ha:y.a%10=9):Step (stO (oW (.ofNat i) Rs (obF o M N L C) []) [(1,BN),(2,BL),(3,BC)]) (stO (oW (.ofNat (i+1)) Rs (obF (setDate o ⟨true,y.b%60⟩ 9) M N L C) []) [(1,BN),(2,BL),(3,BC)]):=by
 intro Q hq
 refine ALp.roundO (A:=oA 0 9 y [] [] none []) (V1:=oW (.ofNat (i+1)) Rs (obF (setDate o ⟨true,y.b%60⟩ 9) M N L C) []) (F:=oW (.ofNat i) Rs [] []) (opt:=[(1,BN),(2,BL),(3,BC)]) (opt':=[]) (lk:=[(0,0),(1,1),(2,2),(3,3),(4,4)]) (lk':=[]) base0 aidJ_ok (LsOk.no rfl) .refl ?_
 rw[ob_dat09,g.w]
 exact ⟨g.a,g.b,g.x,pk hk (by decide) (by decide),pk ha (by decide) (by decide),pick_sem _ (by decide) (by decide),⟨⟨⟨⟨⟨rfl,g.c⟩,⟨rfl,rfl⟩,trivial⟩,⟨⟨rfl,rfl⟩,⟨rfl,rfl⟩,trivial⟩,renR_ob (o:=(setDate o ⟨true,y.b%60⟩ 9)) hM (rN _ rfl) (rL _ rfl) (rC _ rfl),⟨rfl,rfl⟩,trivial⟩,⟨rfl,bn⟩,⟨rfl,bl⟩,⟨rfl,bc⟩,trivial⟩,hq⟩⟩
theorem st_dat10 {y:Rw} {i:Nat} {Rs:List AV} {M N L C:AV} {BN BL BC:Option Blk} (o:Ob) (g:Go1 i Rs y) (hM:closedA M=true) (rN:Rv 1 N) (rL:Rv 2 L) (rC:Rv 3 C) (bn:ClosedOB BN) (bl:ClosedOB BL) (bc:ClosedOB BC) (hk:y.k%9=1) (ha:y.a%10=0):Step (stO (oW (.ofNat i) Rs (obF o M N L C) []) [(1,BN),(2,BL),(3,BC)]) (stO (oW (.ofNat (i+1)) Rs (obF (setDate o ⟨true,y.b%60⟩ 0) M N L C) []) [(1,BN),(2,BL),(3,BC)]):=by
 intro Q hq
 refine ALp.roundO (A:=oA 1 0 y [] [] none []) (V1:=oW (.ofNat (i+1)) Rs (obF (setDate o ⟨true,y.b%60⟩ 0) M N L C) []) (F:=oW (.ofNat i) Rs [] []) (opt:=[(1,BN),(2,BL),(3,BC)]) (opt':=[]) (lk:=[(0,0),(1,1),(2,2),(3,3),(4,4)]) (lk':=[]) base0 aidJ_ok (LsOk.no rfl) .refl ?_
 rw[ob_dat10,g.w]
 exact ⟨g.a,g.b,g.x,pk hk (by decide) (by decide),pk ha (by decide) (by decide),pick_sem _ (by decide) (by decide),⟨⟨⟨⟨⟨rfl,g.c⟩,⟨rfl,rfl⟩,trivial⟩,⟨⟨rfl,rfl⟩,⟨rfl,rfl⟩,trivial⟩,renR_ob (o:=(setDate o ⟨true,y.b%60⟩ 0)) hM (rN _ rfl) (rL _ rfl) (rC _ rfl),⟨rfl,rfl⟩,trivial⟩,⟨rfl,bn⟩,⟨rfl,bl⟩,⟨rfl,bc⟩,trivial⟩,hq⟩⟩
theorem st_dat11 {y:Rw} {i:Nat} {Rs:List AV} {M N L C:AV} {BN BL BC:Option Blk} (o:Ob) (g:Go1 i Rs y) (hM:closedA M=true) (rN:Rv 1 N) (rL:Rv 2 L) (rC:Rv 3 C) (bn:ClosedOB BN) (bl:ClosedOB BL) (bc:ClosedOB BC) (hk:y.k%9=1) (ha:y.a%10=1):Step (stO (oW (.ofNat i) Rs (obF o M N L C) []) [(1,BN),(2,BL),(3,BC)]) (stO (oW (.ofNat (i+1)) Rs (obF (setDate o ⟨true,y.b%60⟩ 1) M N L C) []) [(1,BN),(2,BL),(3,BC)]):=by
 intro Q hq
 refine ALp.roundO (A:=oA 1 1 y [] [] none []) (V1:=oW (.ofNat (i+1)) Rs (obF (setDate o ⟨true,y.b%60⟩ 1) M N L C) []) (F:=oW (.ofNat i) Rs [] []) (opt:=[(1,BN),(2,BL),(3,BC)]) (opt':=[]) (lk:=[(0,0),(1,1),(2,2),(3,3),(4,4)]) (lk':=[]) base0 aidJ_ok (LsOk.no rfl) .refl ?_
 rw[ob_dat11,g.w]
 exact ⟨g.a,g.b,g.x,pk hk (by decide) (by decide),pk ha (by decide) (by decide),pick_sem _ (by decide) (by decide),⟨⟨⟨⟨⟨rfl,g.c⟩,⟨rfl,rfl⟩,trivial⟩,⟨⟨rfl,rfl⟩,⟨rfl,rfl⟩,trivial⟩,renR_ob (o:=(setDate o ⟨true,y.b%60⟩ 1)) hM (rN _ rfl) (rL _ rfl) (rC _ rfl),⟨rfl,rfl⟩,trivial⟩,⟨rfl,bn⟩,⟨rfl,bl⟩,⟨rfl,bc⟩,trivial⟩,hq⟩⟩
theorem st_dat12 {y:Rw} {i:Nat} {Rs:List AV} {M N L C:AV} {BN BL BC:Option Blk} (o:Ob) (g:Go1 i Rs y) (hM:closedA M=true) (rN:Rv 1 N) (rL:Rv 2 L) (rC:Rv 3 C) (bn:ClosedOB BN) (bl:ClosedOB BL) (bc:ClosedOB BC) (hk:y.k%9=1) (ha:y.a%10=2):Step (stO (oW (.ofNat i) Rs (obF o M N L C) []) [(1,BN),(2,BL),(3,BC)]) (stO (oW (.ofNat (i+1)) Rs (obF (setDate o ⟨true,y.b%60⟩ 2) M N L C) []) [(1,BN),(2,BL),(3,BC)]):=by
 intro Q hq
 refine ALp.roundO (A:=oA 1 2 y [] [] none []) (V1:=oW (.ofNat (i+1)) Rs (obF (setDate o ⟨true,y.b%60⟩ 2) M N L C) []) (F:=oW (.ofNat i) Rs [] []) (opt:=[(1,BN),(2,BL),(3,BC)]) (opt':=[]) (lk:=[(0,0),(1,1),(2,2),(3,3),(4,4)]) (lk':=[]) base0 aidJ_ok (LsOk.no rfl) .refl ?_
 rw[ob_dat12,g.w]
 exact ⟨g.a,g.b,g.x,pk hk (by decide) (by decide),pk ha (by decide) (by decide),pick_sem _ (by decide) (by decide),⟨⟨⟨⟨⟨rfl,g.c⟩,⟨rfl,rfl⟩,trivial⟩,⟨⟨rfl,rfl⟩,⟨rfl,rfl⟩,trivial⟩,renR_ob (o:=(setDate o ⟨true,y.b%60⟩ 2)) hM (rN _ rfl) (rL _ rfl) (rC _ rfl),⟨rfl,rfl⟩,trivial⟩,⟨rfl,bn⟩,⟨rfl,bl⟩,⟨rfl,bc⟩,trivial⟩,hq⟩⟩
theorem st_dat13 {y:Rw} {i:Nat} {Rs:List AV} {M N L C:AV} {BN BL BC:Option Blk} (o:Ob) (g:Go1 i Rs y) (hM:closedA M=true) (rN:Rv 1 N) (rL:Rv 2 L) (rC:Rv 3 C) (bn:ClosedOB BN) (bl:ClosedOB BL) (bc:ClosedOB BC) (hk:y.k%9=1) (ha:y.a%10=3):Step (stO (oW (.ofNat i) Rs (obF o M N L C) []) [(1,BN),(2,BL),(3,BC)]) (stO (oW (.ofNat (i+1)) Rs (obF (setDate o ⟨true,y.b%60⟩ 3) M N L C) []) [(1,BN),(2,BL),(3,BC)]):=by
 intro Q hq
 refine ALp.roundO (A:=oA 1 3 y [] [] none []) (V1:=oW (.ofNat (i+1)) Rs (obF (setDate o ⟨true,y.b%60⟩ 3) M N L C) []) (F:=oW (.ofNat i) Rs [] []) (opt:=[(1,BN),(2,BL),(3,BC)]) (opt':=[]) (lk:=[(0,0),(1,1),(2,2),(3,3),(4,4)]) (lk':=[]) base0 aidJ_ok (LsOk.no rfl) .refl ?_
 rw[ob_dat13,g.w]
 exact ⟨g.a,g.b,g.x,pk hk (by decide) (by decide),pk ha (by decide) (by decide),pick_sem _ (by decide) (by decide),⟨⟨⟨⟨⟨rfl,g.c⟩,⟨rfl,rfl⟩,trivial⟩,⟨⟨rfl,rfl⟩,⟨rfl,rfl⟩,trivial⟩,renR_ob (o:=(setDate o ⟨true,y.b%60⟩ 3)) hM (rN _ rfl) (rL _ rfl) (rC _ rfl),⟨rfl,rfl⟩,trivial⟩,⟨rfl,bn⟩,⟨rfl,bl⟩,⟨rfl,bc⟩,trivial⟩,hq⟩⟩
theorem st_dat14 {y:Rw} {i:Nat} {Rs:List AV} {M N L C:AV} {BN BL BC:Option Blk} (o:Ob) (g:Go1 i Rs y) (hM:closedA M=true) (rN:Rv 1 N) (rL:Rv 2 L) (rC:Rv 3 C) (bn:ClosedOB BN) (bl:ClosedOB BL) (bc:ClosedOB BC) (hk:y.k%9=1) (ha:y.a%10=4):Step (stO (oW (.ofNat i) Rs (obF o M N L C) []) [(1,BN),(2,BL),(3,BC)]) (stO (oW (.ofNat (i+1)) Rs (obF (setDate o ⟨true,y.b%60⟩ 4) M N L C) []) [(1,BN),(2,BL),(3,BC)]):=by
 intro Q hq
 refine ALp.roundO (A:=oA 1 4 y [] [] none []) (V1:=oW (.ofNat (i+1)) Rs (obF (setDate o ⟨true,y.b%60⟩ 4) M N L C) []) (F:=oW (.ofNat i) Rs [] []) (opt:=[(1,BN),(2,BL),(3,BC)]) (opt':=[]) (lk:=[(0,0),(1,1),(2,2),(3,3),(4,4)]) (lk':=[]) base0 aidJ_ok (LsOk.no rfl) .refl ?_
 rw[ob_dat14,g.w]
 exact ⟨g.a,g.b,g.x,pk hk (by decide) (by decide),pk ha (by decide) (by decide),pick_sem _ (by decide) (by decide),⟨⟨⟨⟨⟨rfl,g.c⟩,⟨rfl,rfl⟩,trivial⟩,⟨⟨rfl,rfl⟩,⟨rfl,rfl⟩,trivial⟩,renR_ob (o:=(setDate o ⟨true,y.b%60⟩ 4)) hM (rN _ rfl) (rL _ rfl) (rC _ rfl),⟨rfl,rfl⟩,trivial⟩,⟨rfl,bn⟩,⟨rfl,bl⟩,⟨rfl,bc⟩,trivial⟩,hq⟩⟩
theorem st_dat15 {y:Rw} {i:Nat} {Rs:List AV} {M N L C:AV} {BN BL BC:Option Blk} (o:Ob) (g:Go1 i Rs y) (hM:closedA M=true) (rN:Rv 1 N) (rL:Rv 2 L) (rC:Rv 3 C) (bn:ClosedOB BN) (bl:ClosedOB BL) (bc:ClosedOB BC) (hk:y.k%9=1) (ha:y.a%10=5):Step (stO (oW (.ofNat i) Rs (obF o M N L C) []) [(1,BN),(2,BL),(3,BC)]) (stO (oW (.ofNat (i+1)) Rs (obF (setDate o ⟨true,y.b%60⟩ 5) M N L C) []) [(1,BN),(2,BL),(3,BC)]):=by
 intro Q hq
 refine ALp.roundO (A:=oA 1 5 y [] [] none []) (V1:=oW (.ofNat (i+1)) Rs (obF (setDate o ⟨true,y.b%60⟩ 5) M N L C) []) (F:=oW (.ofNat i) Rs [] []) (opt:=[(1,BN),(2,BL),(3,BC)]) (opt':=[]) (lk:=[(0,0),(1,1),(2,2),(3,3),(4,4)]) (lk':=[]) base0 aidJ_ok (LsOk.no rfl) .refl ?_
 rw[ob_dat15,g.w]
 exact ⟨g.a,g.b,g.x,pk hk (by decide) (by decide),pk ha (by decide) (by decide),pick_sem _ (by decide) (by decide),⟨⟨⟨⟨⟨rfl,g.c⟩,⟨rfl,rfl⟩,trivial⟩,⟨⟨rfl,rfl⟩,⟨rfl,rfl⟩,trivial⟩,renR_ob (o:=(setDate o ⟨true,y.b%60⟩ 5)) hM (rN _ rfl) (rL _ rfl) (rC _ rfl),⟨rfl,rfl⟩,trivial⟩,⟨rfl,bn⟩,⟨rfl,bl⟩,⟨rfl,bc⟩,trivial⟩,hq⟩⟩
theorem st_dat16 {y:Rw} {i:Nat} {Rs:List AV} {M N L C:AV} {BN BL BC:Option Blk} (o:Ob) (g:Go1 i Rs y) (hM:closedA M=true) (rN:Rv 1 N) (rL:Rv 2 L) (rC:Rv 3 C) (bn:ClosedOB BN) (bl:ClosedOB BL) (bc:ClosedOB BC) (hk:y.k%9=1) (ha:y.a%10=6):Step (stO (oW (.ofNat i) Rs (obF o M N L C) []) [(1,BN),(2,BL),(3,BC)]) (stO (oW (.ofNat (i+1)) Rs (obF (setDate o ⟨true,y.b%60⟩ 6) M N L C) []) [(1,BN),(2,BL),(3,BC)]):=by
 intro Q hq
 refine ALp.roundO (A:=oA 1 6 y [] [] none []) (V1:=oW (.ofNat (i+1)) Rs (obF (setDate o ⟨true,y.b%60⟩ 6) M N L C) []) (F:=oW (.ofNat i) Rs [] []) (opt:=[(1,BN),(2,BL),(3,BC)]) (opt':=[]) (lk:=[(0,0),(1,1),(2,2),(3,3),(4,4)]) (lk':=[]) base0 aidJ_ok (LsOk.no rfl) .refl ?_
 rw[ob_dat16,g.w]
 exact ⟨g.a,g.b,g.x,pk hk (by decide) (by decide),pk ha (by decide) (by decide),pick_sem _ (by decide) (by decide),⟨⟨⟨⟨⟨rfl,g.c⟩,⟨rfl,rfl⟩,trivial⟩,⟨⟨rfl,rfl⟩,⟨rfl,rfl⟩,trivial⟩,renR_ob (o:=(setDate o ⟨true,y.b%60⟩ 6)) hM (rN _ rfl) (rL _ rfl) (rC _ rfl),⟨rfl,rfl⟩,trivial⟩,⟨rfl,bn⟩,⟨rfl,bl⟩,⟨rfl,bc⟩,trivial⟩,hq⟩⟩
theorem st_dat17 {y:Rw} {i:Nat} {Rs:List AV} {M N L C:AV} {BN BL BC:Option Blk} (o:Ob) (g:Go1 i Rs y) (hM:closedA M=true) (rN:Rv 1 N) (rL:Rv 2 L) (rC:Rv 3 C) (bn:ClosedOB BN) (bl:ClosedOB BL) (bc:ClosedOB BC) (hk:y.k%9=1) (ha:y.a%10=7):Step (stO (oW (.ofNat i) Rs (obF o M N L C) []) [(1,BN),(2,BL),(3,BC)]) (stO (oW (.ofNat (i+1)) Rs (obF (setDate o ⟨true,y.b%60⟩ 7) M N L C) []) [(1,BN),(2,BL),(3,BC)]):=by
 intro Q hq
 refine ALp.roundO (A:=oA 1 7 y [] [] none []) (V1:=oW (.ofNat (i+1)) Rs (obF (setDate o ⟨true,y.b%60⟩ 7) M N L C) []) (F:=oW (.ofNat i) Rs [] []) (opt:=[(1,BN),(2,BL),(3,BC)]) (opt':=[]) (lk:=[(0,0),(1,1),(2,2),(3,3),(4,4)]) (lk':=[]) base0 aidJ_ok (LsOk.no rfl) .refl ?_
 rw[ob_dat17,g.w]
 exact ⟨g.a,g.b,g.x,pk hk (by decide) (by decide),pk ha (by decide) (by decide),pick_sem _ (by decide) (by decide),⟨⟨⟨⟨⟨rfl,g.c⟩,⟨rfl,rfl⟩,trivial⟩,⟨⟨rfl,rfl⟩,⟨rfl,rfl⟩,trivial⟩,renR_ob (o:=(setDate o ⟨true,y.b%60⟩ 7)) hM (rN _ rfl) (rL _ rfl) (rC _ rfl),⟨rfl,rfl⟩,trivial⟩,⟨rfl,bn⟩,⟨rfl,bl⟩,⟨rfl,bc⟩,trivial⟩,hq⟩⟩
theorem st_dat18 {y:Rw} {i:Nat} {Rs:List AV} {M N L C:AV} {BN BL BC:Option Blk} (o:Ob) (g:Go1 i Rs y) (hM:closedA M=true) (rN:Rv 1 N) (rL:Rv 2 L) (rC:Rv 3 C) (bn:ClosedOB BN) (bl:ClosedOB BL) (bc:ClosedOB BC) (hk:y.k%9=1) (ha:y.a%10=8):Step (stO (oW (.ofNat i) Rs (obF o M N L C) []) [(1,BN),(2,BL),(3,BC)]) (stO (oW (.ofNat (i+1)) Rs (obF (setDate o ⟨true,y.b%60⟩ 8) M N L C) []) [(1,BN),(2,BL),(3,BC)]):=by
 intro Q hq
 refine ALp.roundO (A:=oA 1 8 y [] [] none []) (V1:=oW (.ofNat (i+1)) Rs (obF (setDate o ⟨true,y.b%60⟩ 8) M N L C) []) (F:=oW (.ofNat i) Rs [] []) (opt:=[(1,BN),(2,BL),(3,BC)]) (opt':=[]) (lk:=[(0,0),(1,1),(2,2),(3,3),(4,4)]) (lk':=[]) base0 aidJ_ok (LsOk.no rfl) .refl ?_
 rw[ob_dat18,g.w]
 exact ⟨g.a,g.b,g.x,pk hk (by decide) (by decide),pk ha (by decide) (by decide),pick_sem _ (by decide) (by decide),⟨⟨⟨⟨⟨rfl,g.c⟩,⟨rfl,rfl⟩,trivial⟩,⟨⟨rfl,rfl⟩,⟨rfl,rfl⟩,trivial⟩,renR_ob (o:=(setDate o ⟨true,y.b%60⟩ 8)) hM (rN _ rfl) (rL _ rfl) (rC _ rfl),⟨rfl,rfl⟩,trivial⟩,⟨rfl,bn⟩,⟨rfl,bl⟩,⟨rfl,bc⟩,trivial⟩,hq⟩⟩
theorem st_dat19 {y:Rw} {i:Nat} {Rs:List AV} {M N L C:AV} {BN BL BC:Option Blk} (o:Ob) (g:Go1 i Rs y) (hM:closedA M=true) (rN:Rv 1 N) (rL:Rv 2 L) (rC:Rv 3 C) (bn:ClosedOB BN) (bl:ClosedOB BL) (bc:ClosedOB BC) (hk:y.k%9=1) (ha:y.a%10=9):Step (stO (oW (.ofNat i) Rs (obF o M N L C) []) [(1,BN),(2,BL),(3,BC)]) (stO (oW (.ofNat (i+1)) Rs (obF (setDate o ⟨true,y.b%60⟩ 9) M N L C) []) [(1,BN),(2,BL),(3,BC)]):=by
 intro Q hq
 refine ALp.roundO (A:=oA 1 9 y [] [] none []) (V1:=oW (.ofNat (i+1)) Rs (obF (setDate o ⟨true,y.b%60⟩ 9) M N L C) []) (F:=oW (.ofNat i) Rs [] []) (opt:=[(1,BN),(2,BL),(3,BC)]) (opt':=[]) (lk:=[(0,0),(1,1),(2,2),(3,3),(4,4)]) (lk':=[]) base0 aidJ_ok (LsOk.no rfl) .refl ?_
 rw[ob_dat19,g.w]
 exact ⟨g.a,g.b,g.x,pk hk (by decide) (by decide),pk ha (by decide) (by decide),pick_sem _ (by decide) (by decide),⟨⟨⟨⟨⟨rfl,g.c⟩,⟨rfl,rfl⟩,trivial⟩,⟨⟨rfl,rfl⟩,⟨rfl,rfl⟩,trivial⟩,renR_ob (o:=(setDate o ⟨true,y.b%60⟩ 9)) hM (rN _ rfl) (rL _ rfl) (rC _ rfl),⟨rfl,rfl⟩,trivial⟩,⟨rfl,bn⟩,⟨rfl,bl⟩,⟨rfl,bc⟩,trivial⟩,hq⟩⟩
theorem st_dat20 {y:Rw} {i:Nat} {Rs:List AV} {M N L C:AV} {BN BL BC:Option Blk} (o:Ob) (g:Go1 i Rs y) (hM:closedA M=true) (rN:Rv 1 N) (rL:Rv 2 L) (rC:Rv 3 C) (bn:ClosedOB BN) (bl:ClosedOB BL) (bc:ClosedOB BC) (hk:y.k%9=2) (ha:y.a%10=0):Step (stO (oW (.ofNat i) Rs (obF o M N L C) []) [(1,BN),(2,BL),(3,BC)]) (stO (oW (.ofNat (i+1)) Rs (obF (setDate o ⟨true,y.b%60⟩ 0) M N L C) []) [(1,BN),(2,BL),(3,BC)]):=by
 intro Q hq
 refine ALp.roundO (A:=oA 2 0 y [] [] none []) (V1:=oW (.ofNat (i+1)) Rs (obF (setDate o ⟨true,y.b%60⟩ 0) M N L C) []) (F:=oW (.ofNat i) Rs [] []) (opt:=[(1,BN),(2,BL),(3,BC)]) (opt':=[]) (lk:=[(0,0),(1,1),(2,2),(3,3),(4,4)]) (lk':=[]) base0 aidJ_ok (LsOk.no rfl) .refl ?_
 rw[ob_dat20,g.w]
 exact ⟨g.a,g.b,g.x,pk hk (by decide) (by decide),pk ha (by decide) (by decide),pick_sem _ (by decide) (by decide),⟨⟨⟨⟨⟨rfl,g.c⟩,⟨rfl,rfl⟩,trivial⟩,⟨⟨rfl,rfl⟩,⟨rfl,rfl⟩,trivial⟩,renR_ob (o:=(setDate o ⟨true,y.b%60⟩ 0)) hM (rN _ rfl) (rL _ rfl) (rC _ rfl),⟨rfl,rfl⟩,trivial⟩,⟨rfl,bn⟩,⟨rfl,bl⟩,⟨rfl,bc⟩,trivial⟩,hq⟩⟩
theorem st_dat21 {y:Rw} {i:Nat} {Rs:List AV} {M N L C:AV} {BN BL BC:Option Blk} (o:Ob) (g:Go1 i Rs y) (hM:closedA M=true) (rN:Rv 1 N) (rL:Rv 2 L) (rC:Rv 3 C) (bn:ClosedOB BN) (bl:ClosedOB BL) (bc:ClosedOB BC) (hk:y.k%9=2) (ha:y.a%10=1):Step (stO (oW (.ofNat i) Rs (obF o M N L C) []) [(1,BN),(2,BL),(3,BC)]) (stO (oW (.ofNat (i+1)) Rs (obF (setDate o ⟨true,y.b%60⟩ 1) M N L C) []) [(1,BN),(2,BL),(3,BC)]):=by
 intro Q hq
 refine ALp.roundO (A:=oA 2 1 y [] [] none []) (V1:=oW (.ofNat (i+1)) Rs (obF (setDate o ⟨true,y.b%60⟩ 1) M N L C) []) (F:=oW (.ofNat i) Rs [] []) (opt:=[(1,BN),(2,BL),(3,BC)]) (opt':=[]) (lk:=[(0,0),(1,1),(2,2),(3,3),(4,4)]) (lk':=[]) base0 aidJ_ok (LsOk.no rfl) .refl ?_
 rw[ob_dat21,g.w]
 exact ⟨g.a,g.b,g.x,pk hk (by decide) (by decide),pk ha (by decide) (by decide),pick_sem _ (by decide) (by decide),⟨⟨⟨⟨⟨rfl,g.c⟩,⟨rfl,rfl⟩,trivial⟩,⟨⟨rfl,rfl⟩,⟨rfl,rfl⟩,trivial⟩,renR_ob (o:=(setDate o ⟨true,y.b%60⟩ 1)) hM (rN _ rfl) (rL _ rfl) (rC _ rfl),⟨rfl,rfl⟩,trivial⟩,⟨rfl,bn⟩,⟨rfl,bl⟩,⟨rfl,bc⟩,trivial⟩,hq⟩⟩
theorem st_dat22 {y:Rw} {i:Nat} {Rs:List AV} {M N L C:AV} {BN BL BC:Option Blk} (o:Ob) (g:Go1 i Rs y) (hM:closedA M=true) (rN:Rv 1 N) (rL:Rv 2 L) (rC:Rv 3 C) (bn:ClosedOB BN) (bl:ClosedOB BL) (bc:ClosedOB BC) (hk:y.k%9=2) (ha:y.a%10=2):Step (stO (oW (.ofNat i) Rs (obF o M N L C) []) [(1,BN),(2,BL),(3,BC)]) (stO (oW (.ofNat (i+1)) Rs (obF (setDate o ⟨true,y.b%60⟩ 2) M N L C) []) [(1,BN),(2,BL),(3,BC)]):=by
 intro Q hq
 refine ALp.roundO (A:=oA 2 2 y [] [] none []) (V1:=oW (.ofNat (i+1)) Rs (obF (setDate o ⟨true,y.b%60⟩ 2) M N L C) []) (F:=oW (.ofNat i) Rs [] []) (opt:=[(1,BN),(2,BL),(3,BC)]) (opt':=[]) (lk:=[(0,0),(1,1),(2,2),(3,3),(4,4)]) (lk':=[]) base0 aidJ_ok (LsOk.no rfl) .refl ?_
 rw[ob_dat22,g.w]
 exact ⟨g.a,g.b,g.x,pk hk (by decide) (by decide),pk ha (by decide) (by decide),pick_sem _ (by decide) (by decide),⟨⟨⟨⟨⟨rfl,g.c⟩,⟨rfl,rfl⟩,trivial⟩,⟨⟨rfl,rfl⟩,⟨rfl,rfl⟩,trivial⟩,renR_ob (o:=(setDate o ⟨true,y.b%60⟩ 2)) hM (rN _ rfl) (rL _ rfl) (rC _ rfl),⟨rfl,rfl⟩,trivial⟩,⟨rfl,bn⟩,⟨rfl,bl⟩,⟨rfl,bc⟩,trivial⟩,hq⟩⟩
theorem st_dat23 {y:Rw} {i:Nat} {Rs:List AV} {M N L C:AV} {BN BL BC:Option Blk} (o:Ob) (g:Go1 i Rs y) (hM:closedA M=true) (rN:Rv 1 N) (rL:Rv 2 L) (rC:Rv 3 C) (bn:ClosedOB BN) (bl:ClosedOB BL) (bc:ClosedOB BC) (hk:y.k%9=2) (ha:y.a%10=3):Step (stO (oW (.ofNat i) Rs (obF o M N L C) []) [(1,BN),(2,BL),(3,BC)]) (stO (oW (.ofNat (i+1)) Rs (obF (setDate o ⟨true,y.b%60⟩ 3) M N L C) []) [(1,BN),(2,BL),(3,BC)]):=by
 intro Q hq
 refine ALp.roundO (A:=oA 2 3 y [] [] none []) (V1:=oW (.ofNat (i+1)) Rs (obF (setDate o ⟨true,y.b%60⟩ 3) M N L C) []) (F:=oW (.ofNat i) Rs [] []) (opt:=[(1,BN),(2,BL),(3,BC)]) (opt':=[]) (lk:=[(0,0),(1,1),(2,2),(3,3),(4,4)]) (lk':=[]) base0 aidJ_ok (LsOk.no rfl) .refl ?_
 rw[ob_dat23,g.w]
 exact ⟨g.a,g.b,g.x,pk hk (by decide) (by decide),pk ha (by decide) (by decide),pick_sem _ (by decide) (by decide),⟨⟨⟨⟨⟨rfl,g.c⟩,⟨rfl,rfl⟩,trivial⟩,⟨⟨rfl,rfl⟩,⟨rfl,rfl⟩,trivial⟩,renR_ob (o:=(setDate o ⟨true,y.b%60⟩ 3)) hM (rN _ rfl) (rL _ rfl) (rC _ rfl),⟨rfl,rfl⟩,trivial⟩,⟨rfl,bn⟩,⟨rfl,bl⟩,⟨rfl,bc⟩,trivial⟩,hq⟩⟩
theorem st_dat24 {y:Rw} {i:Nat} {Rs:List AV} {M N L C:AV} {BN BL BC:Option Blk} (o:Ob) (g:Go1 i Rs y) (hM:closedA M=true) (rN:Rv 1 N) (rL:Rv 2 L) (rC:Rv 3 C) (bn:ClosedOB BN) (bl:ClosedOB BL) (bc:ClosedOB BC) (hk:y.k%9=2) (ha:y.a%10=4):Step (stO (oW (.ofNat i) Rs (obF o M N L C) []) [(1,BN),(2,BL),(3,BC)]) (stO (oW (.ofNat (i+1)) Rs (obF (setDate o ⟨true,y.b%60⟩ 4) M N L C) []) [(1,BN),(2,BL),(3,BC)]):=by
 intro Q hq
 refine ALp.roundO (A:=oA 2 4 y [] [] none []) (V1:=oW (.ofNat (i+1)) Rs (obF (setDate o ⟨true,y.b%60⟩ 4) M N L C) []) (F:=oW (.ofNat i) Rs [] []) (opt:=[(1,BN),(2,BL),(3,BC)]) (opt':=[]) (lk:=[(0,0),(1,1),(2,2),(3,3),(4,4)]) (lk':=[]) base0 aidJ_ok (LsOk.no rfl) .refl ?_
 rw[ob_dat24,g.w]
 exact ⟨g.a,g.b,g.x,pk hk (by decide) (by decide),pk ha (by decide) (by decide),pick_sem _ (by decide) (by decide),⟨⟨⟨⟨⟨rfl,g.c⟩,⟨rfl,rfl⟩,trivial⟩,⟨⟨rfl,rfl⟩,⟨rfl,rfl⟩,trivial⟩,renR_ob (o:=(setDate o ⟨true,y.b%60⟩ 4)) hM (rN _ rfl) (rL _ rfl) (rC _ rfl),⟨rfl,rfl⟩,trivial⟩,⟨rfl,bn⟩,⟨rfl,bl⟩,⟨rfl,bc⟩,trivial⟩,hq⟩⟩
theorem st_dat25 {y:Rw} {i:Nat} {Rs:List AV} {M N L C:AV} {BN BL BC:Option Blk} (o:Ob) (g:Go1 i Rs y) (hM:closedA M=true) (rN:Rv 1 N) (rL:Rv 2 L) (rC:Rv 3 C) (bn:ClosedOB BN) (bl:ClosedOB BL) (bc:ClosedOB BC) (hk:y.k%9=2) (ha:y.a%10=5):Step (stO (oW (.ofNat i) Rs (obF o M N L C) []) [(1,BN),(2,BL),(3,BC)]) (stO (oW (.ofNat (i+1)) Rs (obF (setDate o ⟨true,y.b%60⟩ 5) M N L C) []) [(1,BN),(2,BL),(3,BC)]):=by
 intro Q hq
 refine ALp.roundO (A:=oA 2 5 y [] [] none []) (V1:=oW (.ofNat (i+1)) Rs (obF (setDate o ⟨true,y.b%60⟩ 5) M N L C) []) (F:=oW (.ofNat i) Rs [] []) (opt:=[(1,BN),(2,BL),(3,BC)]) (opt':=[]) (lk:=[(0,0),(1,1),(2,2),(3,3),(4,4)]) (lk':=[]) base0 aidJ_ok (LsOk.no rfl) .refl ?_
 rw[ob_dat25,g.w]
 exact ⟨g.a,g.b,g.x,pk hk (by decide) (by decide),pk ha (by decide) (by decide),pick_sem _ (by decide) (by decide),⟨⟨⟨⟨⟨rfl,g.c⟩,⟨rfl,rfl⟩,trivial⟩,⟨⟨rfl,rfl⟩,⟨rfl,rfl⟩,trivial⟩,renR_ob (o:=(setDate o ⟨true,y.b%60⟩ 5)) hM (rN _ rfl) (rL _ rfl) (rC _ rfl),⟨rfl,rfl⟩,trivial⟩,⟨rfl,bn⟩,⟨rfl,bl⟩,⟨rfl,bc⟩,trivial⟩,hq⟩⟩
theorem st_dat26 {y:Rw} {i:Nat} {Rs:List AV} {M N L C:AV} {BN BL BC:Option Blk} (o:Ob) (g:Go1 i Rs y) (hM:closedA M=true) (rN:Rv 1 N) (rL:Rv 2 L) (rC:Rv 3 C) (bn:ClosedOB BN) (bl:ClosedOB BL) (bc:ClosedOB BC) (hk:y.k%9=2) (ha:y.a%10=6):Step (stO (oW (.ofNat i) Rs (obF o M N L C) []) [(1,BN),(2,BL),(3,BC)]) (stO (oW (.ofNat (i+1)) Rs (obF (setDate o ⟨true,y.b%60⟩ 6) M N L C) []) [(1,BN),(2,BL),(3,BC)]):=by
 intro Q hq
 refine ALp.roundO (A:=oA 2 6 y [] [] none []) (V1:=oW (.ofNat (i+1)) Rs (obF (setDate o ⟨true,y.b%60⟩ 6) M N L C) []) (F:=oW (.ofNat i) Rs [] []) (opt:=[(1,BN),(2,BL),(3,BC)]) (opt':=[]) (lk:=[(0,0),(1,1),(2,2),(3,3),(4,4)]) (lk':=[]) base0 aidJ_ok (LsOk.no rfl) .refl ?_
 rw[ob_dat26,g.w]
 exact ⟨g.a,g.b,g.x,pk hk (by decide) (by decide),pk ha (by decide) (by decide),pick_sem _ (by decide) (by decide),⟨⟨⟨⟨⟨rfl,g.c⟩,⟨rfl,rfl⟩,trivial⟩,⟨⟨rfl,rfl⟩,⟨rfl,rfl⟩,trivial⟩,renR_ob (o:=(setDate o ⟨true,y.b%60⟩ 6)) hM (rN _ rfl) (rL _ rfl) (rC _ rfl),⟨rfl,rfl⟩,trivial⟩,⟨rfl,bn⟩,⟨rfl,bl⟩,⟨rfl,bc⟩,trivial⟩,hq⟩⟩
theorem st_dat27 {y:Rw} {i:Nat} {Rs:List AV} {M N L C:AV} {BN BL BC:Option Blk} (o:Ob) (g:Go1 i Rs y) (hM:closedA M=true) (rN:Rv 1 N) (rL:Rv 2 L) (rC:Rv 3 C) (bn:ClosedOB BN) (bl:ClosedOB BL) (bc:ClosedOB BC) (hk:y.k%9=2) (ha:y.a%10=7):Step (stO (oW (.ofNat i) Rs (obF o M N L C) []) [(1,BN),(2,BL),(3,BC)]) (stO (oW (.ofNat (i+1)) Rs (obF (setDate o ⟨true,y.b%60⟩ 7) M N L C) []) [(1,BN),(2,BL),(3,BC)]):=by
 intro Q hq
 refine ALp.roundO (A:=oA 2 7 y [] [] none []) (V1:=oW (.ofNat (i+1)) Rs (obF (setDate o ⟨true,y.b%60⟩ 7) M N L C) []) (F:=oW (.ofNat i) Rs [] []) (opt:=[(1,BN),(2,BL),(3,BC)]) (opt':=[]) (lk:=[(0,0),(1,1),(2,2),(3,3),(4,4)]) (lk':=[]) base0 aidJ_ok (LsOk.no rfl) .refl ?_
 rw[ob_dat27,g.w]
 exact ⟨g.a,g.b,g.x,pk hk (by decide) (by decide),pk ha (by decide) (by decide),pick_sem _ (by decide) (by decide),⟨⟨⟨⟨⟨rfl,g.c⟩,⟨rfl,rfl⟩,trivial⟩,⟨⟨rfl,rfl⟩,⟨rfl,rfl⟩,trivial⟩,renR_ob (o:=(setDate o ⟨true,y.b%60⟩ 7)) hM (rN _ rfl) (rL _ rfl) (rC _ rfl),⟨rfl,rfl⟩,trivial⟩,⟨rfl,bn⟩,⟨rfl,bl⟩,⟨rfl,bc⟩,trivial⟩,hq⟩⟩
theorem st_dat28 {y:Rw} {i:Nat} {Rs:List AV} {M N L C:AV} {BN BL BC:Option Blk} (o:Ob) (g:Go1 i Rs y) (hM:closedA M=true) (rN:Rv 1 N) (rL:Rv 2 L) (rC:Rv 3 C) (bn:ClosedOB BN) (bl:ClosedOB BL) (bc:ClosedOB BC) (hk:y.k%9=2) (ha:y.a%10=8):Step (stO (oW (.ofNat i) Rs (obF o M N L C) []) [(1,BN),(2,BL),(3,BC)]) (stO (oW (.ofNat (i+1)) Rs (obF (setDate o ⟨true,y.b%60⟩ 8) M N L C) []) [(1,BN),(2,BL),(3,BC)]):=by
 intro Q hq
 refine ALp.roundO (A:=oA 2 8 y [] [] none []) (V1:=oW (.ofNat (i+1)) Rs (obF (setDate o ⟨true,y.b%60⟩ 8) M N L C) []) (F:=oW (.ofNat i) Rs [] []) (opt:=[(1,BN),(2,BL),(3,BC)]) (opt':=[]) (lk:=[(0,0),(1,1),(2,2),(3,3),(4,4)]) (lk':=[]) base0 aidJ_ok (LsOk.no rfl) .refl ?_
 rw[ob_dat28,g.w]
 exact ⟨g.a,g.b,g.x,pk hk (by decide) (by decide),pk ha (by decide) (by decide),pick_sem _ (by decide) (by decide),⟨⟨⟨⟨⟨rfl,g.c⟩,⟨rfl,rfl⟩,trivial⟩,⟨⟨rfl,rfl⟩,⟨rfl,rfl⟩,trivial⟩,renR_ob (o:=(setDate o ⟨true,y.b%60⟩ 8)) hM (rN _ rfl) (rL _ rfl) (rC _ rfl),⟨rfl,rfl⟩,trivial⟩,⟨rfl,bn⟩,⟨rfl,bl⟩,⟨rfl,bc⟩,trivial⟩,hq⟩⟩
theorem st_dat29 {y:Rw} {i:Nat} {Rs:List AV} {M N L C:AV} {BN BL BC:Option Blk} (o:Ob) (g:Go1 i Rs y) (hM:closedA M=true) (rN:Rv 1 N) (rL:Rv 2 L) (rC:Rv 3 C) (bn:ClosedOB BN) (bl:ClosedOB BL) (bc:ClosedOB BC) (hk:y.k%9=2) (ha:y.a%10=9):Step (stO (oW (.ofNat i) Rs (obF o M N L C) []) [(1,BN),(2,BL),(3,BC)]) (stO (oW (.ofNat (i+1)) Rs (obF (setDate o ⟨true,y.b%60⟩ 9) M N L C) []) [(1,BN),(2,BL),(3,BC)]):=by
 intro Q hq
 refine ALp.roundO (A:=oA 2 9 y [] [] none []) (V1:=oW (.ofNat (i+1)) Rs (obF (setDate o ⟨true,y.b%60⟩ 9) M N L C) []) (F:=oW (.ofNat i) Rs [] []) (opt:=[(1,BN),(2,BL),(3,BC)]) (opt':=[]) (lk:=[(0,0),(1,1),(2,2),(3,3),(4,4)]) (lk':=[]) base0 aidJ_ok (LsOk.no rfl) .refl ?_
 rw[ob_dat29,g.w]
 exact ⟨g.a,g.b,g.x,pk hk (by decide) (by decide),pk ha (by decide) (by decide),pick_sem _ (by decide) (by decide),⟨⟨⟨⟨⟨rfl,g.c⟩,⟨rfl,rfl⟩,trivial⟩,⟨⟨rfl,rfl⟩,⟨rfl,rfl⟩,trivial⟩,renR_ob (o:=(setDate o ⟨true,y.b%60⟩ 9)) hM (rN _ rfl) (rL _ rfl) (rC _ rfl),⟨rfl,rfl⟩,trivial⟩,⟨rfl,bn⟩,⟨rfl,bl⟩,⟨rfl,bc⟩,trivial⟩,hq⟩⟩
def limOb (o:Ob) (y:Rw):Ob:={o with lh:=true,lt:=1+y.a%50,lc:=1+y.a%50-y.b%(1+y.a%50+1),lu:=1+y.c%2}
theorem st_lim {y:Rw} {i:Nat} {Rs:List AV} {M N L C:AV} {BN BL BC:Option Blk} (o:Ob) (g:Go1 i Rs y) (hM:closedA M=true) (rN:Rv 1 N) (rL:Rv 2 L) (rC:Rv 3 C) (bn:ClosedOB BN) (bl:ClosedOB BL) (bc:ClosedOB BC) (hk:y.k%9=5):Step (stO (oW (.ofNat i) Rs (obF o M N L C) []) [(1,BN),(2,BL),(3,BC)]) (stO (oW (.ofNat (i+1)) Rs (obF (limOb o y) M N L C) []) [(1,BN),(2,BL),(3,BC)]):=by
 intro Q hq
 refine ALp.roundO (A:=oA 5 0 y [] [] none []) (V1:=oW (.ofNat (i+1)) Rs (obF (limOb o y) M N L C) []) (F:=oW (.ofNat i) Rs [] []) (opt:=[(1,BN),(2,BL),(3,BC)]) (opt':=[]) (lk:=[(0,0),(1,1),(2,2),(3,3),(4,4)]) (lk':=[]) base0 aidJ_ok (LsOk.no rfl) .refl ?_
 have q1:=Int.emod_nonneg y.a (b:=50) (by decide)
 have q2:=Int.emod_lt_of_pos y.a (b:=50) (by decide)
 have q3:=Int.emod_nonneg y.b (b:=1+y.a%50+1) (by omega)
 have q4:=Int.emod_lt_of_pos y.b (b:=1+y.a%50+1) (by omega)
 have q5:=Int.emod_nonneg y.c (b:=2) (by decide)
 have q6:=Int.emod_lt_of_pos y.c (b:=2) (by decide)
 have w1:wrapA .i64 (1+y.a%50)=1+y.a%50:=wrapA_i64 (by omega) (by omega)
 have w2:wrapA .i64 (1+y.a%50+1)=1+y.a%50+1:=wrapA_i64 (by omega) (by omega)
 have w3:wrapA .i64 (1+y.a%50-y.b%(1+y.a%50+1))=1+y.a%50-y.b%(1+y.a%50+1):=wrapA_i64 (by omega) (by omega)
 have w4:wrapA .i64 (1+y.c%2)=1+y.c%2:=wrapA_i64 (by omega) (by omega)
 rw[ob_lim,g.w,w1,w2,w3,w4]
 exact ⟨g.a,g.b,g.x,pk hk (by decide) (by decide),pick_sem _ (by decide) (by decide),pick_sem _ (by omega) (by omega),pick_sem _ (by decide) (by decide),⟨⟨⟨⟨⟨rfl,g.c⟩,⟨rfl,rfl⟩,trivial⟩,⟨⟨rfl,rfl⟩,⟨rfl,rfl⟩,trivial⟩,renR_ob (o:=(limOb o y)) hM (rN _ rfl) (rL _ rfl) (rC _ rfl),⟨rfl,rfl⟩,trivial⟩,⟨rfl,bn⟩,⟨rfl,bl⟩,⟨rfl,bc⟩,trivial⟩,hq⟩⟩
def msL:List (List UInt8):=[[],[109],[108,111,115,116]]
def whyOb (o:Ob) (y:Rw):Ob:={o with why:=1+y.a%7,msg:=ofL msL [] y.b}
theorem idx_ms (n:Int):indexA Tryz.prog 110 (.agg (msL.map .str)) (I (n%3))=some (.str (ofL msL [] n)):=
 idx_pick (T:=110) (d:=[]) (l:=msL) (f:= .str) (by decide) fun k x h=>by
  match k,h with
  |0,h=>obtain rfl:_=x:=Option.some.inj h;show indexA _ _ _ _=_;kernel_rfl
  |1,h=>obtain rfl:_=x:=Option.some.inj h;show indexA _ _ _ _=_;kernel_rfl
  |2,h=>obtain rfl:_=x:=Option.some.inj h;show indexA _ _ _ _=_;kernel_rfl
theorem st_why {y:Rw} {i:Nat} {Rs:List AV} {M N L C:AV} {BN BL BC:Option Blk} (o:Ob) (g:Go1 i Rs y) (hM:closedA M=true) (rN:Rv 1 N) (rL:Rv 2 L) (rC:Rv 3 C) (bn:ClosedOB BN) (bl:ClosedOB BL) (bc:ClosedOB BC) (hk:y.k%9=7):Step (stO (oW (.ofNat i) Rs (obF o M N L C) []) [(1,BN),(2,BL),(3,BC)]) (stO (oW (.ofNat (i+1)) Rs (obF (whyOb o y) M N L C) []) [(1,BN),(2,BL),(3,BC)]):=by
 intro Q hq
 refine ALp.roundO (A:=oA 7 0 y [(40,4,.res (.str (ofL msL [] y.b)))] [] none []) (V1:=oW (.ofNat (i+1)) Rs (obF (whyOb o y) M N L C) []) (F:=oW (.ofNat i) Rs [] []) (opt:=[(1,BN),(2,BL),(3,BC)]) (opt':=[]) (lk:=[(0,0),(1,1),(2,2),(3,3),(4,4)]) (lk':=[]) base0 aidJ_ok (LsOk.no rfl) .refl ?_
 have q1:=Int.emod_nonneg y.a (b:=7) (by decide)
 have q2:=Int.emod_lt_of_pos y.a (b:=7) (by decide)
 have w1:wrapA .i64 (1+y.a%7)=1+y.a%7:=wrapA_i64 (by omega) (by omega)
 rw[ob_why,g.w,w1]
 exact ⟨g.a,g.b,g.x,pk hk (by decide) (by decide),pick_sem _ (by decide) (by decide),pick_sem _ (by decide) (by decide),idx_ms _,⟨⟨⟨⟨⟨rfl,g.c⟩,⟨rfl,rfl⟩,trivial⟩,⟨⟨rfl,rfl⟩,⟨rfl,rfl⟩,trivial⟩,renR_ob (o:=(whyOb o y)) hM (rN _ rfl) (rL _ rfl) (rC _ rfl),⟨rfl,rfl⟩,trivial⟩,⟨rfl,bn⟩,⟨rfl,bl⟩,⟨rfl,bc⟩,trivial⟩,hq⟩⟩
def arcOb (o:Ob) (y:Rw):Ob:={o with arch:=beqInt (y.a.tmod 3) 0}
theorem st_arc {y:Rw} {i:Nat} {Rs:List AV} {M N L C:AV} {BN BL BC:Option Blk} (o:Ob) (g:Go1 i Rs y) (hM:closedA M=true) (rN:Rv 1 N) (rL:Rv 2 L) (rC:Rv 3 C) (bn:ClosedOB BN) (bl:ClosedOB BL) (bc:ClosedOB BC) (hk:y.k%9=8):Step (stO (oW (.ofNat i) Rs (obF o M N L C) []) [(1,BN),(2,BL),(3,BC)]) (stO (oW (.ofNat (i+1)) Rs (obF (arcOb o y) M N L C) []) [(1,BN),(2,BL),(3,BC)]):=by
 intro Q hq
 refine ALp.roundO (A:=oA 8 0 y [] [] none []) (V1:=oW (.ofNat (i+1)) Rs (obF (arcOb o y) M N L C) []) (F:=oW (.ofNat i) Rs [] []) (opt:=[(1,BN),(2,BL),(3,BC)]) (opt':=[]) (lk:=[(0,0),(1,1),(2,2),(3,3),(4,4)]) (lk':=[]) base0 aidJ_ok (LsOk.no rfl) .refl ?_
 rw[ob_arc,g.w]
 exact ⟨g.a,g.b,g.x,pk hk (by decide) (by decide),⟨⟨⟨⟨⟨rfl,g.c⟩,⟨rfl,rfl⟩,trivial⟩,⟨⟨rfl,rfl⟩,⟨rfl,rfl⟩,trivial⟩,renR_ob (o:=(arcOb o y)) hM (rN _ rfl) (rL _ rfl) (rC _ rfl),⟨rfl,rfl⟩,trivial⟩,⟨rfl,bn⟩,⟨rfl,bl⟩,⟨rfl,bc⟩,trivial⟩,hq⟩⟩
def nmL:List (List UInt8):=[[111,110,101],[116,119,111],[116,104,114,101,101],[102,111,117,114],[102,105,118,101]]
theorem idx_nm (n:Int):indexA Tryz.prog 106 (.agg (nmL.map .str)) (I (n%5))=some (.str (ofL nmL [] n)):=
 idx_pick (T:=106) (d:=[]) (l:=nmL) (f:= .str) (by decide) fun k x h=>by
  match k,h with
  |0,h=>obtain rfl:_=x:=Option.some.inj h;show indexA _ _ _ _=_;kernel_rfl
  |1,h=>obtain rfl:_=x:=Option.some.inj h;show indexA _ _ _ _=_;kernel_rfl
  |2,h=>obtain rfl:_=x:=Option.some.inj h;show indexA _ _ _ _=_;kernel_rfl
  |3,h=>obtain rfl:_=x:=Option.some.inj h;show indexA _ _ _ _=_;kernel_rfl
  |4,h=>obtain rfl:_=x:=Option.some.inj h;show indexA _ _ _ _=_;kernel_rfl
theorem st_nam0 {y:Rw} {i:Nat} {Rs:List AV} {M L C:AV} {BL BC:Option Blk} (o:Ob) (g:Go1 i Rs y) (hM:closedA M=true) (rL:Rv 2 L) (rC:Rv 3 C) (bl:ClosedOB BL) (bc:ClosedOB BC) (hk:y.k%9=3):Step (stO (oW (.ofNat i) Rs (obF o M .nilsl L C) []) [(2,BL),(3,BC)]) (stO (oW (.ofNat (i+1)) Rs (obF o M (.rsl true 1 0 1 1) L C) [(1,.cells [.str (ofL nmL [] y.a)],.whole)]) [(2,BL),(3,BC)]):=by
 intro Q hq
 refine ALp.roundO (A:=oA 3 0 y [(14,4,.res (.str (ofL nmL [] y.a)))] [] (some (.val (.bool false))) []) (V1:=oW (.ofNat (i+1)) Rs (obF o M (.rsl true 1 0 1 1) L C) [(1,.cells [.str (ofL nmL [] y.a)],.whole)]) (F:=oW (.ofNat i) Rs [] []) (opt:=[(2,BL),(3,BC)]) (opt':=[]) (lk:=[(0,0),(1,46),(2,2),(3,3),(4,4)]) (lk':=[]) base0 aidJ_ok (LsOk.no rfl) .refl ?_
 rw[ob_nam0,g.w]
 exact ⟨g.a,g.b,g.x,pk hk (by decide) (by decide),pick_sem _ (by decide) (by decide),idx_nm _,in_none _,⟨⟨⟨⟨⟨rfl,g.c⟩,⟨rfl,rfl⟩,trivial⟩,⟨⟨rfl,rfl⟩,⟨rfl,rfl⟩,trivial⟩,renR_ob (o:=o) hM (.rsl _ _ _ _ _ _ rfl) (rL _ rfl) (rC _ rfl),⟨rfl,rfl⟩,⟨rfl,rfl⟩,trivial⟩,⟨rfl,bl⟩,⟨rfl,bc⟩,trivial⟩,hq⟩⟩
theorem st_nam1t {y:Rw} {i:Nat} {Rs:List AV} {M L C:AV} {BL BC:Option Blk} (o:Ob) (g:Go1 i Rs y) (hM:closedA M=true) (rL:Rv 2 L) (rC:Rv 3 C) (bl:ClosedOB BL) (bc:ClosedOB BC) (hk:y.k%9=3) {l:List (List UInt8)} (hl:l.length≤1000) (hin:inL' l (ofL nmL [] y.a)=true):Step (stO (oW (.ofNat i) Rs (obF o M (.rsl true 1 0 l.length 1) L C) [(1,.cells (l.map .str),.whole)]) [(2,BL),(3,BC)]) (stO (oW (.ofNat (i+1)) Rs (obF o M (.rsl true 1 0 l.length 1) L C) [(1,.cells (l.map .str),.whole)]) [(2,BL),(3,BC)]):=by
 intro Q hq
 refine ALp.roundO (A:=oA 3 0 y [(14,4,.res (.str (ofL nmL [] y.a)))] [] (some (.part [1] (.bool true) [(1,some (.cells (l.map .str)))] 20)) []) (V1:=oW (.ofNat (i+1)) Rs (obF o M (.rsl true 1 0 l.length 1) L C) [(1,.cells (l.map .str),.whole)]) (F:=oW (.ofNat i) Rs [] []) (opt:=[(2,BL),(3,BC)]) (opt':=[]) (lk:=[(0,0),(1,1),(2,2),(3,3),(4,4)]) (lk':=[]) base0 aidJ_ok (LsOk.no rfl) .refl ?_
 rw[ob_nam1t,g.w]
 exact ⟨g.a,g.b,g.x,pk hk (by decide) (by decide),pick_sem _ (by decide) (by decide),idx_nm _,hin▸in_body l _ hl,⟨⟨⟨⟨⟨rfl,g.c⟩,⟨rfl,rfl⟩,trivial⟩,⟨⟨rfl,rfl⟩,⟨rfl,rfl⟩,trivial⟩,renR_ob (o:=o) hM (.rsl _ _ _ _ _ _ rfl) (rL _ rfl) (rC _ rfl),⟨rfl,rfl⟩,⟨rfl,closed_strs l⟩,trivial⟩,⟨rfl,bl⟩,⟨rfl,bc⟩,trivial⟩,hq⟩⟩
theorem st_nam1f {y:Rw} {i:Nat} {Rs:List AV} {M L C:AV} {BL BC:Option Blk} (o:Ob) (g:Go1 i Rs y) (hM:closedA M=true) (rL:Rv 2 L) (rC:Rv 3 C) (bl:ClosedOB BL) (bc:ClosedOB BC) (hk:y.k%9=3) {l:List (List UInt8)} (hl:l.length≤1000) (hin:inL' l (ofL nmL [] y.a)=false):Step (stO (oW (.ofNat i) Rs (obF o M (.rsl true 1 0 l.length 1) L C) [(1,.cells (l.map .str),.whole)]) [(2,BL),(3,BC)]) (stO (oW (.ofNat (i+1)) Rs (obF o M (.rsl true 1 0 (l.length+1) 1) L C) [(1,.cells (l.map .str++[.str (ofL nmL [] y.a)]),.whole)]) [(2,BL),(3,BC)]):=by
 intro Q hq
 refine ALp.roundO (A:=oA 3 0 y [(14,4,.res (.str (ofL nmL [] y.a)))] [] (some (.part [1] (.bool false) [(1,some (.cells (l.map .str)))] 20)) []) (V1:=oW (.ofNat (i+1)) Rs (obF o M (.rsl true 1 0 (l.length+1) 1) L C) [(1,.cells (l.map .str++[.str (ofL nmL [] y.a)]),.whole)]) (F:=oW (.ofNat i) Rs [] []) (opt:=[(2,BL),(3,BC)]) (opt':=[]) (lk:=[(0,0),(1,66),(2,2),(3,3),(4,4)]) (lk':=[]) base0 aidJ_ok (LsOk.no rfl) .refl ?_
 rw[ob_nam1f,g.w]
 exact ⟨g.a,g.b,g.x,pk hk (by decide) (by decide),pick_sem _ (by decide) (by decide),idx_nm _,hin▸in_body l _ hl,oblB_of (by simp[allSize,allOne,flat,AV.cells,lenN];omega) (oblB_of (by simp[lenN_eq]) ⟨⟨⟨⟨⟨rfl,g.c⟩,⟨rfl,rfl⟩,trivial⟩,⟨⟨rfl,rfl⟩,⟨rfl,rfl⟩,trivial⟩,renR_ob (o:=o) hM (.rsl _ _ _ _ _ _ rfl) (rL _ rfl) (rC _ rfl),⟨rfl,rfl⟩,⟨rfl,by simp[closedAll_append,closed_strs];rfl⟩,trivial⟩,⟨rfl,bl⟩,⟨rfl,bc⟩,trivial⟩,hq⟩)⟩
end Go.Proofs.YtjhggnebkfpgcaaGreatDoor
namespace Go.Proofs.YtjhggnebkfpgcaaGreatDoor
set_option maxRecDepth 20000
open Go Go.RowKit
open Go.Proofs.Abs
def lkEq (z x:Lk):Bool:=beqInt z.ty x.ty&&(beqBytes z.id x.id&&true)
def cuEq (z x:Cu):Bool:=beqBytes z.name x.name&&(beqBytes z.text x.text&&true)
def hasLk (x:Lk) (l:List Lk):Bool:=l.any fun z=>lkEq z x
theorem lnk_none {i:Nat} {Rs:List AV} {o:Ob} {M N C:AV} {BN BC:Option Blk} {x:Lk} {b:Bool} (hR:closedAll Rs=true) (hM:closedA M=true) (rN:Rv 1 N) (rX:Rv 3 C) (bn:ClosedOB BN) (bx:ClosedOB BC) {Q:AExit→St→Prop} (hq:Q (.exit 3) (stO (ilnkV (.ofNat i) Rs (obF o M N .nilsl C) [I x.ty,.str x.id] b 0 []) [(1,BN),(3,BC)])):ALp Tryz.prog opts0.glob 0 (lpCode Tryz.prog 22 22) (stO (ilnkV (.ofNat i) Rs (obF o M N .nilsl C) [I x.ty,.str x.id] b 0 []) [(1,BN),(3,BC)]) Q:=by
 refine ALp.roundO (A:=aidJ [] [] noSem [] []) (V1:=ilnkV (.ofNat i) Rs [] [] b 0 []) (F:=ilnkV (.ofNat i) Rs (obF o M N .nilsl C) [I x.ty,.str x.id] b 0 []) (opt:=[]) (opt':=[(1,BN),(3,BC)]) (lk:=[]) (lk':=[(0,0),(1,1),(3,3),(4,4),(5,5)]) base0 aidJ_ok (LsOk.no rfl) .refl ?_
 rw[ilnk_nil]
 exact ⟨⟨⟨⟨⟨rfl,hR⟩,⟨rfl,rfl⟩,⟨rfl,rfl⟩,⟨rfl,rfl⟩,trivial⟩,⟨⟨rfl,rfl⟩,⟨rfl,rfl⟩,⟨rfl,rfl⟩,trivial⟩,renR_ob (o:=o) hM (rN _ rfl) (.same _ rfl) (rX _ rfl),⟨rfl,rfl⟩,⟨rfl,rfl⟩,trivial⟩,⟨rfl,bn⟩,⟨rfl,bx⟩,trivial⟩,hq⟩
theorem lnk_loop {i:Nat} {Rs:List AV} {o:Ob} {M N C:AV} {BN BC:Option Blk} {x:Lk} (hR:closedAll Rs=true) (hM:closedA M=true) (rN:Rv 1 N) (rX:Rv 3 C) (bn:ClosedOB BN) (bx:ClosedOB BC) {l:List Lk} (hl:l.length≤1000) {Q:AExit→St→Prop}:∀ (m t:Nat) (b:Bool),t+m=l.length→Q (.exit 3) (stO (ilnkV (.ofNat i) Rs (obF o M N (.rsl true 2 0 l.length 2) C) [I x.ty,.str x.id] (b||hasLk x (l.drop t)) (.ofNat l.length) [(2,.cells (flat (l.map lkA)),.whole)]) [(1,BN),(3,BC)])→ALp Tryz.prog opts0.glob 0 (lpCode Tryz.prog 22 22) (stO (ilnkV (.ofNat i) Rs (obF o M N (.rsl true 2 0 l.length 2) C) [I x.ty,.str x.id] b (.ofNat t) [(2,.cells (flat (l.map lkA)),.whole)]) [(1,BN),(3,BC)]) Q:=by
 have hc:=closed_flk l
 intro m
 induction m with
 |zero=>
  intro t b ht hq
  rw[Nat.add_zero] at ht
  subst ht
  rw[List.drop_of_length_le (Nat.le_refl _),show hasLk x []=false from rfl,Bool.or_false] at hq
  refine ALp.roundO (A:=aidJ [(23,5,.res .nilp),(35,5,.res .nilp)] [] noSem [] []) (V1:=ilnkV (.ofNat i) Rs [] [] b 0 []) (F:=ilnkV (.ofNat i) Rs (obF o M N (.rsl true 2 0 l.length 2) C) [I x.ty,.str x.id] b (.ofNat l.length) [(2,.cells (flat (l.map lkA)),.whole)]) (opt:=[]) (opt':=[(1,BN),(3,BC)]) (lk:=[]) (lk':=[(0,0),(1,1),(2,2),(3,3),(4,4),(5,5)]) base0 aidJ_ok (LsOk.no rfl) .refl ?_
  rw[ilnk_end]
  refine mtB_of (fun e=> ?_) (fun _=>⟨⟨⟨⟨⟨rfl,hR⟩,⟨rfl,rfl⟩,⟨rfl,rfl⟩,⟨rfl,rfl⟩,trivial⟩,⟨⟨rfl,rfl⟩,⟨rfl,rfl⟩,⟨rfl,rfl⟩,trivial⟩,renR_ob (o:=o) hM (rN _ rfl) (.rsl _ _ _ _ _ _ rfl) (rX _ rfl),⟨rfl,rfl⟩,⟨rfl,rfl⟩,⟨rfl,hc⟩,trivial⟩,⟨rfl,bn⟩,⟨rfl,bx⟩,trivial⟩,hq⟩)
  have e:=ltInt_iff.1 e
  omega
 | succ m ih=>
  intro t b ht hq
  have hi:t<l.length:=by omega
  have g1:=List.getElem?_eq_getElem hi
  rw[List.drop_eq_getElem_cons hi] at hq
  revert g1 hq
  generalize l[t]=z
  intro hq g1
  have hw:wrapA .i64 (Int.ofNat t+1)=Int.ofNat (t+1):=wrapA_i64 (by simp;omega) (by simp;omega)
  have hob:(nonneg (Int.ofNat t)&&((Int.ofNat t).toNat.blt l.length&&true))=true:=by
   simp only[nonneg,Bool.true_and,Bool.and_true]
   exact blt_iff.2 hi
  have hn:=ih (t+1) (b||lkEq z x) (by omega) (by
   simpa only[hasLk,List.any_cons,Bool.or_assoc] using hq)
  refine ALp.roundO (A:=aidJ [(21,4,.res (.bool true)),(23,6,.ld (.agg [I z.ty,.str z.id]))] [] noSem [] []) (V1:=ilnkV (.ofNat i) Rs (obF o M N (.rsl true 2 0 l.length 2) C) [I x.ty,.str x.id] (b||lkEq z x) (.ofNat (t+1)) [(2,.cells (flat (l.map lkA)),.whole)]) (F:=ilnkV (.ofNat i) Rs [] [] b 0 []) (opt:=[(1,BN),(3,BC)]) (opt':=[]) (lk:=[(0,0),(1,1),(2,2),(3,3),(4,4),(5,5)]) (lk':=[]) base0 aidJ_ok (LsOk.no rfl) .refl ?_
  rw[ilnk_go,hw]
  refine ⟨lss_t (by simp;omega),mtB_of (fun e=>⟨⟨⟨⟨⟨rfl,hR⟩,⟨rfl,rfl⟩,⟨by rw[e];rfl,rfl⟩,⟨rfl,rfl⟩,trivial⟩,⟨⟨rfl,rfl⟩,⟨rfl,rfl⟩,⟨rfl,rfl⟩,trivial⟩,renR_ob (o:=o) hM (rN _ rfl) (.rsl _ _ _ _ _ _ rfl) (rX _ rfl),⟨rfl,rfl⟩,⟨rfl,rfl⟩,⟨rfl,hc⟩,trivial⟩,⟨rfl,bn⟩,⟨rfl,bx⟩,trivial⟩,hn⟩)
   (fun e=>oblB_of hob ⟨part_lk g1,⟨⟨⟨⟨rfl,hR⟩,⟨rfl,rfl⟩,⟨by rw[e];rfl,rfl⟩,⟨rfl,rfl⟩,trivial⟩,⟨⟨rfl,rfl⟩,⟨rfl,rfl⟩,⟨rfl,rfl⟩,trivial⟩,renR_ob (o:=o) hM (rN _ rfl) (.rsl _ _ _ _ _ _ rfl) (rX _ rfl),⟨rfl,rfl⟩,⟨rfl,rfl⟩,⟨rfl,hc⟩,trivial⟩,⟨rfl,bn⟩,⟨rfl,bx⟩,trivial⟩,hn⟩)⟩
theorem lnk_at:loopsAt (lpCode Tryz.prog 22 5) 22=[lpCode Tryz.prog 22 22]:=by kernel_rfl
def lkOf (y:Rw):Lk:=⟨wrapA .i64 (101+y.a%5),ofL idL [] y.b⟩
theorem st_lnk0 {y:Rw} {i:Nat} {Rs:List AV} {M N C:AV} {BN BC:Option Blk} (o:Ob) (g:Go1 i Rs y) (hM:closedA M=true) (rN:Rv 1 N) (rX:Rv 3 C) (bn:ClosedOB BN) (bx:ClosedOB BC) (hk:y.k%9=4):Step (stO (oW (.ofNat i) Rs (obF o M N .nilsl C) []) [(1,BN),(3,BC)]) (stO (oW (.ofNat (i+1)) Rs (obF o M N (.rsl true 2 0 1 2) C) [(2,.cells [I (wrapA .i64 (101+y.a%5)),.str (ofL idL [] y.b)],.whole)]) [(1,BN),(3,BC)]):=by
 intro Q hq
 have hR:=g.c
 refine ALp.roundO (A:=oA 4 0 y [] [(22,fun s Q=>seesO 0 [(0,0),(1,1),(3,3),(4,4),(5,41)] (ilnkV (.ofNat i) Rs (obF o M N .nilsl C) [I (wrapA .i64 (101+y.a%5)),.str (ofL idL [] y.b)] false 0 []) [(1,BN),(3,BC)] s∧Q (.exit 3) (stO (ilnkV (.ofNat i) Rs (obF o M N .nilsl C) [I (wrapA .i64 (101+y.a%5)),.str (ofL idL [] y.b)] false 0 []) [(1,BN),(3,BC)]))] none (ofL idL [] y.b)) (V1:=oW (.ofNat (i+1)) Rs (obF o M N (.rsl true 2 0 1 2) C) [(2,.cells [I (wrapA .i64 (101+y.a%5)),.str (ofL idL [] y.b)],.whole)]) (F:=oW (.ofNat i) Rs [] []) (opt:=[(1,BN),(3,BC)]) (opt':=[]) (lk:=[(0,0),(1,1),(2,13),(3,3),(4,4)]) (lk':=[]) base0 aidJ_ok (LsOk.at1 rfl lnk_at fun st Q hs=> .seenO base0.glob hs.1 (lnk_none (x:=lkOf y) g.c hM rN rX bn bx hs.2)) .refl ?_
 rw[ob_lnk0,g.w]
 exact ⟨g.a,g.b,g.x,pk hk (by decide) (by decide),pick_sem _ (by decide) (by decide),id_sem _,⟨⟨⟨⟨rfl,hR⟩,⟨rfl,rfl⟩,⟨rfl,rfl⟩,⟨rfl,rfl⟩,trivial⟩,⟨⟨rfl,rfl⟩,⟨rfl,rfl⟩,⟨rfl,rfl⟩,trivial⟩,renR_ob (o:=o) hM (rN _ rfl) (.same _ rfl) (rX _ rfl),⟨rfl,rfl⟩,⟨rfl,rfl⟩,trivial⟩,⟨rfl,bn⟩,⟨rfl,bx⟩,trivial⟩,⟨⟨⟨⟨⟨rfl,g.c⟩,⟨rfl,rfl⟩,trivial⟩,⟨⟨rfl,rfl⟩,⟨rfl,rfl⟩,trivial⟩,renR_ob (o:=o) hM (rN _ rfl) (.rsl _ _ _ _ _ _ rfl) (rX _ rfl),⟨rfl,rfl⟩,⟨rfl,rfl⟩,trivial⟩,⟨rfl,bn⟩,⟨rfl,bx⟩,trivial⟩,hq⟩⟩
theorem st_lnk1t {y:Rw} {i:Nat} {Rs:List AV} {M N C:AV} {BN BC:Option Blk} (o:Ob) (g:Go1 i Rs y) (hM:closedA M=true) (rN:Rv 1 N) (rX:Rv 3 C) (bn:ClosedOB BN) (bx:ClosedOB BC) (hk:y.k%9=4) {l:List Lk} (hl:l.length≤1000) (hin:hasLk (lkOf y) l=true):Step (stO (oW (.ofNat i) Rs (obF o M N (.rsl true 2 0 l.length 2) C) [(2,.cells (flat (l.map lkA)),.whole)]) [(1,BN),(3,BC)]) (stO (oW (.ofNat (i+1)) Rs (obF o M N (.rsl true 2 0 l.length 2) C) [(2,.cells (flat (l.map lkA)),.whole)]) [(1,BN),(3,BC)]):=by
 intro Q hq
 have hR:=g.c
 refine ALp.roundO (A:=oA 4 0 y [] [(22,fun s Q=>seesO 0 [(0,0),(1,1),(2,2),(3,3),(4,4),(5,41)] (ilnkV (.ofNat i) Rs (obF o M N (.rsl true 2 0 l.length 2) C) [I (wrapA .i64 (101+y.a%5)),.str (ofL idL [] y.b)] false 0 [(2,.cells (flat (l.map lkA)),.whole)]) [(1,BN),(3,BC)] s∧Q (.exit 3) (stO (ilnkV (.ofNat i) Rs (obF o M N (.rsl true 2 0 l.length 2) C) [I (wrapA .i64 (101+y.a%5)),.str (ofL idL [] y.b)] true (.ofNat l.length) [(2,.cells (flat (l.map lkA)),.whole)]) [(1,BN),(3,BC)]))] none (ofL idL [] y.b)) (V1:=oW (.ofNat (i+1)) Rs (obF o M N (.rsl true 2 0 l.length 2) C) [(2,.cells (flat (l.map lkA)),.whole)]) (F:=oW (.ofNat i) Rs [] []) (opt:=[(1,BN),(3,BC)]) (opt':=[]) (lk:=[(0,0),(1,1),(2,2),(3,3),(4,4)]) (lk':=[]) base0 aidJ_ok (LsOk.at1 rfl lnk_at fun st Q hs=> .seenO base0.glob hs.1 (lnk_loop (x:=lkOf y) g.c hM rN rX bn bx hl l.length 0 false (by omega) (by rw[List.drop_zero,hin];exact hs.2))) .refl ?_
 rw[ob_lnk1t,g.w]
 exact ⟨g.a,g.b,g.x,pk hk (by decide) (by decide),pick_sem _ (by decide) (by decide),id_sem _,⟨⟨⟨⟨rfl,hR⟩,⟨rfl,rfl⟩,⟨rfl,rfl⟩,⟨rfl,rfl⟩,trivial⟩,⟨⟨rfl,rfl⟩,⟨rfl,rfl⟩,⟨rfl,rfl⟩,trivial⟩,renR_ob (o:=o) hM (rN _ rfl) (.rsl _ _ _ _ _ _ rfl) (rX _ rfl),⟨rfl,rfl⟩,⟨rfl,rfl⟩,⟨rfl,closed_flk l⟩,trivial⟩,⟨rfl,bn⟩,⟨rfl,bx⟩,trivial⟩,⟨⟨⟨⟨⟨rfl,g.c⟩,⟨rfl,rfl⟩,trivial⟩,⟨⟨rfl,rfl⟩,⟨rfl,rfl⟩,trivial⟩,renR_ob (o:=o) hM (rN _ rfl) (.rsl _ _ _ _ _ _ rfl) (rX _ rfl),⟨rfl,rfl⟩,⟨rfl,closed_flk l⟩,trivial⟩,⟨rfl,bn⟩,⟨rfl,bx⟩,trivial⟩,hq⟩⟩
theorem flat_lnk:∀l:List Lk,(flat (l.map lkA)).length=l.length*2
 |[]=>rfl
 |_::r=>by
  have ih:=flat_lnk r
  rw[List.length_cons,Nat.succ_mul,←ih]
  rfl
theorem st_lnk1f {y:Rw} {i:Nat} {Rs:List AV} {M N C:AV} {BN BC:Option Blk} (o:Ob) (g:Go1 i Rs y) (hM:closedA M=true) (rN:Rv 1 N) (rX:Rv 3 C) (bn:ClosedOB BN) (bx:ClosedOB BC) (hk:y.k%9=4) {l:List Lk} (hl:l.length≤1000) (hin:hasLk (lkOf y) l=false):Step (stO (oW (.ofNat i) Rs (obF o M N (.rsl true 2 0 l.length 2) C) [(2,.cells (flat (l.map lkA)),.whole)]) [(1,BN),(3,BC)]) (stO (oW (.ofNat (i+1)) Rs (obF o M N (.rsl true 2 0 (l.length+1) 2) C) [(2,.cells (flat (l.map lkA)++[I (wrapA .i64 (101+y.a%5)),.str (ofL idL [] y.b)]),.whole)]) [(1,BN),(3,BC)]):=by
 intro Q hq
 have hR:=g.c
 refine ALp.roundO (A:=oA 4 0 y [] [(22,fun s Q=>seesO 0 [(0,0),(1,1),(2,2),(3,3),(4,4),(5,41)] (ilnkV (.ofNat i) Rs (obF o M N (.rsl true 2 0 l.length 2) C) [I (wrapA .i64 (101+y.a%5)),.str (ofL idL [] y.b)] false 0 [(2,.cells (flat (l.map lkA)),.whole)]) [(1,BN),(3,BC)] s∧Q (.exit 3) (stO (ilnkV (.ofNat i) Rs (obF o M N (.rsl true 2 0 l.length 2) C) [I (wrapA .i64 (101+y.a%5)),.str (ofL idL [] y.b)] false (.ofNat l.length) [(2,.cells (flat (l.map lkA)),.whole)]) [(1,BN),(3,BC)]))] none (ofL idL [] y.b)) (V1:=oW (.ofNat (i+1)) Rs (obF o M N (.rsl true 2 0 (l.length+1) 2) C) [(2,.cells (flat (l.map lkA)++[I (wrapA .i64 (101+y.a%5)),.str (ofL idL [] y.b)]),.whole)]) (F:=oW (.ofNat i) Rs [] []) (opt:=[(1,BN),(3,BC)]) (opt':=[]) (lk:=[(0,0),(1,1),(2,13),(3,3),(4,4)]) (lk':=[]) base0 aidJ_ok (LsOk.at1 rfl lnk_at fun st Q hs=> .seenO base0.glob hs.1 (lnk_loop (x:=lkOf y) g.c hM rN rX bn bx hl l.length 0 false (by omega) (by rw[List.drop_zero,hin];exact hs.2))) .refl ?_
 rw[ob_lnk1f,g.w]
 exact ⟨g.a,g.b,g.x,pk hk (by decide) (by decide),pick_sem _ (by decide) (by decide),id_sem _,⟨⟨⟨⟨rfl,hR⟩,⟨rfl,rfl⟩,⟨rfl,rfl⟩,⟨rfl,rfl⟩,trivial⟩,⟨⟨rfl,rfl⟩,⟨rfl,rfl⟩,⟨rfl,rfl⟩,trivial⟩,renR_ob (o:=o) hM (rN _ rfl) (.rsl _ _ _ _ _ _ rfl) (rX _ rfl),⟨rfl,rfl⟩,⟨rfl,rfl⟩,⟨rfl,closed_flk l⟩,trivial⟩,⟨rfl,bn⟩,⟨rfl,bx⟩,trivial⟩,oblB_of (by simp[allSize,allOne,flat,AV.cells,lenN];omega) (oblB_of (by simp[lenN_eq,flat_lnk]) ⟨⟨⟨⟨⟨rfl,g.c⟩,⟨rfl,rfl⟩,trivial⟩,⟨⟨rfl,rfl⟩,⟨rfl,rfl⟩,trivial⟩,renR_ob (o:=o) hM (rN _ rfl) (.rsl _ _ _ _ _ _ rfl) (rX _ rfl),⟨rfl,rfl⟩,⟨rfl,by simp[closedAll_append,closed_flk];rfl⟩,trivial⟩,⟨rfl,bn⟩,⟨rfl,bx⟩,trivial⟩,hq⟩)⟩
def hasCu (x:Cu) (l:List Cu):Bool:=l.any fun z=>cuEq z x
theorem cus_none {i:Nat} {Rs:List AV} {o:Ob} {M N L:AV} {BN BL:Option Blk} {x:Cu} {b:Bool} (hR:closedAll Rs=true) (hM:closedA M=true) (rN:Rv 1 N) (rX:Rv 2 L) (bn:ClosedOB BN) (bx:ClosedOB BL) {Q:AExit→St→Prop} (hq:Q (.exit 5) (stO (icusV (.ofNat i) Rs (obF o M N L .nilsl) [.str x.name,.str x.text] b 0 []) [(1,BN),(2,BL)])):ALp Tryz.prog opts0.glob 0 (lpCode Tryz.prog 22 34) (stO (icusV (.ofNat i) Rs (obF o M N L .nilsl) [.str x.name,.str x.text] b 0 []) [(1,BN),(2,BL)]) Q:=by
 refine ALp.roundO (A:=aidJ [] [] noSem [] []) (V1:=icusV (.ofNat i) Rs [] [] b 0 []) (F:=icusV (.ofNat i) Rs (obF o M N L .nilsl) [.str x.name,.str x.text] b 0 []) (opt:=[]) (opt':=[(1,BN),(2,BL)]) (lk:=[]) (lk':=[(0,0),(1,1),(2,2),(4,4),(5,5)]) base0 aidJ_ok (LsOk.no rfl) .refl ?_
 rw[icus_nil]
 exact ⟨⟨⟨⟨⟨rfl,hR⟩,⟨rfl,rfl⟩,⟨rfl,rfl⟩,⟨rfl,rfl⟩,trivial⟩,⟨⟨rfl,rfl⟩,⟨rfl,rfl⟩,⟨rfl,rfl⟩,trivial⟩,renR_ob (o:=o) hM (rN _ rfl) (rX _ rfl) (.same _ rfl),⟨rfl,rfl⟩,⟨rfl,rfl⟩,trivial⟩,⟨rfl,bn⟩,⟨rfl,bx⟩,trivial⟩,hq⟩
theorem cus_loop {i:Nat} {Rs:List AV} {o:Ob} {M N L:AV} {BN BL:Option Blk} {x:Cu} (hR:closedAll Rs=true) (hM:closedA M=true) (rN:Rv 1 N) (rX:Rv 2 L) (bn:ClosedOB BN) (bx:ClosedOB BL) {l:List Cu} (hl:l.length≤1000) {Q:AExit→St→Prop}:∀ (m t:Nat) (b:Bool),t+m=l.length→Q (.exit 5) (stO (icusV (.ofNat i) Rs (obF o M N L (.rsl true 3 0 l.length 2)) [.str x.name,.str x.text] (b||hasCu x (l.drop t)) (.ofNat l.length) [(3,.cells (flat (l.map cuA)),.whole)]) [(1,BN),(2,BL)])→ALp Tryz.prog opts0.glob 0 (lpCode Tryz.prog 22 34) (stO (icusV (.ofNat i) Rs (obF o M N L (.rsl true 3 0 l.length 2)) [.str x.name,.str x.text] b (.ofNat t) [(3,.cells (flat (l.map cuA)),.whole)]) [(1,BN),(2,BL)]) Q:=by
 have hc:=closed_fcu l
 intro m
 induction m with
 |zero=>
  intro t b ht hq
  rw[Nat.add_zero] at ht
  subst ht
  rw[List.drop_of_length_le (Nat.le_refl _),show hasCu x []=false from rfl,Bool.or_false] at hq
  refine ALp.roundO (A:=aidJ [(23,5,.res .nilp),(35,5,.res .nilp)] [] noSem [] []) (V1:=icusV (.ofNat i) Rs [] [] b 0 []) (F:=icusV (.ofNat i) Rs (obF o M N L (.rsl true 3 0 l.length 2)) [.str x.name,.str x.text] b (.ofNat l.length) [(3,.cells (flat (l.map cuA)),.whole)]) (opt:=[]) (opt':=[(1,BN),(2,BL)]) (lk:=[]) (lk':=[(0,0),(1,1),(2,2),(3,3),(4,4),(5,5)]) base0 aidJ_ok (LsOk.no rfl) .refl ?_
  rw[icus_end]
  refine mtB_of (fun e=> ?_) (fun _=>⟨⟨⟨⟨⟨rfl,hR⟩,⟨rfl,rfl⟩,⟨rfl,rfl⟩,⟨rfl,rfl⟩,trivial⟩,⟨⟨rfl,rfl⟩,⟨rfl,rfl⟩,⟨rfl,rfl⟩,trivial⟩,renR_ob (o:=o) hM (rN _ rfl) (rX _ rfl) (.rsl _ _ _ _ _ _ rfl),⟨rfl,rfl⟩,⟨rfl,rfl⟩,⟨rfl,hc⟩,trivial⟩,⟨rfl,bn⟩,⟨rfl,bx⟩,trivial⟩,hq⟩)
  have e:=ltInt_iff.1 e
  omega
 | succ m ih=>
  intro t b ht hq
  have hi:t<l.length:=by omega
  have g1:=List.getElem?_eq_getElem hi
  rw[List.drop_eq_getElem_cons hi] at hq
  revert g1 hq
  generalize l[t]=z
  intro hq g1
  have hw:wrapA .i64 (Int.ofNat t+1)=Int.ofNat (t+1):=wrapA_i64 (by simp;omega) (by simp;omega)
  have hob:(nonneg (Int.ofNat t)&&((Int.ofNat t).toNat.blt l.length&&true))=true:=by
   simp only[nonneg,Bool.true_and,Bool.and_true]
   exact blt_iff.2 hi
  have hn:=ih (t+1) (b||cuEq z x) (by omega) (by
   simpa only[hasCu,List.any_cons,Bool.or_assoc] using hq)
  refine ALp.roundO (A:=aidJ [(33,4,.res (.bool true)),(35,6,.ld (.agg [.str z.name,.str z.text]))] [] noSem [] []) (V1:=icusV (.ofNat i) Rs (obF o M N L (.rsl true 3 0 l.length 2)) [.str x.name,.str x.text] (b||cuEq z x) (.ofNat (t+1)) [(3,.cells (flat (l.map cuA)),.whole)]) (F:=icusV (.ofNat i) Rs [] [] b 0 []) (opt:=[(1,BN),(2,BL)]) (opt':=[]) (lk:=[(0,0),(1,1),(2,2),(3,3),(4,4),(5,5)]) (lk':=[]) base0 aidJ_ok (LsOk.no rfl) .refl ?_
  rw[icus_go,hw]
  refine ⟨lss_t (by simp;omega),mtB_of (fun e=>⟨⟨⟨⟨⟨rfl,hR⟩,⟨rfl,rfl⟩,⟨by rw[e];rfl,rfl⟩,⟨rfl,rfl⟩,trivial⟩,⟨⟨rfl,rfl⟩,⟨rfl,rfl⟩,⟨rfl,rfl⟩,trivial⟩,renR_ob (o:=o) hM (rN _ rfl) (rX _ rfl) (.rsl _ _ _ _ _ _ rfl),⟨rfl,rfl⟩,⟨rfl,rfl⟩,⟨rfl,hc⟩,trivial⟩,⟨rfl,bn⟩,⟨rfl,bx⟩,trivial⟩,hn⟩)
   (fun e=>oblB_of hob ⟨part_cu g1,⟨⟨⟨⟨rfl,hR⟩,⟨rfl,rfl⟩,⟨by rw[e];rfl,rfl⟩,⟨rfl,rfl⟩,trivial⟩,⟨⟨rfl,rfl⟩,⟨rfl,rfl⟩,⟨rfl,rfl⟩,trivial⟩,renR_ob (o:=o) hM (rN _ rfl) (rX _ rfl) (.rsl _ _ _ _ _ _ rfl),⟨rfl,rfl⟩,⟨rfl,rfl⟩,⟨rfl,hc⟩,trivial⟩,⟨rfl,bn⟩,⟨rfl,bx⟩,trivial⟩,hn⟩)⟩
theorem cus_at:loopsAt (lpCode Tryz.prog 22 5) 34=[lpCode Tryz.prog 22 34]:=by kernel_rfl
def cnL:List (List UInt8):=[[120,45,97],[120,45,98]]
def ctL:List (List UInt8):=[[111,110,101],[116,119,111],[116,104,114,101,101],[102,111,117,114]]
def cuOf (y:Rw):Cu:=⟨ofL cnL [] y.a,ofL ctL [] y.b⟩
theorem idx_cn (n:Int):indexA Tryz.prog 108 (.agg (cnL.map .str)) (I (n%2))=some (.str (ofL cnL [] n)):=
 idx_pick (T:=108) (d:=[]) (l:=cnL) (f:= .str) (by decide) fun k x h=>by
  match k,h with
  |0,h=>obtain rfl:_=x:=Option.some.inj h;show indexA _ _ _ _=_;kernel_rfl
  |1,h=>obtain rfl:_=x:=Option.some.inj h;show indexA _ _ _ _=_;kernel_rfl
theorem idx_ct (n:Int):indexA Tryz.prog 109 (.agg (ctL.map .str)) (I (n%4))=some (.str (ofL ctL [] n)):=
 idx_pick (T:=109) (d:=[]) (l:=ctL) (f:= .str) (by decide) fun k x h=>by
  match k,h with
  |0,h=>obtain rfl:_=x:=Option.some.inj h;show indexA _ _ _ _=_;kernel_rfl
  |1,h=>obtain rfl:_=x:=Option.some.inj h;show indexA _ _ _ _=_;kernel_rfl
  |2,h=>obtain rfl:_=x:=Option.some.inj h;show indexA _ _ _ _=_;kernel_rfl
  |3,h=>obtain rfl:_=x:=Option.some.inj h;show indexA _ _ _ _=_;kernel_rfl
theorem st_cus0 {y:Rw} {i:Nat} {Rs:List AV} {M N L:AV} {BN BL:Option Blk} (o:Ob) (g:Go1 i Rs y) (hM:closedA M=true) (rN:Rv 1 N) (rX:Rv 2 L) (bn:ClosedOB BN) (bx:ClosedOB BL) (hk:y.k%9=6):Step (stO (oW (.ofNat i) Rs (obF o M N L .nilsl) []) [(1,BN),(2,BL)]) (stO (oW (.ofNat (i+1)) Rs (obF o M N L (.rsl true 3 0 1 2)) [(3,.cells [.str (ofL cnL [] y.a),.str (ofL ctL [] y.b)],.whole)]) [(1,BN),(2,BL)]):=by
 intro Q hq
 have hR:=g.c
 refine ALp.roundO (A:=oA 6 0 y [(30,4,.res (.str (ofL cnL [] y.a))),(30,9,.res (.str (ofL ctL [] y.b)))] [(34,fun s Q=>seesO 0 [(0,0),(1,1),(2,2),(4,4),(5,48)] (icusV (.ofNat i) Rs (obF o M N L .nilsl) [.str (ofL cnL [] y.a),.str (ofL ctL [] y.b)] false 0 []) [(1,BN),(2,BL)] s∧Q (.exit 5) (stO (icusV (.ofNat i) Rs (obF o M N L .nilsl) [.str (ofL cnL [] y.a),.str (ofL ctL [] y.b)] false 0 []) [(1,BN),(2,BL)]))] none []) (V1:=oW (.ofNat (i+1)) Rs (obF o M N L (.rsl true 3 0 1 2)) [(3,.cells [.str (ofL cnL [] y.a),.str (ofL ctL [] y.b)],.whole)]) (F:=oW (.ofNat i) Rs [] []) (opt:=[(1,BN),(2,BL)]) (opt':=[]) (lk:=[(0,0),(1,1),(2,2),(3,19),(4,4)]) (lk':=[]) base0 aidJ_ok (LsOk.at1 rfl cus_at fun st Q hs=> .seenO base0.glob hs.1 (cus_none (x:=cuOf y) g.c hM rN rX bn bx hs.2)) .refl ?_
 rw[ob_cus0,g.w]
 exact ⟨g.a,g.b,g.x,pk hk (by decide) (by decide),pick_sem _ (by decide) (by decide),idx_cn _,pick_sem _ (by decide) (by decide),idx_ct _,⟨⟨⟨⟨rfl,hR⟩,⟨rfl,rfl⟩,⟨rfl,rfl⟩,⟨rfl,rfl⟩,trivial⟩,⟨⟨rfl,rfl⟩,⟨rfl,rfl⟩,⟨rfl,rfl⟩,trivial⟩,renR_ob (o:=o) hM (rN _ rfl) (rX _ rfl) (.same _ rfl),⟨rfl,rfl⟩,⟨rfl,rfl⟩,trivial⟩,⟨rfl,bn⟩,⟨rfl,bx⟩,trivial⟩,⟨⟨⟨⟨⟨rfl,g.c⟩,⟨rfl,rfl⟩,trivial⟩,⟨⟨rfl,rfl⟩,⟨rfl,rfl⟩,trivial⟩,renR_ob (o:=o) hM (rN _ rfl) (rX _ rfl) (.rsl _ _ _ _ _ _ rfl),⟨rfl,rfl⟩,⟨rfl,rfl⟩,trivial⟩,⟨rfl,bn⟩,⟨rfl,bx⟩,trivial⟩,hq⟩⟩
theorem st_cus1t {y:Rw} {i:Nat} {Rs:List AV} {M N L:AV} {BN BL:Option Blk} (o:Ob) (g:Go1 i Rs y) (hM:closedA M=true) (rN:Rv 1 N) (rX:Rv 2 L) (bn:ClosedOB BN) (bx:ClosedOB BL) (hk:y.k%9=6) {l:List Cu} (hl:l.length≤1000) (hin:hasCu (cuOf y) l=true):Step (stO (oW (.ofNat i) Rs (obF o M N L (.rsl true 3 0 l.length 2)) [(3,.cells (flat (l.map cuA)),.whole)]) [(1,BN),(2,BL)]) (stO (oW (.ofNat (i+1)) Rs (obF o M N L (.rsl true 3 0 l.length 2)) [(3,.cells (flat (l.map cuA)),.whole)]) [(1,BN),(2,BL)]):=by
 intro Q hq
 have hR:=g.c
 refine ALp.roundO (A:=oA 6 0 y [(30,4,.res (.str (ofL cnL [] y.a))),(30,9,.res (.str (ofL ctL [] y.b)))] [(34,fun s Q=>seesO 0 [(0,0),(1,1),(2,2),(3,3),(4,4),(5,48)] (icusV (.ofNat i) Rs (obF o M N L (.rsl true 3 0 l.length 2)) [.str (ofL cnL [] y.a),.str (ofL ctL [] y.b)] false 0 [(3,.cells (flat (l.map cuA)),.whole)]) [(1,BN),(2,BL)] s∧Q (.exit 5) (stO (icusV (.ofNat i) Rs (obF o M N L (.rsl true 3 0 l.length 2)) [.str (ofL cnL [] y.a),.str (ofL ctL [] y.b)] true (.ofNat l.length) [(3,.cells (flat (l.map cuA)),.whole)]) [(1,BN),(2,BL)]))] none []) (V1:=oW (.ofNat (i+1)) Rs (obF o M N L (.rsl true 3 0 l.length 2)) [(3,.cells (flat (l.map cuA)),.whole)]) (F:=oW (.ofNat i) Rs [] []) (opt:=[(1,BN),(2,BL)]) (opt':=[]) (lk:=[(0,0),(1,1),(2,2),(3,3),(4,4)]) (lk':=[]) base0 aidJ_ok (LsOk.at1 rfl cus_at fun st Q hs=> .seenO base0.glob hs.1 (cus_loop (x:=cuOf y) g.c hM rN rX bn bx hl l.length 0 false (by omega) (by rw[List.drop_zero,hin];exact hs.2))) .refl ?_
 rw[ob_cus1t,g.w]
 exact ⟨g.a,g.b,g.x,pk hk (by decide) (by decide),pick_sem _ (by decide) (by decide),idx_cn _,pick_sem _ (by decide) (by decide),idx_ct _,⟨⟨⟨⟨rfl,hR⟩,⟨rfl,rfl⟩,⟨rfl,rfl⟩,⟨rfl,rfl⟩,trivial⟩,⟨⟨rfl,rfl⟩,⟨rfl,rfl⟩,⟨rfl,rfl⟩,trivial⟩,renR_ob (o:=o) hM (rN _ rfl) (rX _ rfl) (.rsl _ _ _ _ _ _ rfl),⟨rfl,rfl⟩,⟨rfl,rfl⟩,⟨rfl,closed_fcu l⟩,trivial⟩,⟨rfl,bn⟩,⟨rfl,bx⟩,trivial⟩,⟨⟨⟨⟨⟨rfl,g.c⟩,⟨rfl,rfl⟩,trivial⟩,⟨⟨rfl,rfl⟩,⟨rfl,rfl⟩,trivial⟩,renR_ob (o:=o) hM (rN _ rfl) (rX _ rfl) (.rsl _ _ _ _ _ _ rfl),⟨rfl,rfl⟩,⟨rfl,closed_fcu l⟩,trivial⟩,⟨rfl,bn⟩,⟨rfl,bx⟩,trivial⟩,hq⟩⟩
theorem flat_cus:∀l:List Cu,(flat (l.map cuA)).length=l.length*2
 |[]=>rfl
 |_::r=>by
  have ih:=flat_cus r
  rw[List.length_cons,Nat.succ_mul,←ih]
  rfl
theorem st_cus1f {y:Rw} {i:Nat} {Rs:List AV} {M N L:AV} {BN BL:Option Blk} (o:Ob) (g:Go1 i Rs y) (hM:closedA M=true) (rN:Rv 1 N) (rX:Rv 2 L) (bn:ClosedOB BN) (bx:ClosedOB BL) (hk:y.k%9=6) {l:List Cu} (hl:l.length≤1000) (hin:hasCu (cuOf y) l=false) (h6:l.length<6):Step (stO (oW (.ofNat i) Rs (obF o M N L (.rsl true 3 0 l.length 2)) [(3,.cells (flat (l.map cuA)),.whole)]) [(1,BN),(2,BL)]) (stO (oW (.ofNat (i+1)) Rs (obF o M N L (.rsl true 3 0 (l.length+1) 2)) [(3,.cells (flat (l.map cuA)++[.str (ofL cnL [] y.a),.str (ofL ctL [] y.b)]),.whole)]) [(1,BN),(2,BL)]):=by
 intro Q hq
 have hR:=g.c
 refine ALp.roundO (A:=oA 6 0 y [(30,4,.res (.str (ofL cnL [] y.a))),(30,9,.res (.str (ofL ctL [] y.b))),(36,6,.res (.bool true))] [(34,fun s Q=>seesO 0 [(0,0),(1,1),(2,2),(3,3),(4,4),(5,48)] (icusV (.ofNat i) Rs (obF o M N L (.rsl true 3 0 l.length 2)) [.str (ofL cnL [] y.a),.str (ofL ctL [] y.b)] false 0 [(3,.cells (flat (l.map cuA)),.whole)]) [(1,BN),(2,BL)] s∧Q (.exit 5) (stO (icusV (.ofNat i) Rs (obF o M N L (.rsl true 3 0 l.length 2)) [.str (ofL cnL [] y.a),.str (ofL ctL [] y.b)] false (.ofNat l.length) [(3,.cells (flat (l.map cuA)),.whole)]) [(1,BN),(2,BL)]))] none []) (V1:=oW (.ofNat (i+1)) Rs (obF o M N L (.rsl true 3 0 (l.length+1) 2)) [(3,.cells (flat (l.map cuA)++[.str (ofL cnL [] y.a),.str (ofL ctL [] y.b)]),.whole)]) (F:=oW (.ofNat i) Rs [] []) (opt:=[(1,BN),(2,BL)]) (opt':=[]) (lk:=[(0,0),(1,1),(2,2),(3,19),(4,4)]) (lk':=[]) base0 aidJ_ok (LsOk.at1 rfl cus_at fun st Q hs=> .seenO base0.glob hs.1 (cus_loop (x:=cuOf y) g.c hM rN rX bn bx hl l.length 0 false (by omega) (by rw[List.drop_zero,hin];exact hs.2))) .refl ?_
 rw[ob_cus1f,g.w]
 exact ⟨g.a,g.b,g.x,pk hk (by decide) (by decide),pick_sem _ (by decide) (by decide),idx_cn _,pick_sem _ (by decide) (by decide),idx_ct _,⟨⟨⟨⟨rfl,hR⟩,⟨rfl,rfl⟩,⟨rfl,rfl⟩,⟨rfl,rfl⟩,trivial⟩,⟨⟨rfl,rfl⟩,⟨rfl,rfl⟩,⟨rfl,rfl⟩,trivial⟩,renR_ob (o:=o) hM (rN _ rfl) (rX _ rfl) (.rsl _ _ _ _ _ _ rfl),⟨rfl,rfl⟩,⟨rfl,rfl⟩,⟨rfl,closed_fcu l⟩,trivial⟩,⟨rfl,bn⟩,⟨rfl,bx⟩,trivial⟩,lss_t (by simp;omega),oblB_of (by simp[allSize,allOne,flat,AV.cells,lenN];omega) (oblB_of (by simp[lenN_eq,flat_cus]) ⟨⟨⟨⟨⟨rfl,g.c⟩,⟨rfl,rfl⟩,trivial⟩,⟨⟨rfl,rfl⟩,⟨rfl,rfl⟩,trivial⟩,renR_ob (o:=o) hM (rN _ rfl) (rX _ rfl) (.rsl _ _ _ _ _ _ rfl),⟨rfl,rfl⟩,⟨rfl,by simp[closedAll_append,closed_fcu];rfl⟩,trivial⟩,⟨rfl,bn⟩,⟨rfl,bx⟩,trivial⟩,hq⟩)⟩
theorem st_cus1s {y:Rw} {i:Nat} {Rs:List AV} {M N L:AV} {BN BL:Option Blk} (o:Ob) (g:Go1 i Rs y) (hM:closedA M=true) (rN:Rv 1 N) (rX:Rv 2 L) (bn:ClosedOB BN) (bx:ClosedOB BL) (hk:y.k%9=6) {l:List Cu} (hl:l.length≤1000) (hin:hasCu (cuOf y) l=false) (h6:6≤l.length):Step (stO (oW (.ofNat i) Rs (obF o M N L (.rsl true 3 0 l.length 2)) [(3,.cells (flat (l.map cuA)),.whole)]) [(1,BN),(2,BL)]) (stO (oW (.ofNat (i+1)) Rs (obF o M N L (.rsl true 3 0 l.length 2)) [(3,.cells (flat (l.map cuA)),.whole)]) [(1,BN),(2,BL)]):=by
 intro Q hq
 have hR:=g.c
 refine ALp.roundO (A:=oA 6 0 y [(30,4,.res (.str (ofL cnL [] y.a))),(30,9,.res (.str (ofL ctL [] y.b))),(36,6,.res (.bool false))] [(34,fun s Q=>seesO 0 [(0,0),(1,1),(2,2),(3,3),(4,4),(5,48)] (icusV (.ofNat i) Rs (obF o M N L (.rsl true 3 0 l.length 2)) [.str (ofL cnL [] y.a),.str (ofL ctL [] y.b)] false 0 [(3,.cells (flat (l.map cuA)),.whole)]) [(1,BN),(2,BL)] s∧Q (.exit 5) (stO (icusV (.ofNat i) Rs (obF o M N L (.rsl true 3 0 l.length 2)) [.str (ofL cnL [] y.a),.str (ofL ctL [] y.b)] false (.ofNat l.length) [(3,.cells (flat (l.map cuA)),.whole)]) [(1,BN),(2,BL)]))] none []) (V1:=oW (.ofNat (i+1)) Rs (obF o M N L (.rsl true 3 0 l.length 2)) [(3,.cells (flat (l.map cuA)),.whole)]) (F:=oW (.ofNat i) Rs [] []) (opt:=[(1,BN),(2,BL)]) (opt':=[]) (lk:=[(0,0),(1,1),(2,2),(3,3),(4,4)]) (lk':=[]) base0 aidJ_ok (LsOk.at1 rfl cus_at fun st Q hs=> .seenO base0.glob hs.1 (cus_loop (x:=cuOf y) g.c hM rN rX bn bx hl l.length 0 false (by omega) (by rw[List.drop_zero,hin];exact hs.2))) .refl ?_
 rw[ob_cus1s,g.w]
 exact ⟨g.a,g.b,g.x,pk hk (by decide) (by decide),pick_sem _ (by decide) (by decide),idx_cn _,pick_sem _ (by decide) (by decide),idx_ct _,⟨⟨⟨⟨rfl,hR⟩,⟨rfl,rfl⟩,⟨rfl,rfl⟩,⟨rfl,rfl⟩,trivial⟩,⟨⟨rfl,rfl⟩,⟨rfl,rfl⟩,⟨rfl,rfl⟩,trivial⟩,renR_ob (o:=o) hM (rN _ rfl) (rX _ rfl) (.rsl _ _ _ _ _ _ rfl),⟨rfl,rfl⟩,⟨rfl,rfl⟩,⟨rfl,closed_fcu l⟩,trivial⟩,⟨rfl,bn⟩,⟨rfl,bx⟩,trivial⟩,lss_f (by simp;omega),⟨⟨⟨⟨⟨rfl,g.c⟩,⟨rfl,rfl⟩,trivial⟩,⟨⟨rfl,rfl⟩,⟨rfl,rfl⟩,trivial⟩,renR_ob (o:=o) hM (rN _ rfl) (rX _ rfl) (.rsl _ _ _ _ _ _ rfl),⟨rfl,rfl⟩,⟨rfl,closed_fcu l⟩,trivial⟩,⟨rfl,bn⟩,⟨rfl,bx⟩,trivial⟩,hq⟩⟩
noncomputable section
def byV (n i:Nat) (x:Int) (es:List AV):View:=⟨[(0,I (.ofNat n)),(6,.int .u64 x),(7,I (.ofNat i))],[(5,.rsl true 0 0 n 1)],[(0,.cells es,.whole)],1,27⟩
@[simp] abbrev za1 (n:Nat):=(I (Int.ofNat n)=I (Int.ofNat n)∧closedA (I (Int.ofNat n))=true)
theorem by_round (n i j:Nat) (x x':Int) (es es':List AV) (N:Prop) (Q:AExit→St→Prop):wpK Tryz.prog opts0 40 (aidJ [] [] noSem [] []) (lpCode Tryz.prog 68 5) (byV n i x es).st (roundP 0 [(0,0)] (byV n j x' es') N [(0,0)] (byV n i x es) Q)=
  (mtB (ltInt (Int.ofNat i) (Int.ofNat n)) (oblB (nonneg (Int.ofNat i)&&((Int.ofNat i).toNat.blt n&&true)) (oblB ((0+(Int.ofNat i).toNat*1+1).ble (lenN es)) ((((za1 n)∧(AV.int IntKind.u64 (wrapA IntKind.u64 (wrapA IntKind.u64 (x*6364136223846793005)+1442695040888963407))=AV.int IntKind.u64 x'∧closedA (AV.int IntKind.u64 x')=true)∧(I (wrapA IntKind.i64 (Int.ofNat i+1))=I (Int.ofNat j)∧closedA (I (Int.ofNat j))=true)∧True)∧((true=true∧some 0=some 0∧0=0∧n=n∧1=1)∧True)∧(List.take (0+(Int.ofNat i).toNat*1) es++AV.int IntKind.u8 (wrapA IntKind.u8 ((wrapA IntKind.u64 (wrapA IntKind.u64 (x*6364136223846793005)+1442695040888963407)).fdiv 1099511627776))::List.drop (0+(Int.ofNat i).toNat*1+lenN [AV.int IntKind.u8 (wrapA IntKind.u8 ((wrapA IntKind.u64 (wrapA IntKind.u64 (x*6364136223846793005)+1442695040888963407)).fdiv 1099511627776))]) es=es'∧closedAll es'=true)∧True)∧N))) ((((za1 n)∧(AV.int IntKind.u64 x=AV.int IntKind.u64 x∧closedA (AV.int IntKind.u64 x)=true)∧(I (Int.ofNat i)=I (Int.ofNat i)∧closedA (I (Int.ofNat i))=true)∧True)∧((true=true∧some 0=some 0∧0=0∧n=n∧1=1)∧True)∧(es=es∧closedAll es=true)∧True)∧Q (AExit.exit 0) (byV n i x es).st)):=by kernel_rfl
def byL (n:Nat) (s x:Int) (es es':List AV):LoopS:=fun st Q=>seesK 0 [(0,2)] (byV n 0 (wrapA .u64 s) es) st∧Q (.exit 0) (byV n n x es').st
theorem by_fn (n:Nat) (s x:Int) (es es':List AV) (Q:AV→Heap→Nat→Prop):fnK Tryz.prog opts0 40 (aidJ [] [(5,byL n s x es es')] noSem [] []) 68 [I (.ofNat n),I s] [] 0 Q=
  (oblB (nonneg (Int.ofNat n)&&(nonneg (Int.ofNat n)&&((Int.ofNat n).toNat.ble (Int.ofNat n).toNat&&(1*(Int.ofNat n).toNat).ble 281474976710656&&(Int.ofNat n).toNat.ble 9223372036854775807&&true&&true))) ((((za1 n)∧(AV.int IntKind.u64 (wrapA IntKind.u64 s)=AV.int IntKind.u64 (wrapA IntKind.u64 s)∧closedA (AV.int IntKind.u64 (wrapA IntKind.u64 s))=true)∧(I 0=I 0∧true=true)∧True)∧((true=true∧some 2=some 2∧0=0∧n=(Int.ofNat n).toNat∧1=1)∧True)∧(flat (repE (AV.int IntKind.u8 0) (Int.ofNat n).toNat)=es∧closedAll es=true)∧True)∧Q (AV.rsl true 0 0 n 1) [(0,some (Blk.cells es'))] 3)):=by kernel_rfl
def byS (x:Int):Int:=wrapA .u64 (wrapA .u64 (x*6364136223846793005)+1442695040888963407)
def byB (x:Int):UInt8:=UInt8.ofNat (wrapA .u8 (x.fdiv 1099511627776)).toNat
def byR:Nat→Int→List UInt8
 |0,_=>[]
 |k+1,x=>byB (byS x)::byR k (byS x)
def byE:Nat→Int→Int
 |0,x=>x
 |k+1,x=>byE k (byS x)
theorem byR_length:∀k x,(byR k x).length=k
 |0,_=>rfl
 |k+1,_x=>congrArg (· +1) (byR_length k _)
theorem byB_eq (x:Int):AV.int .u8 (wrapA .u8 (x.fdiv 1099511627776))= .int .u8 (.ofNat (byB x).toNat):=by
 unfold byB
 rw[wrapA_eq]
 generalize x.fdiv 1099511627776=y
 have h0:0≤IntKind.wrap .u8 y∧IntKind.wrap .u8 y<256:=by simp[IntKind.wrap,IntKind.signed,IntKind.bits];omega
 obtain ⟨h0,h1⟩:=h0
 congr 1
 rw[UInt8.toNat_ofNat']
 simp only[Int.ofNat_eq_natCast]
 omega
theorem by_loop {n:Nat} {Q:AExit→St→Prop} (hn:n≤1000):∀ (k:Nat) (x:Int) (p:List UInt8),p.length+k=n→Q (.exit 0) (byV n n (byE k x) (toBytes (p++byR k x))).st→ALp Tryz.prog opts0.glob 0 (lpCode Tryz.prog 68 5) (byV n p.length x (toBytes (p++List.replicate k 0))).st Q:=by
 intro k
 induction k with
 |zero=>
  intro x p hp hq
  simp only[Nat.add_zero] at hp
  subst hp
  refine ALp.round (A:=aidJ [] [] noSem [] []) (V1:=byV p.length 0 x []) (V2:=byV p.length 0 x []) (F:=byV p.length p.length x (toBytes (p++List.replicate 0 0))) (lk:=[(0,0)]) (lk':=[(0,0)]) base0 aidJ_ok (LsOk.no rfl) .refl ?_
  rw[by_round]
  refine mtB_of (fun h=> ?_) (fun _=>⟨⟨⟨⟨rfl,rfl⟩,⟨rfl,rfl⟩,⟨rfl,rfl⟩,trivial⟩,⟨⟨rfl,rfl,rfl,rfl,rfl⟩,trivial⟩,⟨rfl,closedAll_toBytes _⟩,trivial⟩,hq⟩)
  have h:=ltInt_iff.1 h
  omega
 | succ k ih=>
  intro x p hp hq
  have h2:=ih (byS x) (p++[byB (byS x)]) (by simp;omega) (by simpa [byR,byE] using hq)
  have hl:(p++[byB (byS x)]).length=p.length+1:=by simp
  rw[hl,List.append_assoc,List.singleton_append] at h2
  have hw:wrapA .i64 (Int.ofNat p.length+1)=Int.ofNat (p.length+1):=wrapA_i64 (by simp;omega) (by simp;omega)
  refine ALp.round (A:=aidJ [] [] noSem [] []) (V1:=byV n (p.length+1) (byS x) (toBytes (p++byB (byS x)::List.replicate k 0))) (V2:=byV n (p.length+1) (byS x) (toBytes (p++byB (byS x)::List.replicate k 0))) (F:=byV n p.length x (toBytes (p++List.replicate (k+1) 0))) (lk:=[(0,0)]) (lk':=[(0,0)]) base0 aidJ_ok (LsOk.no rfl) .refl ?_
  rw[by_round,hw,show wrapA .u64 (wrapA .u64 (x*6364136223846793005)+1442695040888963407)=byS x from rfl,byB_eq]
  refine mtB_of (fun _=>oblB_of ?_ (oblB_of ?_ ⟨⟨⟨⟨rfl,rfl⟩,⟨rfl,rfl⟩,⟨rfl,rfl⟩,trivial⟩,⟨⟨rfl,rfl,rfl,rfl,rfl⟩,trivial⟩,⟨?_,closedAll_toBytes _⟩,trivial⟩,h2⟩)) (fun h=> ?_)
  ·simp only[nonneg,Bool.true_and,Bool.and_true]
   exact blt_iff.2 (by simp;omega)
  ·rw[lenN_toBytes]
   simp
  ·simp[toBytes_map,lenN,List.replicate_succ]
   rw[List.drop_append,List.drop_of_length_le (by simp),List.nil_append,List.length_map,Nat.add_sub_cancel_left]
   rfl
  ·have h:=ltInt_false.1 h
   simp only[Int.ofNat_eq_natCast] at h
   omega
theorem by_at:loopsAt (fnCode Tryz.prog 68) 5=[lpCode Tryz.prog 68 5]:=by kernel_rfl
theorem bytes_sem {n:Nat} (hn:n≤1000) (s:Int):SC 68 [I (.ofNat n),I s] (.fsl false (toBytes (byR n (wrapA .u64 s)))):=by
 refine fnK_semX (A:=aidJ [] [(5,byL n s (byE n (wrapA .u64 s)) (toBytes ([]++List.replicate n 0)) (toBytes ([]++byR n (wrapA .u64 s))))] noSem [] []) base0 aidJ_ok
  (fnLs_of (LsOk.at1 rfl by_at fun st Q hs=> .seen base0.glob hs.1 (by_loop hn n _ [] (by simp) hs.2))) rfl ?_
 rw[by_fn]
 refine oblB_of ?_ ⟨⟨⟨⟨rfl,rfl⟩,⟨rfl,rfl⟩,⟨rfl,rfl⟩,trivial⟩,⟨⟨rfl,rfl,rfl,rfl,rfl⟩,trivial⟩,⟨?_,closedAll_toBytes _⟩,trivial⟩, ?_⟩
 ·simp[nonneg];omega
 ·show flat (repE _ n)=_
  rw[repE_zero,flat_toBytes,List.nil_append]
 ·exact ⟨_,(Frz.bytes (s:=byR n (wrapA .u64 s)) rfl rfl rfl (byR_length _ _).symm).out,closedAll_toBytes _,.refl _⟩
end
end Go.Proofs.YtjhggnebkfpgcaaGreatDoor
