/- Obj2, Kinds, Texts, Put, TSame, Places, More, Ops. -/
import Derived.Test.YtjhggnebkfpgcaaGreatDoorQ2
import Derived.KernelRfl
import Derived.Test.YtjhggnebkfpgcaaGreatDoorG5
namespace Go.Proofs.YtjhggnebkfpgcaaGreatDoor
set_option maxRecDepth 20000
open Go Go.RowKit
open Go.Proofs.Abs
def idl:Nat→List (Nat × Nat)
 |0=>[]
 |n+1=>(n,n)::idl n
noncomputable def inV (s:List UInt8) (k i:Nat) (es:List AV):View:=⟨[(1,.str s),(4,.bool false),(5,I (.ofNat i))],[(0,.rsl true 1 0 k 1)],[(1,.cells es,.whole)],42,18⟩
noncomputable def inF (b:Bool) (es:List AV):View:=⟨[(4,.bool b)],[],[(1,.cells es,.whole)],60,18⟩
noncomputable def inA (x:List UInt8):Aid:=aidJ [(4,3,.ld (.str x))] [] noSem [] []
theorem in_round (s x:List UInt8) (k i j:Nat) (es:List AV) (q:Bool) (N:Prop) (Q:AExit→St→Prop):wpK Tryz.prog opts0 40 (inA x) (lpCode Tryz.prog 69 3) (inV s k i es).st (roundP 42 (idl 42) (inV s k j es) N (idl 42) (inF q es) Q)=
  (mtB (ltInt (Int.ofNat i) (Int.ofNat k)) (oblB (nonneg (Int.ofNat i)&&((Int.ofNat i).toNat.blt k&&true)) (partA Tryz.prog 9 es (0+(Int.ofNat i).toNat*1)=some (AV.str x)∧mtB (beqBytes x s) ((((AV.bool true=AV.bool q∧closedA (AV.bool q)=true)∧True)∧True∧(es=es∧closedAll es=true)∧True)∧Q AExit.ret (inF q es).st) ((((AV.str s=AV.str s∧closedA (AV.str s)=true)∧(AV.bool false=AV.bool false∧true=true)∧(I (wrapA IntKind.i64 (Int.ofNat i+1))=I (Int.ofNat j)∧closedA (I (Int.ofNat j))=true)∧True)∧((true=true∧some 1=some 1∧0=0∧k=k∧1=1)∧True)∧(es=es∧closedAll es=true)∧True)∧N))) ((((AV.bool false=AV.bool q∧closedA (AV.bool q)=true)∧True)∧True∧(es=es∧closedAll es=true)∧True)∧Q (AExit.exit 0) (inF q es).st)):=by kernel_rfl
noncomputable def inL (s:List UInt8) (k:Nat) (es:List AV) (q:Bool):LoopS:=fun st Q=>seesK 42 (idl 42) (inV s k 0 es) st∧mtB q (Q .ret (inF true es).st) (Q (.exit 0) (inF false es).st)
theorem in_fn (s:List UInt8) (k:Nat) (es:List AV) (q:Bool) (Q:AV→Heap→Nat→Prop):fnK Tryz.prog opts0 40 (aidJ [] [(3,inL s k es q)] noSem [] []) 69 [.rsl true 1 0 k 1,.str s] [(1,some (.cells es))] 42 Q=
  ((((AV.str s=AV.str s∧closedA (AV.str s)=true)∧(AV.bool false=AV.bool false∧true=true)∧(I 0=I 0∧true=true)∧True)∧((true=true∧some 1=some 1∧0=0∧k=k∧1=1)∧True)∧(es=es∧closedAll es=true)∧True)∧mtB q (Q (AV.bool true) [(1,some (Blk.cells es))] 60) (Q (AV.bool false) [(1,some (Blk.cells es))] 61)):=by kernel_rfl
theorem in_nil (s:List UInt8) (Q:AV→Prop):fnK Tryz.prog opts0 40 aid0 69 [.nilsl,.str s] [] 0 (fun v _ _=>Q v)=
  (Q (AV.bool false)):=by kernel_rfl
theorem cnt_up {p:Nat→Prop} (n:Nat) (hn:p n) (hs:∀i,i<n→p (i+1)→p i):∀i,i≤n→p i:=by
 intro i hi
 obtain ⟨m,rfl⟩:∃m,n=i+m:=⟨n-i,by omega⟩
 clear hi
 induction m generalizing i with
 |zero=>exact hn
 |succ m ih=>exact hs i (by omega) (ih (i+1) (by rw[show i+1+m=i+(m+1) by omega];exact hn) (by intro j hj;exact hs j (by omega)))
def inL' (l:List (List UInt8)) (s:List UInt8):Bool:=l.any fun x=>beqBytes x s
theorem inT:isAggA Tryz.prog 9=some false:=by kernel_rfl
theorem part_str {l:List (List UInt8)} {j:Nat} {x:List UInt8} (h:l[j]? =some x):partA Tryz.prog 9 (l.map .str) (0+j*1)=some (.str x):=by
 simp only[partA,inT,getN_eq,Nat.zero_add,Nat.mul_one,List.getElem?_map,h,Option.map_some]
theorem in_loop {s:List UInt8} {l:List (List UInt8)} {Q:AExit→St→Prop} (hb:l.length≤1000):∀i,i≤l.length→(mtB (inL' (l.drop i) s) (Q .ret (inF true (l.map .str)).st) (Q (.exit 0) (inF false (l.map .str)).st)→ALp Tryz.prog opts0.glob 42 (lpCode Tryz.prog 69 3) (inV s l.length i (l.map .str)).st Q):=by
 have hc:=closed_strs l
 refine cnt_up _ (fun hq=> ?_) (fun i hi ih hq=> ?_)
 ·rw[List.drop_of_length_le (Nat.le_refl _)] at hq
  refine ALp.round (A:=inA []) (V1:=inV s l.length 0 (l.map .str)) (V2:=inV s l.length 0 (l.map .str)) (F:=inF false (l.map .str)) (lk:=idl 42) (lk':=idl 42) base0 aidJ_ok (LsOk.no rfl) .refl ?_
  rw[in_round]
  refine mtB_of (fun h=> ?_) (fun _=>⟨⟨⟨⟨rfl,rfl⟩,trivial⟩,trivial,⟨rfl,hc⟩,trivial⟩,hq⟩)
  have h:=ltInt_iff.1 h
  simp only[Int.ofNat_eq_natCast] at h
  omega
 ·have g1:=List.getElem?_eq_getElem hi
  rw[List.drop_eq_getElem_cons hi] at hq
  revert g1 hq
  generalize l[i]=x
  intro hq g1
  simp only[inL',List.any_cons] at hq
  have hno:ltInt (Int.ofNat i) (Int.ofNat l.length)=false→False:=fun h=>by
   have h:=ltInt_false.1 h
   simp only[Int.ofNat_eq_natCast] at h
   omega
  have hob:(nonneg (Int.ofNat i)&&((Int.ofNat i).toNat.blt l.length&&true))=true:=by
   simp only[nonneg,Bool.true_and,Bool.and_true]
   exact blt_iff.2 hi
  have hw:wrapA .i64 (Int.ofNat i+1)=Int.ofNat (i+1):=wrapA_i64 (by simp;omega) (by simp;omega)
  cases hx:beqBytes x s with
  |true=>
   rw[hx] at hq
   refine ALp.round (A:=inA x) (V1:=inV s l.length (i+1) (l.map .str)) (V2:=inV s l.length (i+1) (l.map .str)) (F:=inF true (l.map .str)) (lk:=idl 42) (lk':=idl 42) base0 aidJ_ok (LsOk.no rfl) .refl ?_
   rw[in_round]
   refine mtB_of (fun _=>oblB_of hob ⟨part_str g1,mtB_of (fun _=>⟨⟨⟨⟨rfl,rfl⟩,trivial⟩,trivial,⟨rfl,hc⟩,trivial⟩,hq⟩) (fun h=>by rw[hx] at h;cases h)⟩) (fun h=>(hno h).elim)
  |false=>
   rw[hx] at hq
   have hn:=ih hq
   refine ALp.round (A:=inA x) (V1:=inV s l.length (i+1) (l.map .str)) (V2:=inV s l.length (i+1) (l.map .str)) (F:=inF false (l.map .str)) (lk:=idl 42) (lk':=idl 42) base0 aidJ_ok (LsOk.no rfl) .refl ?_
   rw[in_round,hw]
   refine mtB_of (fun _=>oblB_of hob ⟨part_str g1,mtB_of (fun h=>by rw[hx] at h;cases h) (fun _=>⟨⟨⟨⟨rfl,rfl⟩,⟨rfl,rfl⟩,⟨rfl,rfl⟩,trivial⟩,⟨⟨rfl,rfl,rfl,rfl,rfl⟩,trivial⟩,⟨rfl,hc⟩,trivial⟩,hn⟩)⟩) (fun h=>(hno h).elim)
theorem in_at:loopsAt (fnCode Tryz.prog 69) 3=[lpCode Tryz.prog 69 3]:=by kernel_rfl
theorem in_body (l:List (List UInt8)) (s:List UInt8) (hb:l.length≤1000):BodySem Tryz.prog opts0.glob 69 [.rsl true 1 0 l.length 1,.str s] [(1,some (.cells (l.map .str)))] 42 (.bool (inL' l s)) [(1,some (.cells (l.map .str)))] 62:=by
 have hc:=closed_strs l
 refine fnK_bodyX (k:=2) (A:=aidJ [] [(3,inL s l.length (l.map .str) (inL' l s))] noSem [] []) base0 aidJ_ok
  (fnLs_of (LsOk.at1 rfl in_at fun st Q hs=> .seen base0.glob hs.1 (in_loop hb 0 (Nat.zero_le _) hs.2))) ?_
 rw[in_fn]
 refine ⟨⟨⟨⟨rfl,rfl⟩,⟨rfl,rfl⟩,⟨rfl,rfl⟩,trivial⟩,⟨⟨rfl,rfl,rfl,rfl,rfl⟩,trivial⟩,⟨rfl,hc⟩,trivial⟩,mtB_of (fun e=> ?_) (fun e=> ?_)⟩
 ·rw[e]
  exact ⟨rfl,⟨.bool true,Frz.closed _ rfl,.refl _⟩,⟨rfl,.cells (l.map .str),.cells (l.map .str),rfl,FrzL.closed _ hc,WkL.refl _⟩,trivial⟩
 ·rw[e]
  exact ⟨rfl,⟨.bool false,Frz.closed _ rfl,.refl _⟩,⟨rfl,.cells (l.map .str),.cells (l.map .str),rfl,FrzL.closed _ hc,WkL.refl _⟩,trivial⟩
theorem in_none (s:List UInt8):SC 69 [.nilsl,.str s] (.bool false):=by
 refine fnK_semV (A:=aid0) base0 aidOk0 (fnLs_of (LsOk.no rfl)) rfl rfl ?_
 rw[in_nil]
theorem part_lk {l:List Lk} {j:Nat} {x:Lk} (h:l[j]? =some x):partA Tryz.prog 99 (flat (l.map lkA)) (0+j*2)=some (.agg [I x.ty,.str x.id]):=by
  have h1:isAggA Tryz.prog 99=some true:=by kernel_rfl
  have h2:sizeA Tryz.prog 99=some 2:=by kernel_rfl
  simp only[partA,h1,h2,Nat.zero_add]
  rw[chunk_flat l j x h];rfl
 where
  chunk_flat:∀ (l:List Lk) (j:Nat) (x:Lk),l[j]? =some x→chunk (flat (l.map lkA)) (j*2) 2=some [I x.ty,.str x.id]
    |[],_,_,h=>by simp at h
    | a::r,0,x,h=>by
      simp at h;subst h
      show chunk (flat (lkA a::r.map lkA)) 0 2=_
      simp[flat,lkA,AV.cells,chunk]
    | a::r,j+1,x,h=>by
      have ih:=chunk_flat r j x (by simpa using h)
      rw[show (j+1)*2=j*2+1+1 by omega]
      exact ih
theorem part_cu {l:List Cu} {j:Nat} {x:Cu} (h:l[j]? =some x):partA Tryz.prog 101 (flat (l.map cuA)) (0+j*2)=some (.agg [.str x.name,.str x.text]):=by
  have h1:isAggA Tryz.prog 101=some true:=by kernel_rfl
  have h2:sizeA Tryz.prog 101=some 2:=by kernel_rfl
  simp only[partA,h1,h2,Nat.zero_add]
  rw[chunk_flat l j x h];rfl
 where
  chunk_flat:∀ (l:List Cu) (j:Nat) (x:Cu),l[j]? =some x→chunk (flat (l.map cuA)) (j*2) 2=some [.str x.name,.str x.text]
    |[],_,_,h=>by simp at h
    | a::r,0,x,h=>by
      simp at h;subst h
      show chunk (flat (cuA a::r.map cuA)) 0 2=_
      simp[flat,cuA,AV.cells,chunk]
    | a::r,j+1,x,h=>by
      have ih:=chunk_flat r j x (by simpa using h)
      rw[show (j+1)*2=j*2+1+1 by omega]
      exact ih
theorem closed_flk:∀l:List Lk,closedAll (flat (l.map lkA))=true
 |[]=>rfl
 |_::r=>closed_flk r
theorem closed_fcu:∀l:List Cu,closedAll (flat (l.map cuA))=true
 |[]=>rfl
 |_::r=>closed_fcu r
theorem renR_ob {lk:List (Nat × Nat)} {o:Ob} {M N L C N' L' C':AV} (hM:closedA M=true) (hN:RenV lk N N') (hL:RenV lk L L') (hC:RenV lk C C'):RenR lk (obF o M N L C) (obF o M N' L' C'):=by
 refine ⟨?_⟩
 simp only[obF,RenL]
 exact ⟨.same _ rfl,.same _ rfl,.same _ rfl,.same _ rfl,.same _ rfl,.same _ hM,.same _ rfl,.same _ rfl,.same _ rfl,.same _ rfl,.same _ rfl,.same _ rfl,.same _ rfl,.same _ rfl,.same _ rfl,.same _ rfl,.same _ rfl,.same _ rfl,.same _ rfl,.same _ rfl,.same _ rfl,.same _ rfl,.same _ rfl,.same _ rfl,.same _ rfl,.same _ rfl,.same _ rfl,.same _ rfl,.same _ rfl,hN,hL,hC,.same _ rfl,.same _ rfl,.same _ rfl,.same _ rfl,.same _ rfl,trivial⟩
end Go.Proofs.YtjhggnebkfpgcaaGreatDoor
namespace Go.Proofs.YtjhggnebkfpgcaaGreatDoor
open Go Go.RowKit
open Go.Proofs.Abs
noncomputable section
inductive Kd where
 |uid|nam|typ|alg|len|mask|sta
 |dat (k:Nat)
 |why|lnk|lim
 |cus (s:List UInt8)
def dateN:Nat→List UInt8
 |0=>[73,110,105,116,105,97,108,32,68,97,116,101]
 |1=>[65,99,116,105,118,97,116,105,111,110,32,68,97,116,101]
 |2=>[80,114,111,99,101,115,115,32,83,116,97,114,116,32,68,97,116,101]
 |3=>[80,114,111,116,101,99,116,32,83,116,111,112,32,68,97,116,101]
 |4=>[68,101,97,99,116,105,118,97,116,105,111,110,32,68,97,116,101]
 |5=>[68,101,115,116,114,111,121,32,68,97,116,101]
 |6=>[67,111,109,112,114,111,109,105,115,101,32,79,99,99,117,114,114,101,110,99,101,32,68,97,116,101]
 |7=>[67,111,109,112,114,111,109,105,115,101,32,68,97,116,101]
 |8=>[65,114,99,104,105,118,101,32,68,97,116,101]
 |_=>[76,97,115,116,32,67,104,97,110,103,101,32,68,97,116,101]
def nameK:Kd→List UInt8
 | .uid=>[85,110,105,113,117,101,32,73,100,101,110,116,105,102,105,101,114]
 | .nam=>[78,97,109,101]
 | .typ=>[79,98,106,101,99,116,32,84,121,112,101]
 | .alg=>[67,114,121,112,116,111,103,114,97,112,104,105,99,32,65,108,103,111,114,105,116,104,109]
 | .len=>[67,114,121,112,116,111,103,114,97,112,104,105,99,32,76,101,110,103,116,104]
 | .mask=>[67,114,121,112,116,111,103,114,97,112,104,105,99,32,85,115,97,103,101,32,77,97,115,107]
 | .sta=>[83,116,97,116,101]
 | .why=>[82,101,118,111,99,97,116,105,111,110,32,82,101,97,115,111,110]
 | .lnk=>[76,105,110,107]
 | .lim=>[85,115,97,103,101,32,76,105,109,105,116,115]
 | .dat k=>dateN k
 | .cus s=>s
def manyK:Kd→Bool
 | .nam| .lnk| .cus _=>true
 |_=>false
def setD (k:Nat):Bool:=Nat.ble 1 k&&Nat.ble k 4
def setK:Kd→Bool
 | .nam| .lnk| .cus _| .alg| .len| .mask| .lim=>true
 | .dat k=>setD k
 |_=>false
def typeK:Kd→Int
 | .uid| .nam| .cus _=>7
 | .typ| .alg| .sta=>5
 | .len| .mask=>2
 | .dat _=>9
 | .why| .lnk| .lim=>1
def fnA (f:Nat):AV:= .func (.func f) [] []
def fnC (f:Nat) (c:List AV):AV:= .func (.func f) [] c
def alw:AV:=fnA 158
def youngA:AV:=fnA 125
def usedA:AV:=fnA 137
def addD:Nat→AV
 |1|2=>youngA
 |3|4=>usedA
 |_=> .nilFunc
def addK:Kd→AV
 | .nam| .lnk| .cus _| .lim=>alw
 | .dat k=>addD k
 |_=> .nilFunc
def modK:Kd→AV
 | .nam| .lnk| .cus _=>alw
 | .mask=>youngA
 | .lim=>fnA 189
 | .dat k=>addD k
 |_=> .nilFunc
def remD:Nat→AV
 |2=>youngA
 |3=>usedA
 |_=> .nilFunc
def remK:Kd→AV
 | .nam| .lnk| .cus _=>alw
 | .lim=>fnA 189
 | .dat k=>remD k
 |_=> .nilFunc
def atF:Kd→AV
 | .alg=>fnA 132
 | .len=>fnA 133
 |_=>fnA 124
def mostK:Kd→Int
 | .alg=>100
 | .len=>100000
 |_=>1048575
def leastK:Kd→Int
 | .mask=>0
 |_=>1
def plG (k:Kd):AV:=fnC 161 [.fptr [atF k] 0,.fptr [I (leastK k)] 0,.fptr [I (typeK k)] 0]
def plR (k:Kd):AV:=fnC 162 [.fptr [I (typeK k)] 0,.fptr [I (leastK k)] 0,.fptr [I (mostK k)] 0]
def plP (k:Kd):AV:=fnC 164 [.fptr [atF k] 0]
def nI (k:Nat):AV:= .int .i64 (.ofNat k)
def getF:Kd→AV
 | .uid=>fnA 127
 | .nam=>fnA 166
 | .typ=>fnA 130
 | .sta=>fnA 134
 | .dat k=>fnC 172 [.fptr [nI k] 0]
 | .why=>fnA 138
 | .lnk=>fnA 178
 | .lim=>fnA 184
 | .cus s=>fnC 150 [.fptr [.str s] 0]
 |k=>plG k
def rightF:Kd→AV
 | .nam=>fnA 167
 | .dat _=>fnA 173
 | .lnk=>fnA 179
 | .lim=>fnA 185
 | .cus _=>fnA 152
 | .uid| .typ| .sta| .why=> .nilFunc
 |k=>plR k
def putF:Kd→AV
 | .nam=>fnA 168
 | .dat k=>fnC 174 [.fptr [nI k] 0]
 | .lnk=>fnA 180
 | .lim=>fnA 187
 | .cus s=>fnC 154 [.fptr [.str s] 0]
 | .uid| .typ| .sta| .why=> .nilFunc
 |k=>plP k
def dropF:Kd→AV
 | .nam=>fnA 170
 | .dat k=>fnC 175 [.fptr [nI k] 0]
 | .lnk=>fnA 182
 | .lim=>fnA 188
 | .cus s=>fnC 156 [.fptr [.str s] 0]
 |_=> .nilFunc
def roomF:Kd→AV
 | .nam=>fnA 165
 | .lnk=>fnA 177
 | .cus _=>fnA 149
 |_=> .nilFunc
def rowC (k:Kd):List AV:=[.str (nameK k),I (typeK k),.bool (manyK k),.bool (setK k),addK k,modK k,remK k,getF k,rightF k,putF k,dropF k,roomF k]
def rowA (k:Kd):AV:= .agg (rowC k)
def rowZ:AV:= .agg [.str [],I 0,.bool false,.bool false,.nilFunc,.nilFunc,.nilFunc,.nilFunc,.nilFunc,.nilFunc,.nilFunc,.nilFunc]
def kinds:List Kd:=[.uid,.nam,.typ,.alg,.len,.mask,.sta,.dat 0,.dat 1,.dat 2,.dat 3,.dat 4,.dat 5,.dat 6,.dat 7,.dat 8,.dat 9,.why,.lnk,.lim]
abbrev yo1:=[AV.str [67,114,121,112,116,111,103,114,97,112,104,105,99,32,85,115,97,103,101,32,77,97,115,107],I 2,AV.bool false,AV.bool true,AV.nilFunc,AV.func (Fn.func 125) [] [],AV.nilFunc,AV.func (Fn.func 161) [] [AV.fptr [AV.func (Fn.func 124) [] []] 0,AV.fptr [I 0] 0,AV.fptr [I 2] 0],AV.func (Fn.func 162) [] [AV.fptr [I 2] 0,AV.fptr [I 0] 0,AV.fptr [I 1048575] 0],AV.func (Fn.func 164) [] [AV.fptr [AV.func (Fn.func 124) [] []] 0],AV.nilFunc,AV.nilFunc]
abbrev yo2:=[AV.str [67,114,121,112,116,111,103,114,97,112,104,105,99,32,65,108,103,111,114,105,116,104,109],I 5,AV.bool false,AV.bool true,AV.nilFunc,AV.nilFunc,AV.nilFunc,AV.func (Fn.func 161) [] [AV.fptr [AV.func (Fn.func 132) [] []] 0,AV.fptr [I 1] 0,AV.fptr [I 5] 0],AV.func (Fn.func 162) [] [AV.fptr [I 5] 0,AV.fptr [I 1] 0,AV.fptr [I 100] 0],AV.func (Fn.func 164) [] [AV.fptr [AV.func (Fn.func 132) [] []] 0],AV.nilFunc,AV.nilFunc]
abbrev yo3:=[AV.str [67,114,121,112,116,111,103,114,97,112,104,105,99,32,76,101,110,103,116,104],I 2,AV.bool false,AV.bool true,AV.nilFunc,AV.nilFunc,AV.nilFunc,AV.func (Fn.func 161) [] [AV.fptr [AV.func (Fn.func 133) [] []] 0,AV.fptr [I 1] 0,AV.fptr [I 2] 0],AV.func (Fn.func 162) [] [AV.fptr [I 2] 0,AV.fptr [I 1] 0,AV.fptr [I 100000] 0],AV.func (Fn.func 164) [] [AV.fptr [AV.func (Fn.func 133) [] []] 0],AV.nilFunc,AV.nilFunc]
abbrev yo4:=[AV.str [80,114,111,99,101,115,115,32,83,116,97,114,116,32,68,97,116,101],I 9,AV.bool false,AV.bool true,AV.func (Fn.func 125) [] [],AV.func (Fn.func 125) [] [],AV.func (Fn.func 125) [] [],AV.func (Fn.func 172) [] [AV.fptr [I 2] 0],AV.func (Fn.func 173) [] [],AV.func (Fn.func 174) [] [AV.fptr [I 2] 0],AV.func (Fn.func 175) [] [AV.fptr [I 2] 0],AV.nilFunc]
abbrev yo5:=[AV.str [80,114,111,116,101,99,116,32,83,116,111,112,32,68,97,116,101],I 9,AV.bool false,AV.bool true,AV.func (Fn.func 137) [] [],AV.func (Fn.func 137) [] [],AV.func (Fn.func 137) [] [],AV.func (Fn.func 172) [] [AV.fptr [I 3] 0],AV.func (Fn.func 173) [] [],AV.func (Fn.func 174) [] [AV.fptr [I 3] 0],AV.func (Fn.func 175) [] [AV.fptr [I 3] 0],AV.nilFunc]
abbrev yo6:=[AV.str [67,111,109,112,114,111,109,105,115,101,32,79,99,99,117,114,114,101,110,99,101,32,68,97,116,101],I 9,AV.bool false,AV.bool false,AV.nilFunc,AV.nilFunc,AV.nilFunc,AV.func (Fn.func 172) [] [AV.fptr [I 6] 0],AV.func (Fn.func 173) [] [],AV.func (Fn.func 174) [] [AV.fptr [I 6] 0],AV.func (Fn.func 175) [] [AV.fptr [I 6] 0],AV.nilFunc]
abbrev yo7:=[AV.str [68,101,97,99,116,105,118,97,116,105,111,110,32,68,97,116,101],I 9,AV.bool false,AV.bool true,AV.func (Fn.func 137) [] [],AV.func (Fn.func 137) [] [],AV.nilFunc,AV.func (Fn.func 172) [] [AV.fptr [I 4] 0],AV.func (Fn.func 173) [] [],AV.func (Fn.func 174) [] [AV.fptr [I 4] 0],AV.func (Fn.func 175) [] [AV.fptr [I 4] 0],AV.nilFunc]
abbrev yo9:=[AV.str [65,99,116,105,118,97,116,105,111,110,32,68,97,116,101],I 9,AV.bool false,AV.bool true,AV.func (Fn.func 125) [] [],AV.func (Fn.func 125) [] [],AV.nilFunc,AV.func (Fn.func 172) [] [AV.fptr [I 1] 0],AV.func (Fn.func 173) [] [],AV.func (Fn.func 174) [] [AV.fptr [I 1] 0],AV.func (Fn.func 175) [] [AV.fptr [I 1] 0],AV.nilFunc]
abbrev yo10:=[AV.str [76,97,115,116,32,67,104,97,110,103,101,32,68,97,116,101],I 9,AV.bool false,AV.bool false,AV.nilFunc,AV.nilFunc,AV.nilFunc,AV.func (Fn.func 172) [] [AV.fptr [I 9] 0],AV.func (Fn.func 173) [] [],AV.func (Fn.func 174) [] [AV.fptr [I 9] 0],AV.func (Fn.func 175) [] [AV.fptr [I 9] 0],AV.nilFunc]
abbrev yo11:=[AV.str [67,111,109,112,114,111,109,105,115,101,32,68,97,116,101],I 9,AV.bool false,AV.bool false,AV.nilFunc,AV.nilFunc,AV.nilFunc,AV.func (Fn.func 172) [] [AV.fptr [I 7] 0],AV.func (Fn.func 173) [] [],AV.func (Fn.func 174) [] [AV.fptr [I 7] 0],AV.func (Fn.func 175) [] [AV.fptr [I 7] 0],AV.nilFunc]
abbrev yo12:=[AV.str [85,115,97,103,101,32,76,105,109,105,116,115],I 1,AV.bool false,AV.bool true,AV.func (Fn.func 158) [] [],AV.func (Fn.func 189) [] [],AV.func (Fn.func 189) [] [],AV.func (Fn.func 184) [] [],AV.func (Fn.func 185) [] [],AV.func (Fn.func 187) [] [],AV.func (Fn.func 188) [] [],AV.nilFunc]
abbrev yo14:=[AV.str [68,101,115,116,114,111,121,32,68,97,116,101],I 9,AV.bool false,AV.bool false,AV.nilFunc,AV.nilFunc,AV.nilFunc,AV.func (Fn.func 172) [] [AV.fptr [I 5] 0],AV.func (Fn.func 173) [] [],AV.func (Fn.func 174) [] [AV.fptr [I 5] 0],AV.func (Fn.func 175) [] [AV.fptr [I 5] 0],AV.nilFunc]
abbrev yo15:=[AV.str [73,110,105,116,105,97,108,32,68,97,116,101],I 9,AV.bool false,AV.bool false,AV.nilFunc,AV.nilFunc,AV.nilFunc,AV.func (Fn.func 172) [] [AV.fptr [I 0] 0],AV.func (Fn.func 173) [] [],AV.func (Fn.func 174) [] [AV.fptr [I 0] 0],AV.func (Fn.func 175) [] [AV.fptr [I 0] 0],AV.nilFunc]
abbrev yo16:=[AV.str [65,114,99,104,105,118,101,32,68,97,116,101],I 9,AV.bool false,AV.bool false,AV.nilFunc,AV.nilFunc,AV.nilFunc,AV.func (Fn.func 172) [] [AV.fptr [I 8] 0],AV.func (Fn.func 173) [] [],AV.func (Fn.func 174) [] [AV.fptr [I 8] 0],AV.func (Fn.func 175) [] [AV.fptr [I 8] 0],AV.nilFunc]
abbrev yo17:=[AV.str [76,105,110,107],I 1,AV.bool true,AV.bool true,AV.func (Fn.func 158) [] [],AV.func (Fn.func 158) [] [],AV.func (Fn.func 158) [] [],AV.func (Fn.func 178) [] [],AV.func (Fn.func 179) [] [],AV.func (Fn.func 180) [] [],AV.func (Fn.func 182) [] [],AV.func (Fn.func 177) [] []]
abbrev yo18:=[AV.str [78,97,109,101],I 7,AV.bool true,AV.bool true,AV.func (Fn.func 158) [] [],AV.func (Fn.func 158) [] [],AV.func (Fn.func 158) [] [],AV.func (Fn.func 166) [] [],AV.func (Fn.func 167) [] [],AV.func (Fn.func 168) [] [],AV.func (Fn.func 170) [] [],AV.func (Fn.func 165) [] []]
abbrev yo20:=[AV.str [85,110,105,113,117,101,32,73,100,101,110,116,105,102,105,101,114],I 7,AV.bool false,AV.bool false,AV.nilFunc,AV.nilFunc,AV.nilFunc,AV.func (Fn.func 127) [] [],AV.nilFunc,AV.nilFunc,AV.nilFunc,AV.nilFunc]
abbrev yo21:=[AV.str [82,101,118,111,99,97,116,105,111,110,32,82,101,97,115,111,110],I 1,AV.bool false,AV.bool false,AV.nilFunc,AV.nilFunc,AV.nilFunc,AV.func (Fn.func 138) [] [],AV.nilFunc,AV.nilFunc,AV.nilFunc,AV.nilFunc]
abbrev yo22:=[AV.str [79,98,106,101,99,116,32,84,121,112,101],I 5,AV.bool false,AV.bool false,AV.nilFunc,AV.nilFunc,AV.nilFunc,AV.func (Fn.func 130) [] [],AV.nilFunc,AV.nilFunc,AV.nilFunc,AV.nilFunc]
abbrev yo23:=[AV.str [83,116,97,116,101],I 5,AV.bool false,AV.bool false,AV.nilFunc,AV.nilFunc,AV.nilFunc,AV.func (Fn.func 134) [] [],AV.nilFunc,AV.nilFunc,AV.nilFunc,AV.nilFunc]
abbrev yo8:=(AV.fsl true [AV.agg yo20,AV.agg yo18,AV.agg yo22,AV.agg yo2,AV.agg yo3,AV.agg yo1,AV.agg yo23,AV.agg yo15,AV.agg yo9,AV.agg yo4,AV.agg yo5,AV.agg yo7,AV.agg yo14,AV.agg yo6,AV.agg yo11,AV.agg yo16,AV.agg yo10,AV.agg yo21,AV.agg yo17,AV.agg yo12])
theorem table_fn (Q:AV→Prop):fnK Tryz.prog opts0 40 aid0 91 [] [] 0 (fun v _ _=>Q v)=
  (Q yo8):=by kernel_rfl
theorem table_sem:SC 91 [] (.fsl true (kinds.map rowA)):=by
 refine fnK_semE (A:=aid0) base0 aidOk0 (fnLs_of (LsOk.no rfl)) rfl ?_
 rw[table_fn]
 exact end_eq rfl (by kernel_rfl)
abbrev yo19 (s:List UInt8):=[AV.str s,I 7,AV.bool true,AV.bool true,AV.func (Fn.func 158) [] [],AV.func (Fn.func 158) [] [],AV.func (Fn.func 158) [] [],AV.func (Fn.func 150) [] [AV.ptr 0 0],AV.func (Fn.func 152) [] [],AV.func (Fn.func 154) [] [AV.ptr 0 0],AV.func (Fn.func 156) [] [AV.ptr 0 0],AV.func (Fn.func 149) [] []]
theorem custom_fn (s:List UInt8) (Q:AV→Heap→Nat→Prop):fnK Tryz.prog opts0 40 aid0 112 [.str s] [] 0 Q=
  (Q (AV.agg (yo19 s)) [(1,some (Blk.cells (yo19 s))),(0,some (Blk.cells [AV.str s]))] 24):=by kernel_rfl
theorem custom_sem (s:List UInt8):SC 112 [.str s] (rowA (.cus s)):=by
 refine fnK_sem (A:=aid0) base0 aidOk0 (fnLs_of (LsOk.no rfl)) rfl ?_
 rw[custom_fn]
 exact ⟨⟨6,rfl⟩,rfl⟩
def fiA (c:Bool) (s:List UInt8):Aid:=aidJ [] [] (manyS [(111,.bool c),(112,rowA (.cus s)),(91,.fsl true (kinds.map rowA))]) [] []
abbrev yo13 (s:List UInt8):=[AV.str s,I 7,AV.bool true,AV.bool true,AV.func (Fn.func 158) [] [],AV.func (Fn.func 158) [] [],AV.func (Fn.func 158) [] [],AV.func (Fn.func 150) [] [AV.fptr [AV.str s] 0],AV.func (Fn.func 152) [] [],AV.func (Fn.func 154) [] [AV.fptr [AV.str s] 0],AV.func (Fn.func 156) [] [AV.fptr [AV.str s] 0],AV.func (Fn.func 149) [] []]
theorem find_fn (c:Bool) (s:List UInt8) (Q:AV→Prop):fnK Tryz.prog opts0 40 (fiA c s) 61 [.str s] [] 0 (fun v _ _=>Q v)=
  (SC 111 [AV.str s] (AV.bool c)∧mtB c (SC 112 [AV.str s] (AV.agg (yo13 s))∧Q (AV.tuple [AV.agg (yo13 s),AV.bool true])) (SC 91 [] yo8∧mtB (beqBytes [85,110,105,113,117,101,32,73,100,101,110,116,105,102,105,101,114] s) (Q (AV.tuple [AV.agg yo20,AV.bool true])) (mtB (beqBytes [78,97,109,101] s) (Q (AV.tuple [AV.agg yo18,AV.bool true])) (mtB (beqBytes [79,98,106,101,99,116,32,84,121,112,101] s) (Q (AV.tuple [AV.agg yo22,AV.bool true])) (mtB (beqBytes [67,114,121,112,116,111,103,114,97,112,104,105,99,32,65,108,103,111,114,105,116,104,109] s) (Q (AV.tuple [AV.agg yo2,AV.bool true])) (mtB (beqBytes [67,114,121,112,116,111,103,114,97,112,104,105,99,32,76,101,110,103,116,104] s) (Q (AV.tuple [AV.agg yo3,AV.bool true])) (mtB (beqBytes [67,114,121,112,116,111,103,114,97,112,104,105,99,32,85,115,97,103,101,32,77,97,115,107] s) (Q (AV.tuple [AV.agg yo1,AV.bool true])) (mtB (beqBytes [83,116,97,116,101] s) (Q (AV.tuple [AV.agg yo23,AV.bool true])) (mtB (beqBytes [73,110,105,116,105,97,108,32,68,97,116,101] s) (Q (AV.tuple [AV.agg yo15,AV.bool true])) (mtB (beqBytes [65,99,116,105,118,97,116,105,111,110,32,68,97,116,101] s) (Q (AV.tuple [AV.agg yo9,AV.bool true])) (mtB (beqBytes [80,114,111,99,101,115,115,32,83,116,97,114,116,32,68,97,116,101] s) (Q (AV.tuple [AV.agg yo4,AV.bool true])) (mtB (beqBytes [80,114,111,116,101,99,116,32,83,116,111,112,32,68,97,116,101] s) (Q (AV.tuple [AV.agg yo5,AV.bool true])) (mtB (beqBytes [68,101,97,99,116,105,118,97,116,105,111,110,32,68,97,116,101] s) (Q (AV.tuple [AV.agg yo7,AV.bool true])) (mtB (beqBytes [68,101,115,116,114,111,121,32,68,97,116,101] s) (Q (AV.tuple [AV.agg yo14,AV.bool true])) (mtB (beqBytes [67,111,109,112,114,111,109,105,115,101,32,79,99,99,117,114,114,101,110,99,101,32,68,97,116,101] s) (Q (AV.tuple [AV.agg yo6,AV.bool true])) (mtB (beqBytes [67,111,109,112,114,111,109,105,115,101,32,68,97,116,101] s) (Q (AV.tuple [AV.agg yo11,AV.bool true])) (mtB (beqBytes [65,114,99,104,105,118,101,32,68,97,116,101] s) (Q (AV.tuple [AV.agg yo16,AV.bool true])) (mtB (beqBytes [76,97,115,116,32,67,104,97,110,103,101,32,68,97,116,101] s) (Q (AV.tuple [AV.agg yo10,AV.bool true])) (mtB (beqBytes [82,101,118,111,99,97,116,105,111,110,32,82,101,97,115,111,110] s) (Q (AV.tuple [AV.agg yo21,AV.bool true])) (mtB (beqBytes [76,105,110,107] s) (Q (AV.tuple [AV.agg yo17,AV.bool true])) (mtB (beqBytes [85,115,97,103,101,32,76,105,109,105,116,115] s) (Q (AV.tuple [AV.agg yo12,AV.bool true])) (Q (AV.tuple [AV.agg [AV.str [],I 0,AV.bool false,AV.bool false,AV.nilFunc,AV.nilFunc,AV.nilFunc,AV.nilFunc,AV.nilFunc,AV.nilFunc,AV.nilFunc,AV.nilFunc],AV.bool false]))))))))))))))))))))))):=by kernel_rfl
def findL (s:List UInt8):List Kd→Option Kd
 |[]=>none
 |k::r=>match beqBytes (nameK k) s with
  |true=>some k
  |false=>findL s r
def findK (c:Bool) (s:List UInt8):Option Kd:=match c with
 |true=>some (.cus s)
 |false=>findL s kinds
def rowO:Option Kd→AV
 |some k=> .tuple [rowA k,.bool true]
 |none=> .tuple [rowZ,.bool false]
theorem closed_row (k:Kd):closedA (rowA k)=true:=by
 cases k with
 |dat k=>
  have h1:closedA (addD k)=true:=by unfold addD;split<;>rfl
  have h2:closedA (remD k)=true:=by unfold remD;split<;>rfl
  simp[rowA,rowC,closedA,closedAll,addK,modK,remK,h1,h2,getF,rightF,putF,dropF,roomF,fnA,fnC,nI]
 |_=>rfl
set_option maxRecDepth 20000 in
theorem find_sem {c:Bool} {s:List UInt8} (hc:SC 111 [.str s] (.bool c)):SC 61 [.str s] (rowO (findK c s)):=by
 refine fnK_semE (A:=fiA c s) base0 aidJ_ok (fnLs_of (LsOk.no rfl)) rfl ?_
 rw[find_fn]
 refine And.intro hc (mtB_of (fun e=>And.intro (custom_sem s) ?_) (fun e=>And.intro table_sem ?_))
 ·subst e;exact end_eq rfl (by simp[findK,rowO,closedA,closedAll,closed_row])
 ·subst e
  simp only[findK]
  repeat' refine mtB_of (fun _=> ?_) (fun _=> ?_)
  all_goals
   simp only[kinds,findL,nameK,dateN, *]
   exact end_eq rfl (by simp[rowO,closedA,closedAll,closed_row,rowZ])
end
noncomputable def optsK:Opts:={how:=fun f=>match memN [119,120,121,193,194,191] f with|true=> .keep|false=> .pure,summ:=fun _ _=>none,glob:=gl,lf:=100000}
set_option maxRecDepth 20000 in
theorem ansK {f:FuncId} {args:List AV} {v:AV} (hcl:closedAll args=true) (h:ansQ Tryz.prog optsK 40 f args=some v) (hv:closedA v=true):SC f args v:=
 ansQ_sem (O:=optsK) Tryz.mixed (fun _ _ _ h=>by cases h) gl_closed noCall_ok' hcl h hv
def texts:List (List UInt8):=[[111,110,101],[116,119,111],[116,104,114,101,101],[102,111,117,114],[102,105,118,101],[],[53],[49],[50],[51],[52],[54],[55],[57,57],[120],[49,50,51,52,53,54,55,56],[109],[108,111,115,116]]
def cusB:List UInt8→Bool
 |120::45::_=>true
 |_=>false
theorem cu0:ansQ Tryz.prog optsK 40 111 [.str [85,110,105,113,117,101,32,73,100,101,110,116,105,102,105,101,114]]=some (.bool false):=by kernel_rfl
theorem cu1:ansQ Tryz.prog optsK 40 111 [.str [78,97,109,101]]=some (.bool false):=by kernel_rfl
theorem cu2:ansQ Tryz.prog optsK 40 111 [.str [79,98,106,101,99,116,32,84,121,112,101]]=some (.bool false):=by kernel_rfl
theorem cu3:ansQ Tryz.prog optsK 40 111 [.str [67,114,121,112,116,111,103,114,97,112,104,105,99,32,65,108,103,111,114,105,116,104,109]]=some (.bool false):=by kernel_rfl
theorem cu4:ansQ Tryz.prog optsK 40 111 [.str [67,114,121,112,116,111,103,114,97,112,104,105,99,32,76,101,110,103,116,104]]=some (.bool false):=by kernel_rfl
theorem cu5:ansQ Tryz.prog optsK 40 111 [.str [67,114,121,112,116,111,103,114,97,112,104,105,99,32,85,115,97,103,101,32,77,97,115,107]]=some (.bool false):=by kernel_rfl
theorem cu6:ansQ Tryz.prog optsK 40 111 [.str [83,116,97,116,101]]=some (.bool false):=by kernel_rfl
theorem cu7:ansQ Tryz.prog optsK 40 111 [.str [73,110,105,116,105,97,108,32,68,97,116,101]]=some (.bool false):=by kernel_rfl
theorem cu8:ansQ Tryz.prog optsK 40 111 [.str [65,99,116,105,118,97,116,105,111,110,32,68,97,116,101]]=some (.bool false):=by kernel_rfl
theorem cu9:ansQ Tryz.prog optsK 40 111 [.str [80,114,111,99,101,115,115,32,83,116,97,114,116,32,68,97,116,101]]=some (.bool false):=by kernel_rfl
theorem cu10:ansQ Tryz.prog optsK 40 111 [.str [80,114,111,116,101,99,116,32,83,116,111,112,32,68,97,116,101]]=some (.bool false):=by kernel_rfl
theorem cu11:ansQ Tryz.prog optsK 40 111 [.str [68,101,97,99,116,105,118,97,116,105,111,110,32,68,97,116,101]]=some (.bool false):=by kernel_rfl
theorem cu12:ansQ Tryz.prog optsK 40 111 [.str [68,101,115,116,114,111,121,32,68,97,116,101]]=some (.bool false):=by kernel_rfl
theorem cu13:ansQ Tryz.prog optsK 40 111 [.str [67,111,109,112,114,111,109,105,115,101,32,79,99,99,117,114,114,101,110,99,101,32,68,97,116,101]]=some (.bool false):=by kernel_rfl
theorem cu14:ansQ Tryz.prog optsK 40 111 [.str [67,111,109,112,114,111,109,105,115,101,32,68,97,116,101]]=some (.bool false):=by kernel_rfl
theorem cu15:ansQ Tryz.prog optsK 40 111 [.str [65,114,99,104,105,118,101,32,68,97,116,101]]=some (.bool false):=by kernel_rfl
theorem cu16:ansQ Tryz.prog optsK 40 111 [.str [76,97,115,116,32,67,104,97,110,103,101,32,68,97,116,101]]=some (.bool false):=by kernel_rfl
theorem cu17:ansQ Tryz.prog optsK 40 111 [.str [82,101,118,111,99,97,116,105,111,110,32,82,101,97,115,111,110]]=some (.bool false):=by kernel_rfl
theorem cu18:ansQ Tryz.prog optsK 40 111 [.str [76,105,110,107]]=some (.bool false):=by kernel_rfl
theorem cu19:ansQ Tryz.prog optsK 40 111 [.str [85,115,97,103,101,32,76,105,109,105,116,115]]=some (.bool false):=by kernel_rfl
theorem cu20:ansQ Tryz.prog optsK 40 111 [.str [120,45,97]]=some (.bool true):=by kernel_rfl
theorem cu21:ansQ Tryz.prog optsK 40 111 [.str [120,45,98]]=some (.bool true):=by kernel_rfl
theorem cu22:ansQ Tryz.prog optsK 40 111 [.str [120,45]]=some (.bool true):=by kernel_rfl
theorem cu23:ansQ Tryz.prog optsK 40 111 [.str [121]]=some (.bool false):=by kernel_rfl
theorem cus_sem:∀s∈nameL,SC 111 [.str s] (.bool (cusB s)):=by
 simp only[nameL,List.forall_mem_cons]
 exact ⟨ansK rfl cu0 rfl,ansK rfl cu1 rfl,ansK rfl cu2 rfl,ansK rfl cu3 rfl,ansK rfl cu4 rfl,ansK rfl cu5 rfl,ansK rfl cu6 rfl,ansK rfl cu7 rfl,ansK rfl cu8 rfl,ansK rfl cu9 rfl,ansK rfl cu10 rfl,ansK rfl cu11 rfl,ansK rfl cu12 rfl,ansK rfl cu13 rfl,ansK rfl cu14 rfl,ansK rfl cu15 rfl,ansK rfl cu16 rfl,ansK rfl cu17 rfl,ansK rfl cu18 rfl,ansK rfl cu19 rfl,ansK rfl cu20 rfl,ansK rfl cu21 rfl,ansK rfl cu22 rfl,ansK rfl cu23 rfl,fun _ h=>by cases h⟩
def putL {α:Type} (l:List α) (i:Nat) (x:α):List α:=l.take i++x::l.drop (i+1)
noncomputable section
theorem count_up {p:Nat→Prop} (n:Nat) (hn:p n) (hs:∀i,i<n→p (i+1)→p i):∀i,i≤n→p i:=by
 intro i hi
 obtain ⟨m,rfl⟩:∃m,n=i+m:=⟨n-i,by omega⟩
 clear hi
 induction m generalizing i with
 |zero=>exact hn
 |succ m ih=>exact hs i (by omega) (ih (i+1) (by rw[show i+1+m=i+(m+1) by omega];exact hn) (by intro j hj;exact hs j (by omega)))
abbrev u8 (b:UInt8):AV:= .int .u8 (.ofNat b.toNat)
theorem idxB {f:Bool} {s:List UInt8} {i:Nat} {b:UInt8} (hx:s[i]? =some b):indexAddrA Tryz.prog 23 (.fsl f (toBytes s)) (.int .i64 (.ofNat i))=some (.fptr [u8 b] 0):=
 fsl_index (v:=u8 b) (e:=5) (sz:=1) (by kernel_rfl) (by kernel_rfl) (by rw[toBytes_map,List.getElem?_map,hx];rfl) rfl
def eqV (D E:List AV) (i:Nat):View:=⟨[(0,.fsl false D),(1,.fsl false E),(4,.bool false),(12,I (.ofNat (lenN D))),(13,I (.ofNat i))],[],[],0,26⟩
def eqF:View:=⟨[(4,.bool false)],[],[],0,26⟩
def eqA (a b:UInt8):Aid:=aidJ [(6,2,.res (.fptr [u8 a] 0)),(6,6,.res (.fptr [u8 b] 0))] [] noSem [] []
@[simp] abbrev yr1:=(AV.bool false=AV.bool false∧true=true)
@[simp] abbrev yr2 (D:List AV):=(I (Int.ofNat (lenN D))=I (Int.ofNat (lenN D))∧closedA (I (Int.ofNat (lenN D)))=true)
@[simp] abbrev yr3 (D:List AV):=(AV.fsl false D=AV.fsl false D∧closedA (AV.fsl false D)=true)
@[simp] abbrev yr4 (E:List AV):=(AV.fsl false E=AV.fsl false E∧closedA (AV.fsl false E)=true)
theorem eq_round (D E:List AV) (i j:Nat) (a b:UInt8) (N:Prop) (Q:AExit→St→Prop):wpK Tryz.prog opts0 40 (eqA a b) (lpCode Tryz.prog 84 5) (eqV D E i).st (roundP 0 [] (eqV D E j) N [] eqF Q)=
  (mtB (ltInt (Int.ofNat i) (Int.ofNat (lenN D))) (indexAddrA Tryz.prog 23 (AV.fsl false D) (I (Int.ofNat i))=some (AV.fptr [AV.int IntKind.u8 (Int.ofNat a.toNat)] 0)∧indexAddrA Tryz.prog 23 (AV.fsl false E) (I (Int.ofNat i))=some (AV.fptr [AV.int IntKind.u8 (Int.ofNat b.toNat)] 0)∧mtB (!beqInt (Int.ofNat a.toNat) (Int.ofNat b.toNat)) (((yr1∧True)∧True∧True)∧Q AExit.ret eqF.st) ((((yr3 D)∧(yr4 E)∧yr1∧(yr2 D)∧(I (wrapA IntKind.i64 (Int.ofNat i+1))=I (Int.ofNat j)∧closedA (I (Int.ofNat j))=true)∧True)∧True∧True)∧N)) (((yr1∧True)∧True∧True)∧Q (AExit.exit 0) eqF.st)):=by kernel_rfl
def eqL (D E:List AV) (p:Prop) (r:Bool):LoopS:=fun s Q=>p∧seesK 0 [] (eqV D E 0) s∧mtB r (Q (.exit 0) eqF.st) (Q .ret eqF.st)
theorem eq_fn (D E:List AV) (p:Prop) (r:Bool) (Q:AV→Prop):fnK Tryz.prog opts0 40 (aidJ [] [(5,eqL D E p r)] noSem [] []) 84 [.fsl false D,.fsl false E] [] 0 (fun v _ _=>Q v)=
  (mtB (!beqInt (Int.ofNat (lenN D)) (Int.ofNat (lenN E))) (Q (AV.bool false)) (p∧(((yr3 D)∧(yr4 E)∧yr1∧(yr2 D)∧(I 0=I 0∧true=true)∧True)∧True∧True)∧mtB r (Q (AV.bool true)) (Q (AV.bool false)))):=by kernel_rfl
theorem beqBytes_cons (a b:UInt8) (s t:List UInt8):beqBytes (a::s) (b::t)=(Nat.beq a.toNat b.toNat&&beqBytes s t):=by
 rw[Bool.eq_iff_iff,Bool.and_eq_true,beqBytes_iff,beqBytes_iff,beq_iff,List.cons.injEq]
 exact and_congr_left fun _=>⟨fun h=>by rw[h],fun h=>UInt8.toNat_inj.1 h⟩
theorem beqInt_nat (a b:Nat):beqInt (.ofNat a) (.ofNat b)=Nat.beq a b:=rfl
theorem eq_loop {s t:List UInt8} {Q:AExit→St→Prop} (hl:s.length=t.length) (hb:s.length≤big):∀i,i≤s.length→(mtB (beqBytes (s.drop i) (t.drop i)) (Q (.exit 0) eqF.st) (Q .ret eqF.st)→ALp Tryz.prog opts0.glob 0 (lpCode Tryz.prog 84 5) (eqV (toBytes s) (toBytes t) i).st Q):=by
 refine count_up _ (fun hq=> ?_) (fun i hi ih hq=> ?_)
 ·refine ALp.round (A:=eqA 0 0) (V1:=eqV (toBytes s) (toBytes t) 0) (V2:=eqV (toBytes s) (toBytes t) 0) (F:=eqF) (lk:=[]) (lk':=[]) base0 aidJ_ok (LsOk.no rfl) .refl ?_
  rw[eq_round]
  refine mtB_of (fun h=> ?_) (fun _=> ?_)
  ·have h:=ltInt_iff.1 h
   simp only[lenN_toBytes,Int.ofNat_eq_natCast] at h
   omega
  ·rw[List.drop_of_length_le (by omega),List.drop_of_length_le (by omega)] at hq
   exact ⟨by simp,hq⟩
 ·have h2:i<t.length:=by omega
  have g1:=List.getElem?_eq_getElem hi
  have g2:=List.getElem?_eq_getElem h2
  rw[List.drop_eq_getElem_cons hi,List.drop_eq_getElem_cons h2,beqBytes_cons] at hq
  revert g1 g2 hq
  generalize s[i]=a
  generalize t[i]=b
  intro hq g1 g2
  refine ALp.round (A:=eqA a b) (V1:=eqV (toBytes s) (toBytes t) (i+1)) (V2:=eqV (toBytes s) (toBytes t) (i+1)) (F:=eqF) (lk:=[]) (lk':=[]) base0 aidJ_ok (LsOk.no rfl) .refl ?_
  rw[eq_round]
  have hb:s.length≤1099511627776:=hb
  refine mtB_of (fun _=>⟨idxB g1,idxB g2,mtB_of (fun h=> ?_) (fun h=> ?_)⟩) (fun h=> ?_)
  ·rw[beqInt_nat,Bool.not_eq_true'] at h
   rw[h] at hq
   exact ⟨by simp,hq⟩
  ·rw[beqInt_nat,Bool.not_eq_false'] at h
   rw[h] at hq
   rw[wrapA_i64 (by simp;omega) (by simp;omega)]
   exact ⟨by simp[closedA],ih hq⟩
  ·have h:=ltInt_false.1 h
   simp only[lenN_toBytes,Int.ofNat_eq_natCast] at h
   omega
theorem eq_at:loopsAt (fnCode Tryz.prog 84) 5=[lpCode Tryz.prog 84 5]:=by kernel_rfl
theorem beqBytes_len {s t:List UInt8} (h:beqBytes s t=true):s.length=t.length:=by rw[beqBytes_iff.1 h]
theorem equal_sem {s t:List UInt8} (hb:s.length≤big):SC 84 [.fsl false (toBytes s),.fsl false (toBytes t)] (.bool (beqBytes s t)):=by
 refine fnK_semV (A:=aidJ [] [(5,eqL (toBytes s) (toBytes t) (s.length=t.length) (beqBytes s t))] noSem [] []) base0 aidJ_ok
  (fnLs_of (LsOk.at1 rfl eq_at fun s Q hs=> .seen base0.glob hs.2.1 (eq_loop hs.1 hb 0 (by omega) (by simpa using hs.2.2)))) (by simp[closedAll,closedA]) rfl ?_
 rw[eq_fn]
 simp only[lenN_toBytes]
 refine mtB_of (fun e=> ?_) (fun e=>⟨?_,by simp[closedA],mtB_of (fun e6=>by rw[e6]) (fun e6=>by rw[e6])⟩)
 ·refine congrArg AV.bool ?_
  cases h:beqBytes s t with
  |false=>rfl
  |true=>
   rw[beqBytes_len h,Bool.not_eq_true',beqInt_false] at e
   exact absurd rfl e
 ·rw[Bool.not_eq_false',beqInt_iff] at e
  exact Int.ofNat.inj e
def efV (D E:List AV) (i:Nat):View:=⟨[(1,.fsl false E),(2,fnA 33),(6,.bool false),(15,.fsl false D),(16,I (.ofNat (lenN D))),(17,I (.ofNat i))],[],[],0,32⟩
def efF:View:=⟨[(6,.bool false)],[],[],0,32⟩
def efA (c c':List AV) (r:Bool):Aid:=aidJ [(5,1,.res (.fptr c 0)),(6,2,.res (.fptr c' 0))] [] (manyS [(33,.bool r)]) [] []
@[simp] abbrev yr5:=(AV.func (Fn.func 33) [] []=AV.func (Fn.func 33) [] []∧true=true)
theorem ef_round (a b c a' b' c':Int) (D E F K F' K':List AV) (i j:Nat) (r:Bool) (N:Prop) (Q:AExit→St→Prop):wpK Tryz.prog opts0 40 (efA (itF a b c F K) (itF a' b' c' F' K') r) (lpCode Tryz.prog 85 5) (efV D E i).st (roundP 0 [] (efV D E j) N [] efF Q)=
  (mtB (ltInt (Int.ofNat i) (Int.ofNat (lenN D))) (indexAddrA Tryz.prog 35 (AV.fsl false D) (I (Int.ofNat i))=some (AV.fptr [I a,I b,I c,AV.fsl false F,AV.fsl false K] 0)∧indexAddrA Tryz.prog 35 (AV.fsl false E) (I (Int.ofNat i))=some (AV.fptr [I a',I b',I c',AV.fsl false F',AV.fsl false K'] 0)∧SC 33 [AV.agg [I a,I b,I c,AV.fsl false F,AV.fsl false K],AV.agg [I a',I b',I c',AV.fsl false F',AV.fsl false K']] (AV.bool r)∧mtB (!r) (((yr1∧True)∧True∧True)∧Q AExit.ret efF.st) ((((yr4 E)∧yr5∧yr1∧(yr3 D)∧(yr2 D)∧(I (wrapA IntKind.i64 (Int.ofNat i+1))=I (Int.ofNat j)∧closedA (I (Int.ofNat j))=true)∧True)∧True∧True)∧N)) (((yr1∧True)∧True∧True)∧Q (AExit.exit 0) efF.st)):=by kernel_rfl
def efL (D E:List AV) (p:Prop) (r:Bool):LoopS:=fun s Q=>p∧seesK 0 [] (efV D E 0) s∧mtB r (Q (.exit 0) efF.st) (Q .ret efF.st)
theorem ef_fn (D E:List AV) (p:Prop) (r:Bool) (Q:AV→Prop):fnK Tryz.prog opts0 40 (aidJ [] [(5,efL D E p r)] noSem [] []) 85 [.fsl false D,.fsl false E,fnA 33] [] 0 (fun v _ _=>Q v)=
  (mtB (!beqInt (Int.ofNat (lenN D)) (Int.ofNat (lenN E))) (Q (AV.bool false)) (p∧(((yr4 E)∧yr5∧yr1∧(yr3 D)∧(yr2 D)∧(I 0=I 0∧true=true)∧True)∧True∧True)∧mtB r (Q (AV.bool true)) (Q (AV.bool false)))):=by kernel_rfl
theorem ts_fn (a b c a' b' c':Int) (F K F' K':List AV) (r r':Bool) (Q:AV→Prop):fnK Tryz.prog opts0 40 (aidJ [] [] (manyS [(84,.bool r),(85,.bool r')]) [] []) 33 [.agg (itF a b c F K),.agg (itF a' b' c' F' K')] [] 0 (fun v _ _=>Q v)=
  (mtB (beqInt a a') (mtB (beqInt b b') (mtB (beqInt c c') (SC 84 [AV.fsl false F,AV.fsl false F'] (AV.bool r)∧mtB r (SC 85 [AV.fsl false K,AV.fsl false K',AV.func (Fn.func 33) [] []] (AV.bool r')∧Q (AV.bool r')) (Q (AV.bool false))) (Q (AV.bool false))) (Q (AV.bool false))) (Q (AV.bool false))):=by kernel_rfl
theorem ef_loop {ks ks':List It} {Q:AExit→St→Prop} (hl:ks.length=ks'.length) (hb:ks.length≤big)
  (ihs:∀ (i:Nat) (x z:It),ks[i]? =some x→ks'[i]? =some z→SC 33 [itA x,itA z] (.bool (sameI x z))):
  ∀i,i≤ks.length→(mtB (sameIs (ks.drop i) (ks'.drop i)) (Q (.exit 0) efF.st) (Q .ret efF.st)→ALp Tryz.prog opts0.glob 0 (lpCode Tryz.prog 85 5) (efV (itAs ks) (itAs ks') i).st Q):=by
 refine count_up _ (fun hq=> ?_) (fun i hi ih hq=> ?_)
 ·refine ALp.round (A:=efA (itF 0 0 0 [] []) (itF 0 0 0 [] []) true) (V1:=efV (itAs ks) (itAs ks') 0) (V2:=efV (itAs ks) (itAs ks') 0) (F:=efF) (lk:=[]) (lk':=[]) base0 aidJ_ok (LsOk.no rfl) .refl ?_
  rw[ef_round]
  refine mtB_of (fun h=> ?_) (fun _=> ?_)
  ·have h:=ltInt_iff.1 h
   simp only[lenN_eq,its_length,Int.ofNat_eq_natCast] at h
   omega
  ·rw[List.drop_of_length_le (by omega),List.drop_of_length_le (by omega)] at hq
   exact ⟨by simp,hq⟩
 ·have h2:i<ks'.length:=by omega
  have g1:=List.getElem?_eq_getElem hi
  have g2:=List.getElem?_eq_getElem h2
  rw[List.drop_eq_getElem_cons hi,List.drop_eq_getElem_cons h2,sameIs] at hq
  have hs:=ihs i _ _ g1 g2
  revert g1 g2 hq hs
  generalize ks[i]=x
  generalize ks'[i]=z
  intro hq g1 g2 hs
  obtain ⟨a,b,c,e,l⟩:=x
  obtain ⟨a',b',c',e',l'⟩:=z
  refine ALp.round (A:=efA (itF a b c (toBytes e) (itAs l)) (itF a' b' c' (toBytes e') (itAs l')) (sameI (.mk a b c e l) (.mk a' b' c' e' l'))) (V1:=efV (itAs ks) (itAs ks') (i+1)) (V2:=efV (itAs ks) (itAs ks') (i+1)) (F:=efF) (lk:=[]) (lk':=[]) base0 aidJ_ok (LsOk.no rfl) .refl ?_
  rw[ef_round]
  have hb:ks.length≤1099511627776:=hb
  refine mtB_of (fun _=>⟨idxI g1,idxI g2,hs,mtB_of (fun h=> ?_) (fun h=> ?_)⟩) (fun h=> ?_)
  ·rw[Bool.not_eq_true'] at h
   rw[h] at hq
   exact ⟨by simp,hq⟩
  ·rw[Bool.not_eq_false'] at h
   rw[h] at hq
   rw[wrapA_i64 (by simp;omega) (by simp;omega)]
   exact ⟨by simp[closedA,closed_its],ih hq⟩
  ·have h:=ltInt_false.1 h
   simp only[lenN_eq,its_length,Int.ofNat_eq_natCast] at h
   omega
theorem ef_at:loopsAt (fnCode Tryz.prog 85) 5=[lpCode Tryz.prog 85 5]:=by kernel_rfl
theorem ef_sem {ks ks':List It} (hb:ks.length≤big)
  (ihs:∀ (i:Nat) (x z:It),ks[i]? =some x→ks'[i]? =some z→SC 33 [itA x,itA z] (.bool (sameI x z))):
  SC 85 [.fsl false (itAs ks),.fsl false (itAs ks'),fnA 33] (.bool (sameIs ks ks')):=by
 refine fnK_semV (A:=aidJ [] [(5,efL (itAs ks) (itAs ks') (ks.length=ks'.length) (sameIs ks ks'))] noSem [] []) base0 aidJ_ok
  (fnLs_of (LsOk.at1 rfl ef_at fun s Q hs=> .seen base0.glob hs.2.1 (ef_loop hs.1 hb ihs 0 (by omega) (by simpa using hs.2.2)))) (by simp[closedAll,closedA,closed_its,fnA]) rfl ?_
 rw[ef_fn]
 simp only[lenN_eq,its_length]
 refine mtB_of (fun e=> ?_) (fun e=>⟨?_,by simp[closedA,closed_its],mtB_of (fun e6=>by rw[e6]) (fun e6=>by rw[e6])⟩)
 ·refine congrArg AV.bool ?_
  cases h:sameIs ks ks' with
  |false=>rfl
  |true=>
   rw[sameIs_length h,Bool.not_eq_true',beqInt_false] at e
   exact absurd rfl e
 ·rw[Bool.not_eq_false',beqInt_iff] at e
  exact Int.ofNat.inj e
theorem ts_body {t y n t' y' n':Int} {d d':List UInt8} {ks ks':List It} (h:okI big (.mk t y n d ks))
  (ih:∀ (i:Nat) (x z:It),ks[i]? =some x→ks'[i]? =some z→SC 33 [itA x,itA z] (.bool (sameI x z))):
  SC 33 [itA (.mk t y n d ks),itA (.mk t' y' n' d' ks')] (.bool (sameI (.mk t y n d ks) (.mk t' y' n' d' ks'))):=by
 simp only[okI] at h
 obtain ⟨h3,h4,h5⟩:=h
 refine fnK_semV (A:=aidJ [] [] (manyS [(84,.bool (beqBytes d d')),(85,.bool (sameIs ks ks'))]) [] []) base0 aidJ_ok (fnLs_of (LsOk.no rfl)) (by simp[closedAll,closed_it]) rfl ?_
 rw[itA_F,itA_F,ts_fn]
 simp only[sameI]
 refine mtB_of (fun e=>mtB_of (fun e2=>mtB_of (fun e3=>⟨equal_sem h3,mtB_of (fun e4=>⟨ef_sem h4 ih, ?_⟩) (fun e4=> ?_)⟩) (fun e3=> ?_)) (fun e2=> ?_)) (fun e=> ?_)
 all_goals simp only[*,Bool.true_and,Bool.false_and]
mutual
theorem tsame_sem:∀x z:It,okI big x→SC 33 [itA x,itA z] (.bool (sameI x z))
 | .mk _ _ _ _ ks,.mk _ _ _ _ _ks',h=>ts_body h fun _i x z hx _=>tsame_sems ks x (List.mem_of_getElem? hx) z (okIs_iff.1 h.2.2 x (List.mem_of_getElem? hx))
theorem tsame_sems:∀ks:List It,∀x∈ks,∀z,okI big x→SC 33 [itA x,itA z] (.bool (sameI x z))
 |[],_,hx,_,_=>by cases hx
 |k::r,x,hx,z,h=>by
  have h1:=tsame_sem k z
  have h2:=tsame_sems r x
  rcases List.mem_cons.1 hx with e|hx
  ·rw[e] at h⊢;exact h1 h
  ·exact h2 hx z h
end
end
end Go.Proofs.YtjhggnebkfpgcaaGreatDoor
namespace Go.Proofs.YtjhggnebkfpgcaaGreatDoor
set_option maxRecDepth 20000
open Go Go.RowKit
open Go.Proofs.Abs
noncomputable section
def plV0 (s:List UInt8) (C:List AV) (i:Nat):View:=⟨[(1,.str s),(5,.nilsl),(9,.fsl false C),(10,I (.ofNat (lenN C))),(11,I (.ofNat i))],[],[],1,26⟩
def plV1 (s:List UInt8) (C:List AV) (i k:Nat) (es:List AV):View:=⟨[(1,.str s),(9,.fsl false C),(10,I (.ofNat (lenN C))),(11,I (.ofNat i))],[(5,.rsl true 0 0 k 1)],[(0,.cells es,.whole)],1,26⟩
def plA (n t:List UInt8):Aid:=aidJ [(4,1,.res (.fptr [.str n,.str t] 0))] [] noSem [] []
@[simp] abbrev ys1 (C:List AV):=(I (Int.ofNat (lenN C))=I (Int.ofNat (lenN C))∧closedA (I (Int.ofNat (lenN C)))=true)
@[simp] abbrev ys2 (C:List AV):=(AV.fsl false C=AV.fsl false C∧closedA (AV.fsl false C)=true)
@[simp] abbrev ys3 (s:List UInt8):=(AV.str s=AV.str s∧closedA (AV.str s)=true)
@[simp] abbrev ys5:=(AV.nilsl=AV.nilsl∧true=true)
@[simp] abbrev ys6 (i:Nat):=(I (Int.ofNat i)=I (Int.ofNat i)∧closedA (I (Int.ofNat i))=true)
theorem pl_00 (s:List UInt8) (C:List AV) (i j:Nat) (n t:List UInt8) (N:Prop) (Q:AExit→St→Prop):wpK Tryz.prog opts0 40 (plA n t) (lpCode Tryz.prog 151 4) (plV0 s C i).st (roundP 0 [] (plV0 s C j) N [] (plV0 s C i) Q)=
  (mtB (ltInt (Int.ofNat i) (Int.ofNat (lenN C))) (indexAddrA Tryz.prog 29 (AV.fsl false C) (I (Int.ofNat i))=some (AV.fptr [AV.str n,AV.str t] 0)∧mtB (beqBytes n s) ((((ys3 s)∧(AV.rsl true 15 0 (lenN [I (Int.ofNat i)]) 1=AV.nilsl∧true=true)∧(ys2 C)∧(ys1 C)∧(I (wrapA IntKind.i64 (Int.ofNat i+1))=I (Int.ofNat j)∧closedA (I (Int.ofNat j))=true)∧True)∧True∧True)∧N) ((((ys3 s)∧ys5∧(ys2 C)∧(ys1 C)∧(I (wrapA IntKind.i64 (Int.ofNat i+1))=I (Int.ofNat j)∧closedA (I (Int.ofNat j))=true)∧True)∧True∧True)∧N)) ((((ys3 s)∧ys5∧(ys2 C)∧(ys1 C)∧(ys6 i)∧True)∧True∧True)∧Q (AExit.exit 0) (plV0 s C i).st)):=by kernel_rfl
theorem pl_01 (s:List UInt8) (C:List AV) (i j k:Nat) (es:List AV) (n t:List UInt8) (N:Prop) (Q:AExit→St→Prop):wpK Tryz.prog opts0 40 (plA n t) (lpCode Tryz.prog 151 4) (plV0 s C i).st (roundP 0 [(0,15)] (plV1 s C j k es) N [] (plV0 s C i) Q)=
  (mtB (ltInt (Int.ofNat i) (Int.ofNat (lenN C))) (indexAddrA Tryz.prog 29 (AV.fsl false C) (I (Int.ofNat i))=some (AV.fptr [AV.str n,AV.str t] 0)∧mtB (beqBytes n s) ((((ys3 s)∧(ys2 C)∧(ys1 C)∧(I (wrapA IntKind.i64 (Int.ofNat i+1))=I (Int.ofNat j)∧closedA (I (Int.ofNat j))=true)∧True)∧((true=true∧some 15=some 15∧0=0∧k=lenN [I (Int.ofNat i)]∧1=1)∧True)∧(flat [I (Int.ofNat i)]=es∧closedAll es=true)∧True)∧N) ((((ys3 s)∧(ys2 C)∧(ys1 C)∧(I (wrapA IntKind.i64 (Int.ofNat i+1))=I (Int.ofNat j)∧closedA (I (Int.ofNat j))=true)∧True)∧(False∧True)∧False∧True)∧N)) ((((ys3 s)∧ys5∧(ys2 C)∧(ys1 C)∧(ys6 i)∧True)∧True∧True)∧Q (AExit.exit 0) (plV0 s C i).st)):=by kernel_rfl
@[simp] abbrev ys4 (C es:List AV) (Q:AExit→St→Prop) (i k:Nat) (s:List UInt8):=((((ys3 s)∧(ys2 C)∧(ys1 C)∧(ys6 i)∧True)∧((true=true∧some 0=some 0∧0=0∧k=k∧1=1)∧True)∧(es=es∧closedAll es=true)∧True)∧Q (AExit.exit 0) (plV1 s C i k es).st)
theorem pl_10 (s:List UInt8) (C:List AV) (i j k:Nat) (es:List AV) (n t:List UInt8) (N:Prop) (Q:AExit→St→Prop):wpK Tryz.prog opts0 40 (plA n t) (lpCode Tryz.prog 151 4) (plV1 s C i k es).st (roundP 0 [(0,0)] (plV1 s C j k es) N [(0,0)] (plV1 s C i k es) Q)=
  (mtB (ltInt (Int.ofNat i) (Int.ofNat (lenN C))) (indexAddrA Tryz.prog 29 (AV.fsl false C) (I (Int.ofNat i))=some (AV.fptr [AV.str n,AV.str t] 0)∧mtB (beqBytes n s) (oblB (allSize 1 [I (Int.ofNat i)]&&(((k+lenN [I (Int.ofNat i)])*8).ble 140737488355328&&(allOne (flat [I (Int.ofNat i)])&&true))) (oblB ((lenN es).beq (k*1)) ((((ys3 s)∧(ys2 C)∧(ys1 C)∧(I (wrapA IntKind.i64 (Int.ofNat i+1))=I (Int.ofNat j)∧closedA (I (Int.ofNat j))=true)∧True)∧((true=true∧some 0=some 15∧0=0∧k=k+lenN [I (Int.ofNat i)]∧1=1)∧True)∧False∧True)∧N))) ((((ys3 s)∧(ys2 C)∧(ys1 C)∧(I (wrapA IntKind.i64 (Int.ofNat i+1))=I (Int.ofNat j)∧closedA (I (Int.ofNat j))=true)∧True)∧((true=true∧some 0=some 0∧0=0∧k=k∧1=1)∧True)∧(es=es∧closedAll es=true)∧True)∧N)) (ys4 C es Q i k s)):=by kernel_rfl
theorem pl_11 (s:List UInt8) (C:List AV) (i j k k':Nat) (es es':List AV) (n t:List UInt8) (N:Prop) (Q:AExit→St→Prop):wpK Tryz.prog opts0 40 (plA n t) (lpCode Tryz.prog 151 4) (plV1 s C i k es).st (roundP 0 [(0,15)] (plV1 s C j k' es') N [(0,0)] (plV1 s C i k es) Q)=
  (mtB (ltInt (Int.ofNat i) (Int.ofNat (lenN C))) (indexAddrA Tryz.prog 29 (AV.fsl false C) (I (Int.ofNat i))=some (AV.fptr [AV.str n,AV.str t] 0)∧mtB (beqBytes n s) (oblB (allSize 1 [I (Int.ofNat i)]&&(((k+lenN [I (Int.ofNat i)])*8).ble 140737488355328&&(allOne (flat [I (Int.ofNat i)])&&true))) (oblB ((lenN es).beq (k*1)) ((((ys3 s)∧(ys2 C)∧(ys1 C)∧(I (wrapA IntKind.i64 (Int.ofNat i+1))=I (Int.ofNat j)∧closedA (I (Int.ofNat j))=true)∧True)∧((true=true∧some 15=some 15∧0=0∧k'=k+lenN [I (Int.ofNat i)]∧1=1)∧True)∧(es++flat [I (Int.ofNat i)]=es'∧closedAll es'=true)∧True)∧N))) ((((ys3 s)∧(ys2 C)∧(ys1 C)∧(I (wrapA IntKind.i64 (Int.ofNat i+1))=I (Int.ofNat j)∧closedA (I (Int.ofNat j))=true)∧True)∧((true=true∧some 15=some 0∧0=0∧k'=k∧1=1)∧True)∧False∧True)∧N)) (ys4 C es Q i k s)):=by kernel_rfl
def plL (s:List UInt8) (C:List AV) (F:View):LoopS:=fun st Q=>seesK 0 [] (plV0 s C 0) st∧Q (.exit 0) F.st
@[simp] abbrev ys7 (C:List AV) (s:List UInt8):=(((ys3 s)∧ys5∧(ys2 C)∧(ys1 C)∧(I 0=I 0∧true=true)∧True)∧True∧True)
theorem pl_fn0 (o:Ob) (M N L:AV) (s:List UInt8) (C:List AV) (Q:AV→Heap→Nat→Prop):fnK Tryz.prog opts0 40 (aidJ [] [(4,plL s C (plV0 s C (lenN C)))] noSem [] []) 151 [.agg (obF o M N L (.fsl false C)),.str s] [] 0 Q=
  ((ys7 C s)∧Q AV.nilsl [] 3):=by kernel_rfl
theorem pl_fn1 (o:Ob) (M N L:AV) (s:List UInt8) (C:List AV) (k:Nat) (es:List AV) (Q:AV→Heap→Nat→Prop):fnK Tryz.prog opts0 40 (aidJ [] [(4,plL s C (plV1 s C (lenN C) k es))] noSem [] []) 151 [.agg (obF o M N L (.fsl false C)),.str s] [] 0 Q=
  ((ys7 C s)∧Q (AV.rsl true 0 0 k 1) [(0,some (Blk.cells es))] 3):=by kernel_rfl
def placesL (s:List UInt8):List Cu→Nat→List Nat
 |[],_=>[]
 |c::r,k=>match beqBytes c.name s with
  |true=>k::placesL s r (k+1)
  |false=>placesL s r (k+1)
theorem placesL_snoc (s:List UInt8) (c:Cu):∀ (l:List Cu) (k:Nat),placesL s (l++[c]) k=placesL s l k++(match beqBytes c.name s with|true=>[k+l.length]|false=>[])
 |[],k=>by simp only[List.nil_append,placesL];cases beqBytes c.name s<;>simp
 |a::r,k=>by
  have ih:=placesL_snoc s c r (k+1)
  have e:k+1+r.length=k+(r.length+1):=by omega
  rw[e] at ih
  simp only[List.cons_append,placesL,ih,List.length_cons]
  cases beqBytes a.name s<;>simp
theorem take_snoc {α:Type} {l:List α} {i:Nat} {c:α} (h:l[i]? =some c):l.take (i+1)=l.take i++[c]:=by rw[List.take_add_one,h];rfl
theorem lt_of_some {α:Type} {l:List α} {i:Nat} {c:α} (h:l[i]? =some c):i<l.length:=by
 rcases Nat.lt_or_ge i l.length with h'|h'
 ·exact h'
 ·rw[List.getElem?_eq_none h'] at h;cases h
theorem placesL_succ {s:List UInt8} {l:List Cu} {i:Nat} {c:Cu} (h:l[i]? =some c):placesL s (l.take (i+1)) 0=placesL s (l.take i) 0++(match beqBytes c.name s with|true=>[i]|false=>[]):=by
 rw[take_snoc h,placesL_snoc,Nat.zero_add,List.length_take,Nat.min_eq_left (Nat.le_of_lt (lt_of_some h))]
theorem placesL_len (s:List UInt8):∀ (l:List Cu) (k:Nat),(placesL s l k).length≤l.length
 |[],_=>Nat.le_refl _
 |c::r,k=>by
  have:=placesL_len s r (k+1)
  simp only[placesL]
  split<;>simp<;>omega
theorem placesL_lt (s:List UInt8):∀ (l:List Cu) (k:Nat),∀x∈placesL s l k,k≤x∧x<k+l.length
 |[],_,x,h=>by cases h
 | c::r,k,x,h=>by
  have ih:=placesL_lt s r (k+1) x
  simp only[placesL] at h
  simp only[List.length_cons]
  split at h
  ·rcases List.mem_cons.1 h with rfl|h
   ·omega
   ·have:=ih h;omega
  ·have:=ih h;omega
def plV (s:List UInt8) (C:List AV) (i:Nat) (p:List Nat):View:=match p with
 |[]=>plV0 s C i
 |_::_=>plV1 s C i p.length (p.map nI)
theorem idxC {f:Bool} {l:List Cu} {i:Nat} {c:Cu} (hx:l[i]? =some c):indexAddrA Tryz.prog 29 (.fsl f (l.map cuA)) (.int .i64 (.ofNat i))=some (.fptr [.str c.name,.str c.text] 0):=
 fsl_index (v:=cuA c) (e:=101) (sz:=2) (by kernel_rfl) (by kernel_rfl) (by rw[List.getElem?_map,hx];rfl) rfl
theorem closed_nIs:∀p:List Nat,closedAll (p.map nI)=true
 |[]=>rfl
 |_::t=>closed_nIs t
theorem flat_nIs:∀p:List Nat,flat (p.map nI)=p.map nI
 |[]=>rfl
 |x::t=>by simp only[List.map_cons,flat,flat_nIs t];rfl
theorem pl_loop {s:List UInt8} {l:List Cu} {Q:AExit→St→Prop} (hb:l.length≤big) (hq:Q (.exit 0) (plV s (l.map cuA) l.length (placesL s l 0)).st):
    ∀i,i≤l.length→ALp Tryz.prog opts0.glob 0 (lpCode Tryz.prog 151 4) (plV s (l.map cuA) i (placesL s (l.take i) 0)).st Q:=by
  have hlen:lenN (l.map cuA)=l.length:=by rw[lenN_eq,List.length_map]
  have hcl:=closed_cus l
  have hb:l.length≤1099511627776:=hb
  refine count_up _ ?_ (fun i hi ih=> ?_)
  · rw[List.take_length]
    cases hp:placesL s l 0 with
    | nil=>
      rw[hp] at hq
      refine ALp.round (A:=plA [] []) (V1:=plV0 s (l.map cuA) 0) (V2:=plV0 s (l.map cuA) 0) (F:=plV0 s (l.map cuA) l.length) (lk:=[]) (lk':=[]) base0 aidJ_ok (LsOk.no rfl) .refl ?_
      simp only[plV]
      rw[pl_00]
      refine mtB_of (fun h=> ?_) (fun _=>⟨by simp[closedA,hcl],hq⟩)
      have h:=ltInt_iff.1 h
      simp only[hlen,Int.ofNat_eq_natCast] at h
      omega
    | cons a r=>
      rw[hp] at hq
      refine ALp.round (A:=plA [] []) (V1:=plV1 s (l.map cuA) 0 (a::r).length ((a::r).map nI)) (V2:=plV1 s (l.map cuA) 0 (a::r).length ((a::r).map nI)) (F:=plV1 s (l.map cuA) l.length (a::r).length ((a::r).map nI)) (lk:=[(0,0)]) (lk':=[(0,0)]) base0 aidJ_ok (LsOk.no rfl) .refl ?_
      simp only[plV]
      rw[pl_10]
      refine mtB_of (fun h=> ?_) (fun _=>⟨by simp[closedA,hcl,closed_nIs,closedAll,nI],hq⟩)
      have h:=ltInt_iff.1 h
      simp only[hlen,Int.ofNat_eq_natCast] at h
      omega
  · have g1:=List.getElem?_eq_getElem hi
    revert g1
    generalize l[i]=c
    intro g1
    have hs:=placesL_succ (s:=s) g1
    have hw:wrapA .i64 (Int.ofNat i+1)=Int.ofNat (i+1):=wrapA_i64 (by simp;omega) (by simp;omega)
    have hno:ltInt (Int.ofNat i) (Int.ofNat (lenN (l.map cuA)))=false→False:=fun h=>by
      have h:=ltInt_false.1 h
      simp only[hlen,Int.ofNat_eq_natCast] at h
      omega
    have hpl:(placesL s (l.take i) 0).length≤i:=by
      have:=placesL_len s (l.take i) 0
      rw[List.length_take] at this
      omega
    rw[hs] at ih
    clear hs
    revert ih hpl
    generalize placesL s (l.take i) 0=p
    intro ih hpl
    cases hc:beqBytes c.name s with
    | false=>
      rw[hc] at ih
      simp only[List.append_nil] at ih
      cases p with
      | nil=>
        refine ALp.round (A:=plA c.name c.text) (V1:=plV0 s (l.map cuA) (i+1)) (V2:=plV0 s (l.map cuA) (i+1)) (F:=plV0 s (l.map cuA) i) (lk:=[]) (lk':=[]) base0 aidJ_ok (LsOk.no rfl) .refl ?_
        simp only[plV] at ih⊢
        rw[pl_00]
        refine mtB_of (fun _=>⟨idxC g1,mtB_of (fun h=> ?_) (fun _=> ?_)⟩) (fun h=>(hno h).elim)
        · rw[hc] at h;cases h
        · rw[hw]
          exact ⟨by simp[closedA,hcl],ih⟩
      | cons a r=>
        refine ALp.round (A:=plA c.name c.text) (V1:=plV1 s (l.map cuA) (i+1) (a::r).length ((a::r).map nI)) (V2:=plV1 s (l.map cuA) (i+1) (a::r).length ((a::r).map nI)) (F:=plV1 s (l.map cuA) i (a::r).length ((a::r).map nI)) (lk:=[(0,0)]) (lk':=[(0,0)]) base0 aidJ_ok (LsOk.no rfl) .refl ?_
        simp only[plV] at ih⊢
        rw[pl_10]
        refine mtB_of (fun _=>⟨idxC g1,mtB_of (fun h=> ?_) (fun _=> ?_)⟩) (fun h=>(hno h).elim)
        · rw[hc] at h;cases h
        · rw[hw]
          exact ⟨by simp[closedA,hcl,closed_nIs,closedAll,nI],ih⟩
    | true=>
      rw[hc] at ih
      cases p with
      | nil=>
        refine ALp.round (A:=plA c.name c.text) (V1:=plV1 s (l.map cuA) (i+1) 1 [nI i]) (V2:=plV1 s (l.map cuA) (i+1) 1 [nI i]) (F:=plV0 s (l.map cuA) i) (lk:=[(0,15)]) (lk':=[]) base0 aidJ_ok (LsOk.no rfl) .refl ?_
        simp only[plV,List.nil_append] at ih⊢
        rw[pl_01]
        refine mtB_of (fun _=>⟨idxC g1,mtB_of (fun _=> ?_) (fun h=> ?_)⟩) (fun h=>(hno h).elim)
        · rw[hw]
          exact ⟨by simp[closedA,hcl,closedAll,nI,flat,AV.cells,lenN],ih⟩
        · rw[hc] at h;cases h
      | cons a r=>
        refine ALp.round (A:=plA c.name c.text) (V1:=plV1 s (l.map cuA) (i+1) ((a::r)++[i]).length (((a::r)++[i]).map nI)) (V2:=plV1 s (l.map cuA) (i+1) ((a::r)++[i]).length (((a::r)++[i]).map nI)) (F:=plV1 s (l.map cuA) i (a::r).length ((a::r).map nI)) (lk:=[(0,15)]) (lk':=[(0,0)]) base0 aidJ_ok (LsOk.no rfl) .refl ?_
        have ih:ALp Tryz.prog opts0.glob 0 (lpCode Tryz.prog 151 4) (plV1 s (l.map cuA) (i+1) ((a::r)++[i]).length (((a::r)++[i]).map nI)).st Q:=ih
        simp only[plV]
        rw[pl_11]
        refine mtB_of (fun _=>⟨idxC g1,mtB_of (fun _=>oblB_of ?_ (oblB_of ?_ ⟨?_,ih⟩)) (fun h=> ?_)⟩) (fun h=>(hno h).elim)
        · simp[allSize,lenN,AV.cells,flat,allOne]
          simp only[List.length_cons] at hpl
          omega
        · rw[beq_iff,lenN_eq,List.length_map,Nat.mul_one]
        · rw[hw]
          have:=closed_nIs r
          simp[closedA,hcl,closedAll,nI,flat,AV.cells,lenN] at this⊢
          exact closed_snoc r i
        · rw[hc] at h;cases h
 where
  closed_snoc:∀ (r:List Nat) (i:Nat),closedAll (List.map nI r++[AV.int .i64 (i:Int)])=true
    |[],_=>rfl
    |_::t,i=>closed_snoc t i
theorem pl_at:loopsAt (fnCode Tryz.prog 151) 4=[lpCode Tryz.prog 151 4]:=by kernel_rfl
def plcR (b:Nat):List Nat→AV
 |[]=> .nilsl
 |p@(_::_)=> .rsl true b 0 p.length 1
def plcH (b:Nat):List Nat→Heap
 |[]=>[]
 |p@(_::_)=>[(b,some (.cells (p.map nI)))]
theorem closed_obF (o:Ob) {M N L C:AV} (hM:closedA M=true) (hN:closedA N=true) (hL:closedA L=true) (hC:closedA C=true):closedAll (obF o M N L C)=true:=by
 simp only[obF,closedAll,closedA,hM,hN,hL,hC,Bool.and_self]
theorem places_body0 (o:Ob) {M N L:AV} (s:List UInt8) (_hM:closedA M=true) (_hN:closedA N=true) (_hL:closedA L=true) (hb:o.cust.length≤big):
  BodySem Tryz.prog opts0.glob 151 [.agg (obF o M N L (cusA o)),.str s] [] 0 (plcR 0 (placesL s o.cust 0)) (plcH 0 (placesL s o.cust 0)) 3:=by
 have hcl:=closed_cus o.cust
 have hlen:lenN (o.cust.map cuA)=o.cust.length:=by rw[lenN_eq,List.length_map]
 cases hp:placesL s o.cust 0 with
 | nil=>
  refine fnK_bodySem (A:=aidJ [] [(4,plL s (o.cust.map cuA) (plV0 s (o.cust.map cuA) (lenN (o.cust.map cuA))))] noSem [] []) base0 aidJ_ok
   (fnLs_of (LsOk.at1 rfl pl_at fun st Q hs=> .seen base0.glob hs.1 (pl_loop (s:=s) hb (by rw[hp];have:=hs.2;rw[hlen] at this;exact this) 0 (Nat.zero_le _)))) ?_
  simp only[cusA]
  rw[pl_fn0]
  exact ⟨by simp[closedA,hcl],rfl,rfl,rfl⟩
 | cons a r=>
  refine fnK_bodySem (A:=aidJ [] [(4,plL s (o.cust.map cuA) (plV1 s (o.cust.map cuA) (lenN (o.cust.map cuA)) (a::r).length ((a::r).map nI)))] noSem [] []) base0 aidJ_ok
   (fnLs_of (LsOk.at1 rfl pl_at fun st Q hs=> .seen base0.glob hs.1 (pl_loop (s:=s) hb (by rw[hp];have:=hs.2;rw[hlen] at this;exact this) 0 (Nat.zero_le _)))) ?_
  simp only[cusA]
  rw[pl_fn1]
  exact ⟨by simp[closedA,hcl],rfl,rfl,rfl⟩
end
end Go.Proofs.YtjhggnebkfpgcaaGreatDoor
namespace Go.Proofs.YtjhggnebkfpgcaaGreatDoor
open Go Go.RowKit
open Go.Proofs.Abs
structure RowH where
 nm:List UInt8
 ty:Int
 many:Bool
 set:Bool
def rowW (h:RowH) (A1 A2 A3 G R P D RM:AV):List AV:=[.str h.nm,I h.ty,.bool h.many,.bool h.set,A1,A2,A3,G,R,P,D,RM]
def fiT (W:List AV):AV:= .tuple [.agg W,.bool true]
end Go.Proofs.YtjhggnebkfpgcaaGreatDoor
