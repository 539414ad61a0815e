import Derived.Test.YtjmnheinkchlfaaGreatDoorProg
import Derived.Test.YtjmnheinkchlfaaGreatDoorG5
import Derived.KernelRfl
namespace Go.Proofs.YtjmnheinkchlfaaGreatDoor
open Go Go.RowKit
open Go.Proofs.Abs
abbrev I (n:Int):AV:= .int .i64 n
def tk:List (List UInt8):=[[85,110,105,113,117,101,32,73,100,101,110,116,105,102,105,101,114],[78,97,109,101],[79,98,106,101,99,116,32,84,121,112,101],[67,114,121,112,116,111,103,114,97,112,104,105,99,32,65,108,103,111,114,105,116,104,109],[67,114,121,112,116,111,103,114,97,112,104,105,99,32,76,101,110,103,116,104],[67,114,121,112,116,111,103,114,97,112,104,105,99,32,85,115,97,103,101,32,77,97,115,107],[83,116,97,116,101],[73,110,105,116,105,97,108,32,68,97,116,101],[65,99,116,105,118,97,116,105,111,110,32,68,97,116,101],[80,114,111,99,101,115,115,32,83,116,97,114,116,32,68,97,116,101],[80,114,111,116,101,99,116,32,83,116,111,112,32,68,97,116,101],[68,101,97,99,116,105,118,97,116,105,111,110,32,68,97,116,101],[68,101,115,116,114,111,121,32,68,97,116,101],[67,111,109,112,114,111,109,105,115,101,32,79,99,99,117,114,114,101,110,99,101,32,68,97,116,101],[67,111,109,112,114,111,109,105,115,101,32,68,97,116,101],[65,114,99,104,105,118,101,32,68,97,116,101],[76,97,115,116,32,67,104,97,110,103,101,32,68,97,116,101],[82,101,118,111,99,97,116,105,111,110,32,82,101,97,115,111,110],[76,105,110,107],[85,115,97,103,101,32,76,105,109,105,116,115],[120,45,97],[120,45,98],[120,45],[121]]
def gl:ax:=fun _=>none
theorem Tryz.mixed:Tryz.prog.follows .mixedOrders=true:=by kernel_rfl
noncomputable def opts0:aH:={how:=fun _=> .pure,summ:=fun _ _=>none,glob:=gl,lf:=100000}
theorem xg:∀g l,gl g=some l→ae l=true:=fun _ _ h=>by cases h
theorem base0:bK Tryz.prog opts0 40:=Bj Tryz.mixed (fun _ _ _ h=>by cases h) xg
theorem dN:∀f args v,opts0.summ f args=some v→SemCall Tryz.prog opts0.glob f args v:=fun _ _ _ h=>by cases h
noncomputable def aZ:aN:=gj (fun _ _=>none) (fun _=>none)
theorem ct:bL Tryz.prog opts0 aZ:=oP dN
noncomputable def ar (hint:List (Nat × Nat × cB)) (ls:List (Nat × a7)) (sem:eb) (pure all:List Nat):aN:=w7 Tryz.prog opts0 40 (km hint) (g6 ls) sem (CE pure all)
theorem au {hint:List (Nat × Nat × cB)} {ls:List (Nat × a7)} {sem:eb} {pure all:List Nat}:bL Tryz.prog opts0 (ar hint ls sem pure all):=CF base0 dN
set_option maxRecDepth 20000 in
theorem eg {A:aN} {f:FuncId} {args:List AV} {v r:AV} (hA:bL Tryz.prog opts0 A) (hl:eF Tryz.prog opts0.glob 0 A f) (hcl:ae args=true) (h:aA Tryz.prog opts0 40 A f args [] 0 (fun u H _=>(∃d,ay 0 H d u=some r)∧ad r=true)) (hw:Wk r v):SemCall Tryz.prog opts0.glob f args v:=(kg base0 hA hl hcl h).res hw
abbrev SC:=SemCall Tryz.prog opts0.glob
end Go.Proofs.YtjmnheinkchlfaaGreatDoor
namespace Go.Proofs.Abs
open Go
def jk (s:Nat):Nat:=(s/2)^^^((s%2)*3988292384)
def gu:Nat→Nat→Nat
 |0,s=>s
 |j+1,s=>jk (gu j s)
def jl (s c:Nat):Nat:=gu 8 (s^^^c)
def fe:Nat→List UInt8→Nat
 |s,[]=>s
 |s,c::t=>fe (jl s c.toNat) t
def mR (s:Nat) (l:List UInt8):Nat:=fe (s^^^4294967295) l^^^4294967295
theorem xh {s:Nat} (h:s<2^32):jk s<2^32:=by
 unfold jk
 refine Nat.xor_lt_two_pow (by omega) ?_
 have:s%2<2:=Nat.mod_lt _ (by decide)
 omega
theorem tl:∀ {j s:Nat},s<2^32→gu j s<2^32
 |0,_,h=>h
 |_j+1,_,h=>xh (tl h)
theorem xi {s c:Nat} (h:s<2^32) (hc:c<256):jl s c<2^32:=tl (Nat.xor_lt_two_pow h (by omega))
theorem xj:∀ (l:List UInt8) (s:Nat),s<2^32→fe s l<2^32
 |[],_,h=>h
 |c::t,_s,h=>xj t _ (xi h (UInt8.toNat_lt c))
theorem xl:∀ (l m:List UInt8) (s:Nat),fe s (l++m)=fe (fe s l) m
 |[],_,_=>rfl
 |_c::t,m,_s=>xl t m _
theorem u32_in {n:Nat} (h:n<2^32):af .u32 (Int.ofNat n)=Int.ofNat n:=by
 rw[f6,IntKind.wrap_u32]
 show ((n:Int)%4294967296)=n
 omega
theorem oX {n:Nat} (h:n<2^32):(BitVec.ofInt 32 (Int.ofNat n)).toNat=n:=by
 simp only[BitVec.toNat_ofInt]
 show ((n:Int)%((2^32:Nat):Int)).toNat=n
 omega
theorem tm {a b:Nat} (ha:a<2^32) (hb:b<2^32):(BitVec.ofInt 32 (Int.ofNat a)^^^BitVec.ofInt 32 (Int.ofNat b)).toNat=a^^^b:=by
 rw[BitVec.toNat_xor,oX ha,oX hb]
theorem xm {a b:Nat} (ha:a<2^32) (hb:b<2^32):(BitVec.ofInt 32 (Int.ofNat a)&&&BitVec.ofInt 32 (Int.ofNat b)).toNat=a&&&b:=by
 rw[BitVec.toNat_and,oX ha,oX hb]
theorem C0 {b:Nat} (hb:b<2):af .u32 (0-Int.ofNat b)=Int.ofNat (b*4294967295):=by
 rw[f6,IntKind.wrap_u32]
 have:b=0∨b=1:=by omega
 rcases this with rfl|rfl<;>rfl
theorem C1 {s:Nat} (h:s<2^32):af .u32 ((BitVec.ofInt 32 ((Int.ofNat s).fdiv 2)^^^BitVec.ofInt 32 (af .u32 ((BitVec.ofInt 32 3988292384&&&BitVec.ofInt 32 (af .u32 (0-af .u32 ((BitVec.ofInt 32 (Int.ofNat s)&&&BitVec.ofInt 32 1).toNat:Int)))).toNat:Int))).toNat:Int)=Int.ofNat (jk s):=by
 have h1:(BitVec.ofInt 32 (Int.ofNat s)&&&BitVec.ofInt 32 1).toNat=s%2:=by
  rw[show (1:Int)=Int.ofNat 1 from rfl,xm h (by decide)]
  exact Nat.and_one_is_mod s
 have hm:s%2<2:=Nat.mod_lt _ (by decide)
 have h5:(Int.ofNat s).fdiv 2=Int.ofNat (s/2):=by
  show (s:Int).fdiv 2=_
  rw[Int.fdiv_eq_ediv_of_nonneg _ (by decide)];rfl
 rw[h1,h5]
 have h6:af .u32 ((s%2:Nat):Int)=Int.ofNat (s%2):=u32_in (by omega)
 rw[h6,C0 hm]
 have h2:(BitVec.ofInt 32 3988292384&&&BitVec.ofInt 32 (Int.ofNat (s%2*4294967295))).toNat=s%2*3988292384:=by
  rw[show (3988292384:Int)=Int.ofNat 3988292384 from rfl,xm (by decide) (by omega)]
  rcases (by omega:s%2=0∨s%2=1) with e|e<;>rw[e]<;>rfl
 have h3:s%2*3988292384<2^32:=by omega
 have h7:af .u32 ((s%2*3988292384:Nat):Int)=Int.ofNat (s%2*3988292384):=u32_in h3
 rw[h2,h7,tm (by omega) h3]
 exact u32_in (xh h)
theorem C2 {s:Nat} {c:UInt8} (h:s<2^32):af .u32 ((BitVec.ofInt 32 (Int.ofNat s)^^^BitVec.ofInt 32 (af .u32 (Int.ofNat c.toNat))).toNat:Int)=Int.ofNat (s^^^c.toNat):=by
 have hc:=UInt8.toNat_lt c
 have hc':c.toNat<2^32:=by omega
 rw[u32_in hc',tm h hc']
 exact u32_in (Nat.xor_lt_two_pow h hc')
theorem oY {s:Nat} (h:s<2^32):af .u32 ((BitVec.ofInt 32 4294967295^^^BitVec.ofInt 32 (Int.ofNat s)).toNat:Int)=Int.ofNat (s^^^4294967295):=by
 rw[show (4294967295:Int)=Int.ofNat 4294967295 from rfl,tm (by decide) h,Nat.xor_comm]
 exact u32_in (Nat.xor_lt_two_pow h (by decide))
end Go.Proofs.Abs
namespace Go.Proofs.YtjmnheinkchlfaaGreatDoor
open Go Go.RowKit
open Go.Proofs.Abs
noncomputable section
def mS (a:AV) (n i x j:Nat):View:=⟨[(0,.int .u32 (.ofNat x)),(9,a),(10,I (.ofNat n)),(11,I (.ofNat i)),(19,I (.ofNat j))],[],[],0,32⟩
def dy (a:AV) (n i x:Nat):View:=⟨[(0,.int .u32 (.ofNat x)),(9,a),(10,I (.ofNat n)),(11,I (.ofNat i))],[],[],0,32⟩
def tn:a7:=fun s Q=>match s.slots.get 0,s.slots.get 9,s.slots.get 10,s.slots.get 11 with
 |some (.int .u32 x),some a,some (.int .i64 (.ofNat n)),some (.int .i64 (.ofNat i))=>
  aE (i9 x&&(Nat.blt x.toNat 4294967296&&ad a)) (ck 0 [] (mS a n i x.toNat 0) s∧Q (.exit 2) (dy a n i (gu 8 x.toNat)).st)
 |_,_,_,_=>False
def tp (v:AV):aN:=gj (BW 4 0 (.el v)) (db 8 tn)
@[simp] abbrev mU (n:Nat):=(I (Int.ofNat n)=I (Int.ofNat n)∧ad (I (Int.ofNat n))=true)
@[simp] abbrev oZ (i:Nat):=(I (Int.ofNat i)=I (Int.ofNat i)∧ad (I (Int.ofNat i))=true)
@[simp] abbrev xp (x:Nat):=(AV.int IntKind.u32 (Int.ofNat x)=AV.int IntKind.u32 (Int.ofNat x)∧ad (AV.int IntKind.u32 (Int.ofNat x))=true)
theorem C3 (x:Nat) (a:AV) (n i j:Nat) (go:Bool) (Q:AExit→St→Prop):al Tryz.prog opts0 40 aZ (aq Tryz.prog 355 8) (mS a n i x j).st (kj 0 [] (mS a n i (jk x) (j+1)) [] (dy a n i x) go Q)=
  (ah (am (Int.ofNat j) 8) (aE go (((AV.int IntKind.u32 (af IntKind.u32 ↑(BitVec.ofInt 32 ((Int.ofNat x).fdiv 2)^^^BitVec.ofInt 32 (af IntKind.u32 ↑(BitVec.ofInt 32 3988292384&&&BitVec.ofInt 32 (af IntKind.u32 (0-af IntKind.u32 ↑(BitVec.ofInt 32 (Int.ofNat x)&&&BitVec.ofInt 32 1).toNat))).toNat)).toNat)=AV.int IntKind.u32 (Int.ofNat (jk x))∧ad (AV.int IntKind.u32 (Int.ofNat (jk x)))=true)∧(a=a∧ad a=true)∧(mU n)∧(oZ i)∧(I (af IntKind.i64 (Int.ofNat j+1))=I (Int.ofNat (j+1))∧ad (I (Int.ofNat (j+1)))=true)∧True)∧True∧True)) ((((xp x)∧(a=a∧ad a=true)∧(mU n)∧(oZ i)∧True)∧True∧True)∧Q (AExit.exit 2) (dy a n i x).st)):=by kernel_rfl
theorem C4 {a:AV} {n i x:Nat} {Q:AExit→St→Prop} (ha:ad a=true) (hx:x<2^32) (hq:Q (.exit 2) (dy a n i (gu 8 x)).st):AWp Tryz.prog opts0.glob 0 (.loop (aq Tryz.prog 355 8)) (mS a n i x 0).st Q:=by
 refine AWp.loopV base0 (fun _=>aZ) (fun j=>mS a n i (gu j x) j) (fun j=>dy a n i (gu j x)) (fun _=>[]) (fun _=>[]) 8 0 (fun _=>ct) (fun _ r L h=>by cases h) fun j _ hj=> ?_
 rw[gu,C3,C1 (tl hx)]
 refine aw (fun h=> ?_) (fun h=> ?_)
 ·have h:(j:Int)<8:=ltInt_iff.1 h
  rw[g5 (by simp;omega) (by simp;omega)]
  refine oblB_iff.2 ⟨blt_iff.2 (by omega), ?_⟩
  simp[ad,ha]
 ·have h:(8:Int)≤j:=ltInt_false.1 h
  obtain rfl:j=8:=by omega
  refine ⟨by simp[ad,ha],hq⟩
theorem C5:bw (cN Tryz.prog 355) 4=[aq Tryz.prog 355 4]:=by kernel_rfl
theorem C6:bw (aq Tryz.prog 355 4) 8=[aq Tryz.prog 355 8]:=by kernel_rfl
@[simp] abbrev tq (es:List AV) (f:Bool):=(AV.fsl f es=AV.fsl f es∧ad (AV.fsl f es)=true)
theorem C7 (x:Nat) (b:UInt8) (f:Bool) (es:List AV) (n i:Nat) (go:Bool) (Q:AExit→St→Prop):al Tryz.prog opts0 40 (tp (.int .u8 (.ofNat b.toNat))) (aq Tryz.prog 355 4) (dy (.fsl f es) n i x).st (kj 0 [] (dy (.fsl f es) n (i+1) (jl x b.toNat)) [] (dy (.fsl f es) n i x) go Q)=
  (ah (am (Int.ofNat i) (Int.ofNat n)) (bF es (Int.ofNat i).toNat=some (AV.int IntKind.u8 (Int.ofNat b.toNat))∧aE (i9 (af IntKind.u32 ↑(BitVec.ofInt 32 (Int.ofNat x)^^^BitVec.ofInt 32 (af IntKind.u32 (Int.ofNat b.toNat))).toNat)&&((af IntKind.u32 ↑(BitVec.ofInt 32 (Int.ofNat x)^^^BitVec.ofInt 32 (af IntKind.u32 (Int.ofNat b.toNat))).toNat).toNat.blt 4294967296&&ad (AV.fsl f es))) ((((AV.int IntKind.u32 (af IntKind.u32 ↑(BitVec.ofInt 32 (Int.ofNat x)^^^BitVec.ofInt 32 (af IntKind.u32 (Int.ofNat b.toNat))).toNat)=AV.int IntKind.u32 (Int.ofNat (af IntKind.u32 ↑(BitVec.ofInt 32 (Int.ofNat x)^^^BitVec.ofInt 32 (af IntKind.u32 (Int.ofNat b.toNat))).toNat).toNat)∧ad (AV.int IntKind.u32 (Int.ofNat (af IntKind.u32 ↑(BitVec.ofInt 32 (Int.ofNat x)^^^BitVec.ofInt 32 (af IntKind.u32 (Int.ofNat b.toNat))).toNat).toNat))=true)∧(tq es f)∧(mU n)∧(oZ i)∧(I 0=I 0∧true=true)∧True)∧True∧True)∧aE go (((AV.int IntKind.u32 (Int.ofNat (gu 8 (af IntKind.u32 ↑(BitVec.ofInt 32 (Int.ofNat x)^^^BitVec.ofInt 32 (af IntKind.u32 (Int.ofNat b.toNat))).toNat).toNat))=AV.int IntKind.u32 (Int.ofNat (jl x b.toNat))∧ad (AV.int IntKind.u32 (Int.ofNat (jl x b.toNat)))=true)∧(tq es f)∧(mU n)∧(I (af IntKind.i64 (Int.ofNat i+1))=I (Int.ofNat (i+1))∧ad (I (Int.ofNat (i+1)))=true)∧True)∧True∧True))) ((((xp x)∧(tq es f)∧(mU n)∧(oZ i)∧True)∧True∧True)∧Q (AExit.exit 0) (dy (AV.fsl f es) n i x).st)):=by kernel_rfl
theorem C8 {s:St} {Q:AExit→St→Prop} (h:tn s Q):AWp Tryz.prog opts0.glob 0 (.loop (aq Tryz.prog 355 8)) s Q:=by
 unfold tn at h
 split at h
 ·obtain ⟨hb,hs,hq⟩:=oblB_iff.1 h
  simp only[Bool.and_eq_true] at hb
  exact .says (dv base0.glob hs) (C4 hb.2.2 (blt_iff.1 hb.2.1) hq)
 ·exact h.elim
theorem C9 (v:AV):LsOk Tryz.prog opts0.glob 0 (tp v) (aq Tryz.prog 355 4):=LsOk.one C6 fun _ _ h=>C8 h
def gv (x:Nat) (l:List UInt8):Nat→Nat
 |0=>x
 |i+1=>jl (gv x l i) (eZ l i).toNat
theorem xq (x:Nat) (l:List UInt8):∀i,i≤l.length→gv x l i=fe x (l.take i)
 |0,_=>rfl
 | i+1,h=>by
  have e:l.take (i+1)=l.take i++[eZ l i]:=by
   rw[List.take_add_one]
   simp[eZ,show i<l.length by omega]
  rw[e,xl,gv,xq x l i (by omega)]
  rfl
theorem tr {x:Nat} (l:List UInt8) (hx:x<2^32):∀i,gv x l i<2^32
 |0=>hx
 |i+1=>xi (tr l hx i) (UInt8.toNat_lt _)
theorem Da {f:Bool} {l:List UInt8} {x:Nat} {Q:AExit→St→Prop} (hx:x<2^32) (hl:l.length≤9223372036854775807) (hq:Q (.exit 0) (dy (.fsl f (aj l)) l.length l.length (fe x l)).st):
  AWp Tryz.prog opts0.glob 0 (.loop (aq Tryz.prog 355 4)) (dy (.fsl f (aj l)) l.length 0 x).st Q:=by
 refine AWp.loopV base0 (fun i=>tp (.int .u8 (.ofNat (eZ l i).toNat))) (fun i=>dy (.fsl f (aj l)) l.length i (gv x l i)) (fun i=>dy (.fsl f (aj l)) l.length i (gv x l i)) (fun _=>[]) (fun _=>[]) l.length 0 (fun _=>oP dN) (fun _=>C9 _) fun i _ hi=> ?_
 rw[gv,C7,C2 (tr l hx i)]
 refine aw (fun h=> ?_) (fun h=> ?_)
 ·have h:(i:Int)<l.length:=ltInt_iff.1 h
  have hi:i<l.length:=by omega
  rw[g5 (by simp;omega) (by simp;omega)]
  have hlt:gv x l i^^^(eZ l i).toNat<2^32:=Nat.xor_lt_two_pow (tr l hx i) (by have:=UInt8.toNat_lt (eZ l i);omega)
  refine ⟨?_, ?_⟩
  ·show bF (aj l) i=_
   rw[BP]
   simp[eZ,hi]
  ·refine oblB_iff.2 ⟨?_, ?_⟩
   ·show (true&&(Nat.blt (gv x l i^^^(eZ l i).toNat) 4294967296&&ad (.fsl f (aj l))))=true
    simp only[Bool.true_and,Bool.and_eq_true]
    exact ⟨blt_iff.2 hlt,by simp[ad]⟩
   ·refine ⟨by simp[ad],oblB_iff.2 ⟨blt_iff.2 (by omega), ?_⟩⟩
    simp[ad,jl]
 ·have h:(l.length:Int)≤i:=ltInt_false.1 h
  obtain rfl:i=l.length:=by omega
  refine ⟨by simp[ad], ?_⟩
  rw[xq x l _ (Nat.le_refl _),List.take_length]
  exact hq
def xr (f:Bool) (l:List UInt8):a7:=fun s Q=>match s.slots.get 0 with
 |some (.int .u32 x)=>aE (i9 x&&Nat.blt x.toNat 4294967296) (ck 0 [] (dy (.fsl f (aj l)) l.length 0 x.toNat) s∧Q (.exit 0) (dy (.fsl f (aj l)) l.length l.length (fe x.toNat l)).st)
 |_=>False
def xu (f:Bool) (l:List UInt8):aN:=gj (fun _ _=>none) (db 4 (xr f l))
theorem Db (x:Nat) (f:Bool) (l:List UInt8) (Q:AV→aa→Nat→Prop):aA Tryz.prog opts0 40 (xu f l) 355 [.int .u32 (.ofNat x),.fsl f (aj l)] [] 0 Q=
  (aE (i9 (af IntKind.u32 ↑(BitVec.ofInt 32 4294967295^^^BitVec.ofInt 32 (Int.ofNat x)).toNat)&&(af IntKind.u32 ↑(BitVec.ofInt 32 4294967295^^^BitVec.ofInt 32 (Int.ofNat x)).toNat).toNat.blt 4294967296) ((((AV.int IntKind.u32 (af IntKind.u32 ↑(BitVec.ofInt 32 4294967295^^^BitVec.ofInt 32 (Int.ofNat x)).toNat)=AV.int IntKind.u32 (Int.ofNat (af IntKind.u32 ↑(BitVec.ofInt 32 4294967295^^^BitVec.ofInt 32 (Int.ofNat x)).toNat).toNat)∧ad (AV.int IntKind.u32 (Int.ofNat (af IntKind.u32 ↑(BitVec.ofInt 32 4294967295^^^BitVec.ofInt 32 (Int.ofNat x)).toNat).toNat))=true)∧(AV.fsl f (aj l)=AV.fsl f (aj l)∧ad (AV.fsl f (aj l))=true)∧(I (Int.ofNat (ac (aj l)))=I (Int.ofNat l.length)∧ad (I (Int.ofNat l.length))=true)∧(I 0=I 0∧true=true)∧True)∧True∧True)∧Q (AV.int IntKind.u32 (af IntKind.u32 ↑(BitVec.ofInt 32 4294967295^^^BitVec.ofInt 32 (Int.ofNat (fe (af IntKind.u32 ↑(BitVec.ofInt 32 4294967295^^^BitVec.ofInt 32 (Int.ofNat x)).toNat).toNat l))).toNat)) [] 3)):=by kernel_rfl
theorem Dc (x:Nat) (Q:AV→aa→Nat→Prop):aA Tryz.prog opts0 40 aZ 355 [.int .u32 (.ofNat x),.nilsl] [] 0 Q=
  (Q (AV.int IntKind.u32 (af IntKind.u32 ↑(BitVec.ofInt 32 4294967295^^^BitVec.ofInt 32 (af IntKind.u32 ↑(BitVec.ofInt 32 4294967295^^^BitVec.ofInt 32 (Int.ofNat x)).toNat)).toNat)) [] 11):=by kernel_rfl
theorem Dd {x:Nat} {f:Bool} {l:List UInt8} (hx:x<2^32) (hl:l.length≤9223372036854775807):SC 355 [.int .u32 (.ofNat x),.fsl f (aj l)] (.int .u32 (.ofNat (mR x l))):=by
 refine kg (A:=xu f l) base0 (oP dN) (aF (LsOk.one C5 fun s Q hs=> ?_)) (by simp[ad,ae]) ?_
 ·unfold xr at hs
  split at hs
  ·obtain ⟨hb,hs,hq⟩:=oblB_iff.1 hs
   simp only[Bool.and_eq_true] at hb
   exact .says (dv base0.glob hs) (Da (blt_iff.1 hb.2) hl hq)
  ·exact hs.elim
 ·have h1:x^^^4294967295<2^32:=Nat.xor_lt_two_pow hx (by decide)
  rw[Db,oY hx]
  refine oblB_iff.2 ⟨?_, ?_, ?_⟩
  ·exact blt_iff.2 h1
  ·simp[ad]
  ·show (∃d,ay 0 [] d (.int .u32 (af .u32 ((BitVec.ofInt 32 4294967295^^^BitVec.ofInt 32 (Int.ofNat (fe (x^^^4294967295) l))).toNat:Int)))=_)∧_
   rw[oY (xj l _ h1)]
   exact ⟨⟨1,rfl⟩,rfl⟩
theorem De {x:Nat} (hx:x<2^32):SC 355 [.int .u32 (.ofNat x),.nilsl] (.int .u32 (.ofNat (mR x []))):=by
 refine kg (A:=aZ) base0 ct (wq fun _=>rfl) (by simp[ad,ae]) ?_
 have h1:x^^^4294967295<2^32:=Nat.xor_lt_two_pow hx (by decide)
 rw[Dc]
 have e:x^^^4294967295^^^4294967295=mR x []:=rfl
 rw[oY hx,oY h1,e]
 exact ⟨⟨1,rfl⟩,rfl⟩
end
noncomputable section
def o0:AV:= .fsl false (cb (.int .u8 0) 64)
def bG:Nat→List AV
 |0=>[]
 |n+1=>o0:: .bool false::bG n
theorem xv:∀n,bG n++[o0,.bool false]=bG (n+1)
 |0=>rfl
 |n+1=>by simp only[bG,List.cons_append];rw[xv n];rfl
theorem mV:∀n,ae (bG n)=true
 |0=>rfl
 |n+1=>by
  have h:ad o0=true:=by kernel_rfl
  simp only[bG,ae,h,mV n,ad,Bool.and_self]
theorem xw:∀n,ac (bG n)=n*2
 |0=>rfl
 |n+1=>by simp only[bG,ac,xw n];omega
def mW (s:AV):List AV:=[s,.nilsl,I (-1),.bool false,I 0]
def dO (n:Nat):Nat→View
 |0=>⟨[(13,I (.ofNat n)),(14,I 0)],[(4,.ptr 0 0)],[(0,.cells (mW .nilsl),.whole)],3,29⟩
 |i+1=>⟨[(13,I (.ofNat n)),(14,I (.ofNat (i+1)))],[(4,.ptr 0 0)],[(0,.cells (mW (.rsl true 1 0 (i+1) 2)),.each),(1,.cells (bG (i+1)),.whole)],3,29⟩
def ff (n i d:Nat):View:=⟨[(13,I (.ofNat n)),(14,I (.ofNat (i+1)))],[(4,.ptr 0 0)],[(0,.cells (mW (.rsl true 1 0 (i+1) 2)),.each),(1,.cells (bG i++[.rsl true 2 0 64 1,.bool false]),.split (bG i) [.rsl true 2 0 64 1,.bool false] [.rsl true d 0 64 1,.bool false]),(2,.cells (flat (cb (.int .u8 0) 64)),.whole)],3,29⟩
abbrev o1:=[AV.int IntKind.u8 0,AV.int IntKind.u8 0,AV.int IntKind.u8 0,AV.int IntKind.u8 0,AV.int IntKind.u8 0,AV.int IntKind.u8 0,AV.int IntKind.u8 0,AV.int IntKind.u8 0,AV.int IntKind.u8 0,AV.int IntKind.u8 0,AV.int IntKind.u8 0,AV.int IntKind.u8 0,AV.int IntKind.u8 0,AV.int IntKind.u8 0,AV.int IntKind.u8 0,AV.int IntKind.u8 0,AV.int IntKind.u8 0,AV.int IntKind.u8 0,AV.int IntKind.u8 0,AV.int IntKind.u8 0,AV.int IntKind.u8 0,AV.int IntKind.u8 0,AV.int IntKind.u8 0,AV.int IntKind.u8 0,AV.int IntKind.u8 0,AV.int IntKind.u8 0,AV.int IntKind.u8 0,AV.int IntKind.u8 0,AV.int IntKind.u8 0,AV.int IntKind.u8 0,AV.int IntKind.u8 0,AV.int IntKind.u8 0,AV.int IntKind.u8 0,AV.int IntKind.u8 0,AV.int IntKind.u8 0,AV.int IntKind.u8 0,AV.int IntKind.u8 0,AV.int IntKind.u8 0,AV.int IntKind.u8 0,AV.int IntKind.u8 0,AV.int IntKind.u8 0,AV.int IntKind.u8 0,AV.int IntKind.u8 0,AV.int IntKind.u8 0,AV.int IntKind.u8 0,AV.int IntKind.u8 0,AV.int IntKind.u8 0,AV.int IntKind.u8 0,AV.int IntKind.u8 0,AV.int IntKind.u8 0,AV.int IntKind.u8 0,AV.int IntKind.u8 0,AV.int IntKind.u8 0,AV.int IntKind.u8 0,AV.int IntKind.u8 0,AV.int IntKind.u8 0,AV.int IntKind.u8 0,AV.int IntKind.u8 0,AV.int IntKind.u8 0,AV.int IntKind.u8 0,AV.int IntKind.u8 0,AV.int IntKind.u8 0,AV.int IntKind.u8 0,AV.int IntKind.u8 0]
@[simp] abbrev o2 (n:Nat):=(I (Int.ofNat n)=I (Int.ofNat n)∧ad (I (Int.ofNat n))=true)
@[simp] abbrev mX:=(AV.bool false=AV.bool false∧true=true)
abbrev o3:=[AV.nilsl,AV.nilsl,I (Int.negSucc 0),AV.bool false,I 0]
abbrev mY:=[AV.rsl true 2 0 64 1,AV.bool false]
@[simp] abbrev o4:=((some 0=some 0∧0=0)∧True)
abbrev o5:=[AV.rsl true 9 0 64 1,AV.bool false]
@[simp] abbrev mZ:=(I 0=I 0∧true=true)
@[simp] abbrev ts:=(AV.nilsl=AV.nilsl∧true=true)
@[simp] abbrev xx:=(true=true∧some 9=some 9∧0=0∧64=64∧1=1)
theorem Df (n:Nat) (go:Bool) (Q:AExit→St→Prop):al Tryz.prog opts0 40 aZ (aq Tryz.prog 25 6) (dO n 0).st (kj 0 [(0,0),(1,12),(2,9)] (ff n 0 9) [(0,0)] (dO n 0) go Q)=
  (ah (am 0 (Int.ofNat n)) (aE go (((o2 n)∧(I 1=I 1∧true=true)∧True)∧o4∧((true=true∧some 12=some 12∧0=0∧1=1∧2=2)∧ts∧(I (Int.negSucc 0)=I (Int.negSucc 0)∧true=true)∧mX∧mZ∧True)∧((bG 0++mY=bG 0++mY∧o5=bG 0++o5)∧true=true∧xx∧mX∧True)∧(o1=o1∧true=true)∧True)) ((((o2 n)∧mZ∧True)∧o4∧(o3=o3∧true=true)∧True)∧Q (AExit.exit 0) (dO n 0).st)):=by kernel_rfl
theorem Dg (n i:Nat) (go:Bool) (Q:AExit→St→Prop):al Tryz.prog opts0 40 aZ (aq Tryz.prog 25 6) (dO n (i+1)).st (kj 0 [(0,0),(1,12),(2,9)] (ff n (i+1) 9) [(0,0),(1,1)] (dO n (i+1)) go Q)=
  (ah (am (Int.ofNat (i+1)) (Int.ofNat n)) (aE (((i+1+1)*32).ble 140737488355328&&true) (aE ((ac (bG (i+1))).beq ((i+1)*2)) (aE go (((o2 n)∧(I (af IntKind.i64 (Int.ofNat (i+1)+1))=I (Int.ofNat (i+1+1))∧ad (I (Int.ofNat (i+1+1)))=true)∧True)∧o4∧((true=true∧some 12=some 12∧0=0∧i+1+1=i+1+1∧2=2)∧ts∧(I (Int.negSucc 0)=I (Int.negSucc 0)∧true=true)∧mX∧mZ∧True)∧((bG (i+1)++mY=bG (i+1)++mY∧bG (i+1)++o5=bG (i+1)++o5)∧ae (bG (i+1))=true∧xx∧mX∧True)∧(o1=o1∧true=true)∧True)))) ((((o2 n)∧(I (Int.ofNat (i+1))=I (Int.ofNat (i+1))∧ad (I (Int.ofNat (i+1)))=true)∧True)∧o4∧((true=true∧some 1=some 1∧0=0∧i+1=i+1∧2=2)∧ts∧(I (Int.negSucc 0)=I (Int.negSucc 0)∧true=true)∧mX∧mZ∧True)∧(bG (i+1)=bG (i+1)∧ae (bG (i+1))=true)∧True)∧Q (AExit.exit 0) (dO n (i+1)).st)):=by kernel_rfl
abbrev xz (i:Nat):=[AV.rsl true 1 0 (i+1) 2,AV.nilsl,I (Int.negSucc 0),AV.bool false,I 0]
theorem Dh (n i:Nat):wH 2 (dO n (i+1)) (ff n i 9).st=
  ((Frz 2 (ff n i 9).st.heap (I (Int.ofNat n)) (I (Int.ofNat n))∧Frz 2 (ff n i 9).st.heap (I (Int.ofNat (i+1))) (I (Int.ofNat (i+1)))∧Frz 2 (ff n i 9).st.heap (AV.ptr 0 0) (AV.ptr 0 0)∧True)∧FrzL 2 (ff n i 9).st.heap (xz i) (xz i)∧FrzL 2 (ff n i 9).st.heap (bG i++mY) (bG (i+1))∧True):=by kernel_rfl
theorem Di (n i:Nat):Says2 opts0.glob 0 (ff n i 9).st (dO n (i+1)).st:=by
 refine BV (m:=2) ?_
 rw[Dh]
 have hz:Frz 2 (ff n i 9).st.heap (.rsl true 2 0 64 1) o0:=⟨2,by kernel_rfl⟩
 refine ⟨⟨⟨1,rfl⟩,⟨1,rfl⟩,⟨1,rfl⟩,trivial⟩,FrzL.cons ⟨1,rfl⟩ (FrzL.cons ⟨1,rfl⟩ (FrzL.cons ⟨1,rfl⟩ (FrzL.cons ⟨1,rfl⟩ (FrzL.cons ⟨1,rfl⟩ FrzL.nil)))), ?_,trivial⟩
 rw[←xv i]
 exact FrzL.append (FrzL.closed _ (mV i)) (FrzL.cons hz (FrzL.cons ⟨1,rfl⟩ FrzL.nil))
theorem Dj (n:Nat) (hn:n≤4096) {Q:AExit→St→Prop} (hq:Q (.exit 0) (dO n n).st):AWp Tryz.prog opts0.glob 0 (.loop (aq Tryz.prog 25 6)) (dO n 0).st Q:=by
 refine AWp.loopM base0 (fun _=>aZ) (dO n) (fun i=>ff n i 9) (dO n) (fun _=>[(0,0),(1,12),(2,9)]) (fun i=>match i with
  |0=>[(0,0)]
  |_+1=>[(0,0),(1,1)]) n 0 (fun _=>ct) (fun _=>LsOk.none) (fun i _ _=>Di n i) fun i _ hi=> ?_
 cases i with
 | zero=>
  rw[Df]
  refine aw (fun h=> ?_) (fun h=> ?_)
  ·have h:(0:Int)<n:=ltInt_iff.1 h
   exact oblB_iff.2 ⟨blt_iff.2 (by omega),by simp[ad,bG]⟩
  ·have h:(n:Int)≤0:=ltInt_false.1 h
   obtain rfl:n=0:=by omega
   exact ⟨by simp[ad],hq⟩
 | succ i=>
  rw[Dg]
  refine aw (fun h=> ?_) (fun h=> ?_)
  ·have h:((i+1:Nat):Int)<n:=ltInt_iff.1 h
   rw[g5 (by simp;omega) (by simp;omega)]
   refine oblB_iff.2 ⟨by simp;omega,oblB_iff.2 ⟨by rw[xw];simp,oblB_iff.2 ⟨blt_iff.2 (by omega), ?_⟩⟩⟩
   simp[ad,mV]
  ·have h:(n:Int)≤(i+1:Nat):=ltInt_false.1 h
   obtain rfl:n=i+1:=by omega
   exact ⟨by simp[ad,mV],hq⟩
def xA (n:Nat):a7:=fun s Q=>ck 0 [(0,9)] (dO n 0) s∧Q (.exit 0) (dO n n).st
theorem Dk:bw (cN Tryz.prog 25) 6=[aq Tryz.prog 25 6]:=by kernel_rfl
theorem Dl (n:Nat) (Q:AV→aa→Nat→Prop):aA Tryz.prog opts0 40 (gj (fun _ _=>none) (db 6 (xA (n+1)))) 25 [I (.ofNat (n+1))] [] 0 Q=
  (ah (am (Int.ofNat (n+1)) 8) (Q (AV.tuple [AV.nilp,I 1]) [] 10) (ah (am 4096 (Int.ofNat (n+1))) (Q (AV.tuple [AV.nilp,I 1]) [] 10) ((((I (Int.ofNat (n+1))=I (Int.ofNat (n+1))∧ad (I (Int.ofNat (n+1)))=true)∧mZ∧True)∧((some 9=some 9∧0=0)∧True)∧(o3=o3∧true=true)∧True)∧Q (AV.tuple [AV.ptr 0 0,I 0]) [(0,some (Blk.cells [AV.rsl true 1 0 (n+1) 2,AV.nilsl,I (Int.negSucc 0),AV.bool false,I 0])),(1,some (Blk.cells (bG (n+1))))] 6))):=by kernel_rfl
def Dm (n:Nat):aa:=[(0,some (.cells (mW (.rsl true 1 0 n 2)))),(1,some (.cells (bG n)))]
theorem Dn (n:Nat) (h1:8≤n+1) (h2:n+1≤4096):BodySem Tryz.prog opts0.glob 25 [I (.ofNat (n+1))] [] 0 (.tuple [.ptr 0 0,I 0]) (Dm (n+1)) 6:=by
 refine wr (A:=gj (fun _ _=>none) (db 6 (xA (n+1)))) base0 (oP dN) (aF (LsOk.one Dk fun s Q hs=> .says (dv base0.glob hs.1) (Dj (n+1) h2 hs.2))) ?_
 rw[Dl]
 refine aw (fun h=> ?_) (fun _=>aw (fun h=> ?_) (fun _=>⟨by simp[ad],rfl,rfl,rfl⟩))
 ·have h:((n+1:Nat):Int)<8:=ltInt_iff.1 h
  omega
 ·have h:(4096:Int)<(n+1:Nat):=ltInt_iff.1 h
  omega
def tt (nx n:Nat):aa:=[(nx,some (.cells (mW (.rsl true (nx+1) 0 n 2)))),(nx+1,some (.cells (bG n)))]
theorem Do (nx n:Nat) (h1:8≤n) (h2:n≤4096):BodySem Tryz.prog opts0.glob 25 [I (.ofNat n)] [] nx (.tuple [.ptr nx 0,I 0]) (tt nx n) (nx+6):=by
 obtain ⟨n,rfl⟩:∃k,n=k+1:=⟨n-1,by omega⟩
 refine B0 base0.glob rfl (Dn n h1 h2) (RenV.tuple2 (.ptr _ _ _ (by rw[jf,if_pos (by omega)];simp)) (.same _ rfl)) fun i b2 hi=> ?_
 simp only[tt,hget] at hi
 split at hi
 ·rename_i he
  have he:=beq_iff.1 he
  simp only[Option.some.injEq] at hi
  subst he;subst hi
  refine ⟨0,_,by rw[jf,if_pos (by omega)];simp,rfl, ?_⟩
  exact ⟨.rsl _ _ _ _ _ _ (by rw[jf,if_pos (by omega)];simp),.same _ rfl,.same _ rfl,.same _ rfl,.same _ rfl,trivial⟩
 ·split at hi
  ·rename_i he
   have he:=beq_iff.1 he
   simp only[Option.some.injEq] at hi
   subst he;subst hi
   exact ⟨1,_,by rw[jf,if_pos (by omega)];simp,rfl,RenL.same _ (mV _)⟩
  ·cases hi
end
def tu (s:Nat):AV→Option AV
 | .nilsl=>some (.int .u32 (.ofNat (mR s [])))
 | .fsl _ es=>match cK es with
  |some l=>match c8 (aj l) es&&Nat.ble (ac l) 9223372036854775807 with
   |true=>some (.int .u32 (.ofNat (mR s l)))
   |false=>none
  |none=>none
 |_=>none
theorem Dp {s:Nat} {a r:AV} (hs:s<2^32) (h:tu s a=some r):SC 355 [.int .u32 (.ofNat s),a] r:=by
 unfold tu at h
 split at h
 ·simp only[Option.some.injEq] at h;subst h
  exact De hs
 ·rename_i f es
  split at h
  ·rename_i l hl
   split at h
   ·rename_i hb
    simp only[Option.some.injEq] at h;subst h
    rw[Bool.and_eq_true] at hb
    have e:=eC _ _ hb.1
    rw[←e]
    exact Dd hs (by rw[←ap];exact Nat.le_of_ble_eq_true hb.2)
   ·cases h
  ·cases h
 ·cases h
def tv (f:FuncId) (args:List AV):Option AV:=match Nat.beq f 355,args with
 |true,[.int .u32 (.ofNat s),a]=>match Nat.blt s 4294967296 with
  |true=>tu s a
  |false=>none
 |_,_=>none
theorem Dq:∀f args r,ae args=true→tv f args=some r→SC f args r:=by
 intro f args r hcl h
 clear hcl
 unfold tv at h
 split at h
 ·rename_i s a hf
  split at h
  ·rename_i hb
   rw[beq_iff.1 hf]
   exact Dp (blt_iff.1 hb) h
  ·cases h
 ·cases h
def tw (f:FuncId) (args:List AV) (nx:Nat):Option (AV × aa × Nat):=match Nat.beq f 25,args with
 |true,[.int .i64 (.ofNat n)]=>match Nat.ble 8 n&&Nat.ble n 4096 with
  |true=>some (.tuple [.ptr nx 0,I 0],tt nx n,6)
  |false=>none
 |_,_=>none
theorem Dr:∀f args nx v H2 m,tw f args nx=some (v,H2,m)→BodySem Tryz.prog opts0.glob f args [] nx v H2 (nx+m):=by
 intro f args nx v H2 m h
 unfold tw at h
 split at h
 ·rename_i n hf
  split at h
  ·rename_i hb
   rw[Bool.and_eq_true] at hb
   simp only[Option.some.injEq,Prod.mk.injEq] at h
   obtain ⟨rfl,rfl,rfl⟩:=h
   rw[beq_iff.1 hf]
   exact Do nx n (Nat.le_of_ble_eq_true hb.1) (Nat.le_of_ble_eq_true hb.2)
  ·cases h
 ·cases h
def m4:aB:=eG (fun f=>Nat.beq f 25) (jg tw) (ko tv)
theorem o6:aV Tryz.prog opts0.glob m4∧aW m4:=wL (wJ Dr) (B3 base0.glob Dq)
end Go.Proofs.YtjmnheinkchlfaaGreatDoor
namespace Go.Proofs.YtjmnheinkchlfaaGreatDoor
open Go.RowKit
open Go.Proofs.Abs
inductive HT where
 |tip
 |node (k:Nat) (h:lR) (l r:HT)
noncomputable def HT.get (t:HT):Nat→lR:=
 HT.rec (fun _=> .pure) (fun k h _ _ gl gr f=>Bool.rec (Bool.rec (gr f) (gl f) (Nat.blt f k)) h (Nat.beq f k)) t
def hows:HT:=(.node 148 (.look 1) (.node 77 (.part 8) (.node 44 (.part 8) (.node 29 .keep (.node 23 (.part 8) (.node 20 (.part 8) (.node 17 (.part 8) (.node 5 .keep .tip .tip) .tip) (.node 22 (.part 8) (.node 21 (.part 8) .tip .tip) .tip)) (.node 26 .keep (.node 25 .known (.node 24 .keep .tip .tip) .tip) (.node 28 .keep .tip .tip))) (.node 35 (.part 8) (.node 33 (.part 8) (.node 31 (.part 8) (.node 30 .keep .tip .tip) .tip) (.node 34 (.part 8) .tip .tip)) (.node 42 (.part 8) (.node 41 (.part 8) (.node 40 (.part 8) .tip .tip) .tip) (.node 43 (.part 8) .tip .tip)))) (.node 58 .keep (.node 50 (.part 8) (.node 47 (.part 8) (.node 46 (.part 8) (.node 45 (.part 8) .tip .tip) .tip) (.node 48 (.part 8) .tip .tip)) (.node 54 .keep (.node 53 .keep (.node 51 .keep .tip .tip) .tip) (.node 55 .keep .tip .tip))) (.node 67 .keep (.node 63 .keep (.node 61 .keep (.node 59 .keep .tip .tip) .tip) (.node 65 (.look 1) .tip .tip)) (.node 74 (.each 2) (.node 70 (.part 8) (.node 68 (.part 8) .tip .tip) .tip) (.node 76 (.part 8) .tip .tip))))) (.node 125 (.look 1) (.node 115 (.look 0) (.node 106 (.part 8) (.node 98 (.part 8) (.node 80 (.part 8) (.node 79 (.part 8) .tip .tip) .tip) (.node 99 (.part 8) .tip .tip)) (.node 110 (.part 8) (.node 109 (.part 8) (.node 108 (.part 8) .tip .tip) .tip) (.node 114 .keep .tip .tip))) (.node 120 .keep (.node 118 (.look 0) (.node 117 (.look 0) (.node 116 (.look 0) .tip .tip) .tip) (.node 119 .keep .tip .tip)) (.node 123 (.look 1) (.node 122 .fresh (.node 121 .keep .tip .tip) .tip) (.node 124 (.look 1) .tip .tip)))) (.node 137 .keep (.node 131 .keep (.node 128 (.look 0) (.node 127 .keep (.node 126 (.look 1) .tip .tip) .tip) (.node 129 .keep .tip .tip)) (.node 135 .keep (.node 133 .keep (.node 132 .keep .tip .tip) .tip) (.node 136 .keep .tip .tip))) (.node 142 (.each 0) (.node 140 (.look 1) (.node 139 .keep (.node 138 .keep .tip .tip) .tip) (.node 141 (.look 1) .tip .tip)) (.node 146 (.look 1) (.node 145 (.look 1) (.node 144 (.look 1) .tip .tip) .tip) (.node 147 (.look 1) .tip .tip)))))) (.node 275 (.look 1) (.node 246 .keep (.node 160 (.look 8) (.node 154 (.look 1) (.node 151 (.look 1) (.node 150 (.look 1) (.node 149 (.look 1) .tip .tip) .tip) (.node 152 (.look 1) .tip .tip)) (.node 157 (.look 1) (.node 156 (.look 1) (.node 155 (.look 1) .tip .tip) .tip) (.node 158 .keep .tip .tip))) (.node 232 .keep (.node 172 .keep (.node 170 (.part 2) (.node 168 (.part 2) .tip .tip) .tip) (.node 231 .keep .tip .tip)) (.node 244 .keep (.node 243 .keep (.node 233 (.look 2) .tip .tip) .tip) (.node 245 .keep .tip .tip)))) (.node 260 .keep (.node 253 .keep (.node 250 (.look 1) (.node 249 (.look 0) (.node 247 (.look 1) .tip .tip) .tip) (.node 251 .keep .tip .tip)) (.node 258 .fresh (.node 256 .keep (.node 254 (.look 1) .tip .tip) .tip) (.node 259 .keep .tip .tip))) (.node 268 .keep (.node 263 .keep (.node 262 .keep (.node 261 .keep .tip .tip) .tip) (.node 267 .keep .tip .tip)) (.node 271 .keep (.node 270 (.look 1) (.node 269 .keep .tip .tip) .tip) (.node 272 (.look 1) .tip .tip))))) (.node 362 .keep (.node 350 .keep (.node 281 (.look 1) (.node 279 .keep (.node 277 .keep (.node 276 .keep .tip .tip) .tip) (.node 280 (.look 1) .tip .tip)) (.node 294 (.part 2) (.node 293 (.part 2) (.node 282 .keep .tip .tip) .tip) (.node 302 .keep .tip .tip))) (.node 355 .known (.node 353 .keep (.node 352 .keep (.node 351 (.look 0) .tip .tip) .tip) (.node 354 (.look 0) .tip .tip)) (.node 360 (.look 0) (.node 359 .clone (.node 357 .keep .tip .tip) .tip) (.node 361 .keep .tip .tip)))) (.node 430 (.look 0) (.node 420 (.look 0) (.node 406 .keep (.node 405 .keep (.node 404 .keep .tip .tip) .tip) (.node 409 .fresh .tip .tip)) (.node 428 (.look 0) (.node 426 (.look 0) (.node 423 (.look 0) .tip .tip) .tip) (.node 429 (.look 0) .tip .tip))) (.node 523 .keep (.node 487 .fresh (.node 449 .fresh (.node 443 .cmp .tip .tip) .tip) (.node 488 .fresh .tip .tip)) (.node 528 .keep (.node 525 .keep (.node 524 .keep .tip .tip) .tip) (.node 529 .keep .tip .tip)))))))
noncomputable def optsH:aH:={how:=hows.get,summ:=fun _ _=>none,glob:=fun _=>none,lf:=100000,cx:=m4}
end Go.Proofs.YtjmnheinkchlfaaGreatDoor
namespace Go.Proofs.YtjmnheinkchlfaaGreatDoor
open Go Go.RowKit
open Go.Proofs.Abs
noncomputable section
abbrev aD:Nat:=1099511627776
def ai (t y n:Int) (D K:List AV):List AV:=[I t,I y,I n,.fsl false D,.fsl false K]
def ku (t y n t' y' n':Int) (D K D' K':List AV) (i:Nat):View:=⟨[(4,.bool false),(5,I (.ofNat i))],[(2,.ptr 0 0),(3,.ptr 1 0)],[(0,.cells (ai t y n D K),.whole),(1,.cells (ai t' y' n' D' K'),.whole)],2,62⟩
def smF:View:=⟨[(4,.bool false)],[],[],2,62⟩
def tx (c c':List AV) (r:Bool):aN:=mJ (km [(6,3,.res (.fptr c 0)),(6,8,.res (.fptr c' 0))]) (fun _=>none) (ed [(13,.bool r)])
abbrev jm (D K:List AV) (n t y:Int):=[I t,I y,I n,AV.fsl false D,AV.fsl false K]
abbrev jn (D' K':List AV) (n' t' y':Int):=[I t',I y',I n',AV.fsl false D',AV.fsl false K']
@[simp] abbrev o7:=(AV.bool false=AV.bool false∧true=true)
@[simp] abbrev xB:=((some 0=some 0∧0=0)∧(some 1=some 1∧0=0)∧True)
theorem xC (t y n t' y' n' a b c a' b' c':Int) (D K D' K' E L E' L':List AV) (i:Nat) (r:Bool) (N:Prop) (Q:AExit→St→Prop):al Tryz.prog opts0 40 (tx (ai a b c E L) (ai a' b' c' E' L') r) (aq Tryz.prog 13 5) (ku t y n t' y' n' D K D' K' i).st (aO 0 [(0,0),(1,1)] (ku t y n t' y' n' D K D' K' (i+1)) N [] smF Q)=
  (ah (am (Int.ofNat i) (Int.ofNat (ac K))) (aJ Tryz.prog 29 (AV.fsl false K) (I (Int.ofNat i))=some (AV.fptr [I a,I b,I c,AV.fsl false E,AV.fsl false L] 0)∧aJ Tryz.prog 29 (AV.fsl false K') (I (Int.ofNat i))=some (AV.fptr [I a',I b',I c',AV.fsl false E',AV.fsl false L'] 0)∧SC 13 [AV.agg [I a,I b,I c,AV.fsl false E,AV.fsl false L],AV.agg [I a',I b',I c',AV.fsl false E',AV.fsl false L']] (AV.bool r)∧ah (!r) (((o7∧True)∧True∧True)∧Q AExit.ret smF.st) (((o7∧(I (af IntKind.i64 (Int.ofNat i+1))=I (Int.ofNat (i+1))∧ad (I (Int.ofNat (i+1)))=true)∧True)∧xB∧((jm D K n t y)=(jm D K n t y)∧ae (jm D K n t y)=true)∧((jn D' K' n' t' y')=(jn D' K' n' t' y')∧ae (jn D' K' n' t' y')=true)∧True)∧N)) (((o7∧True)∧True∧True)∧Q (AExit.exit 0) smF.st)):=by kernel_rfl
theorem dc (l:List It):(ab l).length=l.length:=by simp[ji]
theorem br (t y n:Int) (d:List UInt8) (ks:List It):ao (.mk t y n d ks)= .agg (ai t y n (aj d) (ab ks)):=rfl
theorem fg {f:Bool} {ks:List It} {i:Nat} {t y n:Int} {d:List UInt8} {l:List It} (hx:ks[i]? =some (.mk t y n d l)):aJ Tryz.prog 29 (.fsl f (ab ks)) (.int .i64 (.ofNat i))=some (.fptr (ai t y n (aj d) (ab l)) 0):=
 tg (v:=ao (.mk t y n d l)) (e:=31) (sz:=5) (by kernel_rfl) (by kernel_rfl) (by rw[ji,List.getElem?_map,hx];rfl) rfl
theorem xE {t y n t' y' n':Int} {D D':List AV} {ks ks':List It} {Q:AExit→St→Prop} (hD:ae D=true) (hD':ae D'=true) (hb:ks.length≤aD) (hl:ks.length=ks'.length)
  (ih:∀ (i:Nat) (x z:It),ks[i]? =some x→ks'[i]? =some z→SC 13 [ao x,ao z] (.bool (fb x z))):
  ∀ (m i:Nat),i+m=ks.length→ah (ef (ks.drop i) (ks'.drop i)) (Q (.exit 0) smF.st) (Q .ret smF.st)→ALp Tryz.prog opts0.glob 0 (aq Tryz.prog 13 5) (ku t y n t' y' n' D (ab ks) D' (ab ks') i).st Q
 | 0,i,hi,hq=>by
  refine ALp.round (A:=tx (ai 0 0 0 [] []) (ai 0 0 0 [] []) true) (V1:=ku t y n t' y' n' D (ab ks) D' (ab ks') (i+1)) (F:=smF) (lk:=[(0,0),(1,1)]) (lk':=[]) base0 (gm dN) (LsOk.no rfl) .refl ?_
  rw[xC]
  refine aw (fun h=> ?_) (fun _=> ?_)
  ·have h:=ltInt_iff.1 h
   simp only[ap,dc,Int.ofNat_eq_natCast] at h
   omega
  ·rw[List.drop_of_length_le (by omega),List.drop_of_length_le (by omega)] at hq
   exact ⟨by simp,hq⟩
 | m+1,i,hi,hq=>by
  have h1:i<ks.length:=by omega
  have h2:i<ks'.length:=by omega
  rw[List.drop_eq_getElem_cons h1,List.drop_eq_getElem_cons h2,ef] at hq
  have g1:ks[i]? =some ks[i]:=List.getElem?_eq_getElem h1
  have g2:ks'[i]? =some ks'[i]:=List.getElem?_eq_getElem h2
  have hs:=ih i _ _ g1 g2
  revert hs g1 g2 hq
  generalize ks[i]=x
  generalize ks'[i]=z
  intro hq g1 g2 hs
  obtain ⟨a,b,c,e,l⟩:=x
  obtain ⟨a',b',c',e',l'⟩:=z
  refine ALp.round (A:=tx (ai a b c (aj e) (ab l)) (ai a' b' c' (aj e') (ab l')) (fb (.mk a b c e l) (.mk a' b' c' e' l'))) (V1:=ku t y n t' y' n' D (ab ks) D' (ab ks') (i+1)) (F:=smF) (lk:=[(0,0),(1,1)]) (lk':=[]) base0 (gm dN) (LsOk.no rfl) .refl ?_
  rw[xC]
  refine aw (fun _=>⟨fg g1,fg g2,hs,aw (fun h=> ?_) (fun h=> ?_)⟩) (fun h=> ?_)
  ·rw[Bool.not_eq_true'] at h
   rw[h] at hq
   exact ⟨by simp,hq⟩
  ·rw[Bool.not_eq_false'] at h
   rw[h] at hq
   have hb:ks.length≤1099511627776:=hb
   rw[g5 (by simp;omega) (by simp;omega)]
   refine ⟨by simp[ad,ae,hD,hD',bA],xE hD hD' hb hl ih m (i+1) (by omega) hq⟩
  ·have h:=ltInt_false.1 h
   simp only[ap,dc,Int.ofNat_eq_natCast] at h
   omega
def xF (t y n t' y' n':Int) (D K D' K':List AV) (p:Prop) (r:Bool):a7:=fun s Q=>p∧ck 0 [(0,0),(1,1)] (ku t y n t' y' n' D K D' K' 0) s∧ah r (Q (.exit 0) smF.st) (Q .ret smF.st)
def xG (L:a7):aN:=mJ (km []) (g6 [(5,L)]) aI
abbrev m5 (D D' K K':List AV) (Q:AV→aa→Nat→Prop) (n n' t t' y y':Int):=(Q (AV.bool false) [(1,some (Blk.cells (jn D' K' n' t' y'))),(0,some (Blk.cells (jm D K n t y)))] 41)
theorem Ds (t y n t' y' n':Int) (D K D' K':List AV) (p:Prop) (r:Bool) (Q:AV→aa→Nat→Prop):aA Tryz.prog opts0 40 (xG (xF t y n t' y' n' D K D' K' p r)) 13 [.agg (ai t y n D K),.agg (ai t' y' n' D' K')] [] 0 Q=
  (ah (!ag t t') (m5 D D' K K' Q n n' t t' y y') (ah (!ag y y') (m5 D D' K K' Q n n' t t' y y') (ah (!ag n n') (m5 D D' K K' Q n n' t t' y y') (aE (cK D).isSome (aE (cK D').isSome (ah (!cW (j9 D) (j9 D')) (m5 D D' K K' Q n n' t t' y y') (ah (!ag (Int.ofNat (ac K)) (Int.ofNat (ac K'))) (m5 D D' K K' Q n n' t t' y y') (p∧((o7∧(I 0=I 0∧true=true)∧True)∧xB∧((jm D K n t y)=(jm D K n t y)∧ae (jm D K n t y)=true)∧((jn D' K' n' t' y')=(jn D' K' n' t' y')∧ae (jn D' K' n' t' y')=true)∧True)∧ah r (Q (AV.bool true) [] 3) (Q (AV.bool false) [] 2))))))))):=by kernel_rfl
theorem Du:bw (cN Tryz.prog 13) 5=[aq Tryz.prog 13 5]:=by kernel_rfl
theorem Dv {t y n t' y' n':Int} {d d':List UInt8} {ks ks':List It} (h:aX aD (.mk t y n d ks))
  (ih:∀ (i:Nat) (x z:It),ks[i]? =some x→ks'[i]? =some z→SC 13 [ao x,ao z] (.bool (fb x z))):
  SC 13 [ao (.mk t y n d ks),ao (.mk t' y' n' d' ks')] (.bool (fb (.mk t y n d ks) (.mk t' y' n' d' ks'))):=by
 simp only[aX] at h
 obtain ⟨h3,h4,h5⟩:=h
 refine kg (A:=xG (xF t y n t' y' n' (aj d) (ab ks) (aj d') (ab ks') (ks.length=ks'.length) (ef ks ks'))) base0 (gm dN)
  (aF (LsOk.at1 rfl Du fun s Q hs=> .seen base0.glob hs.2.1 (xE (by simp) (by simp) h4 hs.1 ih ks.length 0 (by omega) (by simpa using hs.2.2)))) (by simp[ae,cC]) ?_
 rw[br,br,Ds]
 simp only[fb]
 refine aw (fun e=> ?_) (fun e=>aw (fun e2=> ?_) (fun e2=>aw (fun e3=> ?_) (fun e3=>bD (by simp) (bD (by simp) (aw (fun e4=> ?_) (fun e4=>aw (fun e5=> ?_) (fun e5=>⟨?_,by simp[ae,ad,bA],aw (fun e6=> ?_) (fun e6=> ?_)⟩)))))))
 ·exact jj (by simp_all)
 ·exact jj (by simp_all)
 ·exact jj (by simp_all)
 ·exact jj (by simp_all)
 ·have hne:ef ks ks'=false:=by
   cases hs:ef ks ks' with
   |false=>rfl
   |true=>
    rw[ap,ap,dc,dc,CJ hs,Bool.not_eq_true',beqInt_false] at e5
    exact absurd rfl e5
  exact jj (by simp[hne])
 ·rw[Bool.not_eq_false',beqInt_iff,ap,ap,dc,dc] at e5
  exact Int.ofNat.inj e5
 ·exact jj (by simp_all)
 ·exact jj (by simp_all)
mutual
theorem xH:∀x z:It,aX aD x→SC 13 [ao x,ao z] (.bool (fb x z))
 | .mk _ _ _ _ ks,.mk _ _ _ _ _ks',h=>Dv h fun _i x z hx _=>xI ks x (List.mem_of_getElem? hx) z (okIs_iff.1 h.2.2 x (List.mem_of_getElem? hx))
theorem xI:∀ks:List It,∀x∈ks,∀z,aX aD x→SC 13 [ao x,ao z] (.bool (fb x z))
 |[],_,hx,_,_=>by cases hx
 |k::r,x,hx,z,h=>by
  have h1:=xH k z
  have h2:=xI r x
  rcases List.mem_cons.1 hx with e|hx
  ·rw[e] at h⊢;exact h1 h
  ·exact h2 hx z h
end
end
theorem Dw (Q:AV→aa→Nat→Prop):aA Tryz.prog opts0 40 aZ 115 [.nilsl] [] 0 Q=
  (Q AV.nilsl [] 4):=by kernel_rfl
theorem Dx (Q:AV→aa→Nat→Prop):aA Tryz.prog opts0 40 aZ 115 [.nesl] [] 0 Q=
  (Q (AV.fsl true []) [] 7):=by kernel_rfl
theorem Dy (a:AV) (es:List AV) (Q:AV→aa→Nat→Prop):aA Tryz.prog opts0 40 aZ 115 [.fsl false (a::es)] [] 0 Q=
  (aE (bi 1 (a::es)&&(((0+ac (a::es))*1).ble 140737488355328&&true)) (Q (AV.rsl true 5 0 (0+ac (a::es)) 1) [(5,some (Blk.cells (flat (a::es))))] 7)):=by kernel_rfl
theorem xJ {l:List AV} (hl:∀e∈l,cM 1 e) (hc:ae l=true) (hn:l.length≤aD):SC 115 [.fsl false l] (.fsl false l):=by
 cases l with
 |nil=>
  refine SemCall.empty (eg (A:=aZ) (r:= .nilsl) ct (aF (LsOk.no rfl)) rfl ?_ .nil) (eg (A:=aZ) (r:= .fsl true []) ct (aF (LsOk.no rfl)) rfl ?_ .full)
  ·rw[Dw];exact gp rfl
  ·rw[Dx];exact gp rfl
 | cons a es=>
  have hcl:ae [.fsl false (a::es)]=true:=by rw[ae,ad,hc];rfl
  refine eg (A:=aZ) (r:= .fsl false (a::es)) ct (aF (LsOk.no rfl)) hcl ?_ (.refl _)
  rw[Dy]
  have h1:bi 1 (a::es)=true:=allSize_iff.2 fun e he=>(hl e he).1
  refine oblB_iff.2 ⟨?_, ?_⟩
  ·have hn:es.length+1≤1099511627776:=hn
   simp only[Bool.and_eq_true,Nat.ble_eq,ap] at h1⊢
   first|exact ⟨h1,by omega⟩|exact ⟨h1,by simp only[List.length_cons];omega⟩|(simp_all;omega)
  ·exact mP (Frz.row rfl rfl rfl (by first|rfl|simp[ap]) hl hc) hc
theorem Dz (Q:AV→aa→Nat→Prop):aA Tryz.prog opts0 40 aZ 116 [.nilsl] [] 0 Q=
  (Q AV.nilsl [] 4):=by kernel_rfl
theorem DA (Q:AV→aa→Nat→Prop):aA Tryz.prog opts0 40 aZ 116 [.nesl] [] 0 Q=
  (Q (AV.fsl true []) [] 7):=by kernel_rfl
theorem DB (a:AV) (es:List AV) (Q:AV→aa→Nat→Prop):aA Tryz.prog opts0 40 aZ 116 [.fsl false (a::es)] [] 0 Q=
  (aE (bi 1 (a::es)&&(((0+ac (a::es))*16).ble 140737488355328&&true)) (Q (AV.rsl true 5 0 (0+ac (a::es)) 1) [(5,some (Blk.cells (flat (a::es))))] 7)):=by kernel_rfl
theorem DC {l:List AV} (hl:∀e∈l,cM 1 e) (hc:ae l=true) (hn:l.length≤aD):SC 116 [.fsl false l] (.fsl false l):=by
 cases l with
 |nil=>
  refine SemCall.empty (eg (A:=aZ) (r:= .nilsl) ct (aF (LsOk.no rfl)) rfl ?_ .nil) (eg (A:=aZ) (r:= .fsl true []) ct (aF (LsOk.no rfl)) rfl ?_ .full)
  ·rw[Dz];exact gp rfl
  ·rw[DA];exact gp rfl
 | cons a es=>
  have hcl:ae [.fsl false (a::es)]=true:=by rw[ae,ad,hc];rfl
  refine eg (A:=aZ) (r:= .fsl false (a::es)) ct (aF (LsOk.no rfl)) hcl ?_ (.refl _)
  rw[DB]
  have h1:bi 1 (a::es)=true:=allSize_iff.2 fun e he=>(hl e he).1
  refine oblB_iff.2 ⟨?_, ?_⟩
  ·have hn:es.length+1≤1099511627776:=hn
   simp only[Bool.and_eq_true,Nat.ble_eq,ap] at h1⊢
   first|exact ⟨h1,by omega⟩|exact ⟨h1,by simp only[List.length_cons];omega⟩|(simp_all;omega)
  ·exact mP (Frz.row rfl rfl rfl (by first|rfl|simp[ap]) hl hc) hc
theorem DD (Q:AV→aa→Nat→Prop):aA Tryz.prog opts0 40 aZ 117 [.nilsl] [] 0 Q=
  (Q AV.nilsl [] 4):=by kernel_rfl
theorem DE (Q:AV→aa→Nat→Prop):aA Tryz.prog opts0 40 aZ 117 [.nesl] [] 0 Q=
  (Q (AV.fsl true []) [] 7):=by kernel_rfl
theorem DF (a:AV) (es:List AV) (Q:AV→aa→Nat→Prop):aA Tryz.prog opts0 40 aZ 117 [.fsl false (a::es)] [] 0 Q=
  (aE (bi 2 (a::es)&&(((0+ac (a::es))*24).ble 140737488355328&&true)) (Q (AV.rsl true 5 0 (0+ac (a::es)) 2) [(5,some (Blk.cells (flat (a::es))))] 7)):=by kernel_rfl
theorem DG {l:List AV} (hl:∀e∈l,cM 2 e) (hc:ae l=true) (hn:l.length≤aD):SC 117 [.fsl false l] (.fsl false l):=by
 cases l with
 |nil=>
  refine SemCall.empty (eg (A:=aZ) (r:= .nilsl) ct (aF (LsOk.no rfl)) rfl ?_ .nil) (eg (A:=aZ) (r:= .fsl true []) ct (aF (LsOk.no rfl)) rfl ?_ .full)
  ·rw[DD];exact gp rfl
  ·rw[DE];exact gp rfl
 | cons a es=>
  have hcl:ae [.fsl false (a::es)]=true:=by rw[ae,ad,hc];rfl
  refine eg (A:=aZ) (r:= .fsl false (a::es)) ct (aF (LsOk.no rfl)) hcl ?_ (.refl _)
  rw[DF]
  have h1:bi 2 (a::es)=true:=allSize_iff.2 fun e he=>(hl e he).1
  refine oblB_iff.2 ⟨?_, ?_⟩
  ·have hn:es.length+1≤1099511627776:=hn
   simp only[Bool.and_eq_true,Nat.ble_eq,ap] at h1⊢
   first|exact ⟨h1,by omega⟩|exact ⟨h1,by simp only[List.length_cons];omega⟩|(simp_all;omega)
  ·exact mP (Frz.row rfl rfl rfl (by first|rfl|simp[ap]) hl hc) hc
theorem DH (Q:AV→aa→Nat→Prop):aA Tryz.prog opts0 40 aZ 118 [.nilsl] [] 0 Q=
  (Q AV.nilsl [] 4):=by kernel_rfl
theorem DI (Q:AV→aa→Nat→Prop):aA Tryz.prog opts0 40 aZ 118 [.nesl] [] 0 Q=
  (Q (AV.fsl true []) [] 7):=by kernel_rfl
theorem DJ (a:AV) (es:List AV) (Q:AV→aa→Nat→Prop):aA Tryz.prog opts0 40 aZ 118 [.fsl false (a::es)] [] 0 Q=
  (aE (bi 2 (a::es)&&(((0+ac (a::es))*32).ble 140737488355328&&true)) (Q (AV.rsl true 5 0 (0+ac (a::es)) 2) [(5,some (Blk.cells (flat (a::es))))] 7)):=by kernel_rfl
theorem DK {l:List AV} (hl:∀e∈l,cM 2 e) (hc:ae l=true) (hn:l.length≤aD):SC 118 [.fsl false l] (.fsl false l):=by
 cases l with
 |nil=>
  refine SemCall.empty (eg (A:=aZ) (r:= .nilsl) ct (aF (LsOk.no rfl)) rfl ?_ .nil) (eg (A:=aZ) (r:= .fsl true []) ct (aF (LsOk.no rfl)) rfl ?_ .full)
  ·rw[DH];exact gp rfl
  ·rw[DI];exact gp rfl
 | cons a es=>
  have hcl:ae [.fsl false (a::es)]=true:=by rw[ae,ad,hc];rfl
  refine eg (A:=aZ) (r:= .fsl false (a::es)) ct (aF (LsOk.no rfl)) hcl ?_ (.refl _)
  rw[DJ]
  have h1:bi 2 (a::es)=true:=allSize_iff.2 fun e he=>(hl e he).1
  refine oblB_iff.2 ⟨?_, ?_⟩
  ·have hn:es.length+1≤1099511627776:=hn
   simp only[Bool.and_eq_true,Nat.ble_eq,ap] at h1⊢
   first|exact ⟨h1,by omega⟩|exact ⟨h1,by simp only[List.length_cons];omega⟩|(simp_all;omega)
  ·exact mP (Frz.row rfl rfl rfl (by first|rfl|simp[ap]) hl hc) hc
end Go.Proofs.YtjmnheinkchlfaaGreatDoor
namespace Go.Proofs.YtjmnheinkchlfaaGreatDoor
set_option maxRecDepth 20000
open Go Go.RowKit
open Go.Proofs.Abs
noncomputable section
def o8:List AV:=[I 0,I 0,I 0,.nilsl,.nilsl]
def gw (t y n:Int) (D K:List AV):View:=⟨[(11,.fsl false K),(12,I (.ofNat (ac K))),(13,I 0),(3,.nilsl)],[(1,.ptr 0 0),(2,.ptr 1 0)],[(0,.cells (ai t y n D K),.whole),(1,.cells o8,.whole)],3,26⟩
def dz (t y n:Int) (D K:List AV) (i:Nat) (es:List AV):View:=⟨[(11,.fsl false K),(12,I (.ofNat (ac K))),(13,I (.ofNat i))],[(1,.ptr 0 0),(2,.ptr 1 0),(3,.rsl true 2 0 i 5)],[(0,.cells (ai t y n D K),.whole),(1,.cells o8,.whole),(2,.cells es,.whole)],3,26⟩
def kv (c:List AV):aN:=mJ (km [(5,0,.res (.fptr c 0))]) (fun _=>none) (ed [(363,.agg c)])
@[simp] abbrev o9 (D K:List AV) (n t y:Int):=([I t,I y,I n,AV.fsl false D,AV.fsl false K]=[I t,I y,I n,AV.fsl false D,AV.fsl false K]∧ae [I t,I y,I n,AV.fsl false D,AV.fsl false K]=true)
abbrev fH:=[I 0,I 0,I 0,AV.nilsl,AV.nilsl]
@[simp] abbrev pa (K:List AV):=(I (Int.ofNat (ac K))=I (Int.ofNat (ac K))∧ad (I (Int.ofNat (ac K)))=true)
@[simp] abbrev pb (K:List AV):=(AV.fsl false K=AV.fsl false K∧ad (AV.fsl false K)=true)
@[simp] abbrev pc:=(some 0=some 0∧0=0)
@[simp] abbrev pd:=(some 1=some 1∧0=0)
@[simp] abbrev tz (D K:List AV) (n t y:Int):=(((pb K)∧(pa K)∧(I 0=I 0∧true=true)∧(AV.nilsl=AV.nilsl∧true=true)∧True)∧(pc∧pd∧True)∧(o9 D K n t y)∧(fH=fH∧true=true)∧True)
abbrev eh (E L:List AV) (a b c:Int):=[I a,I b,I c,AV.fsl false E,AV.fsl false L]
theorem xL (t y n a b c:Int) (D K E L:List AV) (es:List AV) (N:Prop) (Q:AExit→St→Prop):al Tryz.prog opts0 40 (kv (ai a b c E L)) (aq Tryz.prog 363 5) (gw t y n D K).st (aO 0 [(0,0),(1,1),(2,12)] (dz t y n D K 1 es) N [(0,0),(1,1)] (gw t y n D K) Q)=
  (ah (am 0 (Int.ofNat (ac K))) (aJ Tryz.prog 29 (AV.fsl false K) (I 0)=some (AV.fptr (eh E L a b c) 0)∧SC 363 [AV.agg (eh E L a b c)] (AV.agg (eh E L a b c))∧(((pb K)∧(pa K)∧(I 1=I 1∧true=true)∧True)∧(pc∧pd∧(true=true∧some 12=some 12∧0=0∧1=ac [AV.agg (eh E L a b c)]∧5=5)∧True)∧(o9 D K n t y)∧(fH=fH∧true=true)∧(flat [AV.agg (eh E L a b c)]=es∧ae es=true)∧True)∧N) ((tz D K n t y)∧Q (AExit.exit 0) (gw t y n D K).st)):=by kernel_rfl
theorem xM (t y n a b c:Int) (D K E L:List AV) (i j:Nat) (es es':List AV) (N:Prop) (Q:AExit→St→Prop):al Tryz.prog opts0 40 (kv (ai a b c E L)) (aq Tryz.prog 363 5) (dz t y n D K i es).st (aO 0 [(0,0),(1,1),(2,12)] (dz t y n D K j es') N [(0,0),(1,1),(2,2)] (dz t y n D K i es) Q)=
  (ah (am (Int.ofNat i) (Int.ofNat (ac K))) (aJ Tryz.prog 29 (AV.fsl false K) (I (Int.ofNat i))=some (AV.fptr (eh E L a b c) 0)∧SC 363 [AV.agg (eh E L a b c)] (AV.agg (eh E L a b c))∧aE (bi 5 [AV.agg (eh E L a b c)]&&(((i+ac [AV.agg (eh E L a b c)])*72).ble 140737488355328&&(be (flat [AV.agg (eh E L a b c)])&&true))) (aE ((ac es).beq (i*5)) ((((pb K)∧(pa K)∧(I (af IntKind.i64 (Int.ofNat i+1))=I (Int.ofNat j)∧ad (I (Int.ofNat j))=true)∧True)∧(pc∧pd∧(true=true∧some 12=some 12∧0=0∧j=i+ac [AV.agg (eh E L a b c)]∧5=5)∧True)∧(o9 D K n t y)∧(fH=fH∧true=true)∧(es++flat [AV.agg (eh E L a b c)]=es'∧ae es'=true)∧True)∧N))) ((((pb K)∧(pa K)∧(I (Int.ofNat i)=I (Int.ofNat i)∧ad (I (Int.ofNat i))=true)∧True)∧(pc∧pd∧(true=true∧some 2=some 2∧0=0∧i=i∧5=5)∧True)∧(o9 D K n t y)∧(fH=fH∧true=true)∧(es=es∧ae es=true)∧True)∧Q (AExit.exit 0) (dz t y n D K i es).st)):=by kernel_rfl
def xN (t y n:Int) (D K:List AV):a7:=fun s Q=>ck 0 [(0,0),(1,1)] (gw t y n D K) s∧Q (.exit 0) (gw t y n D K).st
def xO (t y n:Int) (D K:List AV) (es:List AV):a7:=fun s Q=>ck 0 [(0,0),(1,1)] (gw t y n D K) s∧Q (.exit 0) (dz t y n D K (ac K) es).st
def pe (D:List AV) (L:a7):aN:=mJ (km []) (g6 [(5,L)]) (ed [(115,.fsl false D)])
theorem DL (t y n:Int) (D K:List AV) (Q:AV→aa→Nat→Prop):aA Tryz.prog opts0 40 (pe D (xN t y n D K)) 363 [.agg (ai t y n D K)] [] 0 Q=
  (SC 115 [AV.fsl false D] (AV.fsl false D)∧(tz D K n t y)∧Q (AV.agg [I t,I y,I n,AV.fsl false D,AV.nilsl]) [(1,some (Blk.cells [I t,I y,I n,AV.fsl false D,AV.nilsl])),(0,some (Blk.cells [I t,I y,I n,AV.fsl false D,AV.nilsl])),(1,some (Blk.cells fH))] 8):=by kernel_rfl
theorem DM (t y n:Int) (D K:List AV) (es:List AV) (Q:AV→aa→Nat→Prop):aA Tryz.prog opts0 40 (pe D (xO t y n D K es)) 363 [.agg (ai t y n D K)] [] 0 Q=
  (SC 115 [AV.fsl false D] (AV.fsl false D)∧(tz D K n t y)∧Q (AV.agg [I t,I y,I n,AV.fsl false D,AV.rsl true 2 0 (ac K) 5]) [(1,some (Blk.cells [I t,I y,I n,AV.fsl false D,AV.rsl true 2 0 (ac K) 5])),(0,some (Blk.cells [I t,I y,I n,AV.fsl false D,AV.rsl true 2 0 (ac K) 5])),(1,some (Blk.cells fH)),(2,some (Blk.cells es))] 8):=by kernel_rfl
theorem xP:bw (cN Tryz.prog 363) 5=[aq Tryz.prog 363 5]:=by kernel_rfl
theorem tA (x:It):cM 5 (ao x):=by cases x;exact ⟨rfl,rfl⟩
theorem g8 {ks:List It}:∀e∈ab ks,cM 5 e:=fun e he=>by
 rw[ji] at he
 obtain ⟨x,_,rfl⟩:=List.mem_map.1 he
 exact tA x
theorem kw (a b:List It):ab (a++b)=ab a++ab b:=by simp[ji]
def aR (ks:List It) (i:Nat):List AV:=flat (ab (ks.take i))
theorem m6 {ks:List It} {i:Nat} {x:It} (h:ks[i]? =some x):aR ks i++flat [ao x]=aR ks (i+1):=by
 have:ks.take (i+1)=ks.take i++[x]:=by rw[List.take_add_one,h];rfl
 simp only[aR,this,kw,gi,ab]
theorem kx:∀l:List It,(flat (ab l)).length=l.length*5
 |[]=>rfl
 | .mk _ _ _ _ _::r=>by simp only[ab,flat,ao,AV.cells,List.length_append,kx r,List.length_cons,List.length_nil];omega
theorem tB {ks:List It} {i:Nat} (h:i≤ks.length):(aR ks i).length=i*5:=by rw[aR,kx,List.length_take,Nat.min_eq_left h]
theorem gx:∀ {l:List AV},ae l=true→(∀e∈l,ae e.cells=true)→ae (flat l)=true
  |[],_,_=>rfl
  | a::t,h,h2=>by
    simp only[ae,Bool.and_eq_true] at h
    have:=gx h.2 fun e he=>h2 e (by simp[he])
    have h1:=h2 a (by simp)
    simp only[flat]
    exact closed_app h1 this
 where
  closed_app:∀ {a b:List AV},ae a=true→ae b=true→ae (a++b)=true
    |[],_,_,h=>h
    | x::r,_,h,h'=>by
      simp only[ae,Bool.and_eq_true] at h
      simp only[List.cons_append,ae,h.1,closed_app h.2 h',Bool.and_self]
theorem gy {ks:List It} {i:Nat}:ae (aR ks i)=true:=gx (bA _) fun e he=>by
 rw[ji] at he
 obtain ⟨x,_,rfl⟩:=List.mem_map.1 he
 have:=cC x
 cases x
 exact this
theorem xQ {t y n:Int} {D:List AV} {ks:List It} {Q:AExit→St→Prop} (hD:ae D=true) (hb:ks.length≤aD)
  (ih:∀ (i:Nat) (x:It),ks[i]? =some x→SC 363 [ao x] (ao x)) (hq:Q (.exit 0) (dz t y n D (ab ks) ks.length (aR ks ks.length)).st):
  ∀ (m i:Nat),i+m=ks.length→0<i→ALp Tryz.prog opts0.glob 0 (aq Tryz.prog 363 5) (dz t y n D (ab ks) i (aR ks i)).st Q
 |0,i,hi,_=>by
  obtain rfl:i=ks.length:=by omega
  refine ALp.round (A:=kv (ai 0 0 0 [] [])) (V1:=dz t y n D (ab ks) 0 []) (F:=dz t y n D (ab ks) ks.length (aR ks ks.length)) (lk:=[(0,0),(1,1),(2,12)]) (lk':=[(0,0),(1,1),(2,2)]) base0 (gm dN) (LsOk.no rfl) .refl ?_
  rw[xM]
  refine aw (fun h=> ?_) (fun _=>⟨by simp[ad,ae,hD,bA,gy],hq⟩)
  rw[ap,dc] at h
  have h:(ks.length:Int)<ks.length:=ltInt_iff.1 h
  omega
 | m+1,i,hi,h0=>by
  have h1:i<ks.length:=by omega
  have g1:ks[i]? =some ks[i]:=List.getElem?_eq_getElem h1
  have hs:=ih i _ g1
  have hE:=m6 g1
  revert hs g1 hE
  generalize ks[i]=x
  intro g1 hs hE
  obtain ⟨a,b,c,e,l⟩:=x
  rw[br] at hs hE
  refine ALp.round (A:=kv (ai a b c (aj e) (ab l))) (V2:=dz t y n D (ab ks) (i+1) (aR ks (i+1))) (F:=dz t y n D (ab ks) i (aR ks i)) (lk:=[(0,0),(1,1),(2,12)]) (lk':=[(0,0),(1,1),(2,2)]) base0 (gm dN) (LsOk.no rfl) .refl ?_
  rw[xM]
  refine aw (fun _=>And.intro (fg g1) (And.intro hs (bD ?_ (bD ?_ (And.intro ?_ ?_))))) (fun h=> ?_)
  ·simp[bi,ac,AV.cells,flat,be]
   have hb:ks.length≤1099511627776:=hb
   omega
  ·rw[beq_iff,ap,tB (by omega)]
  ·have hb:ks.length≤1099511627776:=hb
   rw[g5 (by simp;omega) (by simp;omega)]
   simp only[ai] at hE
   simp[ad,ae,hD,bA,gy,hE,ac]
  ·exact xQ hD hb ih hq m (i+1) (by omega) (by omega)
  ·rw[ap,dc] at h
   have h:(ks.length:Int)≤i:=ltInt_false.1 h
   omega
theorem DN {t y n:Int} {D:List AV} {ks:List It} {Q:AExit→St→Prop} (hD:ae D=true) (hb:ks.length≤aD) (h0:ks≠[])
  (ih:∀ (i:Nat) (x:It),ks[i]? =some x→SC 363 [ao x] (ao x)) (hq:Q (.exit 0) (dz t y n D (ab ks) ks.length (aR ks ks.length)).st):
  ALp Tryz.prog opts0.glob 0 (aq Tryz.prog 363 5) (gw t y n D (ab ks)).st Q:=by
 have hpos:0<ks.length:=List.length_pos_iff.2 h0
 have g1:ks[0]? =some ks[0]:=List.getElem?_eq_getElem hpos
 have hs:=ih 0 _ g1
 have hE:=m6 g1
 have hE0:aR ks 0=[]:=rfl
 revert hs g1 hE
 generalize ks[0]=x
 intro g1 hs hE
 rw[hE0,List.nil_append] at hE
 obtain ⟨a,b,c,e,l⟩:=x
 rw[br] at hs hE
 refine ALp.round (A:=kv (ai a b c (aj e) (ab l))) (V2:=dz t y n D (ab ks) 1 (aR ks 1)) (F:=gw t y n D (ab ks)) (lk:=[(0,0),(1,1),(2,12)]) (lk':=[(0,0),(1,1)]) base0 (gm dN) (LsOk.no rfl) .refl ?_
 rw[xL]
 refine aw (fun _=>And.intro (fg (i:=0) g1) (And.intro hs (And.intro ?_ ?_))) (fun h=> ?_)
 ·simp only[ai] at hE
  simp[ad,ae,hD,bA,gy,hE,ac]
 ·exact xQ hD hb ih hq (ks.length-1) 1 (by omega) (by omega)
 ·rw[ap,dc] at h
  have h:(ks.length:Int)≤0:=ltInt_false.1 h
  omega
theorem DO {t y n:Int} {d:List UInt8} {ks:List It} (h:aX aD (.mk t y n d ks))
  (ih:∀ (i:Nat) (x:It),ks[i]? =some x→SC 363 [ao x] (ao x)):
  SC 363 [ao (.mk t y n d ks)] (ao (.mk t y n d ks)):=by
 simp only[aX] at h
 obtain ⟨h3,h4,h5⟩:=h
 have hcl:=xJ (l:=aj d) wu (by simp) (by rw[←ap,BK];exact h3)
 cases ks with
 | nil=>
  refine eg (A:=pe (aj d) (xN t y n (aj d) [])) (r:= .agg [I t,I y,I n,.fsl false (aj d),.nilsl]) (gm dN)
   (aF (LsOk.at1 rfl xP fun s Q hs=> .seen base0.glob hs.1 ?_)) (by simp[ae,cC]) ?_ (Wk.agg (.cons (.refl _) (.cons (.refl _) (.cons (.refl _) (.cons (.refl _) (.cons .nil .nil))))))
  ·refine ALp.round (A:=kv (ai 0 0 0 [] [])) (V1:=dz t y n (aj d) [] 1 []) (F:=gw t y n (aj d) []) (lk:=[(0,0),(1,1),(2,12)]) (lk':=[(0,0),(1,1)]) base0 (gm dN) (LsOk.no rfl) .refl ?_
   rw[xL]
   refine aw (fun h=> ?_) (fun _=>⟨by simp[ad,ae],hs.2⟩)
   have h:(0:Int)<0:=ltInt_iff.1 h
   omega
  ·rw[br]
   simp only[ab]
   rw[DL]
   exact And.intro hcl (And.intro (by simp[ad,ae]) (gp (by simp[ad,ae])))
 | cons k r=>
  refine kg (A:=pe (aj d) (xO t y n (aj d) (ab (k::r)) (aR (k::r) (k::r).length))) base0 (gm dN)
   (aF (LsOk.at1 rfl xP fun s Q hs=> .seen base0.glob hs.1 (DN (by simp) h4 (by simp) ih (by have:=hs.2;rw[ap,dc] at this;exact this)))) (by simp[ae,cC]) ?_
  rw[br,DM]
  refine And.intro hcl (And.intro (by simp[ad,ae,bA]) ?_)
  refine mP (Frz.agg (FrzL.cons (Frz.closed _ rfl) (FrzL.cons (Frz.closed _ rfl) (FrzL.cons (Frz.closed _ rfl) (FrzL.cons (Frz.closed _ (by simp[ad])) (FrzL.cons (Frz.row (es:=ab (k::r)) rfl rfl ?_ ?_ g8 (bA _)) FrzL.nil)))))) (by simp[ai,ad,ae,bA])
  ·rw[aR,List.take_length]
  ·rw[ap]
mutual
theorem xR:∀x:It,aX aD x→SC 363 [ao x] (ao x)
 | .mk _ _ _ _ ks,h=>DO h fun _i x hx=>xS ks x (List.mem_of_getElem? hx) (okIs_iff.1 h.2.2 x (List.mem_of_getElem? hx))
theorem xS:∀ks:List It,∀x∈ks,aX aD x→SC 363 [ao x] (ao x)
 |[],_,hx,_=>by cases hx
 |k::r,x,hx,h=>by
  have h1:=xR k
  have h2:=xS r x
  rcases List.mem_cons.1 hx with e|hx
  ·rw[e] at h⊢;exact h1 h
  ·exact h2 hx h
end
end
end Go.Proofs.YtjmnheinkchlfaaGreatDoor
namespace Go.Proofs.YtjmnheinkchlfaaGreatDoor
open Go Go.RowKit
open Go.Proofs.Abs
theorem DP (n m:Int) (Q:AV→aa→Nat→Prop):aA Tryz.prog opts0 40 aZ 9 [I n,I m] [] 0 Q=
  (aE (!ag m 0) (ah (am (n.tmod m) 0) (Q (I (af IntKind.i64 (n.tmod m+m))) [] 13) (Q (I (n.tmod m)) [] 9))):=by kernel_rfl
theorem fI (n:Int) {m:Int} (h0:0<m) (h1:m≤4611686018427387904):SC 9 [I n,I m] (I (n%m)):=by
 refine kg (A:=aZ) base0 ct (aF (LsOk.no rfl)) rfl ?_
 rw[DP]
 have hm:=Int.tmod_lt_of_pos n h0
 have hm':=Int.lt_tmod_of_pos n h0
 have he:=Int.emod_nonneg n (Int.ne_of_gt h0)
 have hd:=Int.emod_lt_of_pos n h0
 have key:n%m=if n.tmod m<0 then n.tmod m+m else n.tmod m:=by
  have e1:=Int.tmod_eq_emod (a:=n) (b:=m)
  split at e1
  ·rw[e1,if_neg (by omega)];omega
  ·have:(m.natAbs:Int)=m:=Int.natAbs_of_nonneg (by omega)
   split<;>omega
 refine bD (by rw[Bool.not_eq_true',beqInt_false];omega) ?_
 refine aw (fun h=> ?_) (fun h=> ?_)
 ·have h:=ltInt_iff.1 h
  rw[if_pos h] at key
  exact xa (by rw[g5 (by omega) (by omega),key])
 ·have h:=ltInt_false.1 h
  rw[if_neg (by omega)] at key
  exact xa key.symm
structure Rw where
 k:Int
 a:Int
 b:Int
 c:Int
def jo (r:Rw):List AV:=[I r.k,I r.a,I r.b,I r.c]
def ak (r:Rw):AV:= .agg (jo r)
def xT:List (List UInt8):=[[49],[50],[51],[52],[53],[54],[55],[49],[50],[51],[57,57],[120]]
def g9 (y n:Int) (d:List UInt8) (ks:List It):It:= .mk 4325387 y n d ks
structure At where
 name:List UInt8
 idx:Int
 v:It
def DQ:It→List AV
 | .mk t y n d ks=>ai t y n (aj d) (ab ks)
def DR (a:At):List AV:= .str a.name::I a.idx::DQ a.v
def DS (a:At):AV:= .agg (DR a)
inductive Kd where
 |uid|nam|typ|alg|len|mask|sta
 |dat (k:Nat)
 |why|lnk|lim
 |cus (s:List UInt8)
def DT:Nat→List UInt8
 |0=>[73,110,105,116,105,97,108,32,68,97,116,101]
 |1=>[65,99,116,105,118,97,116,105,111,110,32,68,97,116,101]
 |2=>[80,114,111,99,101,115,115,32,83,116,97,114,116,32,68,97,116,101]
 |3=>[80,114,111,116,101,99,116,32,83,116,111,112,32,68,97,116,101]
 |4=>[68,101,97,99,116,105,118,97,116,105,111,110,32,68,97,116,101]
 |5=>[68,101,115,116,114,111,121,32,68,97,116,101]
 |6=>[67,111,109,112,114,111,109,105,115,101,32,79,99,99,117,114,114,101,110,99,101,32,68,97,116,101]
 |7=>[67,111,109,112,114,111,109,105,115,101,32,68,97,116,101]
 |8=>[65,114,99,104,105,118,101,32,68,97,116,101]
 |_=>[76,97,115,116,32,67,104,97,110,103,101,32,68,97,116,101]
def tC:Kd→List UInt8
 | .uid=>[85,110,105,113,117,101,32,73,100,101,110,116,105,102,105,101,114]
 | .nam=>[78,97,109,101]
 | .typ=>[79,98,106,101,99,116,32,84,121,112,101]
 | .alg=>[67,114,121,112,116,111,103,114,97,112,104,105,99,32,65,108,103,111,114,105,116,104,109]
 | .len=>[67,114,121,112,116,111,103,114,97,112,104,105,99,32,76,101,110,103,116,104]
 | .mask=>[67,114,121,112,116,111,103,114,97,112,104,105,99,32,85,115,97,103,101,32,77,97,115,107]
 | .sta=>[83,116,97,116,101]
 | .why=>[82,101,118,111,99,97,116,105,111,110,32,82,101,97,115,111,110]
 | .lnk=>[76,105,110,107]
 | .lim=>[85,115,97,103,101,32,76,105,109,105,116,115]
 | .dat k=>DT k
 | .cus s=>s
def kinds:List Kd:=[.uid,.nam,.typ,.alg,.len,.mask,.sta,.dat 0,.dat 1,.dat 2,.dat 3,.dat 4,.dat 5,.dat 6,.dat 7,.dat 8,.dat 9,.why,.lnk,.lim]
def gz:List (List UInt8):=[[111,110,101],[116,119,111],[116,104,114,101,101],[102,111,117,114],[102,105,118,101],[],[53],[49],[50],[51],[52],[54],[55],[57,57],[120],[49,50,51,52,53,54,55,56],[109],[108,111,115,116]]
def tD:List UInt8→Bool
 |120::45::_=>true
 |_=>false
abbrev u8 (b:UInt8):AV:= .int .u8 (.ofNat b.toNat)
def dd:It→List It| .mk _ _ _ _ k=>k
def fJ (o:Ob):Nat→Dt
 |0=>o.d0
 |1=>o.d1
 |2=>o.d2
 |3=>o.d3
 |4=>o.d4
 |5=>o.d5
 |6=>o.d6
 |7=>o.d7
 |8=>o.d8
 |_=>o.d9
def hP (o:Ob) (d:Dt):Nat→Ob
 |0=>{o with d0:=d}
 |1=>{o with d1:=d}
 |2=>{o with d2:=d}
 |3=>{o with d3:=d}
 |4=>{o with d4:=d}
 |5=>{o with d5:=d}
 |6=>{o with d6:=d}
 |7=>{o with d7:=d}
 |8=>{o with d8:=d}
 |_=>{o with d9:=d}
def ky (s:List UInt8):It:=g9 7 0 s []
def jp (y n:Int):It:=g9 y n [] []
def fK (t y n:Int):It:= .mk t y n [] []
def hU (ks:List It):It:=g9 1 0 [] ks
def DU (l:Lk):It:=hU [fK 4325451 5 l.ty,.mk 4325452 7 0 l.id []]
def tE:List UInt8→List It
 |[]=>[]
 |s::t=>[.mk 4325504 7 0 (s::t) []]
def xU (o:Ob):It:=hU (fK 4325506 5 o.why::tE o.msg)
def xV (o:Ob):It:=hU [fK 4325527 3 o.lt,fK 4325526 3 o.lc,fK 4325528 5 o.lu]
def db (b:Bool) (x:It):List It:=match b with
 |true=>[x]
 |false=>[]
def dP (o:Ob):Kd→List It
 | .uid=>[ky o.id]
 | .nam=>o.names.map ky
 | .typ=>[jp 5 o.ty]
 | .alg=>db (!ag o.alg 0) (jp 5 o.alg)
 | .len=>db (!ag o.len 0) (jp 2 o.len)
 | .mask=>[jp 2 o.mask]
 | .sta=>[jp 5 o.st]
 | .dat k=>db (fJ o k).has (jp 9 (fJ o k).t)
 | .why=>db (!ag o.why 0) (xU o)
 | .lnk=>o.links.map DU
 | .lim=>db o.lh (xV o)
 | .cus s=>(o.cust.filter fun c=>cW c.name s).map fun c=>ky c.text
mutual
def xW:It→Prop
 | .mk _ _ _ d ks=>d∈gz∧tF ks
def tF:List It→Prop
 |[]=>True
 |k::r=>xW k∧tF r
end
structure DV (o:Ob):Prop where
 n:o.names.length≤6
 l:o.links.length≤8
 c:o.cust.length≤6
 m:o.mat.length≤aD
structure xX (o:Ob) (k:Kd):Prop where
 n:(dP o k).length≤1000
 i:∀x∈dP o k,aX aD x
theorem xY (x y:Operand) (a b:Int):an Tryz.prog .lss 3 x y (I a) (I b)=some (.bool (am a b)):=by kernel_rfl
theorem fh {x y:Operand} {a b:Int} (h:a<b):an Tryz.prog .lss 3 x y (I a) (I b)=some (.bool true):=by rw[xY,ltInt_iff.2 h]
theorem eI {x y:Operand} {a b:Int} (h:b≤a):an Tryz.prog .lss 3 x y (I a) (I b)=some (.bool false):=by rw[xY,ltInt_false.2 h]
theorem dA:∀l:List Rw,ae (l.map ak)=true
 |[]=>rfl
 |_::r=>dA r
def DW:List (List UInt8):=[[],[109],[108,111,115,116]]
def xZ:List (List UInt8):=[[111,110,101],[116,119,111],[116,104,114,101,101],[102,111,117,114],[102,105,118,101]]
noncomputable section
def b9 (L:List AV) (at' k:Int) (t:Int):View:=⟨[(0,.fsl false L),(1,I at'),(7,I k)],[(4,.ptr 0 0),(6,.ptr 1 0)],[(0,.cells o8,.whole),(1,.cells [I t,I 1,I 0,.nilsl,.nilsl],.whole)],3,81⟩
def bX (L:List AV) (at' k:Int) (t:Int) (n:Nat) (es:List AV):View:=⟨[(0,.fsl false L),(1,I at'),(7,I k)],[(4,.ptr 0 0),(6,.ptr 1 0)],[(0,.cells o8,.whole),(1,.cells [I t,I 1,I 0,.nilsl,.rsl true 2 0 n 5],.each),(2,.cells es,.whole)],3,81⟩
def fL (r:Rw) (p:Int) (v:AV):aN:=ar [(11,2,.res (.fptr (jo r) 0))] [] (ed [(9,I p),(32,v)]) [] []
abbrev pg:=[I 0,I 0,I 0,AV.nilsl,AV.nilsl]
@[simp] abbrev cO:=(pg=pg∧true=true)
@[simp] abbrev cP (L:List AV):=(AV.fsl false L=AV.fsl false L∧ad (AV.fsl false L)=true)
@[simp] abbrev de:=((some 0=some 0∧0=0)∧(some 1=some 1∧0=0)∧True)
abbrev eJ (t:Int):=[I t,I 1,I 0,AV.nilsl,AV.nilsl]
abbrev ei (D K:List AV) (a b c:Int):=[I a,I b,I c,AV.fsl false D,AV.fsl false K]
@[simp] abbrev hY (k:Int):=(I k=I k∧ad (I k)=true)
abbrev kz (r:Rw):=(AV.fptr [I r.1,I r.2,I r.3,I r.4] 0)
@[simp] abbrev m7 (t:Int):=((eJ t)=(eJ t)∧ae (eJ t)=true)
theorem x1 (L:List AV) (at' k t p a b c e:Int) (r:Rw) (D K:List AV) (N:Prop) (Q:AExit→St→Prop):al Tryz.prog opts0 40 (fL r p (.agg (ai a b c D K))) (aq Tryz.prog 32 10) (b9 L at' k t).st (aO 0 [(0,0),(1,1)] (b9 L at' e t) N [(0,0),(1,1)] (b9 L at' k t) Q)=
  (ah (am k (Int.ofNat (ac L))) (ah (am k 8) (aJ Tryz.prog 22 (AV.fsl false L) (I k)=some (kz r)∧SC 9 [I r.1,I k] (I p)∧ah (ag p at') (SC 32 [AV.fsl false L,I k] (AV.agg (ei D K a b c))∧(((cP L)∧(I at'=I at'∧ad (I at')=true)∧(I (af IntKind.i64 (k+1))=I e∧ad (I e)=true)∧True)∧de∧cO∧([I t,I 1,I 0,AV.nilsl,AV.rsl true 26 0 (ac [AV.agg (ei D K a b c)]) 5]=(eJ t)∧ae (eJ t)=true)∧True)∧N) ((((cP L)∧(I at'=I at'∧ad (I at')=true)∧(I (af IntKind.i64 (k+1))=I e∧ad (I e)=true)∧True)∧de∧cO∧(m7 t)∧True)∧N)) ((((cP L)∧(I at'=I at'∧ad (I at')=true)∧(hY k)∧True)∧de∧cO∧(m7 t)∧True)∧Q (AExit.exit 1) (b9 L at' k t).st)) ((((cP L)∧(I at'=I at'∧ad (I at')=true)∧(hY k)∧True)∧de∧cO∧(m7 t)∧True)∧Q (AExit.exit 1) (b9 L at' k t).st)):=by kernel_rfl
@[simp] abbrev kA:=(AV.nilsl=AV.nilsl∧true=true)
@[simp] abbrev kB (t:Int):=(I t=I t∧ad (I t)=true)
@[simp] abbrev kC:=(I 1=I 1∧true=true)
@[simp] abbrev kD:=(I 0=I 0∧true=true)
theorem DX (L:List AV) (at' k t p a b c e:Int) (r:Rw) (D K:List AV) (es:List AV) (N:Prop) (Q:AExit→St→Prop):al Tryz.prog opts0 40 (fL r p (.agg (ai a b c D K))) (aq Tryz.prog 32 10) (b9 L at' k t).st (aO 0 [(0,0),(1,1),(2,26)] (bX L at' e t 1 es) N [(0,0),(1,1)] (b9 L at' k t) Q)=
  (ah (am k (Int.ofNat (ac L))) (ah (am k 8) (aJ Tryz.prog 22 (AV.fsl false L) (I k)=some (kz r)∧SC 9 [I r.1,I k] (I p)∧ah (ag p at') (SC 32 [AV.fsl false L,I k] (AV.agg (ei D K a b c))∧(((cP L)∧(I at'=I at'∧ad (I at')=true)∧(I (af IntKind.i64 (k+1))=I e∧ad (I e)=true)∧True)∧de∧cO∧((kB t)∧kC∧kD∧kA∧(true=true∧some 26=some 26∧0=0∧1=ac [AV.agg (ei D K a b c)]∧5=5)∧True)∧(flat [AV.agg (ei D K a b c)]=es∧ae es=true)∧True)∧N) ((((cP L)∧(I at'=I at'∧ad (I at')=true)∧(I (af IntKind.i64 (k+1))=I e∧ad (I e)=true)∧True)∧de∧cO∧((kB t)∧kC∧kD∧kA∧False∧True)∧False∧True)∧N)) ((((cP L)∧(I at'=I at'∧ad (I at')=true)∧(hY k)∧True)∧de∧cO∧(m7 t)∧True)∧Q (AExit.exit 1) (b9 L at' k t).st)) ((((cP L)∧(I at'=I at'∧ad (I at')=true)∧(hY k)∧True)∧de∧cO∧(m7 t)∧True)∧Q (AExit.exit 1) (b9 L at' k t).st)):=by kernel_rfl
@[simp] abbrev m8 (m:Nat) (t:Int):=((kB t)∧kC∧kD∧kA∧(true=true∧some 2=some 2∧0=0∧m=m∧5=5)∧True)
abbrev x2 (D K:List AV) (a b c:Int) (m:Nat):=(bi 5 [AV.agg (ei D K a b c)]&&(((m+ac [AV.agg (ei D K a b c)])*72).ble 140737488355328&&(be (flat [AV.agg (ei D K a b c)])&&true)))
@[simp] abbrev m9 (es:List AV):=(es=es∧ae es=true)
theorem x3 (L:List AV) (at' k t p a b c e:Int) (m:Nat) (r:Rw) (D K:List AV) (es:List AV) (N:Prop) (Q:AExit→St→Prop):al Tryz.prog opts0 40 (fL r p (.agg (ai a b c D K))) (aq Tryz.prog 32 10) (bX L at' k t m es).st (aO 0 [(0,0),(1,1),(2,2)] (bX L at' e t m es) N [(0,0),(1,1),(2,2)] (bX L at' k t m es) Q)=
  (ah (am k (Int.ofNat (ac L))) (ah (am k 8) (aJ Tryz.prog 22 (AV.fsl false L) (I k)=some (kz r)∧SC 9 [I r.1,I k] (I p)∧ah (ag p at') (SC 32 [AV.fsl false L,I k] (AV.agg (ei D K a b c))∧aE (x2 D K a b c m) (aE ((ac es).beq (m*5)) ((((cP L)∧(I at'=I at'∧ad (I at')=true)∧(I (af IntKind.i64 (k+1))=I e∧ad (I e)=true)∧True)∧de∧cO∧((kB t)∧kC∧kD∧kA∧(true=true∧some 2=some 26∧0=0∧m=m+ac [AV.agg (ei D K a b c)]∧5=5)∧True)∧False∧True)∧N))) ((((cP L)∧(I at'=I at'∧ad (I at')=true)∧(I (af IntKind.i64 (k+1))=I e∧ad (I e)=true)∧True)∧de∧cO∧(m8 m t)∧(m9 es)∧True)∧N)) ((((cP L)∧(I at'=I at'∧ad (I at')=true)∧(hY k)∧True)∧de∧cO∧(m8 m t)∧(m9 es)∧True)∧Q (AExit.exit 1) (bX L at' k t m es).st)) ((((cP L)∧(I at'=I at'∧ad (I at')=true)∧(hY k)∧True)∧de∧cO∧(m8 m t)∧(m9 es)∧True)∧Q (AExit.exit 1) (bX L at' k t m es).st)):=by kernel_rfl
theorem DY (L:List AV) (at' k t p a b c e:Int) (m m':Nat) (r:Rw) (D K:List AV) (es es':List AV) (N:Prop) (Q:AExit→St→Prop):al Tryz.prog opts0 40 (fL r p (.agg (ai a b c D K))) (aq Tryz.prog 32 10) (bX L at' k t m es).st (aO 0 [(0,0),(1,1),(2,26)] (bX L at' e t m' es') N [(0,0),(1,1),(2,2)] (bX L at' k t m es) Q)=
  (ah (am k (Int.ofNat (ac L))) (ah (am k 8) (aJ Tryz.prog 22 (AV.fsl false L) (I k)=some (kz r)∧SC 9 [I r.1,I k] (I p)∧ah (ag p at') (SC 32 [AV.fsl false L,I k] (AV.agg (ei D K a b c))∧aE (x2 D K a b c m) (aE ((ac es).beq (m*5)) ((((cP L)∧(I at'=I at'∧ad (I at')=true)∧(I (af IntKind.i64 (k+1))=I e∧ad (I e)=true)∧True)∧de∧cO∧((kB t)∧kC∧kD∧kA∧(true=true∧some 26=some 26∧0=0∧m'=m+ac [AV.agg (ei D K a b c)]∧5=5)∧True)∧(es++flat [AV.agg (ei D K a b c)]=es'∧ae es'=true)∧True)∧N))) ((((cP L)∧(I at'=I at'∧ad (I at')=true)∧(I (af IntKind.i64 (k+1))=I e∧ad (I e)=true)∧True)∧de∧cO∧((kB t)∧kC∧kD∧kA∧(true=true∧some 26=some 2∧0=0∧m'=m∧5=5)∧True)∧False∧True)∧N)) ((((cP L)∧(I at'=I at'∧ad (I at')=true)∧(hY k)∧True)∧de∧cO∧(m8 m t)∧(m9 es)∧True)∧Q (AExit.exit 1) (bX L at' k t m es).st)) ((((cP L)∧(I at'=I at'∧ad (I at')=true)∧(hY k)∧True)∧de∧cO∧(m8 m t)∧(m9 es)∧True)∧Q (AExit.exit 1) (bX L at' k t m es).st)):=by kernel_rfl
def DZ (p8 p10 p4 p300:Int):List AV→Option AV
 | [_,.int _ (.ofNat n)]=>match Nat.beq n 8 with
  |true=>some (I p8)
  | false=>match Nat.beq n 10 with
   |true=>some (I p10)
   |false=>match Nat.beq n 4 with
    |true=>some (I p4)
    |false=>some (I p300)
 |_=>none
def jq (p:Prop) (L:List AV) (at' k t:Int) (F:View):a7:=fun s Q=>p∧ck 0 [(0,0),(1,25)] (b9 L at' k t) s∧Q (.exit 1) F.st
def jr (r:Rw) (p8 p10 p4 p300 t:Int) (s:List UInt8) (L:a7):aN:=ar [(3,2,.res (.fptr (jo r) 0)),(4,4,.res (I t)),(16,4,.res (.str s))] [(10,L)] (bT [(9,DZ p8 p10 p4 p300)]) [] []
abbrev kE:=(AV.agg [AV.str [],AV.str [111,110,101],AV.str [116,119,111],AV.str [49,50,51,52,53,54,55,56]])
abbrev hZ (r:Rw):=(13,some (Blk.cells [I r.1,I r.2,I r.3,I r.4]))
abbrev x4:=(AV.agg [I 4325387,I 4325386,I 4325384,I 4325524,I 4325570,I 4325385,I 4325451,I 4325377])
abbrev ph (Q:AV→aa→Prop):=(Q (AV.agg pg) [(0,some (Blk.cells pg))])
@[simp] abbrev x5:=((some 0=some 0∧0=0)∧(some 25=some 25∧0=0)∧True)
theorem pj (p:Prop) (L:List AV) (at' k e t p8 p10 p4 p300:Int) (r:Rw) (s:List UInt8) (Q:AV→aa→Prop):aA Tryz.prog opts0 40 (jr r p8 p10 p4 p300 t s (jq p L at' k t (b9 L at' e t))) 32 [.fsl false L,I at'] [] 0 (fun v H _=>Q v H)=
  (ah (!am at' (Int.ofNat (ac L))) (ph Q) (ah (!am at' 8) (ph Q) (aJ Tryz.prog 22 (AV.fsl false L) (I at')=some (kz r)∧SC 9 [I r.2,I 8] (I p8)∧cX Tryz.prog 152 x4 (I p8)=some (I t)∧SC 9 [I r.3,I 10] (I p10)∧ah (ag (af IntKind.i64 (1+p10)) 1) (p∧(((cP L)∧(I at'=I at'∧ad (I at')=true)∧(I (af IntKind.i64 (at'+1))=I k∧ad (I k)=true)∧True)∧x5∧cO∧([I t,I (af IntKind.i64 (1+p10)),I 0,AV.nilsl,AV.nilsl]=(eJ t)∧ae (eJ t)=true)∧True)∧Q (AV.agg (eJ t)) [(0,some (Blk.cells (eJ t))),(1,some (Blk.cells (eJ t)))]) (ah (ag (af IntKind.i64 (1+p10)) 7) (SC 9 [I r.4,I 4] (I p4)∧cX Tryz.prog 153 kE (I p4)=some (AV.str s)∧Q (AV.agg [I t,I (af IntKind.i64 (1+p10)),I 0,AV.fsl false (aj s),AV.nilsl]) [(25,some (Blk.cells [I t,I (af IntKind.i64 (1+p10)),I 0,AV.fsl false (aj s),AV.nilsl])),(hZ r),(0,some (Blk.cells [I t,I (af IntKind.i64 (1+p10)),I 0,AV.fsl false (aj s),AV.nilsl]))]) (ah (ag (af IntKind.i64 (1+p10)) 8) (SC 9 [I r.4,I 4] (I p4)∧cX Tryz.prog 153 kE (I p4)=some (AV.str s)∧Q (AV.agg [I t,I (af IntKind.i64 (1+p10)),I 0,AV.fsl false (aj s),AV.nilsl]) [(25,some (Blk.cells [I t,I (af IntKind.i64 (1+p10)),I 0,AV.fsl false (aj s),AV.nilsl])),(hZ r),(0,some (Blk.cells [I t,I (af IntKind.i64 (1+p10)),I 0,AV.fsl false (aj s),AV.nilsl]))]) (ah (ag (af IntKind.i64 (1+p10)) 4) (SC 9 [I r.4,I 4] (I p4)∧cX Tryz.prog 153 kE (I p4)=some (AV.str s)∧Q (AV.agg [I t,I (af IntKind.i64 (1+p10)),I 0,AV.fsl false (aj s),AV.nilsl]) [(25,some (Blk.cells [I t,I (af IntKind.i64 (1+p10)),I 0,AV.fsl false (aj s),AV.nilsl])),(hZ r),(0,some (Blk.cells [I t,I (af IntKind.i64 (1+p10)),I 0,AV.fsl false (aj s),AV.nilsl]))]) (SC 9 [I r.4,I 300] (I p300)∧Q (AV.agg [I t,I (af IntKind.i64 (1+p10)),I (af IntKind.i64 (p300-5)),AV.nilsl,AV.nilsl]) [(25,some (Blk.cells [I t,I (af IntKind.i64 (1+p10)),I (af IntKind.i64 (p300-5)),AV.nilsl,AV.nilsl])),(hZ r),(0,some (Blk.cells [I t,I (af IntKind.i64 (1+p10)),I (af IntKind.i64 (p300-5)),AV.nilsl,AV.nilsl]))]))))))):=by kernel_rfl
theorem D0 (p:Prop) (L:List AV) (at' k e t p8 p10 p4 p300:Int) (m:Nat) (r:Rw) (s:List UInt8) (es:List AV) (Q:AV→aa→Prop):aA Tryz.prog opts0 40 (jr r p8 p10 p4 p300 t s (jq p L at' k t (bX L at' e t m es))) 32 [.fsl false L,I at'] [] 0 (fun v H _=>Q v H)=
  (ah (!am at' (Int.ofNat (ac L))) (ph Q) (ah (!am at' 8) (ph Q) (aJ Tryz.prog 22 (AV.fsl false L) (I at')=some (kz r)∧SC 9 [I r.2,I 8] (I p8)∧cX Tryz.prog 152 x4 (I p8)=some (I t)∧SC 9 [I r.3,I 10] (I p10)∧ah (ag (af IntKind.i64 (1+p10)) 1) (p∧(((cP L)∧(I at'=I at'∧ad (I at')=true)∧(I (af IntKind.i64 (at'+1))=I k∧ad (I k)=true)∧True)∧x5∧cO∧([I t,I (af IntKind.i64 (1+p10)),I 0,AV.nilsl,AV.nilsl]=(eJ t)∧ae (eJ t)=true)∧True)∧Q (AV.agg [I t,I 1,I 0,AV.nilsl,AV.rsl true 2 0 m 5]) [(0,some (Blk.cells [I t,I 1,I 0,AV.nilsl,AV.rsl true 2 0 m 5])),(1,some (Blk.cells [I t,I 1,I 0,AV.nilsl,AV.rsl true 2 0 m 5])),(2,some (Blk.cells es))]) (ah (ag (af IntKind.i64 (1+p10)) 7) (SC 9 [I r.4,I 4] (I p4)∧cX Tryz.prog 153 kE (I p4)=some (AV.str s)∧Q (AV.agg [I t,I (af IntKind.i64 (1+p10)),I 0,AV.fsl false (aj s),AV.nilsl]) [(25,some (Blk.cells [I t,I (af IntKind.i64 (1+p10)),I 0,AV.fsl false (aj s),AV.nilsl])),(hZ r),(0,some (Blk.cells [I t,I (af IntKind.i64 (1+p10)),I 0,AV.fsl false (aj s),AV.nilsl]))]) (ah (ag (af IntKind.i64 (1+p10)) 8) (SC 9 [I r.4,I 4] (I p4)∧cX Tryz.prog 153 kE (I p4)=some (AV.str s)∧Q (AV.agg [I t,I (af IntKind.i64 (1+p10)),I 0,AV.fsl false (aj s),AV.nilsl]) [(25,some (Blk.cells [I t,I (af IntKind.i64 (1+p10)),I 0,AV.fsl false (aj s),AV.nilsl])),(hZ r),(0,some (Blk.cells [I t,I (af IntKind.i64 (1+p10)),I 0,AV.fsl false (aj s),AV.nilsl]))]) (ah (ag (af IntKind.i64 (1+p10)) 4) (SC 9 [I r.4,I 4] (I p4)∧cX Tryz.prog 153 kE (I p4)=some (AV.str s)∧Q (AV.agg [I t,I (af IntKind.i64 (1+p10)),I 0,AV.fsl false (aj s),AV.nilsl]) [(25,some (Blk.cells [I t,I (af IntKind.i64 (1+p10)),I 0,AV.fsl false (aj s),AV.nilsl])),(hZ r),(0,some (Blk.cells [I t,I (af IntKind.i64 (1+p10)),I 0,AV.fsl false (aj s),AV.nilsl]))]) (SC 9 [I r.4,I 300] (I p300)∧Q (AV.agg [I t,I (af IntKind.i64 (1+p10)),I (af IntKind.i64 (p300-5)),AV.nilsl,AV.nilsl]) [(25,some (Blk.cells [I t,I (af IntKind.i64 (1+p10)),I (af IntKind.i64 (p300-5)),AV.nilsl,AV.nilsl])),(hZ r),(0,some (Blk.cells [I t,I (af IntKind.i64 (1+p10)),I (af IntKind.i64 (p300-5)),AV.nilsl,AV.nilsl]))]))))))):=by kernel_rfl
theorem D2 (L:List AV) (t y n:Int) (D K:List AV) (Q:AV→Prop):aA Tryz.prog opts0 40 (ar [] [] (ed [(32,.agg (ai t y n D K))]) [] []) 10 [.fsl false L] [] 0 (fun v _ _=>Q v)=
  (SC 32 [AV.fsl false L,I 0] (AV.agg [I t,I y,I n,AV.fsl false D,AV.fsl false K])∧Q (AV.agg [I t,I y,I n,AV.fsl false D,AV.fsl false K])):=by kernel_rfl
end
def D3:List (List UInt8):=[[120,45,97],[120,45,98]]
def D4:List (List UInt8):=[[111,110,101],[116,119,111],[116,104,114,101,101],[102,111,117,114]]
structure OxZ (o:Ob):Prop where
 d:∀k,(fJ o k).has=false→(fJ o k).t=0
 l:o.lh=false→o.lt=0∧o.lc=0∧o.lu=0
theorem D5 (o:Ob) (x:Dt) (d k:Nat):fJ (hP o x d) k=x∨fJ (hP o x d) k=fJ o k:=by
 unfold hP fJ
 split<;>split<;>simp
theorem OxZ.date {o:Ob} (h:OxZ o) (t:Int) (d:Nat):OxZ (hP o ⟨true,t⟩ d):=⟨fun k hk=>by
 rcases D5 o ⟨true,t⟩ d k with e|e
 ·rw[e] at hk;cases hk
 ·rw[e] at hk⊢;exact h.d k hk,by
 unfold hP
 split<;>exact h.l⟩
theorem OxZ.of {o p:Ob} (h:OxZ o) (hd:∀k,fJ p k=fJ o k) (hl:p.lh=false→p.lt=0∧p.lc=0∧p.lu=0):OxZ p:=⟨fun k=>by rw[hd];exact h.d k,hl⟩
structure OxI (n:Nat) (o:Ob) (N:List (List UInt8)) (L:List Lk) (C:List Cu):Prop where
 n1:∀s∈N,s∈xZ
 n2:N.Nodup
 l1:L.length≤n
 l2:L.Nodup
 l3:∀x∈L,x.id∈xT
 c1:C.length≤6
 c2:C.Nodup
 c3:∀x∈C,x.name∈D3∧x.text∈D4
 id:o.id∈xT
 msg:o.msg∈DW
 dat:o.d0.has=true
 z:OxZ o
theorem x6 {α:Type} [DecidableEq α]:∀ (l m:List α),l.Nodup→(∀x∈l,x∈m)→l.length≤m.length
 |[],_,_,_=>Nat.zero_le _
 |a::t,m,h,hs=>by
  have h:=List.nodup_cons.1 h
  have ha:=hs a (by simp)
  have:=x6 t (m.erase a) h.2 fun x hx=>(List.mem_erase_of_ne (fun e=>by subst e;exact h.1 hx)).2 (hs x (by simp[hx]))
  rw[List.length_erase_of_mem ha] at this
  have:=List.length_pos_of_mem ha
  simp only[List.length_cons]
  omega
theorem OxI.names {n:Nat} {o:Ob} {N:List (List UInt8)} {L:List Lk} {C:List Cu} (h:OxI n o N L C):N.length≤5:=x6 N xZ h.n2 h.n1
theorem OxI.date {n:Nat} {o:Ob} {N:List (List UInt8)} {L:List Lk} {C:List Cu} (h:OxI n o N L C) (t:Int):∀d,OxI (n+1) (hP o ⟨true,t⟩ d) N L C
 |0=>⟨h.n1,h.n2,Nat.le_succ_of_le h.l1,h.l2,h.l3,h.c1,h.c2,h.c3,h.id,h.msg,rfl,h.z.date t 0⟩
 |1=>⟨h.n1,h.n2,Nat.le_succ_of_le h.l1,h.l2,h.l3,h.c1,h.c2,h.c3,h.id,h.msg,h.dat,h.z.date t 1⟩
 |2=>⟨h.n1,h.n2,Nat.le_succ_of_le h.l1,h.l2,h.l3,h.c1,h.c2,h.c3,h.id,h.msg,h.dat,h.z.date t 2⟩
 |3=>⟨h.n1,h.n2,Nat.le_succ_of_le h.l1,h.l2,h.l3,h.c1,h.c2,h.c3,h.id,h.msg,h.dat,h.z.date t 3⟩
 |4=>⟨h.n1,h.n2,Nat.le_succ_of_le h.l1,h.l2,h.l3,h.c1,h.c2,h.c3,h.id,h.msg,h.dat,h.z.date t 4⟩
 |5=>⟨h.n1,h.n2,Nat.le_succ_of_le h.l1,h.l2,h.l3,h.c1,h.c2,h.c3,h.id,h.msg,h.dat,h.z.date t 5⟩
 |6=>⟨h.n1,h.n2,Nat.le_succ_of_le h.l1,h.l2,h.l3,h.c1,h.c2,h.c3,h.id,h.msg,h.dat,h.z.date t 6⟩
 |7=>⟨h.n1,h.n2,Nat.le_succ_of_le h.l1,h.l2,h.l3,h.c1,h.c2,h.c3,h.id,h.msg,h.dat,h.z.date t 7⟩
 |8=>⟨h.n1,h.n2,Nat.le_succ_of_le h.l1,h.l2,h.l3,h.c1,h.c2,h.c3,h.id,h.msg,h.dat,h.z.date t 8⟩
 |9=>⟨h.n1,h.n2,Nat.le_succ_of_le h.l1,h.l2,h.l3,h.c1,h.c2,h.c3,h.id,h.msg,h.dat,h.z.date t 9⟩
 |_+10=>⟨h.n1,h.n2,Nat.le_succ_of_le h.l1,h.l2,h.l3,h.c1,h.c2,h.c3,h.id,h.msg,h.dat,h.z.date t _⟩
structure Okay (o:Ob):Prop where
 fit:DV o
 n:∀s∈o.names,s∈gz
 l:∀x∈o.links,x.id∈gz
 c:∀x∈o.cust,x.text∈gz
 i:o.id∈gz
 m:o.msg.length≤8
theorem x7:∀s∈gz,s.length≤8:=by decide
theorem tG {s:List UInt8} (h:s.length≤8):aX aD (ky s):=⟨Nat.le_trans h (by decide),by simp[aD],trivial⟩
theorem kF (y n:Int):aX aD (jp y n):=⟨by simp[aD],by simp[aD],trivial⟩
theorem na {b:Bool} {x:It}:(db b x).length≤1:=by cases b<;>simp[db]
theorem nb {b:Bool} {x y:It} (h:y∈db b x):y=x:=by
 cases b with
 |true=>simpa [db] using h
 |false=>cases h
theorem D6 {s:List UInt8} (h:s.length≤8) (a b c n:Int) (l:List It) (hl:l=[fK a b n,.mk c 7 0 s []]):aX aD (hU l):=by
 subst hl
 simp[hU,g9,aX,fF,fK,aD]
 omega
theorem Okay.g {o:Ob} (h:Okay o):∀k,xX o k:=by
 intro k
 have t:=x7
 cases k with
 | uid=>exact ⟨by simp[dP],fun x hx=>by
   simp only[dP,List.mem_singleton] at hx;subst hx;exact tG (t _ h.i)⟩
 | nam=>exact ⟨by have:=h.fit.n;simp only[dP,List.length_map];omega,fun x hx=>by
   obtain ⟨s,hs,rfl⟩:=List.mem_map.1 hx;exact tG (t _ (h.n s hs))⟩
 | typ=>exact ⟨by simp[dP],fun x hx=>by
   simp only[dP,List.mem_singleton] at hx;subst hx;exact kF _ _⟩
 |alg=>exact ⟨Nat.le_trans na (by decide),fun x hx=>by rw[nb hx];exact kF _ _⟩
 |len=>exact ⟨Nat.le_trans na (by decide),fun x hx=>by rw[nb hx];exact kF _ _⟩
 | mask=>exact ⟨by simp[dP],fun x hx=>by
   simp only[dP,List.mem_singleton] at hx;subst hx;exact kF _ _⟩
 | sta=>exact ⟨by simp[dP],fun x hx=>by
   simp only[dP,List.mem_singleton] at hx;subst hx;exact kF _ _⟩
 |dat k=>exact ⟨Nat.le_trans na (by decide),fun x hx=>by rw[nb hx];exact kF _ _⟩
 | why=>exact ⟨Nat.le_trans na (by decide),fun x hx=>by
   rw[nb hx]
   have hm:=h.m
   simp only[xU]
   match o.msg,hm with
   |[],_=>simp[hU,g9,aX,fF,fK,tE,aD]
   |a::r,hm=>
    simp only[List.length_cons] at hm
    simp[hU,g9,aX,fF,fK,tE,aD]
    omega⟩
 | lnk=>exact ⟨by have:=h.fit.l;simp only[dP,List.length_map];omega,fun x hx=>by
   obtain ⟨s,hs,rfl⟩:=List.mem_map.1 hx
   exact D6 (t _ (h.l s hs)) _ _ _ _ _ rfl⟩
 | lim=>exact ⟨Nat.le_trans na (by decide),fun x hx=>by
   rw[nb hx]
   simp[xV,hU,g9,aX,fF,fK,aD]⟩
 | cus s=>exact ⟨by
   have:=h.fit.c
   simp only[dP,List.length_map]
   exact Nat.le_trans (List.length_filter_le _ _) (by omega),fun x hx=>by
   obtain ⟨c,hc,rfl⟩:=List.mem_map.1 hx
   exact tG (t _ (h.c c (List.mem_filter.1 hc).1))⟩
theorem Okay.date {o:Ob} (h:Okay o) (d:Dt) (k:Nat):Okay (hP o d k):=by
 have e:∀p:Ob,p.names=o.names→p.links=o.links→p.cust=o.cust→p.mat=o.mat→p.id=o.id→p.msg=o.msg→Okay p:=fun p h1 h2 h3 h4 h5 h6=>
  ⟨⟨by rw[h1];exact h.fit.n,by rw[h2];exact h.fit.l,by rw[h3];exact h.fit.c,by rw[h4];exact h.fit.m⟩,by rw[h1];exact h.n,by rw[h2];exact h.l,by rw[h3];exact h.c,by rw[h5];exact h.i,by rw[h6];exact h.m⟩
 unfold hP
 split<;>exact e _ rfl rfl rfl rfl rfl rfl
def tH (s:List UInt8):List It→Nat→List At
 |[],_=>[]
 |v::r,i=>⟨s,.ofNat i,v⟩::tH s r (i+1)
theorem x8 (s:List UInt8):∀ (l:List It) (i:Nat),(tH s l i).length=l.length
 |[],_=>rfl
 |_::r,i=>congrArg (· +1) (x8 s r (i+1))
def x9 (s:List UInt8) (l:List Cu):Nat:=(l.filter fun c=>cW c.name s).length
def pk:List Cu→List Cu→List At
 |_,[]=>[]
 |pre,c::r=>⟨c.name,.ofNat (x9 c.name pre),ky c.text⟩::pk (pre++[c]) r
def pm (o:Ob):List Kd→List At
 |[]=>[]
 |k::r=>tH (tC k) (dP o k) 0++pm o r
def ya (o:Ob):List At:=pm o kinds++pk [] o.cust
structure D7 (c:Bool) (s:List UInt8) (o:Ob):Prop where
 t:c=true→∀k∈kinds,tC k≠s
 f:c=false→∀x∈o.cust,x.name≠s
theorem yb {o:Ob} (hg:∀k,xX o k):∀l:List Kd,(pm o l).length≤1000*l.length
 |[]=>Nat.le_refl _
 |a::t=>by
  have:=yb hg t
  have h:=(hg a).n
  rw[pm,List.length_append,x8,List.length_cons]
  omega
def D8 (c:Cu) (n:Nat):AV:= .agg [.str c.name,I (.ofNat n),I 4325387,I 7,I 0,.fsl false (aj c.text),.nilsl]
def nc:List Cu→List Cu→List AV
 |_,[]=>[]
 |pre,c::r=>D8 c (x9 c.name pre)::nc (pre++[c]) r
theorem yc:∀ (l q:List Cu),(nc q l).length=l.length
 |[],_=>rfl
 |a::r,q=>by rw[nc,List.length_cons,List.length_cons,yc r]
theorem yd:∀ (l q:List Cu),WkE (nc q l) ((pk q l).map DS)
 |[],_=> .nil
 |a::r,q=>by
  rw[nc,pk,List.map_cons]
  refine WkE.consA ?_ (yd r _)
  simp only[ky,g9]
  (repeat (first|exact Wk.refl _|exact WkL.refl _|exact Wk.nil|exact Wk.row|exact WkE.refl _|exact WkL.nil|exact WkE.nil|apply Wk.agg|apply Wk.tuple|apply WkL.cons|apply Wk.rows|apply WkE.consA))
theorem eK {p:Nat} (h:p≤1000000):af .i64 (Int.ofNat p+1)=Int.ofNat (p+1):=g5 (by simp;omega) (by simp;omega)
theorem mT {c:Bool} {T F:Prop} (h:c=true) (t:T):ah c T F:=aw (fun _=>t) fun e=>by rw[h] at e;cases e
theorem mF {c:Bool} {T F:Prop} (h:c=false) (f:F):ah c T F:=aw (fun e=>by rw[h] at e;cases e) fun _=>f
end Go.Proofs.YtjmnheinkchlfaaGreatDoor
namespace Go.Proofs.YtjmnheinkchlfaaGreatDoor
set_option maxRecDepth 20000
open Go Go.RowKit
open Go.Proofs.Abs
def ej (g:Nat→It) (p:Nat→Bool) (a:Nat):Nat→List It
 |0=>[]
 |j+1=>match p (a+j) with
  |true=>ej g p a j++[g (a+j)]
  |false=>ej g p a j
theorem tI (g:Nat→It) (p:Nat→Bool) (a:Nat):∀j,(ej g p a j).length≤j
 |0=>Nat.le_refl _
 |j+1=>by
  have:=tI g p a j
  simp only[ej]
  split
  ·rw[List.length_append];simp only[List.length_cons,List.length_nil];omega
  ·omega
theorem tJ {g:Nat→It} {p:Nat→Bool} {a:Nat}:∀ {j:Nat} {x:It},x∈ej g p a j→∃i,i<j∧x=g (a+i)
 |0,_,h=>by cases h
 | j+1,x,h=>by
  simp only[ej] at h
  split at h
  ·rcases List.mem_append.1 h with h|h
   ·obtain ⟨i,hi,e⟩:=tJ h;exact ⟨i,by omega,e⟩
   ·exact ⟨j,by omega,by simpa using h⟩
  ·obtain ⟨i,hi,e⟩:=tJ h;exact ⟨i,by omega,e⟩
noncomputable def ye (L:List AV) (at' k t:Int):List It→View
 |[]=>b9 L at' k t
 |x::r=>bX L at' k t (r.length+1) (flat (ab (x::r)))
theorem eL (l:List It):ae (flat (ab l))=true:=gx (bA l) fun e he=>by
 rw[ji] at he
 obtain ⟨x,_,rfl⟩:=List.mem_map.1 he
 have:=cC x
 cases x
 exact this
theorem pn {l:List Rw} {i:Nat} {r:Rw} (hx:l[i]? =some r):aJ Tryz.prog 22 (.fsl false (l.map ak)) (I (.ofNat i))=some (.fptr [I r.k,I r.a,I r.b,I r.c] 0):=tg (v:=ak r) (e:=36) (sz:=4) (by kernel_rfl) (by kernel_rfl) (by rw[List.getElem?_map,hx];rfl) rfl
def fM (l:List Rw) (a:Nat) (k:Nat):Bool:=match l[k]? with
 |some r=>ag (r.k%(.ofNat k)) (.ofNat a)
 |none=>false
theorem D9 {l:List Rw} {at' t:Nat} {g:Nat→It} {Q:AExit→St→Prop}
  (hg:∀k,at'<k→k<8→SC 32 [.fsl false (l.map ak),I (.ofNat k)] (ao (g k)))
  (J:Nat) (hJ:at'+1+J=min l.length 8) (hq:Q (.exit 1) (ye (l.map ak) (.ofNat at') (.ofNat (at'+1+J)) (.ofNat t) (ej g (fM l at') (at'+1) J)).st):
  ∀ (m j:Nat),j+m=J→ALp Tryz.prog opts0.glob 0 (aq Tryz.prog 32 10) (ye (l.map ak) (.ofNat at') (.ofNat (at'+1+j)) (.ofNat t) (ej g (fM l at') (at'+1) j)).st Q:=by
 have hlen:ac (l.map ak)=l.length:=by rw[ap,List.length_map]
 have hL:=dA l
 intro m
 induction m with
 | zero=>
  intro j hj
  obtain rfl:j=J:=by omega
  generalize ej g (fM l at') (at'+1) j=ks at hq⊢
  have h12:am (Int.ofNat (at'+1+j)) (Int.ofNat l.length)=true→am (Int.ofNat (at'+1+j)) 8=true→False:=fun e e2=>by
   have e:=ltInt_iff.1 e
   have e2:=ltInt_iff.1 e2
   simp only[Int.ofNat_eq_natCast] at e e2
   omega
  cases ks with
  |nil=>
   refine ALp.round (A:=fL ⟨0,0,0,0⟩ 0 (.agg (ai 0 0 0 [] []))) (V2:=b9 (l.map ak) (.ofNat at') 0 (.ofNat t)) (F:=b9 (l.map ak) (.ofNat at') (.ofNat (at'+1+j)) (.ofNat t)) (lk:=[(0,0),(1,1)]) (lk':=[(0,0),(1,1)]) base0 au (LsOk.no rfl) .refl ?_
   show al Tryz.prog opts0 40 _ _ (b9 (l.map ak) (.ofNat at') (.ofNat (at'+1+j)) (.ofNat t)).st _
   rw[x1,hlen]
   exact aw (fun e=>aw (fun e2=>(h12 e e2).elim) fun _=>⟨⟨⟨⟨rfl,hL⟩,⟨rfl,rfl⟩,⟨rfl,rfl⟩,trivial⟩,⟨⟨rfl,rfl⟩,⟨rfl,rfl⟩,trivial⟩,⟨rfl,rfl⟩,⟨rfl,rfl⟩,trivial⟩,hq⟩) fun _=>⟨⟨⟨⟨rfl,hL⟩,⟨rfl,rfl⟩,⟨rfl,rfl⟩,trivial⟩,⟨⟨rfl,rfl⟩,⟨rfl,rfl⟩,trivial⟩,⟨rfl,rfl⟩,⟨rfl,rfl⟩,trivial⟩,hq⟩
  |cons x r=>
   have hc:=eL (x::r)
   refine ALp.round (A:=fL ⟨0,0,0,0⟩ 0 (.agg (ai 0 0 0 [] []))) (V2:=bX (l.map ak) (.ofNat at') 0 (.ofNat t) (r.length+1) (flat (ab (x::r)))) (F:=bX (l.map ak) (.ofNat at') (.ofNat (at'+1+j)) (.ofNat t) (r.length+1) (flat (ab (x::r)))) (lk:=[(0,0),(1,1),(2,2)]) (lk':=[(0,0),(1,1),(2,2)]) base0 au (LsOk.no rfl) .refl ?_
   show al Tryz.prog opts0 40 _ _ (bX (l.map ak) (.ofNat at') (.ofNat (at'+1+j)) (.ofNat t) (r.length+1) (flat (ab (x::r)))).st _
   rw[x3,hlen]
   exact aw (fun e=>aw (fun e2=>(h12 e e2).elim) fun _=>⟨⟨⟨⟨rfl,hL⟩,⟨rfl,rfl⟩,⟨rfl,rfl⟩,trivial⟩,⟨⟨rfl,rfl⟩,⟨rfl,rfl⟩,trivial⟩,⟨rfl,rfl⟩,⟨⟨rfl,rfl⟩,⟨rfl,rfl⟩,⟨rfl,rfl⟩,⟨rfl,rfl⟩,⟨rfl,rfl,rfl,rfl,rfl⟩,trivial⟩,⟨rfl,hc⟩,trivial⟩,hq⟩) fun _=>⟨⟨⟨⟨rfl,hL⟩,⟨rfl,rfl⟩,⟨rfl,rfl⟩,trivial⟩,⟨⟨rfl,rfl⟩,⟨rfl,rfl⟩,trivial⟩,⟨rfl,rfl⟩,⟨⟨rfl,rfl⟩,⟨rfl,rfl⟩,⟨rfl,rfl⟩,⟨rfl,rfl⟩,⟨rfl,rfl,rfl,rfl,rfl⟩,trivial⟩,⟨rfl,hc⟩,trivial⟩,hq⟩
 | succ m ih=>
  intro j hj
  have h1:at'+1+j<l.length:=by omega
  have h2:at'+1+j<8:=by omega
  have g1:l[at'+1+j]? =some l[at'+1+j]:=List.getElem?_eq_getElem h1
  have hi:=pn g1
  have hn:=ih (j+1) (by omega)
  have hgk:=hg (at'+1+j) (by omega) h2
  have hlt:=tI g (fM l at') (at'+1) j
  have hkp:fM l at' (at'+1+j)=ag (l[at'+1+j].k%(.ofNat (at'+1+j))) (.ofNat at'):=by unfold fM;rw[g1]
  simp only[ej,hkp] at hn
  revert hi hn
  clear hkp g1
  generalize l[at'+1+j]=r
  intro hi hn
  have hp:=fI r.k (m:= .ofNat (at'+1+j)) (by show (0:Int)<((at'+1+j:Nat):Int);omega) (by show ((at'+1+j:Nat):Int)≤_;omega)
  have hw:af .i64 (Int.ofNat (at'+1+j)+1)=Int.ofNat (at'+1+(j+1)):=eK (by omega)
  generalize ej g (fM l at') (at'+1) j=ks at hn hlt⊢
  generalize hgx:g (at'+1+j)=x at hn hgk
  generalize hpr:r.k%Int.ofNat (at'+1+j)=pr at hp hn
  have k1:am (Int.ofNat (at'+1+j)) (Int.ofNat l.length)=true:=ltInt_iff.2 (by show ((at'+1+j:Nat):Int)<l.length;omega)
  have k2:am (Int.ofNat (at'+1+j)) 8=true:=ltInt_iff.2 (by show ((at'+1+j:Nat):Int)<8;omega)
  obtain ⟨a,b,c,d,kk⟩:=x
  rw[br] at hgk
  have no1:am (Int.ofNat (at'+1+j)) (Int.ofNat l.length)=false→False:=fun e=>by rw[k1] at e;cases e
  have no2:am (Int.ofNat (at'+1+j)) 8=false→False:=fun e=>by rw[k2] at e;cases e
  cases hb:ag pr (.ofNat at') with
  | false=>
   rw[hb] at hn
   dsimp only at hn
   cases ks with
   |nil=>
    refine ALp.round (A:=fL r pr (.agg (ai a b c (aj d) (ab kk)))) (V2:=b9 (l.map ak) (.ofNat at') (.ofNat (at'+1+(j+1))) (.ofNat t)) (F:=b9 (l.map ak) (.ofNat at') (.ofNat (at'+1+j)) (.ofNat t)) (lk:=[(0,0),(1,1)]) (lk':=[(0,0),(1,1)]) base0 au (LsOk.no rfl) .refl ?_
    show al Tryz.prog opts0 40 _ _ (b9 (l.map ak) (.ofNat at') (.ofNat (at'+1+j)) (.ofNat t)).st _
    rw[x1,hlen,hw]
    exact aw (fun _=>aw (fun _=>⟨hi,hp,mF hb ⟨⟨⟨⟨rfl,hL⟩,⟨rfl,rfl⟩,⟨rfl,rfl⟩,trivial⟩,⟨⟨rfl,rfl⟩,⟨rfl,rfl⟩,trivial⟩,⟨rfl,rfl⟩,⟨rfl,rfl⟩,trivial⟩,hn⟩⟩) fun e=>(no2 e).elim) fun e=>(no1 e).elim
   |cons y s=>
    have hc:=eL (y::s)
    refine ALp.round (A:=fL r pr (.agg (ai a b c (aj d) (ab kk)))) (V2:=bX (l.map ak) (.ofNat at') (.ofNat (at'+1+(j+1))) (.ofNat t) (s.length+1) (flat (ab (y::s)))) (F:=bX (l.map ak) (.ofNat at') (.ofNat (at'+1+j)) (.ofNat t) (s.length+1) (flat (ab (y::s)))) (lk:=[(0,0),(1,1),(2,2)]) (lk':=[(0,0),(1,1),(2,2)]) base0 au (LsOk.no rfl) .refl ?_
    show al Tryz.prog opts0 40 _ _ (bX (l.map ak) (.ofNat at') (.ofNat (at'+1+j)) (.ofNat t) (s.length+1) (flat (ab (y::s)))).st _
    rw[x3,hlen,hw]
    exact aw (fun _=>aw (fun _=>⟨hi,hp,mF hb ⟨⟨⟨⟨rfl,hL⟩,⟨rfl,rfl⟩,⟨rfl,rfl⟩,trivial⟩,⟨⟨rfl,rfl⟩,⟨rfl,rfl⟩,trivial⟩,⟨rfl,rfl⟩,⟨⟨rfl,rfl⟩,⟨rfl,rfl⟩,⟨rfl,rfl⟩,⟨rfl,rfl⟩,⟨rfl,rfl,rfl,rfl,rfl⟩,trivial⟩,⟨rfl,hc⟩,trivial⟩,hn⟩⟩) fun e=>(no2 e).elim) fun e=>(no1 e).elim
  | true=>
   rw[hb] at hn
   dsimp only at hn
   cases ks with
   |nil=>
    have hc:=eL [It.mk a b c d kk]
    refine ALp.round (A:=fL r pr (.agg (ai a b c (aj d) (ab kk)))) (V2:=bX (l.map ak) (.ofNat at') (.ofNat (at'+1+(j+1))) (.ofNat t) 1 (flat (ab [It.mk a b c d kk]))) (F:=b9 (l.map ak) (.ofNat at') (.ofNat (at'+1+j)) (.ofNat t)) (lk:=[(0,0),(1,1),(2,26)]) (lk':=[(0,0),(1,1)]) base0 au (LsOk.no rfl) .refl ?_
    show al Tryz.prog opts0 40 _ _ (b9 (l.map ak) (.ofNat at') (.ofNat (at'+1+j)) (.ofNat t)).st _
    rw[DX,hlen,hw]
    exact aw (fun _=>aw (fun _=>⟨hi,hp,mT hb ⟨hgk,⟨⟨⟨rfl,hL⟩,⟨rfl,rfl⟩,⟨rfl,rfl⟩,trivial⟩,⟨⟨rfl,rfl⟩,⟨rfl,rfl⟩,trivial⟩,⟨rfl,rfl⟩,⟨⟨rfl,rfl⟩,⟨rfl,rfl⟩,⟨rfl,rfl⟩,⟨rfl,rfl⟩,⟨rfl,rfl,rfl,rfl,rfl⟩,trivial⟩,⟨rfl,hc⟩,trivial⟩,hn⟩⟩) fun e=>(no2 e).elim) fun e=>(no1 e).elim
   |cons y s=>
    have hE:flat (ab (y::s++[It.mk a b c d kk]))=flat (ab (y::s))++flat [.agg (ai a b c (aj d) (ab kk))]:=by rw[kw,gi];rfl
    have hE2:(s++[It.mk a b c d kk]).length+1=s.length+1+1:=by rw[List.length_append];rfl
    have hc:=eL (y::s++[It.mk a b c d kk])
    have hfl:=kx (y::s)
    have hn:ALp Tryz.prog opts0.glob 0 (aq Tryz.prog 32 10) (bX (l.map ak) (.ofNat at') (.ofNat (at'+1+(j+1))) (.ofNat t) ((s++[It.mk a b c d kk]).length+1) (flat (ab (y::s++[It.mk a b c d kk])))).st Q:=hn
    rw[hE] at hn hc
    rw[hE2] at hn
    rw[List.length_cons] at hfl hlt
    refine ALp.round (A:=fL r pr (.agg (ai a b c (aj d) (ab kk)))) (V2:=bX (l.map ak) (.ofNat at') (.ofNat (at'+1+(j+1))) (.ofNat t) (s.length+1+1) (flat (ab (y::s))++flat [.agg (ai a b c (aj d) (ab kk))])) (F:=bX (l.map ak) (.ofNat at') (.ofNat (at'+1+j)) (.ofNat t) (s.length+1) (flat (ab (y::s)))) (lk:=[(0,0),(1,1),(2,26)]) (lk':=[(0,0),(1,1),(2,2)]) base0 au (LsOk.no rfl) .refl ?_
    show al Tryz.prog opts0 40 _ _ (bX (l.map ak) (.ofNat at') (.ofNat (at'+1+j)) (.ofNat t) (s.length+1) (flat (ab (y::s)))).st _
    rw[DY,hlen,hw]
    refine aw (fun _=>aw (fun _=>⟨hi,hp,mT hb ⟨hgk,bD ?_ (bD (by rw[beq_iff,ap,hfl]) ⟨⟨⟨⟨rfl,hL⟩,⟨rfl,rfl⟩,⟨rfl,rfl⟩,trivial⟩,⟨⟨rfl,rfl⟩,⟨rfl,rfl⟩,trivial⟩,⟨rfl,rfl⟩,⟨⟨rfl,rfl⟩,⟨rfl,rfl⟩,⟨rfl,rfl⟩,⟨rfl,rfl⟩,⟨rfl,rfl,rfl,rfl,rfl⟩,trivial⟩,⟨rfl,hc⟩,trivial⟩,hn⟩)⟩⟩) fun e=>(no2 e).elim) fun e=>(no1 e).elim
    simp[bi,be,flat,AV.cells,ac]
    omega
def tK:List Nat:=[4325387,4325386,4325384,4325524,4325570,4325385,4325451,4325377]
def kG:It→Prop
 | .mk t _ _ _ _=>∃k:Nat,(k=0∨k∈tK)∧t= .ofNat k
theorem Ea {p:Int} (h0:0≤p) (h1:p<8):∃t:Nat,t∈tK∧cX Tryz.prog 152 (.agg [I 4325387,I 4325386,I 4325384,I 4325524,I 4325570,I 4325385,I 4325451,I 4325377]) (I p)=some (I (.ofNat t)):=by
 have:p=0∨p=1∨p=2∨p=3∨p=4∨p=5∨p=6∨p=7:=by omega
 rcases this with rfl|rfl|rfl|rfl|rfl|rfl|rfl|rfl
 ·exact ⟨4325387,by decide,by kernel_rfl⟩
 ·exact ⟨4325386,by decide,by kernel_rfl⟩
 ·exact ⟨4325384,by decide,by kernel_rfl⟩
 ·exact ⟨4325524,by decide,by kernel_rfl⟩
 ·exact ⟨4325570,by decide,by kernel_rfl⟩
 ·exact ⟨4325385,by decide,by kernel_rfl⟩
 ·exact ⟨4325451,by decide,by kernel_rfl⟩
 ·exact ⟨4325377,by decide,by kernel_rfl⟩
theorem Eb {p:Int} (h0:0≤p) (h1:p<4):∃s:List UInt8,s∈gz∧cX Tryz.prog 153 (.agg [.str [],.str [111,110,101],.str [116,119,111],.str [49,50,51,52,53,54,55,56]]) (I p)=some (.str s):=by
 have:p=0∨p=1∨p=2∨p=3:=by omega
 rcases this with rfl|rfl|rfl|rfl
 ·exact ⟨[],by decide,by kernel_rfl⟩
 ·exact ⟨[111,110,101],by decide,by kernel_rfl⟩
 ·exact ⟨[116,119,111],by decide,by kernel_rfl⟩
 ·exact ⟨[49,50,51,52,53,54,55,56],by decide,by kernel_rfl⟩
theorem nd:bw (cN Tryz.prog 32) 10=[aq Tryz.prog 32 10]:=by kernel_rfl
def gA (x:It):Prop:=xW x∧aX aD x
def nf:It:= .mk 0 0 0 [] []
theorem tL {t y n:Int} {s:List UInt8} (h:s∈gz):gA (.mk t y n s []):=⟨⟨h,trivial⟩,Nat.le_trans (x7 s h) (by decide),by simp,trivial⟩
theorem yf:gA nf:=tL (by decide)
theorem ng (l:List Rw) (i:Int):ae [.fsl false (l.map ak),I i]=true:=by
 have:=dA l
 simp only[ae,ad,this,Bool.and_self]
theorem jt {t y n:Int} {d:List UInt8} {H:aa} {D:AV} (hd:D= .nilsl∧d=[]∨D= .fsl false (aj d)):kp (ao (.mk t y n d [])) (.agg [I t,I y,I n,D,.nilsl]) H:=by
 rcases hd with ⟨rfl,rfl⟩|rfl
 ·exact ⟨_,(Frz.closed _ rfl).out,rfl,.agg (.cons (.refl _) (.cons (.refl _) (.cons (.refl _) (.cons .nil (.cons .nil .nil)))))⟩
 ·refine ⟨_,(Frz.closed _ ?_).out, ?_,.agg (.cons (.refl _) (.cons (.refl _) (.cons (.refl _) (.cons (.refl _) (.cons .nil .nil)))))⟩<;>simp[ad,ae]
theorem yg {l:List Rw} {at':Nat} (h:l.length≤at'∨8≤at'):SC 32 [.fsl false (l.map ak),I (.ofNat at')] (ao nf):=by
 have hlen:ac (l.map ak)=l.length:=by rw[ap,List.length_map]
 refine fG (A:=jr ⟨0,0,0,0⟩ 0 0 0 0 0 [] (jq False (l.map ak) (.ofNat at') 0 0 (b9 (l.map ak) (.ofNat at') 0 0))) base0 au (aF (LsOk.at1 rfl nd fun s Q hs=>hs.1.elim)) (ng l _) ?_
 rw[pj,hlen]
 refine aw (fun _=>jt (.inl ⟨rfl,rfl⟩)) fun e=>aw (fun _=>jt (.inl ⟨rfl,rfl⟩)) fun e2=> ?_
 rw[Bool.not_eq_false'] at e e2
 have e:=ltInt_iff.1 e
 have e2:=ltInt_iff.1 e2
 simp only[Int.ofNat_eq_natCast] at e e2
 omega
theorem Ec {l:List Rw} {at' t:Nat} {r:Rw} {s:List UInt8} (hr:l[at']? =some r) (h8:at'<8) (hst:s∈gz) (htg:t∈tK)
  (ht:cX Tryz.prog 152 (.agg [I 4325387,I 4325386,I 4325384,I 4325524,I 4325570,I 4325385,I 4325451,I 4325377]) (I (r.a%8))=some (I (.ofNat t)))
  (hs:cX Tryz.prog 153 (.agg [.str [],.str [111,110,101],.str [116,119,111],.str [49,50,51,52,53,54,55,56]]) (I (r.c%4))=some (.str s)) (hne:r.b%10≠0):
  ∃x:It,(gA x∧kG x)∧SC 32 [.fsl false (l.map ak),I (.ofNat at')] (ao x):=by
 have hlen:ac (l.map ak)=l.length:=by rw[ap,List.length_map]
 have hi:=pn hr
 have q8:=fI r.a (m:=8) (by decide) (by decide)
 have q10:=fI r.b (m:=10) (by decide) (by decide)
 have q4:=fI r.c (m:=4) (by decide) (by decide)
 have q300:=fI r.c (m:=300) (by decide) (by decide)
 have hlt:at'<l.length:=(List.getElem?_eq_some_iff.1 hr).1
 have b10:=Int.emod_lt_of_pos r.b (show (0:Int)<10 by decide)
 have c10:=Int.emod_nonneg r.b (show (10:Int)≠0 by decide)
 have hw:af .i64 (1+r.b%10)=1+r.b%10:=g5 (by omega) (by omega)
 have no1:(!am (Int.ofNat at') (Int.ofNat l.length))=true→False:=fun e=>by
  rw[Bool.not_eq_true'] at e
  have e:=ltInt_false.1 e
  simp only[Int.ofNat_eq_natCast] at e
  omega
 have no2:(!am (Int.ofNat at') 8)=true→False:=fun e=>by
  rw[Bool.not_eq_true'] at e
  have e:=ltInt_false.1 e
  simp only[Int.ofNat_eq_natCast] at e
  omega
 have no3:ag (1+r.b%10) 1=true→False:=fun e=>by
  have e:=beqInt_iff.1 e
  omega
 by_cases hT:1+r.b%10=7∨1+r.b%10=8∨1+r.b%10=4
 ·refine ⟨.mk (.ofNat t) (1+r.b%10) 0 s [],⟨tL hst,t,.inr htg,rfl⟩, ?_⟩
  refine fG (A:=jr r (r.a%8) (r.b%10) (r.c%4) (r.c%300) (.ofNat t) s (jq False (l.map ak) (.ofNat at') 0 (.ofNat t) (b9 (l.map ak) (.ofNat at') 0 (.ofNat t)))) base0 au (aF (LsOk.at1 rfl nd fun s Q hs=>hs.1.elim)) (ng l _) ?_
  rw[pj,hlen,hw]
  refine aw (fun e=>(no1 e).elim) fun _=>aw (fun e=>(no2 e).elim) fun _=>⟨hi,q8,ht,q10,aw (fun e=>(no3 e).elim) fun _=>aw (fun _=>⟨q4,hs,jt (.inr rfl)⟩) fun e4=>aw (fun _=>⟨q4,hs,jt (.inr rfl)⟩) fun e5=>aw (fun _=>⟨q4,hs,jt (.inr rfl)⟩) fun e6=> ?_⟩
  have e4:=beqInt_false.1 e4
  have e5:=beqInt_false.1 e5
  have e6:=beqInt_false.1 e6
  omega
 ·have f7:ag (1+r.b%10) 7=true→False:=fun e=>hT (.inl (beqInt_iff.1 e))
  have f8:ag (1+r.b%10) 8=true→False:=fun e=>hT (.inr (.inl (beqInt_iff.1 e)))
  have f4:ag (1+r.b%10) 4=true→False:=fun e=>hT (.inr (.inr (beqInt_iff.1 e)))
  refine ⟨.mk (.ofNat t) (1+r.b%10) (af .i64 (r.c%300-5)) [] [],⟨tL (by decide),t,.inr htg,rfl⟩, ?_⟩
  refine fG (A:=jr r (r.a%8) (r.b%10) (r.c%4) (r.c%300) (.ofNat t) s (jq False (l.map ak) (.ofNat at') 0 (.ofNat t) (b9 (l.map ak) (.ofNat at') 0 (.ofNat t)))) base0 au (aF (LsOk.at1 rfl nd fun s Q hs=>hs.1.elim)) (ng l _) ?_
  rw[pj,hlen,hw]
  exact aw (fun e=>(no1 e).elim) fun _=>aw (fun e=>(no2 e).elim) fun _=>⟨hi,q8,ht,q10,aw (fun e=>(no3 e).elim) fun _=>aw (fun e=>(f7 e).elim) fun _=>aw (fun e=>(f8 e).elim) fun _=>aw (fun e=>(f4 e).elim) fun _=>⟨q300,jt (.inl ⟨rfl,rfl⟩)⟩⟩
theorem Ed {l:List Rw}:∀ (m at':Nat),8-at'≤m→∃x:It,(gA x∧kG x)∧SC 32 [.fsl false (l.map ak),I (.ofNat at')] (ao x):=by
 intro m
 induction m with
 |zero=>exact fun at' hm=>⟨nf,⟨yf,0,.inl rfl,rfl⟩,yg (.inr (by omega))⟩
 | succ m ih=>
  intro at' hm
  by_cases hend:l.length≤at'∨8≤at'
  ·exact ⟨nf,⟨yf,0,.inl rfl,rfl⟩,yg hend⟩
  have hlt:at'<l.length:=by omega
  have h8:at'<8:=by omega
  have hr:l[at']? =some l[at']:=List.getElem?_eq_getElem hlt
  revert hr
  generalize l[at']=r
  intro hr
  obtain ⟨t,htg,ht⟩:=Ea (p:=r.a%8) (Int.emod_nonneg _ (by decide)) (Int.emod_lt_of_pos _ (by decide))
  obtain ⟨s,hst,hs⟩:=Eb (p:=r.c%4) (Int.emod_nonneg _ (by decide)) (Int.emod_lt_of_pos _ (by decide))
  by_cases hb:r.b%10=0
  ·have hg:∀k,∃x:It,at'<k→gA x∧SC 32 [.fsl false (l.map ak),I (.ofNat k)] (ao x):=fun k=>by
    by_cases hk:at'<k
    ·obtain ⟨x,⟨h1,_⟩,h2⟩:=ih k (by omega)
     exact ⟨x,fun _=>⟨h1,h2⟩⟩
    ·exact ⟨nf,fun h=>absurd h hk⟩
   let g:Nat→It:=fun k=>Classical.choose (hg k)
   have hgs:∀k,at'<k→gA (g k)∧SC 32 [.fsl false (l.map ak),I (.ofNat k)] (ao (g k)):=fun k=>Classical.choose_spec (hg k)
   have hloop:=fun (Q:AExit→St→Prop) J hJ=>D9 (l:=l) (t:=t) (g:=g) (Q:=Q) (fun k h1 _=>(hgs k h1).2) J hJ
   have hmem:=fun j x=> @tJ g (fM l at') (at'+1) j x
   have hlen2:=tI g (fM l at') (at'+1)
   have hJ:at'+1+(min l.length 8-(at'+1))=min l.length 8:=by omega
   have hloop:=fun Q hq=>hloop Q (min l.length 8-(at'+1)) hJ hq (min l.length 8-(at'+1)) 0 (by omega)
   have hmem:=hmem (min l.length 8-(at'+1))
   have hlen2:=hlen2 (min l.length 8-(at'+1))
   simp only[ej] at hloop
   revert hloop hmem hlen2
   generalize ej g (fM l at') (at'+1) (min l.length 8-(at'+1))=ks
   intro hloop hmem hlen2
   have hoks:∀x∈ks,gA x:=fun x hx=>by
    obtain ⟨i,_,rfl⟩:=hmem x hx
    exact (hgs _ (by omega)).1
   have hlen:ac (l.map ak)=l.length:=by rw[ap,List.length_map]
   have hi:=pn hr
   have q8:=fI r.a (m:=8) (by decide) (by decide)
   have q10:=fI r.b (m:=10) (by decide) (by decide)
   have hw:af .i64 (1+r.b%10)=1:=by rw[hb];rfl
   have hL:=dA l
   have hk0:af .i64 (Int.ofNat at'+1)=Int.ofNat (at'+1+0):=eK (by omega)
   have no1:(!am (Int.ofNat at') (Int.ofNat l.length))=true→False:=fun e=>by
    rw[Bool.not_eq_true'] at e
    have e:=ltInt_false.1 e
    simp only[Int.ofNat_eq_natCast] at e
    omega
   have no2:(!am (Int.ofNat at') 8)=true→False:=fun e=>by
    rw[Bool.not_eq_true'] at e
    have e:=ltInt_false.1 e
    simp only[Int.ofNat_eq_natCast] at e
    omega
   have htx:∀ks:List It,(∀x∈ks,gA x)→tF ks:=fun ks=>by
    induction ks with
    |nil=>exact fun _=>trivial
    |cons x r ih=>exact fun h=>⟨(h x (by simp)).1,ih fun y hy=>h y (by simp[hy])⟩
   refine ⟨.mk (.ofNat t) 1 0 [] ks,⟨⟨⟨by decide,htx ks hoks⟩,by simp, ?_,okIs_iff.2 fun x hx=>(hoks x hx).2⟩,t,.inr htg,rfl⟩, ?_⟩
   ·show ks.length≤1099511627776
    omega
   have hcl:=cC (.mk (.ofNat t) 1 0 [] ks)
   cases ks with
   | nil=>
    refine fG (A:=jr r (r.a%8) (r.b%10) (r.c%4) (r.c%300) (.ofNat t) s (jq True (l.map ak) (.ofNat at') (.ofNat (at'+1+0)) (.ofNat t) (b9 (l.map ak) (.ofNat at') (.ofNat (at'+1+(min l.length 8-(at'+1)))) (.ofNat t)))) base0 au
     (aF (LsOk.at1 rfl nd fun s Q hs=> .seen base0.glob hs.2.1 (hloop Q hs.2.2))) (ng l _) ?_
    rw[pj,hlen,hw,hk0]
    exact aw (fun e=>(no1 e).elim) fun _=>aw (fun e=>(no2 e).elim) fun _=>⟨hi,q8,ht,q10,mT rfl ⟨trivial,⟨⟨⟨rfl,hL⟩,⟨rfl,rfl⟩,⟨rfl,rfl⟩,trivial⟩,⟨⟨rfl,rfl⟩,⟨rfl,rfl⟩,trivial⟩,⟨rfl,rfl⟩,⟨rfl,rfl⟩,trivial⟩,jt (.inl ⟨rfl,rfl⟩)⟩⟩
   | cons y ys=>
    refine fG (A:=jr r (r.a%8) (r.b%10) (r.c%4) (r.c%300) (.ofNat t) s (jq True (l.map ak) (.ofNat at') (.ofNat (at'+1+0)) (.ofNat t) (bX (l.map ak) (.ofNat at') (.ofNat (at'+1+(min l.length 8-(at'+1)))) (.ofNat t) (ys.length+1) (flat (ab (y::ys)))))) base0 au
     (aF (LsOk.at1 rfl nd fun s Q hs=> .seen base0.glob hs.2.1 (hloop Q hs.2.2))) (ng l _) ?_
    rw[D0,hlen,hw,hk0]
    refine aw (fun e=>(no1 e).elim) fun _=>aw (fun e=>(no2 e).elim) fun _=>⟨hi,q8,ht,q10,mT rfl ⟨trivial,⟨⟨⟨rfl,hL⟩,⟨rfl,rfl⟩,⟨rfl,rfl⟩,trivial⟩,⟨⟨rfl,rfl⟩,⟨rfl,rfl⟩,trivial⟩,⟨rfl,rfl⟩,⟨rfl,rfl⟩,trivial⟩, ?_⟩⟩
    refine ⟨.agg [I (.ofNat t),I 1,I 0,.nilsl,.fsl false (ab (y::ys))],(Frz.agg (.cons (.closed _ rfl) (.cons (.closed _ rfl) (.cons (.closed _ rfl) (.cons (.closed _ rfl) (.cons (Frz.row rfl rfl rfl (by rw[dc];rfl) g8 (bA _)) .nil)))))).out, ?_,.agg (.cons (.refl _) (.cons (.refl _) (.cons (.refl _) (.cons .nil (.cons (.refl _) .nil)))))⟩
    have:=bA (y::ys)
    simp only[ad,ae,this,Bool.and_self]
  ·exact Ec hr h8 hst htg ht hs hb
theorem yh (l:List Rw):∃x:It,(gA x∧kG x)∧SC 10 [.fsl false (l.map ak)] (ao x):=by
 obtain ⟨x,hx,hs⟩:=Ed (l:=l) 8 0 (by omega)
 refine ⟨x,hx, ?_⟩
 have hcl:=cC x
 obtain ⟨t,y,n,d,ks⟩:=x
 rw[br] at hs hcl⊢
 refine gn (A:=ar [] [] (ed [(32,.agg (ai t y n (aj d) (ab ks)))]) [] []) base0 au (aF (LsOk.no rfl)) (by have:=dA l;simp only[ae,ad,this,Bool.and_self]) hcl ?_
 rw[D2]
 exact ⟨hs,rfl⟩
end Go.Proofs.YtjmnheinkchlfaaGreatDoor
