import Derived.Test.YthikljbjnlibiaaGreatDoorProg
import Derived.Test.YthikljbjnlibiaaGreatDoorG5
import Derived.KernelRfl
namespace Go.Proofs.YthikljbjnlibiaaGreatDoor
open Go Go.RowKit
open Go.Proofs.Abs
abbrev I (n:Int):AV:= .int .i64 n
def kindL:List Int:=[1,1,1,2,3,3,4,8,9,10,11,12,13,14,15,17,18,18,19,20,21,22,24,30,31,32,35,36]
def gl:ae:=fun g=>match Nat.beq g 3 with
 |true=>some (kindL.map I)
 |false=>none
theorem Tryz.mixed:Tryz.prog.follows .mixedOrders=true:=by kernel_rfl
noncomputable def opts0:ar:={how:=fun _=> .pure,summ:=fun _ _=>none,glob:=gl,lf:=100000}
theorem cF:∀g l,gl g=some l→ag l=true:=by
 intro g l h
 unfold gl at h
 split at h
 ·simp only[Option.some.injEq] at h;subst h;kernel_rfl
 ·cases h
theorem base0:bG Tryz.prog opts0 40:=r4 Tryz.mixed (fun _ _ _ h=>by cases h) cF
theorem jv:∀f args v,opts0.summ f args=some v→SemCall Tryz.prog opts0.glob f args v:=fun _ _ _ h=>by cases h
noncomputable def aO:bH:=dA (fun _ _=>none) (fun _=>none)
theorem b9:bR Tryz.prog opts0 aO:=jo jv
set_option maxRecDepth 20000 in
theorem cG {A:bH} {f:FuncId} {args:List AV} {v r:AV} (hA:bR Tryz.prog opts0 A) (hl:fP Tryz.prog opts0.glob 0 A f) (hcl:ag args=true) (h:bx Tryz.prog opts0 40 A f args [] 0 (fun u H _=>(∃d,ah 0 H d u=some r)∧ac r=true)) (hw:Wk r v):SemCall Tryz.prog opts0.glob f args v:=(lK base0 hA hl hcl h).res hw
abbrev SC:=SemCall Tryz.prog opts0.glob
end Go.Proofs.YthikljbjnlibiaaGreatDoor
namespace Go.Proofs.Abs
open Go
def eV (s:Nat):Nat:=(s/2)^^^((s%2)*3988292384)
def dC:Nat→Nat→Nat
 |0,s=>s
 |j+1,s=>eV (dC j s)
def eW (s c:Nat):Nat:=dC 8 (s^^^c)
def cW:Nat→List UInt8→Nat
 |s,[]=>s
 |s,c::t=>cW (eW s c.toNat) t
def hR (s:Nat) (l:List UInt8):Nat:=cW (s^^^4294967295) l^^^4294967295
theorem pL {s:Nat} (h:s<2^32):eV s<2^32:=by
 unfold eV
 refine Nat.xor_lt_two_pow (by omega) ?_
 have:s%2<2:=Nat.mod_lt _ (by decide)
 omega
theorem mq:∀ {j s:Nat},s<2^32→dC j s<2^32
 |0,_,h=>h
 |_j+1,_,h=>pL (mq h)
theorem pM {s c:Nat} (h:s<2^32) (hc:c<256):eW s c<2^32:=mq (Nat.xor_lt_two_pow h (by omega))
theorem pN:∀ (l:List UInt8) (s:Nat),s<2^32→cW s l<2^32
 |[],_,h=>h
 |c::t,_s,h=>pN t _ (pM h (UInt8.toNat_lt c))
theorem pO:∀ (l m:List UInt8) (s:Nat),cW s (l++m)=cW (cW s l) m
 |[],_,_=>rfl
 |_c::t,m,_s=>pO t m _
theorem u32_in {n:Nat} (h:n<2^32):al .u32 (Int.ofNat n)=Int.ofNat n:=by
 rw[dq,IntKind.wrap_u32]
 show ((n:Int)%4294967296)=n
 omega
theorem jw {n:Nat} (h:n<2^32):(BitVec.ofInt 32 (Int.ofNat n)).toNat=n:=by
 simp only[BitVec.toNat_ofInt]
 show ((n:Int)%((2^32:Nat):Int)).toNat=n
 omega
theorem mr {a b:Nat} (ha:a<2^32) (hb:b<2^32):(BitVec.ofInt 32 (Int.ofNat a)^^^BitVec.ofInt 32 (Int.ofNat b)).toNat=a^^^b:=by
 rw[BitVec.toNat_xor,jw ha,jw hb]
theorem pP {a b:Nat} (ha:a<2^32) (hb:b<2^32):(BitVec.ofInt 32 (Int.ofNat a)&&&BitVec.ofInt 32 (Int.ofNat b)).toNat=a&&&b:=by
 rw[BitVec.toNat_and,jw ha,jw hb]
theorem tH {b:Nat} (hb:b<2):al .u32 (0-Int.ofNat b)=Int.ofNat (b*4294967295):=by
 rw[dq,IntKind.wrap_u32]
 have:b=0∨b=1:=by omega
 rcases this with rfl|rfl<;>rfl
theorem tI {s:Nat} (h:s<2^32):al .u32 ((BitVec.ofInt 32 ((Int.ofNat s).fdiv 2)^^^BitVec.ofInt 32 (al .u32 ((BitVec.ofInt 32 3988292384&&&BitVec.ofInt 32 (al .u32 (0-al .u32 ((BitVec.ofInt 32 (Int.ofNat s)&&&BitVec.ofInt 32 1).toNat:Int)))).toNat:Int))).toNat:Int)=Int.ofNat (eV s):=by
 have h1:(BitVec.ofInt 32 (Int.ofNat s)&&&BitVec.ofInt 32 1).toNat=s%2:=by
  rw[show (1:Int)=Int.ofNat 1 from rfl,pP h (by decide)]
  exact Nat.and_one_is_mod s
 have hm:s%2<2:=Nat.mod_lt _ (by decide)
 have h5:(Int.ofNat s).fdiv 2=Int.ofNat (s/2):=by
  show (s:Int).fdiv 2=_
  rw[Int.fdiv_eq_ediv_of_nonneg _ (by decide)];rfl
 rw[h1,h5]
 have h6:al .u32 ((s%2:Nat):Int)=Int.ofNat (s%2):=u32_in (by omega)
 rw[h6,tH hm]
 have h2:(BitVec.ofInt 32 3988292384&&&BitVec.ofInt 32 (Int.ofNat (s%2*4294967295))).toNat=s%2*3988292384:=by
  rw[show (3988292384:Int)=Int.ofNat 3988292384 from rfl,pP (by decide) (by omega)]
  rcases (by omega:s%2=0∨s%2=1) with e|e<;>rw[e]<;>rfl
 have h3:s%2*3988292384<2^32:=by omega
 have h7:al .u32 ((s%2*3988292384:Nat):Int)=Int.ofNat (s%2*3988292384):=u32_in h3
 rw[h2,h7,mr (by omega) h3]
 exact u32_in (pL h)
theorem tJ {s:Nat} {c:UInt8} (h:s<2^32):al .u32 ((BitVec.ofInt 32 (Int.ofNat s)^^^BitVec.ofInt 32 (al .u32 (Int.ofNat c.toNat))).toNat:Int)=Int.ofNat (s^^^c.toNat):=by
 have hc:=UInt8.toNat_lt c
 have hc':c.toNat<2^32:=by omega
 rw[u32_in hc',mr h hc']
 exact u32_in (Nat.xor_lt_two_pow h hc')
theorem jx {s:Nat} (h:s<2^32):al .u32 ((BitVec.ofInt 32 4294967295^^^BitVec.ofInt 32 (Int.ofNat s)).toNat:Int)=Int.ofNat (s^^^4294967295):=by
 rw[show (4294967295:Int)=Int.ofNat 4294967295 from rfl,mr (by decide) h,Nat.xor_comm]
 exact u32_in (Nat.xor_lt_two_pow h (by decide))
end Go.Proofs.Abs
namespace Go.Proofs.YthikljbjnlibiaaGreatDoor
open Go Go.RowKit
open Go.Proofs.Abs
noncomputable def hU (a:AV) (n i x j:Nat):View:=⟨[(0,.int .u32 (.ofNat x)),(9,a),(10,I (.ofNat n)),(11,I (.ofNat i)),(19,I (.ofNat j))],[],[],0,32⟩
noncomputable def ca (a:AV) (n i x:Nat):View:=⟨[(0,.int .u32 (.ofNat x)),(9,a),(10,I (.ofNat n)),(11,I (.ofNat i))],[],[],0,32⟩
noncomputable def mt:cf:=fun s Q=>match s.slots.get 0,s.slots.get 9,s.slots.get 10,s.slots.get 11 with
 |some (.int .u32 x),some a,some (.int .i64 (.ofNat n)),some (.int .i64 (.ofNat i))=>
  aP (gV x&&(Nat.blt x.toNat 4294967296&&ac a)) (dz 0 [] (hU a n i x.toNat 0) s∧Q (.exit 2) (ca a n i (dC 8 x.toNat)).st)
 |_,_,_,_=>False
noncomputable def mu (v:AV):bH:=dA (sS 4 0 (.el v)) (fS 8 mt)
theorem tK (x:Nat) (a:AV) (n i j:Nat) (go:Bool) (Q:AExit→St→Prop):bI Tryz.prog opts0 40 aO (cv Tryz.prog 282 8) (hU a n i x j).st (fR 0 [] (hU a n i (eV x) (j+1)) [] (ca a n i x) go Q)=
  (dV (aV (Int.ofNat j) 8) (aP go (((AV.int IntKind.u32 (al IntKind.u32 ↑(BitVec.ofInt 32 ((Int.ofNat x).fdiv 2)^^^BitVec.ofInt 32 (al IntKind.u32 ↑(BitVec.ofInt 32 3988292384&&&BitVec.ofInt 32 (al IntKind.u32 (0-al IntKind.u32 ↑(BitVec.ofInt 32 (Int.ofNat x)&&&BitVec.ofInt 32 1).toNat))).toNat)).toNat)=AV.int IntKind.u32 (Int.ofNat (eV x))∧ac (AV.int IntKind.u32 (Int.ofNat (eV x)))=true)∧(a=a∧ac a=true)∧(I (Int.ofNat n)=I (Int.ofNat n)∧ac (I (Int.ofNat n))=true)∧(I (Int.ofNat i)=I (Int.ofNat i)∧ac (I (Int.ofNat i))=true)∧(I (al IntKind.i64 (Int.ofNat j+1))=I (Int.ofNat (j+1))∧ac (I (Int.ofNat (j+1)))=true)∧True)∧True∧True)) ((((AV.int IntKind.u32 (Int.ofNat x)=AV.int IntKind.u32 (Int.ofNat x)∧ac (AV.int IntKind.u32 (Int.ofNat x))=true)∧(a=a∧ac a=true)∧(I (Int.ofNat n)=I (Int.ofNat n)∧ac (I (Int.ofNat n))=true)∧(I (Int.ofNat i)=I (Int.ofNat i)∧ac (I (Int.ofNat i))=true)∧True)∧True∧True)∧Q (AExit.exit 2) (ca a n i x).st)):=by kernel_rfl
theorem tL {a:AV} {n i x:Nat} {Q:AExit→St→Prop} (ha:ac a=true) (hx:x<2^32) (hq:Q (.exit 2) (ca a n i (dC 8 x)).st):AWp Tryz.prog opts0.glob 0 (.loop (cv Tryz.prog 282 8)) (hU a n i x 0).st Q:=by
 refine AWp.loopV base0 (fun _=>aO) (fun j=>hU a n i (dC j x) j) (fun j=>ca a n i (dC j x)) (fun _=>[]) (fun _=>[]) 8 0 (fun _=>b9) (fun _ r L h=>by cases h) fun j _ hj=> ?_
 rw[dC,tK,tI (mq hx)]
 refine fM (fun h=> ?_) (fun h=> ?_)
 ·have h:(j:Int)<8:=ltInt_iff.1 h
  rw[lO (by simp;omega) (by simp;omega)]
  refine oblB_iff.2 ⟨blt_iff.2 (by omega), ?_⟩
  simp[ac,ha]
 ·have h:(8:Int)≤j:=ltInt_false.1 h
  obtain rfl:j=8:=by omega
  refine ⟨by simp[ac,ha],hq⟩
theorem tM:bB (fT Tryz.prog 282) 4=[cv Tryz.prog 282 4]:=by kernel_rfl
theorem tN:bB (cv Tryz.prog 282 4) 8=[cv Tryz.prog 282 8]:=by kernel_rfl
theorem tO (x:Nat) (b:UInt8) (f:Bool) (es:List AV) (n i:Nat) (go:Bool) (Q:AExit→St→Prop):bI Tryz.prog opts0 40 (mu (.int .u8 (.ofNat b.toNat))) (cv Tryz.prog 282 4) (ca (.fsl f es) n i x).st (fR 0 [] (ca (.fsl f es) n (i+1) (eW x b.toNat)) [] (ca (.fsl f es) n i x) go Q)=
  (dV (aV (Int.ofNat i) (Int.ofNat n)) (aT es (Int.ofNat i).toNat=some (AV.int IntKind.u8 (Int.ofNat b.toNat))∧aP (gV (al IntKind.u32 ↑(BitVec.ofInt 32 (Int.ofNat x)^^^BitVec.ofInt 32 (al IntKind.u32 (Int.ofNat b.toNat))).toNat)&&((al IntKind.u32 ↑(BitVec.ofInt 32 (Int.ofNat x)^^^BitVec.ofInt 32 (al IntKind.u32 (Int.ofNat b.toNat))).toNat).toNat.blt 4294967296&&ac (AV.fsl f es))) ((((AV.int IntKind.u32 (al IntKind.u32 ↑(BitVec.ofInt 32 (Int.ofNat x)^^^BitVec.ofInt 32 (al IntKind.u32 (Int.ofNat b.toNat))).toNat)=AV.int IntKind.u32 (Int.ofNat (al IntKind.u32 ↑(BitVec.ofInt 32 (Int.ofNat x)^^^BitVec.ofInt 32 (al IntKind.u32 (Int.ofNat b.toNat))).toNat).toNat)∧ac (AV.int IntKind.u32 (Int.ofNat (al IntKind.u32 ↑(BitVec.ofInt 32 (Int.ofNat x)^^^BitVec.ofInt 32 (al IntKind.u32 (Int.ofNat b.toNat))).toNat).toNat))=true)∧(AV.fsl f es=AV.fsl f es∧ac (AV.fsl f es)=true)∧(I (Int.ofNat n)=I (Int.ofNat n)∧ac (I (Int.ofNat n))=true)∧(I (Int.ofNat i)=I (Int.ofNat i)∧ac (I (Int.ofNat i))=true)∧(I 0=I 0∧true=true)∧True)∧True∧True)∧aP go (((AV.int IntKind.u32 (Int.ofNat (dC 8 (al IntKind.u32 ↑(BitVec.ofInt 32 (Int.ofNat x)^^^BitVec.ofInt 32 (al IntKind.u32 (Int.ofNat b.toNat))).toNat).toNat))=AV.int IntKind.u32 (Int.ofNat (eW x b.toNat))∧ac (AV.int IntKind.u32 (Int.ofNat (eW x b.toNat)))=true)∧(AV.fsl f es=AV.fsl f es∧ac (AV.fsl f es)=true)∧(I (Int.ofNat n)=I (Int.ofNat n)∧ac (I (Int.ofNat n))=true)∧(I (al IntKind.i64 (Int.ofNat i+1))=I (Int.ofNat (i+1))∧ac (I (Int.ofNat (i+1)))=true)∧True)∧True∧True))) ((((AV.int IntKind.u32 (Int.ofNat x)=AV.int IntKind.u32 (Int.ofNat x)∧ac (AV.int IntKind.u32 (Int.ofNat x))=true)∧(AV.fsl f es=AV.fsl f es∧ac (AV.fsl f es)=true)∧(I (Int.ofNat n)=I (Int.ofNat n)∧ac (I (Int.ofNat n))=true)∧(I (Int.ofNat i)=I (Int.ofNat i)∧ac (I (Int.ofNat i))=true)∧True)∧True∧True)∧Q (AExit.exit 0) (ca (AV.fsl f es) n i x).st)):=by kernel_rfl
theorem tP {s:St} {Q:AExit→St→Prop} (h:mt s Q):AWp Tryz.prog opts0.glob 0 (.loop (cv Tryz.prog 282 8)) s Q:=by
 unfold mt at h
 split at h
 ·obtain ⟨hb,hs,hq⟩:=oblB_iff.1 h
  simp only[Bool.and_eq_true] at hb
  exact .says (b7 base0.glob hs) (tL hb.2.2 (blt_iff.1 hb.2.1) hq)
 ·exact h.elim
theorem tQ (v:AV):LsOk Tryz.prog opts0.glob 0 (mu v) (cv Tryz.prog 282 4):=LsOk.one tN fun _ _ h=>tP h
def dD (x:Nat) (l:List UInt8):Nat→Nat
 |0=>x
 |i+1=>eW (dD x l i) (cU l i).toNat
theorem pQ (x:Nat) (l:List UInt8):∀i,i≤l.length→dD x l i=cW x (l.take i)
 |0,_=>rfl
 | i+1,h=>by
  have e:l.take (i+1)=l.take i++[cU l i]:=by
   rw[List.take_add_one]
   simp[cU,show i<l.length by omega]
  rw[e,pO,dD,pQ x l i (by omega)]
  rfl
theorem mv {x:Nat} (l:List UInt8) (hx:x<2^32):∀i,dD x l i<2^32
 |0=>hx
 |i+1=>pM (mv l hx i) (UInt8.toNat_lt _)
theorem tR {f:Bool} {l:List UInt8} {x:Nat} {Q:AExit→St→Prop} (hx:x<2^32) (hl:l.length≤9223372036854775807) (hq:Q (.exit 0) (ca (.fsl f (aw l)) l.length l.length (cW x l)).st):
  AWp Tryz.prog opts0.glob 0 (.loop (cv Tryz.prog 282 4)) (ca (.fsl f (aw l)) l.length 0 x).st Q:=by
 refine AWp.loopV base0 (fun i=>mu (.int .u8 (.ofNat (cU l i).toNat))) (fun i=>ca (.fsl f (aw l)) l.length i (dD x l i)) (fun i=>ca (.fsl f (aw l)) l.length i (dD x l i)) (fun _=>[]) (fun _=>[]) l.length 0 (fun _=>jo jv) (fun _=>tQ _) fun i _ hi=> ?_
 rw[dD,tO,tJ (mv l hx i)]
 refine fM (fun h=> ?_) (fun h=> ?_)
 ·have h:(i:Int)<l.length:=ltInt_iff.1 h
  have hi:i<l.length:=by omega
  rw[lO (by simp;omega) (by simp;omega)]
  have hlt:dD x l i^^^(cU l i).toNat<2^32:=Nat.xor_lt_two_pow (mv l hx i) (by have:=UInt8.toNat_lt (cU l i);omega)
  refine ⟨?_, ?_⟩
  ·show aT (aw l) i=_
   rw[sM]
   simp[cU,hi]
  ·refine oblB_iff.2 ⟨?_, ?_⟩
   ·show (true&&(Nat.blt (dD x l i^^^(cU l i).toNat) 4294967296&&ac (.fsl f (aw l))))=true
    simp only[Bool.true_and,Bool.and_eq_true]
    exact ⟨blt_iff.2 hlt,by simp[ac]⟩
   ·refine ⟨by simp[ac],oblB_iff.2 ⟨blt_iff.2 (by omega), ?_⟩⟩
    simp[ac,eW]
 ·have h:(l.length:Int)≤i:=ltInt_false.1 h
  obtain rfl:i=l.length:=by omega
  refine ⟨by simp[ac], ?_⟩
  rw[pQ x l _ (Nat.le_refl _),List.take_length]
  exact hq
noncomputable def pR (f:Bool) (l:List UInt8):cf:=fun s Q=>match s.slots.get 0 with
 |some (.int .u32 x)=>aP (gV x&&Nat.blt x.toNat 4294967296) (dz 0 [] (ca (.fsl f (aw l)) l.length 0 x.toNat) s∧Q (.exit 0) (ca (.fsl f (aw l)) l.length l.length (cW x.toNat l)).st)
 |_=>False
noncomputable def pS (f:Bool) (l:List UInt8):bH:=dA (fun _ _=>none) (fS 4 (pR f l))
theorem tS (x:Nat) (f:Bool) (l:List UInt8) (Q:AV→aa→Nat→Prop):bx Tryz.prog opts0 40 (pS f l) 282 [.int .u32 (.ofNat x),.fsl f (aw l)] [] 0 Q=
  (aP (gV (al IntKind.u32 ↑(BitVec.ofInt 32 4294967295^^^BitVec.ofInt 32 (Int.ofNat x)).toNat)&&(al IntKind.u32 ↑(BitVec.ofInt 32 4294967295^^^BitVec.ofInt 32 (Int.ofNat x)).toNat).toNat.blt 4294967296) ((((AV.int IntKind.u32 (al IntKind.u32 ↑(BitVec.ofInt 32 4294967295^^^BitVec.ofInt 32 (Int.ofNat x)).toNat)=AV.int IntKind.u32 (Int.ofNat (al IntKind.u32 ↑(BitVec.ofInt 32 4294967295^^^BitVec.ofInt 32 (Int.ofNat x)).toNat).toNat)∧ac (AV.int IntKind.u32 (Int.ofNat (al IntKind.u32 ↑(BitVec.ofInt 32 4294967295^^^BitVec.ofInt 32 (Int.ofNat x)).toNat).toNat))=true)∧(AV.fsl f (aw l)=AV.fsl f (aw l)∧ac (AV.fsl f (aw l))=true)∧(I (Int.ofNat (ab (aw l)))=I (Int.ofNat l.length)∧ac (I (Int.ofNat l.length))=true)∧(I 0=I 0∧true=true)∧True)∧True∧True)∧Q (AV.int IntKind.u32 (al IntKind.u32 ↑(BitVec.ofInt 32 4294967295^^^BitVec.ofInt 32 (Int.ofNat (cW (al IntKind.u32 ↑(BitVec.ofInt 32 4294967295^^^BitVec.ofInt 32 (Int.ofNat x)).toNat).toNat l))).toNat)) [] 3)):=by kernel_rfl
theorem tT (x:Nat) (Q:AV→aa→Nat→Prop):bx Tryz.prog opts0 40 aO 282 [.int .u32 (.ofNat x),.nilsl] [] 0 Q=
  (Q (AV.int IntKind.u32 (al IntKind.u32 ↑(BitVec.ofInt 32 4294967295^^^BitVec.ofInt 32 (al IntKind.u32 ↑(BitVec.ofInt 32 4294967295^^^BitVec.ofInt 32 (Int.ofNat x)).toNat)).toNat)) [] 11):=by kernel_rfl
theorem tU {x:Nat} {f:Bool} {l:List UInt8} (hx:x<2^32) (hl:l.length≤9223372036854775807):SC 282 [.int .u32 (.ofNat x),.fsl f (aw l)] (.int .u32 (.ofNat (hR x l))):=by
 refine lK (A:=pS f l) base0 (jo jv) (cg (LsOk.one tM fun s Q hs=> ?_)) (by simp[ac,ag]) ?_
 ·unfold pR at hs
  split at hs
  ·obtain ⟨hb,hs,hq⟩:=oblB_iff.1 hs
   simp only[Bool.and_eq_true] at hb
   exact .says (b7 base0.glob hs) (tR (blt_iff.1 hb.2) hl hq)
  ·exact hs.elim
 ·have h1:x^^^4294967295<2^32:=Nat.xor_lt_two_pow hx (by decide)
  rw[tS,jx hx]
  refine oblB_iff.2 ⟨?_, ?_, ?_⟩
  ·exact blt_iff.2 h1
  ·simp[ac]
  ·show (∃d,ah 0 [] d (.int .u32 (al .u32 ((BitVec.ofInt 32 4294967295^^^BitVec.ofInt 32 (Int.ofNat (cW (x^^^4294967295) l))).toNat:Int)))=_)∧_
   rw[jx (pN l _ h1)]
   exact ⟨⟨1,rfl⟩,rfl⟩
theorem tV {x:Nat} (hx:x<2^32):SC 282 [.int .u32 (.ofNat x),.nilsl] (.int .u32 (.ofNat (hR x []))):=by
 refine lK (A:=aO) base0 b9 (sE fun _=>rfl) (by simp[ac,ag]) ?_
 have h1:x^^^4294967295<2^32:=Nat.xor_lt_two_pow hx (by decide)
 rw[tT]
 have e:x^^^4294967295^^^4294967295=hR x []:=rfl
 rw[jx hx,jx h1,e]
 exact ⟨⟨1,rfl⟩,rfl⟩
def jy:AV:= .fsl false (a7 (.int .u8 0) 64)
def aU:Nat→List AV
 |0=>[]
 |n+1=>jy:: .bool false::aU n
theorem pT:∀n,aU n++[jy,.bool false]=aU (n+1)
 |0=>rfl
 |n+1=>by simp only[aU,List.cons_append];rw[pT n];rfl
theorem hY:∀n,ag (aU n)=true
 |0=>rfl
 |n+1=>by
  have h:ac jy=true:=by kernel_rfl
  simp only[aU,ag,h,hY n,ac,Bool.and_self]
theorem pU:∀n,ab (aU n)=n*2
 |0=>rfl
 |n+1=>by simp only[aU,ab,pU n];omega
def hZ (s:AV):List AV:=[s,.nilsl,I (-1),.bool false,I 0]
noncomputable def ci (n:Nat):Nat→View
 |0=>⟨[(13,I (.ofNat n)),(14,I 0)],[(4,.ptr 0 0)],[(0,.cells (hZ .nilsl),.whole)],3,29⟩
 |i+1=>⟨[(13,I (.ofNat n)),(14,I (.ofNat (i+1)))],[(4,.ptr 0 0)],[(0,.cells (hZ (.rsl true 1 0 (i+1) 2)),.each),(1,.cells (aU (i+1)),.whole)],3,29⟩
noncomputable def cX (n i d:Nat):View:=⟨[(13,I (.ofNat n)),(14,I (.ofNat (i+1)))],[(4,.ptr 0 0)],[(0,.cells (hZ (.rsl true 1 0 (i+1) 2)),.each),(1,.cells (aU i++[.rsl true 2 0 64 1,.bool false]),.split (aU i) [.rsl true 2 0 64 1,.bool false] [.rsl true d 0 64 1,.bool false]),(2,.cells (flat (a7 (.int .u8 0) 64)),.whole)],3,29⟩
theorem tW (n:Nat) (go:Bool) (Q:AExit→St→Prop):bI Tryz.prog opts0 40 aO (cv Tryz.prog 11 6) (ci n 0).st (fR 0 [(0,0),(1,12),(2,9)] (cX n 0 9) [(0,0)] (ci n 0) go Q)=
  (dV (aV 0 (Int.ofNat n)) (aP go (((I (Int.ofNat n)=I (Int.ofNat n)∧ac (I (Int.ofNat n))=true)∧(I 1=I 1∧true=true)∧True)∧((some 0=some 0∧0=0)∧True)∧((true=true∧some 12=some 12∧0=0∧1=1∧2=2)∧(AV.nilsl=AV.nilsl∧true=true)∧(I (Int.negSucc 0)=I (Int.negSucc 0)∧true=true)∧(AV.bool false=AV.bool false∧true=true)∧(I 0=I 0∧true=true)∧True)∧((aU 0++[AV.rsl true 2 0 64 1,AV.bool false]=aU 0++[AV.rsl true 2 0 64 1,AV.bool false]∧[AV.rsl true 9 0 64 1,AV.bool false]=aU 0++[AV.rsl true 9 0 64 1,AV.bool false])∧true=true∧(true=true∧some 9=some 9∧0=0∧64=64∧1=1)∧(AV.bool false=AV.bool false∧true=true)∧True)∧([AV.int IntKind.u8 0,AV.int IntKind.u8 0,AV.int IntKind.u8 0,AV.int IntKind.u8 0,AV.int IntKind.u8 0,AV.int IntKind.u8 0,AV.int IntKind.u8 0,AV.int IntKind.u8 0,AV.int IntKind.u8 0,AV.int IntKind.u8 0,AV.int IntKind.u8 0,AV.int IntKind.u8 0,AV.int IntKind.u8 0,AV.int IntKind.u8 0,AV.int IntKind.u8 0,AV.int IntKind.u8 0,AV.int IntKind.u8 0,AV.int IntKind.u8 0,AV.int IntKind.u8 0,AV.int IntKind.u8 0,AV.int IntKind.u8 0,AV.int IntKind.u8 0,AV.int IntKind.u8 0,AV.int IntKind.u8 0,AV.int IntKind.u8 0,AV.int IntKind.u8 0,AV.int IntKind.u8 0,AV.int IntKind.u8 0,AV.int IntKind.u8 0,AV.int IntKind.u8 0,AV.int IntKind.u8 0,AV.int IntKind.u8 0,AV.int IntKind.u8 0,AV.int IntKind.u8 0,AV.int IntKind.u8 0,AV.int IntKind.u8 0,AV.int IntKind.u8 0,AV.int IntKind.u8 0,AV.int IntKind.u8 0,AV.int IntKind.u8 0,AV.int IntKind.u8 0,AV.int IntKind.u8 0,AV.int IntKind.u8 0,AV.int IntKind.u8 0,AV.int IntKind.u8 0,AV.int IntKind.u8 0,AV.int IntKind.u8 0,AV.int IntKind.u8 0,AV.int IntKind.u8 0,AV.int IntKind.u8 0,AV.int IntKind.u8 0,AV.int IntKind.u8 0,AV.int IntKind.u8 0,AV.int IntKind.u8 0,AV.int IntKind.u8 0,AV.int IntKind.u8 0,AV.int IntKind.u8 0,AV.int IntKind.u8 0,AV.int IntKind.u8 0,AV.int IntKind.u8 0,AV.int IntKind.u8 0,AV.int IntKind.u8 0,AV.int IntKind.u8 0,AV.int IntKind.u8 0]=[AV.int IntKind.u8 0,AV.int IntKind.u8 0,AV.int IntKind.u8 0,AV.int IntKind.u8 0,AV.int IntKind.u8 0,AV.int IntKind.u8 0,AV.int IntKind.u8 0,AV.int IntKind.u8 0,AV.int IntKind.u8 0,AV.int IntKind.u8 0,AV.int IntKind.u8 0,AV.int IntKind.u8 0,AV.int IntKind.u8 0,AV.int IntKind.u8 0,AV.int IntKind.u8 0,AV.int IntKind.u8 0,AV.int IntKind.u8 0,AV.int IntKind.u8 0,AV.int IntKind.u8 0,AV.int IntKind.u8 0,AV.int IntKind.u8 0,AV.int IntKind.u8 0,AV.int IntKind.u8 0,AV.int IntKind.u8 0,AV.int IntKind.u8 0,AV.int IntKind.u8 0,AV.int IntKind.u8 0,AV.int IntKind.u8 0,AV.int IntKind.u8 0,AV.int IntKind.u8 0,AV.int IntKind.u8 0,AV.int IntKind.u8 0,AV.int IntKind.u8 0,AV.int IntKind.u8 0,AV.int IntKind.u8 0,AV.int IntKind.u8 0,AV.int IntKind.u8 0,AV.int IntKind.u8 0,AV.int IntKind.u8 0,AV.int IntKind.u8 0,AV.int IntKind.u8 0,AV.int IntKind.u8 0,AV.int IntKind.u8 0,AV.int IntKind.u8 0,AV.int IntKind.u8 0,AV.int IntKind.u8 0,AV.int IntKind.u8 0,AV.int IntKind.u8 0,AV.int IntKind.u8 0,AV.int IntKind.u8 0,AV.int IntKind.u8 0,AV.int IntKind.u8 0,AV.int IntKind.u8 0,AV.int IntKind.u8 0,AV.int IntKind.u8 0,AV.int IntKind.u8 0,AV.int IntKind.u8 0,AV.int IntKind.u8 0,AV.int IntKind.u8 0,AV.int IntKind.u8 0,AV.int IntKind.u8 0,AV.int IntKind.u8 0,AV.int IntKind.u8 0,AV.int IntKind.u8 0]∧true=true)∧True)) ((((I (Int.ofNat n)=I (Int.ofNat n)∧ac (I (Int.ofNat n))=true)∧(I 0=I 0∧true=true)∧True)∧((some 0=some 0∧0=0)∧True)∧([AV.nilsl,AV.nilsl,I (Int.negSucc 0),AV.bool false,I 0]=[AV.nilsl,AV.nilsl,I (Int.negSucc 0),AV.bool false,I 0]∧true=true)∧True)∧Q (AExit.exit 0) (ci n 0).st)):=by kernel_rfl
theorem tX (n i:Nat) (go:Bool) (Q:AExit→St→Prop):bI Tryz.prog opts0 40 aO (cv Tryz.prog 11 6) (ci n (i+1)).st (fR 0 [(0,0),(1,12),(2,9)] (cX n (i+1) 9) [(0,0),(1,1)] (ci n (i+1)) go Q)=
  (dV (aV (Int.ofNat (i+1)) (Int.ofNat n)) (aP (((i+1+1)*32).ble 140737488355328&&true) (aP ((ab (aU (i+1))).beq ((i+1)*2)) (aP go (((I (Int.ofNat n)=I (Int.ofNat n)∧ac (I (Int.ofNat n))=true)∧(I (al IntKind.i64 (Int.ofNat (i+1)+1))=I (Int.ofNat (i+1+1))∧ac (I (Int.ofNat (i+1+1)))=true)∧True)∧((some 0=some 0∧0=0)∧True)∧((true=true∧some 12=some 12∧0=0∧i+1+1=i+1+1∧2=2)∧(AV.nilsl=AV.nilsl∧true=true)∧(I (Int.negSucc 0)=I (Int.negSucc 0)∧true=true)∧(AV.bool false=AV.bool false∧true=true)∧(I 0=I 0∧true=true)∧True)∧((aU (i+1)++[AV.rsl true 2 0 64 1,AV.bool false]=aU (i+1)++[AV.rsl true 2 0 64 1,AV.bool false]∧aU (i+1)++[AV.rsl true 9 0 64 1,AV.bool false]=aU (i+1)++[AV.rsl true 9 0 64 1,AV.bool false])∧ag (aU (i+1))=true∧(true=true∧some 9=some 9∧0=0∧64=64∧1=1)∧(AV.bool false=AV.bool false∧true=true)∧True)∧([AV.int IntKind.u8 0,AV.int IntKind.u8 0,AV.int IntKind.u8 0,AV.int IntKind.u8 0,AV.int IntKind.u8 0,AV.int IntKind.u8 0,AV.int IntKind.u8 0,AV.int IntKind.u8 0,AV.int IntKind.u8 0,AV.int IntKind.u8 0,AV.int IntKind.u8 0,AV.int IntKind.u8 0,AV.int IntKind.u8 0,AV.int IntKind.u8 0,AV.int IntKind.u8 0,AV.int IntKind.u8 0,AV.int IntKind.u8 0,AV.int IntKind.u8 0,AV.int IntKind.u8 0,AV.int IntKind.u8 0,AV.int IntKind.u8 0,AV.int IntKind.u8 0,AV.int IntKind.u8 0,AV.int IntKind.u8 0,AV.int IntKind.u8 0,AV.int IntKind.u8 0,AV.int IntKind.u8 0,AV.int IntKind.u8 0,AV.int IntKind.u8 0,AV.int IntKind.u8 0,AV.int IntKind.u8 0,AV.int IntKind.u8 0,AV.int IntKind.u8 0,AV.int IntKind.u8 0,AV.int IntKind.u8 0,AV.int IntKind.u8 0,AV.int IntKind.u8 0,AV.int IntKind.u8 0,AV.int IntKind.u8 0,AV.int IntKind.u8 0,AV.int IntKind.u8 0,AV.int IntKind.u8 0,AV.int IntKind.u8 0,AV.int IntKind.u8 0,AV.int IntKind.u8 0,AV.int IntKind.u8 0,AV.int IntKind.u8 0,AV.int IntKind.u8 0,AV.int IntKind.u8 0,AV.int IntKind.u8 0,AV.int IntKind.u8 0,AV.int IntKind.u8 0,AV.int IntKind.u8 0,AV.int IntKind.u8 0,AV.int IntKind.u8 0,AV.int IntKind.u8 0,AV.int IntKind.u8 0,AV.int IntKind.u8 0,AV.int IntKind.u8 0,AV.int IntKind.u8 0,AV.int IntKind.u8 0,AV.int IntKind.u8 0,AV.int IntKind.u8 0,AV.int IntKind.u8 0]=[AV.int IntKind.u8 0,AV.int IntKind.u8 0,AV.int IntKind.u8 0,AV.int IntKind.u8 0,AV.int IntKind.u8 0,AV.int IntKind.u8 0,AV.int IntKind.u8 0,AV.int IntKind.u8 0,AV.int IntKind.u8 0,AV.int IntKind.u8 0,AV.int IntKind.u8 0,AV.int IntKind.u8 0,AV.int IntKind.u8 0,AV.int IntKind.u8 0,AV.int IntKind.u8 0,AV.int IntKind.u8 0,AV.int IntKind.u8 0,AV.int IntKind.u8 0,AV.int IntKind.u8 0,AV.int IntKind.u8 0,AV.int IntKind.u8 0,AV.int IntKind.u8 0,AV.int IntKind.u8 0,AV.int IntKind.u8 0,AV.int IntKind.u8 0,AV.int IntKind.u8 0,AV.int IntKind.u8 0,AV.int IntKind.u8 0,AV.int IntKind.u8 0,AV.int IntKind.u8 0,AV.int IntKind.u8 0,AV.int IntKind.u8 0,AV.int IntKind.u8 0,AV.int IntKind.u8 0,AV.int IntKind.u8 0,AV.int IntKind.u8 0,AV.int IntKind.u8 0,AV.int IntKind.u8 0,AV.int IntKind.u8 0,AV.int IntKind.u8 0,AV.int IntKind.u8 0,AV.int IntKind.u8 0,AV.int IntKind.u8 0,AV.int IntKind.u8 0,AV.int IntKind.u8 0,AV.int IntKind.u8 0,AV.int IntKind.u8 0,AV.int IntKind.u8 0,AV.int IntKind.u8 0,AV.int IntKind.u8 0,AV.int IntKind.u8 0,AV.int IntKind.u8 0,AV.int IntKind.u8 0,AV.int IntKind.u8 0,AV.int IntKind.u8 0,AV.int IntKind.u8 0,AV.int IntKind.u8 0,AV.int IntKind.u8 0,AV.int IntKind.u8 0,AV.int IntKind.u8 0,AV.int IntKind.u8 0,AV.int IntKind.u8 0,AV.int IntKind.u8 0,AV.int IntKind.u8 0]∧true=true)∧True)))) ((((I (Int.ofNat n)=I (Int.ofNat n)∧ac (I (Int.ofNat n))=true)∧(I (Int.ofNat (i+1))=I (Int.ofNat (i+1))∧ac (I (Int.ofNat (i+1)))=true)∧True)∧((some 0=some 0∧0=0)∧True)∧((true=true∧some 1=some 1∧0=0∧i+1=i+1∧2=2)∧(AV.nilsl=AV.nilsl∧true=true)∧(I (Int.negSucc 0)=I (Int.negSucc 0)∧true=true)∧(AV.bool false=AV.bool false∧true=true)∧(I 0=I 0∧true=true)∧True)∧(aU (i+1)=aU (i+1)∧ag (aU (i+1))=true)∧True)∧Q (AExit.exit 0) (ci n (i+1)).st)):=by kernel_rfl
theorem tY (n i:Nat):pr 2 (ci n (i+1)) (cX n i 9).st=
  ((Frz 2 (cX n i 9).st.heap (I (Int.ofNat n)) (I (Int.ofNat n))∧Frz 2 (cX n i 9).st.heap (I (Int.ofNat (i+1))) (I (Int.ofNat (i+1)))∧Frz 2 (cX n i 9).st.heap (AV.ptr 0 0) (AV.ptr 0 0)∧True)∧FrzL 2 (cX n i 9).st.heap [AV.rsl true 1 0 (i+1) 2,AV.nilsl,I (Int.negSucc 0),AV.bool false,I 0] [AV.rsl true 1 0 (i+1) 2,AV.nilsl,I (Int.negSucc 0),AV.bool false,I 0]∧FrzL 2 (cX n i 9).st.heap (aU i++[AV.rsl true 2 0 64 1,AV.bool false]) (aU (i+1))∧True):=by kernel_rfl
theorem tZ (n i:Nat):Says2 opts0.glob 0 (cX n i 9).st (ci n (i+1)).st:=by
 refine sR (m:=2) ?_
 rw[tY]
 have hz:Frz 2 (cX n i 9).st.heap (.rsl true 2 0 64 1) jy:=⟨2,by kernel_rfl⟩
 refine ⟨⟨⟨1,rfl⟩,⟨1,rfl⟩,⟨1,rfl⟩,trivial⟩,FrzL.cons ⟨1,rfl⟩ (FrzL.cons ⟨1,rfl⟩ (FrzL.cons ⟨1,rfl⟩ (FrzL.cons ⟨1,rfl⟩ (FrzL.cons ⟨1,rfl⟩ FrzL.nil)))), ?_,trivial⟩
 rw[←pT i]
 exact FrzL.append (FrzL.closed _ (hY i)) (FrzL.cons hz (FrzL.cons ⟨1,rfl⟩ FrzL.nil))
theorem t0 (n:Nat) (hn:n≤4096) {Q:AExit→St→Prop} (hq:Q (.exit 0) (ci n n).st):AWp Tryz.prog opts0.glob 0 (.loop (cv Tryz.prog 11 6)) (ci n 0).st Q:=by
 refine AWp.loopM base0 (fun _=>aO) (ci n) (fun i=>cX n i 9) (ci n) (fun _=>[(0,0),(1,12),(2,9)]) (fun i=>match i with
  |0=>[(0,0)]
  |_+1=>[(0,0),(1,1)]) n 0 (fun _=>b9) (fun _=>LsOk.none) (fun i _ _=>tZ n i) fun i _ hi=> ?_
 cases i with
 | zero=>
  rw[tW]
  refine fM (fun h=> ?_) (fun h=> ?_)
  ·have h:(0:Int)<n:=ltInt_iff.1 h
   exact oblB_iff.2 ⟨blt_iff.2 (by omega),by simp[ac,aU]⟩
  ·have h:(n:Int)≤0:=ltInt_false.1 h
   obtain rfl:n=0:=by omega
   exact ⟨by simp[ac],hq⟩
 | succ i=>
  rw[tX]
  refine fM (fun h=> ?_) (fun h=> ?_)
  ·have h:((i+1:Nat):Int)<n:=ltInt_iff.1 h
   rw[lO (by simp;omega) (by simp;omega)]
   refine oblB_iff.2 ⟨by simp;omega,oblB_iff.2 ⟨by rw[pU];simp,oblB_iff.2 ⟨blt_iff.2 (by omega), ?_⟩⟩⟩
   simp[ac,hY]
  ·have h:(n:Int)≤(i+1:Nat):=ltInt_false.1 h
   obtain rfl:n=i+1:=by omega
   exact ⟨by simp[ac,hY],hq⟩
noncomputable def pV (n:Nat):cf:=fun s Q=>dz 0 [(0,9)] (ci n 0) s∧Q (.exit 0) (ci n n).st
theorem t1:bB (fT Tryz.prog 11) 6=[cv Tryz.prog 11 6]:=by kernel_rfl
theorem t2 (n:Nat) (Q:AV→aa→Nat→Prop):bx Tryz.prog opts0 40 (dA (fun _ _=>none) (fS 6 (pV (n+1)))) 11 [I (.ofNat (n+1))] [] 0 Q=
  (dV (aV (Int.ofNat (n+1)) 8) (Q (AV.tuple [AV.nilp,I 1]) [] 10) (dV (aV 4096 (Int.ofNat (n+1))) (Q (AV.tuple [AV.nilp,I 1]) [] 10) ((((I (Int.ofNat (n+1))=I (Int.ofNat (n+1))∧ac (I (Int.ofNat (n+1)))=true)∧(I 0=I 0∧true=true)∧True)∧((some 9=some 9∧0=0)∧True)∧([AV.nilsl,AV.nilsl,I (Int.negSucc 0),AV.bool false,I 0]=[AV.nilsl,AV.nilsl,I (Int.negSucc 0),AV.bool false,I 0]∧true=true)∧True)∧Q (AV.tuple [AV.ptr 0 0,I 0]) [(0,some (Blk.cells [AV.rsl true 1 0 (n+1) 2,AV.nilsl,I (Int.negSucc 0),AV.bool false,I 0])),(1,some (Blk.cells (aU (n+1))))] 6))):=by kernel_rfl
def t3 (n:Nat):aa:=[(0,some (.cells (hZ (.rsl true 1 0 n 2)))),(1,some (.cells (aU n)))]
theorem t4 (n:Nat) (h1:8≤n+1) (h2:n+1≤4096):bw Tryz.prog opts0.glob 11 [I (.ofNat (n+1))] [] 0 (.tuple [.ptr 0 0,I 0]) (t3 (n+1)) 6:=by
 refine sF (A:=dA (fun _ _=>none) (fS 6 (pV (n+1)))) base0 (jo jv) (cg (LsOk.one t1 fun s Q hs=> .says (b7 base0.glob hs.1) (t0 (n+1) h2 hs.2))) ?_
 rw[t2]
 refine fM (fun h=> ?_) (fun _=>fM (fun h=> ?_) (fun _=>⟨by simp[ac],rfl,rfl,rfl⟩))
 ·have h:((n+1:Nat):Int)<8:=ltInt_iff.1 h
  omega
 ·have h:(4096:Int)<(n+1:Nat):=ltInt_iff.1 h
  omega
def mw (nx n:Nat):aa:=[(nx,some (.cells (hZ (.rsl true (nx+1) 0 n 2)))),(nx+1,some (.cells (aU n)))]
theorem t5 (nx n:Nat) (h1:8≤n) (h2:n≤4096):bw Tryz.prog opts0.glob 11 [I (.ofNat n)] [] nx (.tuple [.ptr nx 0,I 0]) (mw nx n) (nx+6):=by
 obtain ⟨n,rfl⟩:∃k,n=k+1:=⟨n-1,by omega⟩
 refine sW base0.glob rfl (t4 n h1 h2) (RenV.tuple2 (.ptr _ _ _ (by rw[eT,if_pos (by omega)];simp)) (.same _ rfl)) fun i b2 hi=> ?_
 simp only[mw,hget] at hi
 split at hi
 ·rename_i he
  have he:=beq_iff.1 he
  simp only[Option.some.injEq] at hi
  subst he;subst hi
  refine ⟨0,_,by rw[eT,if_pos (by omega)];simp,rfl, ?_⟩
  exact ⟨.rsl _ _ _ _ _ _ (by rw[eT,if_pos (by omega)];simp),.same _ rfl,.same _ rfl,.same _ rfl,.same _ rfl,trivial⟩
 ·split at hi
  ·rename_i he
   have he:=beq_iff.1 he
   simp only[Option.some.injEq] at hi
   subst he;subst hi
   exact ⟨1,_,by rw[eT,if_pos (by omega)];simp,rfl,RenL.same _ (hY _)⟩
  ·cases hi
def my (s:Nat):AV→Option AV
 | .nilsl=>some (.int .u32 (.ofNat (hR s [])))
 | .fsl _ es=>match bO es with
  |some l=>match bi (aw l) es&&Nat.ble (ab l) 9223372036854775807 with
   |true=>some (.int .u32 (.ofNat (hR s l)))
   |false=>none
  |none=>none
 |_=>none
theorem t6 {s:Nat} {a r:AV} (hs:s<2^32) (h:my s a=some r):SC 282 [.int .u32 (.ofNat s),a] r:=by
 unfold my at h
 split at h
 ·simp only[Option.some.injEq] at h;subst h
  exact tV hs
 ·rename_i f es
  split at h
  ·rename_i l hl
   split at h
   ·rename_i hb
    simp only[Option.some.injEq] at h;subst h
    rw[Bool.and_eq_true] at hb
    have e:=bF _ _ hb.1
    rw[←e]
    exact tU hs (by rw[←ak];exact Nat.le_of_ble_eq_true hb.2)
   ·cases h
  ·cases h
 ·cases h
def mz (f:FuncId) (args:List AV):Option AV:=match Nat.beq f 282,args with
 |true,[.int .u32 (.ofNat s),a]=>match Nat.blt s 4294967296 with
  |true=>my s a
  |false=>none
 |_,_=>none
theorem t7:∀f args r,ag args=true→mz f args=some r→SC f args r:=by
 intro f args r hcl h
 clear hcl
 unfold mz at h
 split at h
 ·rename_i s a hf
  split at h
  ·rename_i hb
   rw[beq_iff.1 hf]
   exact t6 (blt_iff.1 hb) h
  ·cases h
 ·cases h
def mA (f:FuncId) (args:List AV) (nx:Nat):Option (AV × aa × Nat):=match Nat.beq f 11,args with
 |true,[.int .i64 (.ofNat n)]=>match Nat.ble 8 n&&Nat.ble n 4096 with
  |true=>some (.tuple [.ptr nx 0,I 0],mw nx n,6)
  |false=>none
 |_,_=>none
theorem t8:∀f args nx v H2 m,mA f args nx=some (v,H2,m)→bw Tryz.prog opts0.glob f args [] nx v H2 (nx+m):=by
 intro f args nx v H2 m h
 unfold mA at h
 split at h
 ·rename_i n hf
  split at h
  ·rename_i hb
   rw[Bool.and_eq_true] at hb
   simp only[Option.some.injEq,Prod.mk.injEq] at h
   obtain ⟨rfl,rfl,rfl⟩:=h
   rw[beq_iff.1 hf]
   exact t5 nx n (Nat.le_of_ble_eq_true hb.1) (Nat.le_of_ble_eq_true hb.2)
  ·cases h
 ·cases h
def fX:af:=b8 (fun f=>Nat.beq f 11) (fU mA) (fV mz)
theorem pW:ax Tryz.prog opts0.glob fX∧ay fX:=lY (sX t8) (s3 base0.glob t7)
end Go.Proofs.YthikljbjnlibiaaGreatDoor
namespace Go.Proofs.YthikljbjnlibiaaGreatDoor
open Go.RowKit
open Go.Proofs.Abs
inductive HT where
 |tip
 |node (k:Nat) (h:gm) (l r:HT)
noncomputable def HT.get (t:HT):Nat→gm:=
 HT.rec (fun _=> .pure) (fun k h _ _ gl gr f=>Bool.rec (Bool.rec (gr f) (gl f) (Nat.blt f k)) h (Nat.beq f k)) t
def hows:HT:=(.node 254 .keep (.node 118 (.look 1) (.node 63 .keep (.node 34 (.each 3) (.node 24 .keep (.node 16 .keep (.node 14 .keep (.node 12 .keep (.node 11 .known .tip .tip) .tip) (.node 15 .keep .tip .tip)) (.node 20 (.look 1) (.node 19 (.each 2) .tip .tip) (.node 21 .keep .tip .tip))) (.node 29 .keep (.node 27 .keep (.node 26 .keep .tip .tip) (.node 28 .keep .tip .tip)) (.node 31 .keep (.node 30 .keep .tip .tip) (.node 32 .keep .tip .tip)))) (.node 52 .keep (.node 46 .keep (.node 38 .keep (.node 36 .keep (.node 35 .keep .tip .tip) .tip) (.node 40 .keep .tip .tip)) (.node 50 .keep (.node 48 (.part 8) .tip .tip) (.node 51 .keep .tip .tip))) (.node 57 .keep (.node 55 .keep (.node 53 .keep .tip .tip) (.node 56 .keep .tip .tip)) (.node 59 .keep (.node 58 .keep .tip .tip) (.node 61 .keep .tip .tip))))) (.node 95 .keep (.node 82 .keep (.node 77 .keep (.node 70 .keep (.node 67 .keep (.node 65 (.look 1) .tip .tip) .tip) (.node 75 .keep .tip .tip)) (.node 79 .keep (.node 78 .keep .tip .tip) (.node 81 .keep .tip .tip))) (.node 89 (.part 2) (.node 84 .keep (.node 83 .keep .tip .tip) (.node 86 (.part 2) .tip .tip)) (.node 92 .keep (.node 91 .keep .tip .tip) (.node 93 (.look 0) .tip .tip)))) (.node 109 .keep (.node 104 .keep (.node 102 .keep (.node 97 .keep .tip .tip) (.node 103 .keep .tip .tip)) (.node 106 .keep (.node 105 .keep .tip .tip) (.node 107 .keep .tip .tip))) (.node 114 .fresh (.node 112 .keep (.node 111 .keep .tip .tip) (.node 113 .keep .tip .tip)) (.node 116 (.look 1) (.node 115 (.look 1) .tip .tip) (.node 117 (.look 1) .tip .tip)))))) (.node 175 .keep (.node 136 (.look 1) (.node 127 (.each 0) (.node 123 .keep (.node 121 .keep (.node 120 .keep (.node 119 .keep .tip .tip) .tip) (.node 122 .keep .tip .tip)) (.node 125 (.look 1) (.node 124 .keep .tip .tip) (.node 126 (.look 1) .tip .tip))) (.node 132 (.look 1) (.node 130 (.look 1) (.node 129 (.look 1) .tip .tip) (.node 131 (.look 1) .tip .tip)) (.node 134 (.look 1) (.node 133 (.look 1) .tip .tip) (.node 135 (.look 1) .tip .tip)))) (.node 145 (.look 0) (.node 141 (.look 1) (.node 139 (.look 1) (.node 137 (.look 1) .tip .tip) (.node 140 (.look 1) .tip .tip)) (.node 143 .keep (.node 142 (.look 1) .tip .tip) (.node 144 (.look 0) .tip .tip))) (.node 162 .keep (.node 147 (.look 0) (.node 146 (.look 0) .tip .tip) (.node 161 .keep .tip .tip)) (.node 168 (.part 2) (.node 165 (.part 2) .tip .tip) (.node 174 .keep .tip .tip))))) (.node 205 .keep (.node 194 (.look 1) (.node 189 .keep (.node 182 .keep (.node 177 .keep (.node 176 .keep .tip .tip) .tip) (.node 186 .keep .tip .tip)) (.node 191 (.look 1) (.node 190 .keep .tip .tip) (.node 193 (.look 0) .tip .tip))) (.node 200 .keep (.node 197 .keep (.node 195 .keep .tip .tip) (.node 198 (.look 1) .tip .tip)) (.node 203 .keep (.node 202 .fresh .tip .tip) (.node 204 .keep .tip .tip)))) (.node 215 .keep (.node 209 .keep (.node 207 .keep (.node 206 .keep .tip .tip) (.node 208 (.look 1) .tip .tip)) (.node 213 (.look 1) (.node 210 (.look 1) .tip .tip) (.node 214 .keep .tip .tip))) (.node 220 .keep (.node 218 (.look 1) (.node 217 .keep .tip .tip) (.node 219 (.look 1) .tip .tip)) (.node 252 .keep (.node 251 .cmp .tip .tip) (.node 253 .keep .tip .tip))))))) (.node 402 (.part 8) (.node 367 (.part 8) (.node 286 (.look 0) (.node 274 (.part 8) (.node 267 .keep (.node 263 .fresh (.node 262 (.look 8) (.node 259 .keep .tip .tip) .tip) (.node 266 .keep .tip .tip)) (.node 270 .keep (.node 268 .keep .tip .tip) (.node 271 .keep .tip .tip))) (.node 281 (.look 0) (.node 279 .keep (.node 278 (.look 0) .tip .tip) (.node 280 .keep .tip .tip)) (.node 284 .keep (.node 282 .known .tip .tip) (.node 285 .clone .tip .tip)))) (.node 330 .keep (.node 318 .keep (.node 313 .keep (.node 288 .keep (.node 287 .keep .tip .tip) .tip) (.node 314 (.look 8) .tip .tip)) (.node 321 .keep (.node 319 (.part 8) .tip .tip) (.node 329 .keep .tip .tip))) (.node 354 (.part 8) (.node 345 .keep (.node 331 .keep .tip .tip) (.node 353 .keep .tip .tip)) (.node 365 (.part 8) (.node 363 .keep .tip .tip) (.node 366 (.part 8) .tip .tip))))) (.node 384 (.part 8) (.node 376 (.part 8) (.node 372 (.part 8) (.node 370 (.part 8) (.node 369 (.part 8) (.node 368 (.part 8) .tip .tip) .tip) (.node 371 (.part 8) .tip .tip)) (.node 374 (.part 8) (.node 373 (.part 8) .tip .tip) (.node 375 (.part 8) .tip .tip))) (.node 380 (.part 8) (.node 378 (.part 8) (.node 377 (.part 8) .tip .tip) (.node 379 (.part 8) .tip .tip)) (.node 382 (.part 8) (.node 381 (.part 8) .tip .tip) (.node 383 (.part 8) .tip .tip)))) (.node 394 .keep (.node 388 (.part 8) (.node 386 (.part 8) (.node 385 (.part 8) .tip .tip) (.node 387 (.part 8) .tip .tip)) (.node 392 .keep (.node 391 .keep .tip .tip) (.node 393 .keep .tip .tip))) (.node 398 (.part 8) (.node 396 (.part 8) (.node 395 (.part 8) .tip .tip) (.node 397 (.part 8) .tip .tip)) (.node 400 (.part 8) (.node 399 (.part 8) .tip .tip) (.node 401 (.part 8) .tip .tip)))))) (.node 453 (.part 8) (.node 425 (.part 8) (.node 412 (.part 8) (.node 407 (.part 8) (.node 405 (.part 8) (.node 404 (.part 8) (.node 403 (.part 8) .tip .tip) .tip) (.node 406 (.part 8) .tip .tip)) (.node 410 (.part 8) (.node 409 (.part 8) .tip .tip) (.node 411 (.part 8) .tip .tip))) (.node 419 (.part 8) (.node 417 (.part 8) (.node 416 (.part 8) .tip .tip) (.node 418 (.part 8) .tip .tip)) (.node 421 (.part 8) (.node 420 (.part 8) .tip .tip) (.node 424 (.part 8) .tip .tip)))) (.node 443 (.part 8) (.node 434 (.part 8) (.node 431 (.part 8) (.node 429 (.part 8) .tip .tip) (.node 433 (.part 8) .tip .tip)) (.node 441 (.part 8) (.node 440 (.part 8) .tip .tip) (.node 442 (.part 8) .tip .tip))) (.node 449 (.part 8) (.node 445 (.part 8) (.node 444 (.part 8) .tip .tip) (.node 446 (.part 8) .tip .tip)) (.node 451 (.part 8) (.node 450 (.part 8) .tip .tip) (.node 452 (.part 8) .tip .tip))))) (.node 530 (.look 0) (.node 486 (.part 8) (.node 461 (.part 8) (.node 458 (.part 8) (.node 457 (.part 8) (.node 456 (.part 8) .tip .tip) .tip) (.node 459 (.part 8) .tip .tip)) (.node 474 (.part 8) (.node 463 (.part 8) .tip .tip) (.node 477 (.part 8) .tip .tip))) (.node 499 (.part 8) (.node 492 (.part 8) (.node 487 (.part 8) .tip .tip) (.node 493 (.part 8) .tip .tip)) (.node 501 (.look 2) (.node 500 (.part 8) .tip .tip) (.node 527 (.look 0) .tip .tip)))) (.node 604 .fresh (.node 537 (.look 0) (.node 535 (.look 0) (.node 533 (.look 0) .tip .tip) (.node 536 (.look 0) .tip .tip)) (.node 596 .fresh (.node 546 .fresh .tip .tip) (.node 603 .fresh .tip .tip))) (.node 631 .keep (.node 627 .keep (.node 624 .keep .tip .tip) (.node 628 .keep .tip .tip)) (.node 638 .keep (.node 632 .keep .tip .tip) (.node 639 .keep .tip .tip))))))))
noncomputable def optsH:ar:={how:=hows.get,summ:=fun _ _=>none,glob:=gl,lf:=100000,cx:=fX}
end Go.Proofs.YthikljbjnlibiaaGreatDoor
namespace Go.Proofs.YthikljbjnlibiaaGreatDoor
open Go Go.RowKit
open Go.Proofs.Abs
abbrev jz:Nat:=1099511627776
theorem t9 (Q:AV→aa→Nat→Prop):bx Tryz.prog opts0 40 aO 144 [.nilsl] [] 0 Q=
  (Q AV.nilsl [] 4):=by kernel_rfl
theorem ua (Q:AV→aa→Nat→Prop):bx Tryz.prog opts0 40 aO 144 [.nesl] [] 0 Q=
  (Q (AV.fsl true []) [] 7):=by kernel_rfl
theorem ub (a:AV) (es:List AV) (Q:AV→aa→Nat→Prop):bx Tryz.prog opts0 40 aO 144 [.fsl false (a::es)] [] 0 Q=
  (aP (bf 1 (a::es)&&(((0+ab (a::es))*1).ble 140737488355328&&true)) (Q (AV.rsl true 5 0 (0+ab (a::es)) 1) [(5,some (Blk.cells (flat (a::es))))] 7)):=by kernel_rfl
theorem uc {l:List AV} (hl:∀e∈l,eS 1 e) (hc:ag l=true) (hn:l.length≤jz):SC 144 [.fsl false l] (.fsl false l):=by
 cases l with
 |nil=>
  refine SemCall.empty (cG (A:=aO) (r:= .nilsl) b9 (cg (LsOk.no rfl)) rfl ?_ .nil) (cG (A:=aO) (r:= .fsl true []) b9 (cg (LsOk.no rfl)) rfl ?_ .full)
  ·rw[t9];exact dZ rfl
  ·rw[ua];exact dZ rfl
 | cons a es=>
  have hcl:ag [.fsl false (a::es)]=true:=by rw[ag,ac,hc];rfl
  refine cG (A:=aO) (r:= .fsl false (a::es)) b9 (cg (LsOk.no rfl)) hcl ?_ (.refl _)
  rw[ub]
  have h1:bf 1 (a::es)=true:=allSize_iff.2 fun e he=>(hl e he).1
  refine oblB_iff.2 ⟨?_, ?_⟩
  ·have hn:es.length+1≤1099511627776:=hn
   simp only[Bool.and_eq_true,Nat.ble_eq,ak] at h1⊢
   first|exact ⟨h1,by omega⟩|exact ⟨h1,by simp only[List.length_cons];omega⟩|(simp_all;omega)
  ·exact ju (Frz.row rfl rfl rfl (by first|rfl|simp[ak]) hl hc) hc
theorem ud (Q:AV→aa→Nat→Prop):bx Tryz.prog opts0 40 aO 145 [.nilsl] [] 0 Q=
  (Q AV.nilsl [] 4):=by kernel_rfl
theorem ue (Q:AV→aa→Nat→Prop):bx Tryz.prog opts0 40 aO 145 [.nesl] [] 0 Q=
  (Q (AV.fsl true []) [] 7):=by kernel_rfl
theorem uf (a:AV) (es:List AV) (Q:AV→aa→Nat→Prop):bx Tryz.prog opts0 40 aO 145 [.fsl false (a::es)] [] 0 Q=
  (aP (bf 1 (a::es)&&(((0+ab (a::es))*16).ble 140737488355328&&true)) (Q (AV.rsl true 5 0 (0+ab (a::es)) 1) [(5,some (Blk.cells (flat (a::es))))] 7)):=by kernel_rfl
theorem ug {l:List AV} (hl:∀e∈l,eS 1 e) (hc:ag l=true) (hn:l.length≤jz):SC 145 [.fsl false l] (.fsl false l):=by
 cases l with
 |nil=>
  refine SemCall.empty (cG (A:=aO) (r:= .nilsl) b9 (cg (LsOk.no rfl)) rfl ?_ .nil) (cG (A:=aO) (r:= .fsl true []) b9 (cg (LsOk.no rfl)) rfl ?_ .full)
  ·rw[ud];exact dZ rfl
  ·rw[ue];exact dZ rfl
 | cons a es=>
  have hcl:ag [.fsl false (a::es)]=true:=by rw[ag,ac,hc];rfl
  refine cG (A:=aO) (r:= .fsl false (a::es)) b9 (cg (LsOk.no rfl)) hcl ?_ (.refl _)
  rw[uf]
  have h1:bf 1 (a::es)=true:=allSize_iff.2 fun e he=>(hl e he).1
  refine oblB_iff.2 ⟨?_, ?_⟩
  ·have hn:es.length+1≤1099511627776:=hn
   simp only[Bool.and_eq_true,Nat.ble_eq,ak] at h1⊢
   first|exact ⟨h1,by omega⟩|exact ⟨h1,by simp only[List.length_cons];omega⟩|(simp_all;omega)
  ·exact ju (Frz.row rfl rfl rfl (by first|rfl|simp[ak]) hl hc) hc
theorem uh (Q:AV→aa→Nat→Prop):bx Tryz.prog opts0 40 aO 146 [.nilsl] [] 0 Q=
  (Q AV.nilsl [] 4):=by kernel_rfl
theorem ui (Q:AV→aa→Nat→Prop):bx Tryz.prog opts0 40 aO 146 [.nesl] [] 0 Q=
  (Q (AV.fsl true []) [] 7):=by kernel_rfl
theorem uj (a:AV) (es:List AV) (Q:AV→aa→Nat→Prop):bx Tryz.prog opts0 40 aO 146 [.fsl false (a::es)] [] 0 Q=
  (aP (bf 2 (a::es)&&(((0+ab (a::es))*24).ble 140737488355328&&true)) (Q (AV.rsl true 5 0 (0+ab (a::es)) 2) [(5,some (Blk.cells (flat (a::es))))] 7)):=by kernel_rfl
theorem uk {l:List AV} (hl:∀e∈l,eS 2 e) (hc:ag l=true) (hn:l.length≤jz):SC 146 [.fsl false l] (.fsl false l):=by
 cases l with
 |nil=>
  refine SemCall.empty (cG (A:=aO) (r:= .nilsl) b9 (cg (LsOk.no rfl)) rfl ?_ .nil) (cG (A:=aO) (r:= .fsl true []) b9 (cg (LsOk.no rfl)) rfl ?_ .full)
  ·rw[uh];exact dZ rfl
  ·rw[ui];exact dZ rfl
 | cons a es=>
  have hcl:ag [.fsl false (a::es)]=true:=by rw[ag,ac,hc];rfl
  refine cG (A:=aO) (r:= .fsl false (a::es)) b9 (cg (LsOk.no rfl)) hcl ?_ (.refl _)
  rw[uj]
  have h1:bf 2 (a::es)=true:=allSize_iff.2 fun e he=>(hl e he).1
  refine oblB_iff.2 ⟨?_, ?_⟩
  ·have hn:es.length+1≤1099511627776:=hn
   simp only[Bool.and_eq_true,Nat.ble_eq,ak] at h1⊢
   first|exact ⟨h1,by omega⟩|exact ⟨h1,by simp only[List.length_cons];omega⟩|(simp_all;omega)
  ·exact ju (Frz.row rfl rfl rfl (by first|rfl|simp[ak]) hl hc) hc
theorem ul (Q:AV→aa→Nat→Prop):bx Tryz.prog opts0 40 aO 147 [.nilsl] [] 0 Q=
  (Q AV.nilsl [] 4):=by kernel_rfl
theorem um (Q:AV→aa→Nat→Prop):bx Tryz.prog opts0 40 aO 147 [.nesl] [] 0 Q=
  (Q (AV.fsl true []) [] 7):=by kernel_rfl
theorem un (a:AV) (es:List AV) (Q:AV→aa→Nat→Prop):bx Tryz.prog opts0 40 aO 147 [.fsl false (a::es)] [] 0 Q=
  (aP (bf 2 (a::es)&&(((0+ab (a::es))*32).ble 140737488355328&&true)) (Q (AV.rsl true 5 0 (0+ab (a::es)) 2) [(5,some (Blk.cells (flat (a::es))))] 7)):=by kernel_rfl
theorem uo {l:List AV} (hl:∀e∈l,eS 2 e) (hc:ag l=true) (hn:l.length≤jz):SC 147 [.fsl false l] (.fsl false l):=by
 cases l with
 |nil=>
  refine SemCall.empty (cG (A:=aO) (r:= .nilsl) b9 (cg (LsOk.no rfl)) rfl ?_ .nil) (cG (A:=aO) (r:= .fsl true []) b9 (cg (LsOk.no rfl)) rfl ?_ .full)
  ·rw[ul];exact dZ rfl
  ·rw[um];exact dZ rfl
 | cons a es=>
  have hcl:ag [.fsl false (a::es)]=true:=by rw[ag,ac,hc];rfl
  refine cG (A:=aO) (r:= .fsl false (a::es)) b9 (cg (LsOk.no rfl)) hcl ?_ (.refl _)
  rw[un]
  have h1:bf 2 (a::es)=true:=allSize_iff.2 fun e he=>(hl e he).1
  refine oblB_iff.2 ⟨?_, ?_⟩
  ·have hn:es.length+1≤1099511627776:=hn
   simp only[Bool.and_eq_true,Nat.ble_eq,ak] at h1⊢
   first|exact ⟨h1,by omega⟩|exact ⟨h1,by simp only[List.length_cons];omega⟩|(simp_all;omega)
  ·exact ju (Frz.row rfl rfl rfl (by first|rfl|simp[ak]) hl hc) hc
end Go.Proofs.YthikljbjnlibiaaGreatDoor
namespace Go.Proofs.YthikljbjnlibiaaGreatDoor
open Go.RowKit
open Go.Proofs.Abs
def eX:List Nat:=[144,145,146,147]
noncomputable def ia (f:FuncId) (args:List AV):Option AV:=match bu eX f with
 |true=>match args with
  |[.fsl _ []]=>some (.fsl false [])
  |_=>none
 |false=>none
theorem uq:∀f,bu eX f=true→SemCall Tryz.prog optsH.glob f [.fsl false []] (.fsl false []):=by
 intro f h
 have hm:f=144∨f=145∨f=146∨f=147:=by
  have:=memN_iff.1 h
  simpa [eX] using this
 rcases hm with rfl|rfl|rfl|rfl
 ·exact uc (l:=[]) (fun _ h=>by cases h) rfl (Nat.zero_le _)
 ·exact ug (l:=[]) (fun _ h=>by cases h) rfl (Nat.zero_le _)
 ·exact uk (l:=[]) (fun _ h=>by cases h) rfl (Nat.zero_le _)
 ·exact uo (l:=[]) (fun _ h=>by cases h) rfl (Nat.zero_le _)
theorem ur:∀f args v,ia f args=some v→SemCall Tryz.prog optsH.glob f args v:=by
 intro f args v h
 unfold ia at h
 split at h
 ·rename_i hf
  split at h
  ·rename_i b
   simp only[Option.some.injEq] at h
   subst h
   exact (uq f hf).wkA (.cons .row .nil)
  ·cases h
 ·cases h
end Go.Proofs.YthikljbjnlibiaaGreatDoor
