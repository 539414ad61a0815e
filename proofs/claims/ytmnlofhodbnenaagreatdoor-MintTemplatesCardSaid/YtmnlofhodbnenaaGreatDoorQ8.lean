import Derived.Test.YtmnlofhodbnenaaGreatDoorG5
import Derived.Test.YtmnlofhodbnenaaGreatDoorQ2
import Derived.KernelRfl
namespace Go.Proofs.Abs
open Go
def nH (s:Nat):Nat:=(s/2)^^^((s%2)*3988292384)
def kD:Nat→Nat→Nat
 |0,s=>s
 |j+1,s=>nH (kD j s)
def nJ (s c:Nat):Nat:=kD 8 (s^^^c)
def iZ:Nat→List UInt8→Nat
 |s,[]=>s
 |s,c::t=>iZ (nJ s c.toNat) t
def sI (s:Nat) (l:List UInt8):Nat:=iZ (s^^^4294967295) l^^^4294967295
theorem Iz {s:Nat} (h:s<2^32):nH s<2^32:=by
 unfold nH
 refine Nat.xor_lt_two_pow (by omega) ?_
 have:s%2<2:=Nat.mod_lt _ (by decide)
 omega
theorem Bf:∀ {j s:Nat},s<2^32→kD j s<2^32
 |0,_,h=>h
 |_j+1,_,h=>Iz (Bf h)
theorem IA {s c:Nat} (h:s<2^32) (hc:c<256):nJ s c<2^32:=Bf (Nat.xor_lt_two_pow h (by omega))
theorem IB:∀ (l:List UInt8) (s:Nat),s<2^32→iZ s l<2^32
 |[],_,h=>h
 |c::t,_s,h=>IB t _ (IA h (UInt8.toNat_lt c))
theorem IC:∀ (l m:List UInt8) (s:Nat),iZ s (l++m)=iZ (iZ s l) m
 |[],_,_=>rfl
 |_c::t,m,_s=>IC t m _
theorem u32_in {n:Nat} (h:n<2^32):ar .u32 (Int.ofNat n)=Int.ofNat n:=by
 rw[jI,IntKind.wrap_u32]
 show ((n:Int)%4294967296)=n
 omega
theorem wq {n:Nat} (h:n<2^32):(BitVec.ofInt 32 (Int.ofNat n)).toNat=n:=by
 simp only[BitVec.toNat_ofInt]
 show ((n:Int)%((2^32:Nat):Int)).toNat=n
 omega
theorem Bg {a b:Nat} (ha:a<2^32) (hb:b<2^32):(BitVec.ofInt 32 (Int.ofNat a)^^^BitVec.ofInt 32 (Int.ofNat b)).toNat=a^^^b:=by
 rw[BitVec.toNat_xor,wq ha,wq hb]
theorem ID {a b:Nat} (ha:a<2^32) (hb:b<2^32):(BitVec.ofInt 32 (Int.ofNat a)&&&BitVec.ofInt 32 (Int.ofNat b)).toNat=a&&&b:=by
 rw[BitVec.toNat_and,wq ha,wq hb]
theorem Vy {b:Nat} (hb:b<2):ar .u32 (0-Int.ofNat b)=Int.ofNat (b*4294967295):=by
 rw[jI,IntKind.wrap_u32]
 have:b=0∨b=1:=by omega
 rcases this with rfl|rfl<;>rfl
theorem Vz {s:Nat} (h:s<2^32):ar .u32 ((BitVec.ofInt 32 ((Int.ofNat s).fdiv 2)^^^BitVec.ofInt 32 (ar .u32 ((BitVec.ofInt 32 3988292384&&&BitVec.ofInt 32 (ar .u32 (0-ar .u32 ((BitVec.ofInt 32 (Int.ofNat s)&&&BitVec.ofInt 32 1).toNat:Int)))).toNat:Int))).toNat:Int)=Int.ofNat (nH s):=by
 have h1:(BitVec.ofInt 32 (Int.ofNat s)&&&BitVec.ofInt 32 1).toNat=s%2:=by
  rw[show (1:Int)=Int.ofNat 1 from rfl,ID h (by decide)]
  exact Nat.and_one_is_mod s
 have hm:s%2<2:=Nat.mod_lt _ (by decide)
 have h5:(Int.ofNat s).fdiv 2=Int.ofNat (s/2):=by
  show (s:Int).fdiv 2=_
  rw[Int.fdiv_eq_ediv_of_nonneg _ (by decide)];rfl
 rw[h1,h5]
 have h6:ar .u32 ((s%2:Nat):Int)=Int.ofNat (s%2):=u32_in (by omega)
 rw[h6,Vy hm]
 have h2:(BitVec.ofInt 32 3988292384&&&BitVec.ofInt 32 (Int.ofNat (s%2*4294967295))).toNat=s%2*3988292384:=by
  rw[show (3988292384:Int)=Int.ofNat 3988292384 from rfl,ID (by decide) (by omega)]
  rcases (by omega:s%2=0∨s%2=1) with e|e<;>rw[e]<;>rfl
 have h3:s%2*3988292384<2^32:=by omega
 have h7:ar .u32 ((s%2*3988292384:Nat):Int)=Int.ofNat (s%2*3988292384):=u32_in h3
 rw[h2,h7,Bg (by omega) h3]
 exact u32_in (Iz h)
theorem VA {s:Nat} {c:UInt8} (h:s<2^32):ar .u32 ((BitVec.ofInt 32 (Int.ofNat s)^^^BitVec.ofInt 32 (ar .u32 (Int.ofNat c.toNat))).toNat:Int)=Int.ofNat (s^^^c.toNat):=by
 have hc:=UInt8.toNat_lt c
 have hc':c.toNat<2^32:=by omega
 rw[u32_in hc',Bg h hc']
 exact u32_in (Nat.xor_lt_two_pow h hc')
theorem wr {s:Nat} (h:s<2^32):ar .u32 ((BitVec.ofInt 32 4294967295^^^BitVec.ofInt 32 (Int.ofNat s)).toNat:Int)=Int.ofNat (s^^^4294967295):=by
 rw[show (4294967295:Int)=Int.ofNat 4294967295 from rfl,Bg (by decide) h,Nat.xor_comm]
 exact u32_in (Nat.xor_lt_two_pow h (by decide))
end Go.Proofs.Abs
namespace Go.Proofs.YtmnlofhodbnenaaGreatDoor
open Go Go.RowKit
open Go.Proofs.Abs
noncomputable section
def sJ (a:AV) (n i x j:Nat):View:=⟨[(0,.int .u32 (.ofNat x)),(9,a),(10,I (.ofNat n)),(11,I (.ofNat i)),(19,I (.ofNat j))],[],[],0,32⟩
def f5 (a:AV) (n i x:Nat):View:=⟨[(0,.int .u32 (.ofNat x)),(9,a),(10,I (.ofNat n)),(11,I (.ofNat i))],[],[],0,32⟩
def Bh:bq:=fun s Q=>match s.slots.get 0,s.slots.get 9,s.slots.get 10,s.slots.get 11 with
 |some (.int .u32 x),some a,some (.int .i64 (.ofNat n)),some (.int .i64 (.ofNat i))=>
  au (gG x&&(Nat.blt x.toNat 4294967296&&ah a)) (ck 0 [] (sJ a n i x.toNat 0) s∧Q (.exit 2) (f5 a n i (kD 8 x.toNat)).st)
 |_,_,_,_=>False
def Bi (v:AV):aX:=jR (Lh 4 0 (.el v)) (cd 8 Bh)
@[simp] abbrev sK (n:Nat):=(I (Int.ofNat n)=I (Int.ofNat n)∧ah (I (Int.ofNat n))=true)
@[simp] abbrev ws (i:Nat):=(I (Int.ofNat i)=I (Int.ofNat i)∧ah (I (Int.ofNat i))=true)
@[simp] abbrev IE (x:Nat):=(AV.int IntKind.u32 (Int.ofNat x)=AV.int IntKind.u32 (Int.ofNat x)∧ah (AV.int IntKind.u32 (Int.ofNat x))=true)
theorem VB (x:Nat) (a:AV) (n i j:Nat) (go:Bool) (Q:AExit→St→Prop):aI Tryz.prog opts0 40 bm (aD Tryz.prog 287 8) (sJ a n i x j).st (oH 0 [] (sJ a n i (nH x) (j+1)) [] (f5 a n i x) go Q)=
  (ab (aq (Int.ofNat j) 8) (au go (((AV.int IntKind.u32 (ar IntKind.u32 ↑(BitVec.ofInt 32 ((Int.ofNat x).fdiv 2)^^^BitVec.ofInt 32 (ar IntKind.u32 ↑(BitVec.ofInt 32 3988292384&&&BitVec.ofInt 32 (ar IntKind.u32 (0-ar IntKind.u32 ↑(BitVec.ofInt 32 (Int.ofNat x)&&&BitVec.ofInt 32 1).toNat))).toNat)).toNat)=AV.int IntKind.u32 (Int.ofNat (nH x))∧ah (AV.int IntKind.u32 (Int.ofNat (nH x)))=true)∧(a=a∧ah a=true)∧(sK n)∧(ws i)∧(I (ar IntKind.i64 (Int.ofNat j+1))=I (Int.ofNat (j+1))∧ah (I (Int.ofNat (j+1)))=true)∧True)∧True∧True)) ((((IE x)∧(a=a∧ah a=true)∧(sK n)∧(ws i)∧True)∧True∧True)∧Q (AExit.exit 2) (f5 a n i x).st)):=by kernel_rfl
theorem VC {a:AV} {n i x:Nat} {Q:AExit→St→Prop} (ha:ah a=true) (hx:x<2^32) (hq:Q (.exit 2) (f5 a n i (kD 8 x)).st):AWp Tryz.prog opts0.glob 0 (.loop (aD Tryz.prog 287 8)) (sJ a n i x 0).st Q:=by
 refine AWp.loopV base0 (fun _=>bm) (fun j=>sJ a n i (kD j x) j) (fun j=>f5 a n i (kD j x)) (fun _=>[]) (fun _=>[]) 8 0 (fun _=>cD) (fun _ r L h=>by cases h) fun j _ hj=> ?_
 rw[kD,VB,Vz (Bf hx)]
 refine aj (fun h=> ?_) (fun h=> ?_)
 ·have h:(j:Int)<8:=ltInt_iff.1 h
  rw[eQ (by simp;omega) (by simp;omega)]
  refine oblB_iff.2 ⟨blt_iff.2 (by omega), ?_⟩
  simp[ah,ha]
 ·have h:(8:Int)≤j:=ltInt_false.1 h
  obtain rfl:j=8:=by omega
  refine ⟨by simp[ah,ha],hq⟩
theorem VD:bu (cy Tryz.prog 287) 4=[aD Tryz.prog 287 4]:=by kernel_rfl
theorem VE:bu (aD Tryz.prog 287 4) 8=[aD Tryz.prog 287 8]:=by kernel_rfl
@[simp] abbrev Bj (es:List AV) (f:Bool):=(AV.fsl f es=AV.fsl f es∧ah (AV.fsl f es)=true)
theorem VF (x:Nat) (b:UInt8) (f:Bool) (es:List AV) (n i:Nat) (go:Bool) (Q:AExit→St→Prop):aI Tryz.prog opts0 40 (Bi (.int .u8 (.ofNat b.toNat))) (aD Tryz.prog 287 4) (f5 (.fsl f es) n i x).st (oH 0 [] (f5 (.fsl f es) n (i+1) (nJ x b.toNat)) [] (f5 (.fsl f es) n i x) go Q)=
  (ab (aq (Int.ofNat i) (Int.ofNat n)) (cC es (Int.ofNat i).toNat=some (AV.int IntKind.u8 (Int.ofNat b.toNat))∧au (gG (ar IntKind.u32 ↑(BitVec.ofInt 32 (Int.ofNat x)^^^BitVec.ofInt 32 (ar IntKind.u32 (Int.ofNat b.toNat))).toNat)&&((ar IntKind.u32 ↑(BitVec.ofInt 32 (Int.ofNat x)^^^BitVec.ofInt 32 (ar IntKind.u32 (Int.ofNat b.toNat))).toNat).toNat.blt 4294967296&&ah (AV.fsl f es))) ((((AV.int IntKind.u32 (ar IntKind.u32 ↑(BitVec.ofInt 32 (Int.ofNat x)^^^BitVec.ofInt 32 (ar IntKind.u32 (Int.ofNat b.toNat))).toNat)=AV.int IntKind.u32 (Int.ofNat (ar IntKind.u32 ↑(BitVec.ofInt 32 (Int.ofNat x)^^^BitVec.ofInt 32 (ar IntKind.u32 (Int.ofNat b.toNat))).toNat).toNat)∧ah (AV.int IntKind.u32 (Int.ofNat (ar IntKind.u32 ↑(BitVec.ofInt 32 (Int.ofNat x)^^^BitVec.ofInt 32 (ar IntKind.u32 (Int.ofNat b.toNat))).toNat).toNat))=true)∧(Bj es f)∧(sK n)∧(ws i)∧(I 0=I 0∧true=true)∧True)∧True∧True)∧au go (((AV.int IntKind.u32 (Int.ofNat (kD 8 (ar IntKind.u32 ↑(BitVec.ofInt 32 (Int.ofNat x)^^^BitVec.ofInt 32 (ar IntKind.u32 (Int.ofNat b.toNat))).toNat).toNat))=AV.int IntKind.u32 (Int.ofNat (nJ x b.toNat))∧ah (AV.int IntKind.u32 (Int.ofNat (nJ x b.toNat)))=true)∧(Bj es f)∧(sK n)∧(I (ar IntKind.i64 (Int.ofNat i+1))=I (Int.ofNat (i+1))∧ah (I (Int.ofNat (i+1)))=true)∧True)∧True∧True))) ((((IE x)∧(Bj es f)∧(sK n)∧(ws i)∧True)∧True∧True)∧Q (AExit.exit 0) (f5 (AV.fsl f es) n i x).st)):=by kernel_rfl
theorem VG {s:St} {Q:AExit→St→Prop} (h:Bh s Q):AWp Tryz.prog opts0.glob 0 (.loop (aD Tryz.prog 287 8)) s Q:=by
 unfold Bh at h
 split at h
 ·obtain ⟨hb,hs,hq⟩:=oblB_iff.1 h
  simp only[Bool.and_eq_true] at hb
  exact .says (fM base0.glob hs) (VC hb.2.2 (blt_iff.1 hb.2.1) hq)
 ·exact h.elim
theorem VH (v:AV):LsOk Tryz.prog opts0.glob 0 (Bi v) (aD Tryz.prog 287 4):=LsOk.one VE fun _ _ h=>VG h
def kE (x:Nat) (l:List UInt8):Nat→Nat
 |0=>x
 |i+1=>nJ (kE x l i) (iH l i).toNat
theorem IF (x:Nat) (l:List UInt8):∀i,i≤l.length→kE x l i=iZ x (l.take i)
 |0,_=>rfl
 | i+1,h=>by
  have e:l.take (i+1)=l.take i++[iH l i]:=by
   rw[List.take_add_one]
   simp[iH,show i<l.length by omega]
  rw[e,IC,kE,IF x l i (by omega)]
  rfl
theorem Bk {x:Nat} (l:List UInt8) (hx:x<2^32):∀i,kE x l i<2^32
 |0=>hx
 |i+1=>IA (Bk l hx i) (UInt8.toNat_lt _)
theorem VI {f:Bool} {l:List UInt8} {x:Nat} {Q:AExit→St→Prop} (hx:x<2^32) (hl:l.length≤9223372036854775807) (hq:Q (.exit 0) (f5 (.fsl f (ai l)) l.length l.length (iZ x l)).st):
  AWp Tryz.prog opts0.glob 0 (.loop (aD Tryz.prog 287 4)) (f5 (.fsl f (ai l)) l.length 0 x).st Q:=by
 refine AWp.loopV base0 (fun i=>Bi (.int .u8 (.ofNat (iH l i).toNat))) (fun i=>f5 (.fsl f (ai l)) l.length i (kE x l i)) (fun i=>f5 (.fsl f (ai l)) l.length i (kE x l i)) (fun _=>[]) (fun _=>[]) l.length 0 (fun _=>tZ gh) (fun _=>VH _) fun i _ hi=> ?_
 rw[kE,VF,VA (Bk l hx i)]
 refine aj (fun h=> ?_) (fun h=> ?_)
 ·have h:(i:Int)<l.length:=ltInt_iff.1 h
  have hi:i<l.length:=by omega
  rw[eQ (by simp;omega) (by simp;omega)]
  have hlt:kE x l i^^^(iH l i).toNat<2^32:=Nat.xor_lt_two_pow (Bk l hx i) (by have:=UInt8.toNat_lt (iH l i);omega)
  refine ⟨?_, ?_⟩
  ·show cC (ai l) i=_
   rw[Lb]
   simp[iH,hi]
  ·refine oblB_iff.2 ⟨?_, ?_⟩
   ·show (true&&(Nat.blt (kE x l i^^^(iH l i).toNat) 4294967296&&ah (.fsl f (ai l))))=true
    simp only[Bool.true_and,Bool.and_eq_true]
    exact ⟨blt_iff.2 hlt,by simp[ah]⟩
   ·refine ⟨by simp[ah],oblB_iff.2 ⟨blt_iff.2 (by omega), ?_⟩⟩
    simp[ah,nJ]
 ·have h:(l.length:Int)≤i:=ltInt_false.1 h
  obtain rfl:i=l.length:=by omega
  refine ⟨by simp[ah], ?_⟩
  rw[IF x l _ (Nat.le_refl _),List.take_length]
  exact hq
def IG (f:Bool) (l:List UInt8):bq:=fun s Q=>match s.slots.get 0 with
 |some (.int .u32 x)=>au (gG x&&Nat.blt x.toNat 4294967296) (ck 0 [] (f5 (.fsl f (ai l)) l.length 0 x.toNat) s∧Q (.exit 0) (f5 (.fsl f (ai l)) l.length l.length (iZ x.toNat l)).st)
 |_=>False
def IH (f:Bool) (l:List UInt8):aX:=jR (fun _ _=>none) (cd 4 (IG f l))
theorem VJ (x:Nat) (f:Bool) (l:List UInt8) (Q:AV→af→Nat→Prop):ax Tryz.prog opts0 40 (IH f l) 287 [.int .u32 (.ofNat x),.fsl f (ai l)] [] 0 Q=
  (au (gG (ar IntKind.u32 ↑(BitVec.ofInt 32 4294967295^^^BitVec.ofInt 32 (Int.ofNat x)).toNat)&&(ar IntKind.u32 ↑(BitVec.ofInt 32 4294967295^^^BitVec.ofInt 32 (Int.ofNat x)).toNat).toNat.blt 4294967296) ((((AV.int IntKind.u32 (ar IntKind.u32 ↑(BitVec.ofInt 32 4294967295^^^BitVec.ofInt 32 (Int.ofNat x)).toNat)=AV.int IntKind.u32 (Int.ofNat (ar IntKind.u32 ↑(BitVec.ofInt 32 4294967295^^^BitVec.ofInt 32 (Int.ofNat x)).toNat).toNat)∧ah (AV.int IntKind.u32 (Int.ofNat (ar IntKind.u32 ↑(BitVec.ofInt 32 4294967295^^^BitVec.ofInt 32 (Int.ofNat x)).toNat).toNat))=true)∧(AV.fsl f (ai l)=AV.fsl f (ai l)∧ah (AV.fsl f (ai l))=true)∧(I (Int.ofNat (aa (ai l)))=I (Int.ofNat l.length)∧ah (I (Int.ofNat l.length))=true)∧(I 0=I 0∧true=true)∧True)∧True∧True)∧Q (AV.int IntKind.u32 (ar IntKind.u32 ↑(BitVec.ofInt 32 4294967295^^^BitVec.ofInt 32 (Int.ofNat (iZ (ar IntKind.u32 ↑(BitVec.ofInt 32 4294967295^^^BitVec.ofInt 32 (Int.ofNat x)).toNat).toNat l))).toNat)) [] 3)):=by kernel_rfl
theorem VK (x:Nat) (Q:AV→af→Nat→Prop):ax Tryz.prog opts0 40 bm 287 [.int .u32 (.ofNat x),.nilsl] [] 0 Q=
  (Q (AV.int IntKind.u32 (ar IntKind.u32 ↑(BitVec.ofInt 32 4294967295^^^BitVec.ofInt 32 (ar IntKind.u32 ↑(BitVec.ofInt 32 4294967295^^^BitVec.ofInt 32 (Int.ofNat x)).toNat)).toNat)) [] 11):=by kernel_rfl
theorem VL {x:Nat} {f:Bool} {l:List UInt8} (hx:x<2^32) (hl:l.length≤9223372036854775807):SC 287 [.int .u32 (.ofNat x),.fsl f (ai l)] (.int .u32 (.ofNat (sI x l))):=by
 refine ji (A:=IH f l) base0 (tZ gh) (aw (LsOk.one VD fun s Q hs=> ?_)) (by simp[ah,ac]) ?_
 ·unfold IG at hs
  split at hs
  ·obtain ⟨hb,hs,hq⟩:=oblB_iff.1 hs
   simp only[Bool.and_eq_true] at hb
   exact .says (fM base0.glob hs) (VI (blt_iff.1 hb.2) hl hq)
  ·exact hs.elim
 ·have h1:x^^^4294967295<2^32:=Nat.xor_lt_two_pow hx (by decide)
  rw[VJ,wr hx]
  refine oblB_iff.2 ⟨?_, ?_, ?_⟩
  ·exact blt_iff.2 h1
  ·simp[ah]
  ·show (∃d,aW 0 [] d (.int .u32 (ar .u32 ((BitVec.ofInt 32 4294967295^^^BitVec.ofInt 32 (Int.ofNat (iZ (x^^^4294967295) l))).toNat:Int)))=_)∧_
   rw[wr (IB l _ h1)]
   exact ⟨⟨1,rfl⟩,rfl⟩
theorem VM {x:Nat} (hx:x<2^32):SC 287 [.int .u32 (.ofNat x),.nilsl] (.int .u32 (.ofNat (sI x []))):=by
 refine ji (A:=bm) base0 cD (Dk fun _=>rfl) (by simp[ah,ac]) ?_
 have h1:x^^^4294967295<2^32:=Nat.xor_lt_two_pow hx (by decide)
 rw[VK]
 have e:x^^^4294967295^^^4294967295=sI x []:=rfl
 rw[wr hx,wr h1,e]
 exact ⟨⟨1,rfl⟩,rfl⟩
end
noncomputable section
def wt:AV:= .fsl false (dm (.int .u8 0) 64)
def cJ:Nat→List AV
 |0=>[]
 |n+1=>wt:: .bool false::cJ n
theorem II:∀n,cJ n++[wt,.bool false]=cJ (n+1)
 |0=>rfl
 |n+1=>by simp only[cJ,List.cons_append];rw[II n];rfl
theorem sL:∀n,ac (cJ n)=true
 |0=>rfl
 |n+1=>by
  have h:ah wt=true:=by kernel_rfl
  simp only[cJ,ac,h,sL n,ah,Bool.and_self]
theorem IJ:∀n,aa (cJ n)=n*2
 |0=>rfl
 |n+1=>by simp only[cJ,aa,IJ n];omega
def sM (s:AV):List AV:=[s,.nilsl,I (-1),.bool false,I 0]
def gy (n:Nat):Nat→View
 |0=>⟨[(13,I (.ofNat n)),(14,I 0)],[(4,.ptr 0 0)],[(0,.cells (sM .nilsl),.whole)],3,29⟩
 |i+1=>⟨[(13,I (.ofNat n)),(14,I (.ofNat (i+1)))],[(4,.ptr 0 0)],[(0,.cells (sM (.rsl true 1 0 (i+1) 2)),.each),(1,.cells (cJ (i+1)),.whole)],3,29⟩
def i3 (n i d:Nat):View:=⟨[(13,I (.ofNat n)),(14,I (.ofNat (i+1)))],[(4,.ptr 0 0)],[(0,.cells (sM (.rsl true 1 0 (i+1) 2)),.each),(1,.cells (cJ i++[.rsl true 2 0 64 1,.bool false]),.split (cJ i) [.rsl true 2 0 64 1,.bool false] [.rsl true d 0 64 1,.bool false]),(2,.cells (flat (dm (.int .u8 0) 64)),.whole)],3,29⟩
abbrev wu:=[AV.int IntKind.u8 0,AV.int IntKind.u8 0,AV.int IntKind.u8 0,AV.int IntKind.u8 0,AV.int IntKind.u8 0,AV.int IntKind.u8 0,AV.int IntKind.u8 0,AV.int IntKind.u8 0,AV.int IntKind.u8 0,AV.int IntKind.u8 0,AV.int IntKind.u8 0,AV.int IntKind.u8 0,AV.int IntKind.u8 0,AV.int IntKind.u8 0,AV.int IntKind.u8 0,AV.int IntKind.u8 0,AV.int IntKind.u8 0,AV.int IntKind.u8 0,AV.int IntKind.u8 0,AV.int IntKind.u8 0,AV.int IntKind.u8 0,AV.int IntKind.u8 0,AV.int IntKind.u8 0,AV.int IntKind.u8 0,AV.int IntKind.u8 0,AV.int IntKind.u8 0,AV.int IntKind.u8 0,AV.int IntKind.u8 0,AV.int IntKind.u8 0,AV.int IntKind.u8 0,AV.int IntKind.u8 0,AV.int IntKind.u8 0,AV.int IntKind.u8 0,AV.int IntKind.u8 0,AV.int IntKind.u8 0,AV.int IntKind.u8 0,AV.int IntKind.u8 0,AV.int IntKind.u8 0,AV.int IntKind.u8 0,AV.int IntKind.u8 0,AV.int IntKind.u8 0,AV.int IntKind.u8 0,AV.int IntKind.u8 0,AV.int IntKind.u8 0,AV.int IntKind.u8 0,AV.int IntKind.u8 0,AV.int IntKind.u8 0,AV.int IntKind.u8 0,AV.int IntKind.u8 0,AV.int IntKind.u8 0,AV.int IntKind.u8 0,AV.int IntKind.u8 0,AV.int IntKind.u8 0,AV.int IntKind.u8 0,AV.int IntKind.u8 0,AV.int IntKind.u8 0,AV.int IntKind.u8 0,AV.int IntKind.u8 0,AV.int IntKind.u8 0,AV.int IntKind.u8 0,AV.int IntKind.u8 0,AV.int IntKind.u8 0,AV.int IntKind.u8 0,AV.int IntKind.u8 0]
@[simp] abbrev wv (n:Nat):=(I (Int.ofNat n)=I (Int.ofNat n)∧ah (I (Int.ofNat n))=true)
@[simp] abbrev sN:=(AV.bool false=AV.bool false∧true=true)
abbrev ww:=[AV.nilsl,AV.nilsl,I (Int.negSucc 0),AV.bool false,I 0]
abbrev sO:=[AV.rsl true 2 0 64 1,AV.bool false]
@[simp] abbrev wx:=((some 0=some 0∧0=0)∧True)
abbrev wy:=[AV.rsl true 9 0 64 1,AV.bool false]
@[simp] abbrev sP:=(I 0=I 0∧true=true)
@[simp] abbrev Bl:=(AV.nilsl=AV.nilsl∧true=true)
@[simp] abbrev IK:=(true=true∧some 9=some 9∧0=0∧64=64∧1=1)
theorem VN (n:Nat) (go:Bool) (Q:AExit→St→Prop):aI Tryz.prog opts0 40 bm (aD Tryz.prog 42 6) (gy n 0).st (oH 0 [(0,0),(1,12),(2,9)] (i3 n 0 9) [(0,0)] (gy n 0) go Q)=
  (ab (aq 0 (Int.ofNat n)) (au go (((wv n)∧(I 1=I 1∧true=true)∧True)∧wx∧((true=true∧some 12=some 12∧0=0∧1=1∧2=2)∧Bl∧(I (Int.negSucc 0)=I (Int.negSucc 0)∧true=true)∧sN∧sP∧True)∧((cJ 0++sO=cJ 0++sO∧wy=cJ 0++wy)∧true=true∧IK∧sN∧True)∧(wu=wu∧true=true)∧True)) ((((wv n)∧sP∧True)∧wx∧(ww=ww∧true=true)∧True)∧Q (AExit.exit 0) (gy n 0).st)):=by kernel_rfl
theorem VO (n i:Nat) (go:Bool) (Q:AExit→St→Prop):aI Tryz.prog opts0 40 bm (aD Tryz.prog 42 6) (gy n (i+1)).st (oH 0 [(0,0),(1,12),(2,9)] (i3 n (i+1) 9) [(0,0),(1,1)] (gy n (i+1)) go Q)=
  (ab (aq (Int.ofNat (i+1)) (Int.ofNat n)) (au (((i+1+1)*32).ble 140737488355328&&true) (au ((aa (cJ (i+1))).beq ((i+1)*2)) (au go (((wv n)∧(I (ar IntKind.i64 (Int.ofNat (i+1)+1))=I (Int.ofNat (i+1+1))∧ah (I (Int.ofNat (i+1+1)))=true)∧True)∧wx∧((true=true∧some 12=some 12∧0=0∧i+1+1=i+1+1∧2=2)∧Bl∧(I (Int.negSucc 0)=I (Int.negSucc 0)∧true=true)∧sN∧sP∧True)∧((cJ (i+1)++sO=cJ (i+1)++sO∧cJ (i+1)++wy=cJ (i+1)++wy)∧ac (cJ (i+1))=true∧IK∧sN∧True)∧(wu=wu∧true=true)∧True)))) ((((wv n)∧(I (Int.ofNat (i+1))=I (Int.ofNat (i+1))∧ah (I (Int.ofNat (i+1)))=true)∧True)∧wx∧((true=true∧some 1=some 1∧0=0∧i+1=i+1∧2=2)∧Bl∧(I (Int.negSucc 0)=I (Int.negSucc 0)∧true=true)∧sN∧sP∧True)∧(cJ (i+1)=cJ (i+1)∧ac (cJ (i+1))=true)∧True)∧Q (AExit.exit 0) (gy n (i+1)).st)):=by kernel_rfl
abbrev IL (i:Nat):=[AV.rsl true 1 0 (i+1) 2,AV.nilsl,I (Int.negSucc 0),AV.bool false,I 0]
theorem VQ (n i:Nat):Dz 2 (gy n (i+1)) (i3 n i 9).st=
  ((Frz 2 (i3 n i 9).st.heap (I (Int.ofNat n)) (I (Int.ofNat n))∧Frz 2 (i3 n i 9).st.heap (I (Int.ofNat (i+1))) (I (Int.ofNat (i+1)))∧Frz 2 (i3 n i 9).st.heap (AV.ptr 0 0) (AV.ptr 0 0)∧True)∧FrzL 2 (i3 n i 9).st.heap (IL i) (IL i)∧FrzL 2 (i3 n i 9).st.heap (cJ i++sO) (cJ (i+1))∧True):=by kernel_rfl
theorem VR (n i:Nat):Says2 opts0.glob 0 (i3 n i 9).st (gy n (i+1)).st:=by
 refine Lg (m:=2) ?_
 rw[VQ]
 have hz:Frz 2 (i3 n i 9).st.heap (.rsl true 2 0 64 1) wt:=⟨2,by kernel_rfl⟩
 refine ⟨⟨⟨1,rfl⟩,⟨1,rfl⟩,⟨1,rfl⟩,trivial⟩,FrzL.cons ⟨1,rfl⟩ (FrzL.cons ⟨1,rfl⟩ (FrzL.cons ⟨1,rfl⟩ (FrzL.cons ⟨1,rfl⟩ (FrzL.cons ⟨1,rfl⟩ FrzL.nil)))), ?_,trivial⟩
 rw[←II i]
 exact FrzL.append (FrzL.closed _ (sL i)) (FrzL.cons hz (FrzL.cons ⟨1,rfl⟩ FrzL.nil))
theorem VT (n:Nat) (hn:n≤4096) {Q:AExit→St→Prop} (hq:Q (.exit 0) (gy n n).st):AWp Tryz.prog opts0.glob 0 (.loop (aD Tryz.prog 42 6)) (gy n 0).st Q:=by
 refine AWp.loopM base0 (fun _=>bm) (gy n) (fun i=>i3 n i 9) (gy n) (fun _=>[(0,0),(1,12),(2,9)]) (fun i=>match i with
  |0=>[(0,0)]
  |_+1=>[(0,0),(1,1)]) n 0 (fun _=>cD) (fun _=>LsOk.none) (fun i _ _=>VR n i) fun i _ hi=> ?_
 cases i with
 | zero=>
  rw[VN]
  refine aj (fun h=> ?_) (fun h=> ?_)
  ·have h:(0:Int)<n:=ltInt_iff.1 h
   exact oblB_iff.2 ⟨blt_iff.2 (by omega),by simp[ah,cJ]⟩
  ·have h:(n:Int)≤0:=ltInt_false.1 h
   obtain rfl:n=0:=by omega
   exact ⟨by simp[ah],hq⟩
 | succ i=>
  rw[VO]
  refine aj (fun h=> ?_) (fun h=> ?_)
  ·have h:((i+1:Nat):Int)<n:=ltInt_iff.1 h
   rw[eQ (by simp;omega) (by simp;omega)]
   refine oblB_iff.2 ⟨by simp;omega,oblB_iff.2 ⟨by rw[IJ];simp,oblB_iff.2 ⟨blt_iff.2 (by omega), ?_⟩⟩⟩
   simp[ah,sL]
  ·have h:(n:Int)≤(i+1:Nat):=ltInt_false.1 h
   obtain rfl:n=i+1:=by omega
   exact ⟨by simp[ah,sL],hq⟩
def IM (n:Nat):bq:=fun s Q=>ck 0 [(0,9)] (gy n 0) s∧Q (.exit 0) (gy n n).st
theorem VU:bu (cy Tryz.prog 42) 6=[aD Tryz.prog 42 6]:=by kernel_rfl
theorem VV (n:Nat) (Q:AV→af→Nat→Prop):ax Tryz.prog opts0 40 (jR (fun _ _=>none) (cd 6 (IM (n+1)))) 42 [I (.ofNat (n+1))] [] 0 Q=
  (ab (aq (Int.ofNat (n+1)) 8) (Q (AV.tuple [AV.nilp,I 1]) [] 10) (ab (aq 4096 (Int.ofNat (n+1))) (Q (AV.tuple [AV.nilp,I 1]) [] 10) ((((I (Int.ofNat (n+1))=I (Int.ofNat (n+1))∧ah (I (Int.ofNat (n+1)))=true)∧sP∧True)∧((some 9=some 9∧0=0)∧True)∧(ww=ww∧true=true)∧True)∧Q (AV.tuple [AV.ptr 0 0,I 0]) [(0,some (Blk.cells [AV.rsl true 1 0 (n+1) 2,AV.nilsl,I (Int.negSucc 0),AV.bool false,I 0])),(1,some (Blk.cells (cJ (n+1))))] 6))):=by kernel_rfl
def VW (n:Nat):af:=[(0,some (.cells (sM (.rsl true 1 0 n 2)))),(1,some (.cells (cJ n)))]
theorem VX (n:Nat) (h1:8≤n+1) (h2:n+1≤4096):cw Tryz.prog opts0.glob 42 [I (.ofNat (n+1))] [] 0 (.tuple [.ptr 0 0,I 0]) (VW (n+1)) 6:=by
 refine tR (A:=jR (fun _ _=>none) (cd 6 (IM (n+1)))) base0 (tZ gh) (aw (LsOk.one VU fun s Q hs=> .says (fM base0.glob hs.1) (VT (n+1) h2 hs.2))) ?_
 rw[VV]
 refine aj (fun h=> ?_) (fun _=>aj (fun h=> ?_) (fun _=>⟨by simp[ah],rfl,rfl,rfl⟩))
 ·have h:((n+1:Nat):Int)<8:=ltInt_iff.1 h
  omega
 ·have h:(4096:Int)<(n+1:Nat):=ltInt_iff.1 h
  omega
def Bm (nx n:Nat):af:=[(nx,some (.cells (sM (.rsl true (nx+1) 0 n 2)))),(nx+1,some (.cells (cJ n)))]
theorem VY (nx n:Nat) (h1:8≤n) (h2:n≤4096):cw Tryz.prog opts0.glob 42 [I (.ofNat n)] [] nx (.tuple [.ptr nx 0,I 0]) (Bm nx n) (nx+6):=by
 obtain ⟨n,rfl⟩:∃k,n=k+1:=⟨n-1,by omega⟩
 refine yF base0.glob rfl (VX n h1 h2) (RenV.tuple2 (.ptr _ _ _ (by rw[jT,if_pos (by omega)];simp)) (.same _ rfl)) fun i b2 hi=> ?_
 simp only[Bm,hget] at hi
 split at hi
 ·rename_i he
  have he:=beq_iff.1 he
  simp only[Option.some.injEq] at hi
  subst he;subst hi
  refine ⟨0,_,by rw[jT,if_pos (by omega)];simp,rfl, ?_⟩
  exact ⟨.rsl _ _ _ _ _ _ (by rw[jT,if_pos (by omega)];simp),.same _ rfl,.same _ rfl,.same _ rfl,.same _ rfl,trivial⟩
 ·split at hi
  ·rename_i he
   have he:=beq_iff.1 he
   simp only[Option.some.injEq] at hi
   subst he;subst hi
   exact ⟨1,_,by rw[jT,if_pos (by omega)];simp,rfl,RenL.same _ (sL _)⟩
  ·cases hi
end
def Bn (s:Nat):AV→Option AV
 | .nilsl=>some (.int .u32 (.ofNat (sI s [])))
 | .fsl _ es=>match cW es with
  |some l=>match ga (ai l) es&&Nat.ble (aa l) 9223372036854775807 with
   |true=>some (.int .u32 (.ofNat (sI s l)))
   |false=>none
  |none=>none
 |_=>none
theorem VZ {s:Nat} {a r:AV} (hs:s<2^32) (h:Bn s a=some r):SC 287 [.int .u32 (.ofNat s),a] r:=by
 unfold Bn at h
 split at h
 ·simp only[Option.some.injEq] at h;subst h
  exact VM hs
 ·rename_i f es
  split at h
  ·rename_i l hl
   split at h
   ·rename_i hb
    simp only[Option.some.injEq] at h;subst h
    rw[Bool.and_eq_true] at hb
    have e:=jg _ _ hb.1
    rw[←e]
    exact VL hs (by rw[←aE];exact Nat.le_of_ble_eq_true hb.2)
   ·cases h
  ·cases h
 ·cases h
def Bo (f:FuncId) (args:List AV):Option AV:=match Nat.beq f 287,args with
 |true,[.int .u32 (.ofNat s),a]=>match Nat.blt s 4294967296 with
  |true=>Bn s a
  |false=>none
 |_,_=>none
theorem V3:∀f args r,ac args=true→Bo f args=some r→SC f args r:=by
 intro f args r hcl h
 clear hcl
 unfold Bo at h
 split at h
 ·rename_i s a hf
  split at h
  ·rename_i hb
   rw[beq_iff.1 hf]
   exact VZ (blt_iff.1 hb) h
  ·cases h
 ·cases h
def Bp (f:FuncId) (args:List AV) (nx:Nat):Option (AV × af × Nat):=match Nat.beq f 42,args with
 |true,[.int .i64 (.ofNat n)]=>match Nat.ble 8 n&&Nat.ble n 4096 with
  |true=>some (.tuple [.ptr nx 0,I 0],Bm nx n,6)
  |false=>none
 |_,_=>none
theorem V4:∀f args nx v H2 m,Bp f args nx=some (v,H2,m)→cw Tryz.prog opts0.glob f args [] nx v H2 (nx+m):=by
 intro f args nx v H2 m h
 unfold Bp at h
 split at h
 ·rename_i n hf
  split at h
  ·rename_i hb
   rw[Bool.and_eq_true] at hb
   simp only[Option.some.injEq,Prod.mk.injEq] at h
   obtain ⟨rfl,rfl,rfl⟩:=h
   rw[beq_iff.1 hf]
   exact VY nx n (Nat.le_of_ble_eq_true hb.1) (Nat.le_of_ble_eq_true hb.2)
  ·cases h
 ·cases h
def Bq:aY:=iN (fun f=>Nat.beq f 42) (oK Bp) (oL Bo)
theorem V5:bJ Tryz.prog opts0.glob Bq∧bK Bq:=Lp (Ll V4) (Lo base0.glob V3)
end Go.Proofs.YtmnlofhodbnenaaGreatDoor
namespace Go.Proofs.YtmnlofhodbnenaaGreatDoor
open Go.RowKit
open Go.Proofs.Abs
inductive HT where
 |tip
 |node (k:Nat) (h:wV) (l r:HT)
noncomputable def HT.get (t:HT):Nat→wV:=
 HT.rec (fun _=> .pure) (fun k h _ _ gl gr f=>Bool.rec (Bool.rec (gr f) (gl f) (Nat.blt f k)) h (Nat.beq f k)) t
def hows:HT:=(.node 163 (.look 1) (.node 92 (.part 8) (.node 49 (.part 8) (.node 35 (.look 0) (.node 23 .keep (.node 10 .keep (.node 6 (.part 8) (.node 4 (.part 8) .tip .tip) .tip) (.node 16 (.part 8) .tip .tip)) (.node 26 .keep (.node 25 (.part 8) (.node 24 (.part 8) .tip .tip) .tip) (.node 34 (.look 0) .tip .tip))) (.node 45 .keep (.node 42 .known (.node 37 (.look 0) (.node 36 (.look 0) .tip .tip) .tip) (.node 43 .keep .tip .tip)) (.node 47 .keep (.node 46 .keep .tip .tip) (.node 48 (.part 8) .tip .tip)))) (.node 81 .keep (.node 73 .keep (.node 71 .keep (.node 52 (.look 8) (.node 50 (.part 8) .tip .tip) .tip) (.node 72 .keep .tip .tip)) (.node 77 .keep (.node 76 .keep .tip .tip) (.node 79 .keep .tip .tip))) (.node 88 .keep (.node 86 (.part 8) (.node 85 .keep (.node 83 (.look 1) .tip .tip) .tip) (.node 87 .keep .tip .tip)) (.node 90 (.part 8) (.node 89 (.part 8) .tip .tip) (.node 91 (.part 8) .tip .tip))))) (.node 142 (.look 1) (.node 122 (.look 0) (.node 97 (.part 8) (.node 95 .keep (.node 94 (.part 8) (.node 93 .keep .tip .tip) .tip) (.node 96 (.part 8) .tip .tip)) (.node 117 (.look 0) (.node 114 (.look 0) (.node 103 .fresh .tip .tip) .tip) (.node 120 (.look 0) .tip .tip))) (.node 138 .keep (.node 136 .keep (.node 124 (.look 0) (.node 123 (.look 0) .tip .tip) .tip) (.node 137 .keep .tip .tip)) (.node 140 (.look 1) (.node 139 .fresh .tip .tip) (.node 141 (.look 1) .tip .tip)))) (.node 153 .keep (.node 148 .keep (.node 145 (.look 0) (.node 144 .keep (.node 143 (.look 1) .tip .tip) .tip) (.node 146 .keep .tip .tip)) (.node 150 .keep (.node 149 .keep .tip .tip) (.node 152 .keep .tip .tip))) (.node 158 (.look 1) (.node 156 .keep (.node 155 .keep (.node 154 .keep .tip .tip) .tip) (.node 157 (.look 1) .tip .tip)) (.node 161 (.look 1) (.node 159 (.each 0) .tip .tip) (.node 162 (.look 1) .tip .tip)))))) (.node 249 .keep (.node 227 .keep (.node 174 (.look 1) (.node 168 (.look 1) (.node 166 (.look 1) (.node 165 (.look 1) (.node 164 (.look 1) .tip .tip) .tip) (.node 167 (.look 1) .tip .tip)) (.node 172 (.look 1) (.node 171 (.look 1) (.node 169 (.look 1) .tip .tip) .tip) (.node 173 (.look 1) .tip .tip))) (.node 180 .keep (.node 178 .keep (.node 177 (.part 8) (.node 175 .keep .tip .tip) .tip) (.node 179 .keep .tip .tip)) (.node 186 .keep (.node 184 (.each 2) .tip .tip) (.node 192 .fresh .tip .tip)))) (.node 240 .keep (.node 234 .keep (.node 231 (.look 1) (.node 230 (.look 0) (.node 228 (.look 1) .tip .tip) .tip) (.node 232 .keep .tip .tip)) (.node 237 .keep (.node 235 (.look 1) .tip .tip) (.node 239 .fresh .tip .tip))) (.node 245 .keep (.node 243 .keep (.node 242 .keep (.node 241 .keep .tip .tip) .tip) (.node 244 .keep .tip .tip)) (.node 247 .keep (.node 246 .keep .tip .tip) (.node 248 (.look 1) .tip .tip))))) (.node 285 .keep (.node 261 .keep (.node 255 .keep (.node 253 (.part 2) (.node 251 (.part 2) (.node 250 (.look 1) .tip .tip) .tip) (.node 254 (.look 1) .tip .tip)) (.node 259 (.look 1) (.node 258 .keep (.node 256 .keep .tip .tip) .tip) (.node 260 (.look 1) .tip .tip))) (.node 281 .fresh (.node 278 .keep (.node 276 .keep (.node 263 .keep .tip .tip) .tip) (.node 279 .keep .tip .tip)) (.node 283 (.look 0) (.node 282 .fresh .tip .tip) (.node 284 .keep .tip .tip)))) (.node 295 (.part 2) (.node 291 (.look 0) (.node 289 .keep (.node 287 .known (.node 286 (.look 0) .tip .tip) .tip) (.node 290 .clone .tip .tip)) (.node 293 .keep (.node 292 .keep .tip .tip) (.node 294 (.part 2) .tip .tip))) (.node 376 .keep (.node 315 .keep (.node 314 .keep (.node 313 .keep .tip .tip) .tip) (.node 346 .cmp .tip .tip)) (.node 380 .keep (.node 377 .keep .tip .tip) (.node 381 .keep .tip .tip)))))))
noncomputable def optsH:bn:={how:=hows.get,summ:=fun _ _=>none,glob:=fun _=>none,lf:=100000,cx:=Bq}
theorem V6:tA (g7 Tryz.prog optsH (gJ Tryz.prog optsH 40) 8 [] [] 0)=true:=by kernel_rfl
theorem V7:SemCall Tryz.prog optsH.glob 8 [] (.bool true):=LO (O:=optsH) Tryz.mixed (fun _ _ _ h=>by cases h) V5 (fun _ _ h=>by cases h) V6
end Go.Proofs.YtmnlofhodbnenaaGreatDoor
namespace Go.Proofs.YtmnlofhodbnenaaGreatDoor
open Go Go.RowKit
open Go.Proofs.Abs
theorem IO:∀ {ess:List (List AV)},(∀c∈ess,(∃a b d z:Int,c=[.int .i64 a,.int .i64 b,.int .i64 d,.int .i64 z]∧(IntKind.i64.min≤a∧a≤IntKind.i64.max)∧(IntKind.i64.min≤b∧b≤IntKind.i64.max)∧(IntKind.i64.min≤d∧d≤IntKind.i64.max)∧(IntKind.i64.min≤z∧z≤IntKind.i64.max))∧c.length=4)→∃l:List Rw,ess.map kH=l.map a7∧l.length=ess.length
 |[],_=>⟨[],rfl,rfl⟩
 |c::t,h=>by
  obtain ⟨⟨a,b,d,z,rfl,_⟩,_⟩:=h c (by simp)
  obtain ⟨l,e,hl⟩:=IO (ess:=t) fun c hc=>h c (by simp[hc])
  refine ⟨⟨a,b,d,z⟩::l, ?_,by simp[hl]⟩
  rw[List.map_cons,e]
  rfl
section
variable {P:Program} {H:Type} {enc:TypeId × Value→H} {w:World} {base:Nat} {spare:Nat→Bool} {held:Bool} {v:Value} {d:DataW H} {ps:List MemPlace} {t e i:TypeId}
theorem IP {f0 f1 f2 f3:Field} (ht:P.underlying t=some (.slice e)) (hs:P.underlying e=some (.struct #[f0,f1,f2,f3])) (h0:f0.type=i∧f0.offset=0) (h1:f1.type=i∧f1.offset=1) (h2:f2.type=i∧f2.offset=2) (h3:f3.type=i∧f3.offset=3)
  (he:P.underlying i=some (.int .i64)) (hc:P.cellsOf i=1) (h4:P.cellsOf e=4) (hok:Value.okWide P w .any base t v) (h:DataW.Trod enc P w 0 spare held t v d ps):
  ∃ (l:List Rw),l.length≤9223372036854775807∧Rep w (fun b=>b<w.heap.size) (fun _=>none) (.fsl false (l.map a7)) v:=by
 rcases Lc ht (Ld hs h0 h1 h2 h3 he hc h4) hok h with rfl|⟨ess,hr,hp,hl⟩
 ·exact ⟨[],by simp,Wk.nil.out _ _ _ _ .nilsl⟩
 ·obtain ⟨l,e1,e2⟩:=IO hp
  refine ⟨l,by rw[e2];exact hl, ?_⟩
  rw[e1] at hr
  exact hr
end
end Go.Proofs.YtmnlofhodbnenaaGreatDoor
