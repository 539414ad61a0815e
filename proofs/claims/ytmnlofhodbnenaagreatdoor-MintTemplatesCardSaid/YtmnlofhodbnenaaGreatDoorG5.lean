import Derived.Test.YtmnlofhodbnenaaGreatDoorG4
import Derived.OpenShut
import Derived.LaidMore
namespace Go.Proofs.Abs
open Go
noncomputable section
def au (b:Bool) (K:Prop):Prop:=match b with
 |true=>K
 |false=>False
def ab (b:Bool) (T F:Prop):Prop:=match b with
 |true=>T
 |false=>F
inductive ES where
 |eff (e:Eff)
 |obl (b:Bool) (e:Eff)
 |app (b:Bool) (i:Nat) (k:List AV→Bool × List AV) (v:Nat→AV)
 |pick (b:Bool) (x y:Option AV)
 |put (b:Bool) (i:Nat) (k:List AV→Bool × List AV) (v:AV)
def ES.ok (oe:Option Eff):ES→Prop
 | .eff e=>oe=some e
 | .obl b e=>b=true→oe=some e
 | .app b i k v=>b=true→∃kk,oe=some (.repl i kk)∧∀l,(k l).1=true→kk (.cells l)=some (.cells (k l).2,v)
 | .pick b x y=>(b=true→oe=bS x)∧(b=false→oe=bS y)
 | .put b i k v=>b=true→∃kk,oe=some (.upd i kk)∧∀l,(k l).1=true→kk (.cells l)=some (.cells (k l).2,v)
inductive dU where
 |plain
 |ans (a:oo)
 |el (v:AV)
 |ld (v:AV)
 |res (r:AV)
def gG:Int→Bool
 | .ofNat _=>true
 |_=>false
def kW:AV→Option (Bool × Nat)
 | .int _ n=>some (gG n,n.toNat)
 |_=>none
def qZ:Option AV→Option (Bool × Option Nat)
 |none=>some (true,none)
 |some v=>match kW v with
  |some (b,n)=>some (b,some n)
  |none=>none
def gH (es:List AV):List UInt8:=(cW es).getD []
def q5 (l:List AV) (o:Nat) (vs:List AV):List AV:=l.take o++(vs++l.drop (o+aa vs))
def iH (s:List UInt8) (i:Nat):UInt8:=s[i]?.getD 0
section
variable (P:Program)
def eqF (eq:TypeId→AV→AV→Option Bool):List Field→List AV→List AV→Option Bool
 |[],_,_=>some true
 | f::fs,xs,ys=>match f.name== "_" with
  |true=>eqF eq fs xs ys
  | false=>match b8 P f.type xs f.offset,b8 P f.type ys f.offset with
   |some a,some b=>match eq f.type a b,eqF eq fs xs ys with
    |some p,some q=>some (p&&q)
    |_,_=>none
   |_,_=>none
def q6 (eq:TypeId→AV→AV→Option Bool) (e:TypeId) (sz:Nat) (xs ys:List AV):List Nat→Option Bool
 |[]=>some true
 | i::is=>match b8 P e xs (i*sz),b8 P e ys (i*sz) with
  |some a,some b=>match eq e a b,q6 eq e sz xs ys is with
   |some p,some q=>some (p&&q)
   |_,_=>none
  |_,_=>none
def mQ:Nat→TypeId→AV→AV→Option Bool
 |0,_,_,_=>none
 | d+1,t,x,y=>match x,y with
  | .agg xs,.agg ys=>match P.underlying t with
   |some (.struct fs)=>match P.stoodInHeld t with
    |true=>none
    |false=>eqF P (mQ d) fs.toList xs ys
   |some (.array n e)=>match bR P e with
    |some sz=>q6 P (mQ d) e sz xs ys (List.range n)
    |none=>none
   |_=>none
  |x,y=>dI P (d+1) t x y
def kX (sz:Nat) (x:AV):Option (Bool × Nat × List AV):=match x with
 | .fsl _ es=>some (a8 sz es,aa es,flat es)
 | .nilsl=>some (true,0,[])
 | .nesl=>some (true,0,[])
 | .str s=>some (Nat.beq sz 1,aa s,ai s)
 |_=>none
def Db (i:TypeInfo) (s:AV) (b:Bool) (n:Nat) (cs:List AV):Option ES:=match s with
 | .nilsl=>match Nat.beq n 0 with
  |true=>some (.obl b (.val .nilsl))
  |false=>some (.obl (b&&Nat.ble (n*i.bytes) 140737488355328) (.new (.cells cs) fun id=> .rsl true id 0 n i.size))
 | .fsl true es=>match Nat.beq n 0 with
  |true=>some (.obl b (.val (.fsl true es)))
  |false=>some (.obl (b&&(Nat.ble ((aa es+n)*i.bytes) 140737488355328&&a8 i.size es)) (.new (.cells (flat es++cs)) fun id=> .rsl true id 0 (aa es+n) i.size))
 | .rsl true id 0 len sz=>some (.app (b&&(Nat.ble ((len+n)*i.bytes) 140737488355328&&(bc cs&&Nat.beq sz i.size))) id (fun l=>(Nat.beq (aa l) (len*i.size),l++cs)) fun id'=> .rsl true id' 0 (len+n) i.size)
 |_=>none
def Dc:TypeDesc→Bool
 | .slice _| .string=>true
 |_=>false
def x5 (argTypes:Array TypeId) (s x:AV):Option ES:=
 match argTypes[0]?,argTypes[1]? with
 | some st,some xt=>match P.underlying st,P.underlying xt with
  | some (.slice e),some xd=>match Dc xd,P.info? e,eF P e with
   | true,some i,some z=>match Nat.beq i.size 0||Nat.beq i.bytes 0|| !Nat.beq (aa z.cells) i.size with
    |true=>none
    |false=>match kX i.size x with
     |some (b,n,cs)=>Db i s b n cs
     |none=>none
   |_,_,_=>none
  |_,_=>none
 |_,_=>none
def x6 (t:TypeId) (x:AV) (lo hi mx:Option AV):Option ES:=
 match qZ lo,qZ hi,mx with
 | some (b1,lo),some (b2,hi),none=>match x with
  | .str s=>match P.underlying t with
   |some .string=>some (.obl (b1&&(b2&&(Nat.ble (lo.getD 0) (hi.getD (aa s))&&Nat.ble (hi.getD (aa s)) (aa s)))) (.val (.str ((s.drop (lo.getD 0)).take (hi.getD (aa s)-lo.getD 0)))))
   |_=>none
  | .fsl full es=>match dv P t with
   |some e=>match bR P e with
    |some sz=>some (.obl (b1&&(b2&&(sS sz es&&(Nat.ble (lo.getD 0) (hi.getD (aa es))&&Nat.ble (hi.getD (aa es)) (aa es))))) (.val (.fsl (qd full none (hi.getD (aa es)) (aa es)) ((es.drop (lo.getD 0)).take (hi.getD (aa es)-lo.getD 0)))))
    |none=>none
   |none=>none
  | .rsl own id off len sz'=>match lo,hi with
   | none,some h=>match dv P t with
    |some e=>match bR P e with
     |some sz=>some (.obl (b2&&(Nat.beq sz sz'&&Nat.ble h len)) (.val (.rsl own id off h sz)))
     |none=>none
    |none=>none
   |_,_=>none
  |_=>none
 |_,_,_=>none
def x7 (src dst:TypeId) (x:AV):Option ES:=
 match P.underlying src,P.underlying dst,x with
 |some (.slice e),some .string,.fsl _ es=>match mi P e with
  |true=>some (.obl (cW es).isSome (.val (.str (gH es))))
  |false=>none
 |_,_,_=>none
def x8 (t:TypeId) (l c:AV):Option ES:=
 match dv P t,kW l,kW c with
 | some e,some (b1,l),some (b2,c)=>match P.info? e,eF P e with
  |some i,some z=>
   some (.obl (b1&&(b2&&(Nat.ble l c&&Nat.ble (i.bytes*c) 281474976710656&&Nat.ble c 9223372036854775807&&Nat.beq (aa z.cells) i.size&&Nat.blt 0 i.size))) (.new (.cells (flat (dm z c))) fun id=> .rsl true id 0 l i.size))
  |_,_=>none
 |_,_,_=>none
def x9 (argTypes:Array TypeId) (d x:AV):Option ES:=
 match argTypes[0]? with
 | some t=>match dv P t with
  | some e=>match bR P e with
   | some sz=>match d with
    | .rsl _ id off len _=>match kX sz x with
     |some (b,n,cs)=>some (.put (b&&bc cs) id (fun l=>(Nat.ble (off+aa (cs.take (min n len*sz))) (aa l),q5 l off (cs.take (min n len*sz)))) (.int .i64 (.ofNat (min n len))))
     |none=>none
    |_=>none
   |none=>none
  |none=>none
 |none=>none
def tI (t:TypeId) (v:AV):List AV:=match fe P t with
 |some false=>[v]
 |_=>v.cells
def bM (t:TypeId) (v:AV) (n:Nat):Bool:=match fe P t with
 |some false=>v.one&&Nat.beq n 1
 |_=>Nat.beq (aa v.cells) n&&bc v.cells
def ya (t:TypeId) (a v:AV):Option ES:=
 match a with
 | .ptr id off=>match bR P t with
  |some n=>some (.put (bM P t v n) id (fun l=>(Nat.ble (off+n) (aa l),q5 l off (tI P t v))) f6)
  |none=>none
 |_=>none
def yb (t:TypeId) (v:AV):Option ES:=match fe P t with
 |some false=>some (.obl v.one (.new (.cells [v]) fun id=> .ptr id 0))
 |_=>none
def q7 (fs:List Field) (pl:List (Nat × Nat)):List AV→List (Nat × AV)→Option (Bool × List AV)
 |cells,[]=>some (true,cells)
 | cells,(i,v)::rest=>match cC fs i,cC pl i with
  | some f,some (off,s)=>match Nat.blt 0 s&&Nat.ble (off+s) (aa cells) with
   |true=>match q7 fs pl (q5 cells off (tI P f.type v)) rest with
    |some (b,c)=>some (bM P f.type v s&&b,c)
    |none=>none
   |false=>none
  |_,_=>none
def yc (t:TypeId) (parts:List (Nat × AV)):Option ES:=
 match eF P t,P.underlying t with
 | some z,some (.struct fs)=>match nL P fs.toList with
  |some pl=>match q7 P fs.toList pl z.cells parts with
   |some (b,c)=>some (.obl b (.val (.agg c)))
   |none=>none
  |none=>none
 |_,_=>none
def yd (t:TypeId) (x i:AV):Option ES:=
 match P.underlying t,x,kW i with
 |some (.slice e),.rsl _ id off len sz',some (b,i)=>match bR P e with
  |some sz=>some (.obl (b&&(Nat.blt i len&&Nat.beq sz sz')) (.val (.ptr id (off+i*sz))))
  |none=>none
 |_,_,_=>none
def oA (glob:Nat→Option (List AV)) (ops:List Oper) (ev:Operand→Option AV) (o:Oper):Option ES:=
 match o.op with
 | .pick c a b=>match ev c with
  |some (.bool t)=>some (.pick t (ev a) (ev b))
  |_=>none
 | .binOp op t x y _=>match op,ev x,ev y with
  | .add,some (.str a),some (.str b)=>some (.obl (Nat.ble (aa a+aa b) 9223372036854775807) (.val (.str (a++b))))
  | .eql,some (.agg a),some (.agg b)=>match P.eqGuardType P.depth t,mQ P 16 t (.agg a) (.agg b) with
   |false,some r=>some (.eff (.val (.bool r)))
   |_,_=>none
  | .neq,some (.agg a),some (.agg b)=>match P.eqGuardType P.depth t,mQ P 16 t (.agg a) (.agg b) with
   |false,some r=>some (.eff (.val (.bool !r)))
   |_,_=>none
  | .quo,some (.int k a),some (.int k' b)=>match decide (k=k') with
   |true=>some (.obl (!ak b 0) (.val (.int k (ar k (a.tdiv b)))))
   |false=>none
  | .rem,some (.int k a),some (.int k' b)=>match decide (k=k') with
   |true=>some (.obl (!ak b 0) (.val (.int k (a.tmod b))))
   |false=>none
  |_,_,_=>match cf P glob ops ev o with
   |some e=>some (.eff e)
   |none=>none
 | .store t a x=>match ev a,ev x with
  |some a,some x=>ya P t a x
  |_,_=>none
 | .box t x=>match ev x with
  | some v=>match yb P t v with
   |some e=>some e
   |none=>match cf P glob ops ev o with
    |some e=>some (.eff e)
    |none=>none
  |none=>none
 | .build t parts=>match i5 ev parts.toList with
  | some ps=>match yc P t ps with
   |some e=>some e
   |none=>match cf P glob ops ev o with
    |some e=>some (.eff e)
    |none=>none
  |none=>none
 | .indexAddr t x i=>match ev x,ev i with
  | some x,some i=>match yd P t x i with
   |some e=>some e
   |none=>match cf P glob ops ev o with
    |some e=>some (.eff e)
    |none=>none
  |_,_=>none
 | .convert s d x=>match ev x with
  | some (.fsl f es)=>match x7 P s d (.fsl f es) with
   |some e=>some e
   |none=>match cf P glob ops ev o with
    |some e=>some (.eff e)
    |none=>none
  |_=>match cf P glob ops ev o with
   |some e=>some (.eff e)
   |none=>none
 | .index t x i=>match P.underlying t,ev x,ev i with
  |some .string,some (.str s),some w=>match kW w with
   |some (b,k)=>some (.obl (b&&Nat.blt k (aa s)) (.val (.int .u8 (.ofNat (iH s k).toNat))))
   |none=>none
  |_,_,_=>match cf P glob ops ev o with
   |some e=>some (.eff e)
   |none=>none
 | .makeSlice t l c=>match ev l,ev c with
  |some l,some c=>x8 P t l c
  |_,_=>none
 | .slice t x lo hi mx=>match ev x,fC ev lo,fC ev hi,fC ev mx with
  | some x,some lo,some hi,some mx=>match x6 P t x lo hi mx with
   |some e=>some e
   |none=>match i4 P t x lo hi mx with
    |some e=>some (.eff e)
    |none=>none
  |_,_,_,_=>none
 | .call c=>match c.callee,gA ev c.args.toList with
  | .builtin .append,some [s,x]=>match x5 P c.argTypes s x with
   |some e=>some e
   |none=>match mn P c.argTypes s x with
    |some e=>some (.eff e)
    |none=>none
  | .builtin .copy,some [d,x]=>match x9 P c.argTypes d x with
   |some e=>some e
   |none=>match mo P c.argTypes d x with
    |some e=>some (.eff e)
    |none=>none
  |_,_=>match cf P glob ops ev o with
   |some e=>some (.eff e)
   |none=>none
 |_=>match cf P glob ops ev o with
  |some e=>some (.eff e)
  |none=>none
variable (O:bn) (n:Nat)
abbrev bq:=St→(AExit→St→Prop)→Prop
inductive tJ where
 |val (v:AV)
 |part (L:List Nat) (v:AV) (H2:af) (m:Nat)
abbrev eP:=FuncId→List AV→af→Nat→Option tJ
def aH:eP:=fun _ _ _ _=>none
structure q9 where
 see:List AV→af→List Nat
 run:List AV→af→Nat→(AV→af→Nat→Prop)→Prop
def ye:FuncId→Option q9:=fun _=>none
def iI:Nat→Option (St→(St→Prop)→Prop):=fun _=>none
structure aX where
 hint:Nat→Nat→Option dU:=fun _ _=>none
 ls:Nat→Option bq:=fun _=>none
 cx:aY:=fun _ _ _ _ _=>none
 sem:eP:=aH
 inl:FuncId→Option q9:=ye
 cut:Nat→Option (St→(St→Prop)→Prop):=iI
def yf (L:List Nat) (H2:af) (nx:Nat) (h:af):af:=Mods.app (i8 (gb H2 L) (fH nx H2 H2)) h
def rg (args:List AV) (h:af) (nx:Nat) (K:AV→af→Nat→Foot→Prop) (T:q9):Prop:=
 T.run args (bZ h (T.see args h)) nx fun v H2 nx2=>au (Nat.ble nx nx2) (K v (yf (T.see args h) H2 nx h) nx2 ⟨true,T.see args h,nx::T.see args h⟩)
def oB (f:FuncId) (args:List AV) (h:af) (nx:Nat) (K:AV→af→Nat→Foot→Prop):tJ→Prop
 | .val v=>SemCall P O.glob f args v∧K v h nx ⟨false,[],[]⟩
 | .part L v H2 m=>cw P O.glob f args (bZ h L) nx v H2 (nx+m)∧K v (yf L H2 nx h) (nx+m) ⟨true,L,nx::L⟩
variable (A:aX)
def gg (id d:Nat) (e:Eff) (h:af) (nx:Nat) (K:AV→af→Nat→Foot→Prop):Prop:=
 match be (bv P O n) id d e h nx with
 |some (v,h',nx',ft)=>K v h' nx' ft
 |none=>False
def fL (id:Nat):Nat→Eff→af→Nat→(AV→af→Nat→Foot→Prop)→Prop
  | 0, e,h,nx,K=>match e with
    | .call f args=>match A.cx f args id h nx with
      |some (v,h',nx',ft)=>K v h' nx' ft
      | none=>match A.sem f args h nx with
       |some r=>oB P O f args h nx K r
       | none=>match A.inl f with
        |some T=>rg args h nx K T
        |none=>match O.how f with
         | .pure=>match O.summ f args with
           |some v=>au (ac args) (K v h nx ⟨false,[],[]⟩)
           |none=>gg P O n id 0 (.call f args) h nx K
         |_=>gg P O n id 0 (.call f args) h nx K
    |e=>gg P O n id 0 e h nx K
  | d + 1, e,h,nx,K=>match e with
    | .call f args=>match A.cx f args id h nx with
      |some (v,h',nx',ft)=>K v h' nx' ft
      | none=>match A.sem f args h nx with
       |some r=>oB P O f args h nx K r
       | none=>match A.inl f with
        |some T=>rg args h nx K T
        |none=>match O.how f with
         | .pure=>match O.summ f args with
           |some v=>au (ac args) (K v h nx ⟨false,[],[]⟩)
           |none=>gg P O n id (d+1) (.call f args) h nx K
         |_=>gg P O n id (d+1) (.call f args) h nx K
    | .read i k=>match hget h i with
      | some b=>match k b with
        |some e=>fL id d e h nx fun v h' nx' ft=>K v h' nx' ⟨ft.all,i::ft.r,ft.w⟩
        |none=>False
      |none=>False
    |e=>gg P O n id (d+1) e h nx K
def rh (id:Nat) (h:af) (nx:Nat) (K:AV→af→Nat→Foot→Prop):Option ES→Prop
 |none=>False
 |some (.eff e)=>fL P O n A id 2 e h nx K
 |some (.obl b e)=>au b (fL P O n A id 2 e h nx K)
 |some (.app b i k v)=>au b (match hget h i with
  |some (.cells l)=>au (k l).1 (K (v id) (bz (br h i) id (.cells (k l).2)) nx ⟨false,[],[i,id]⟩)
  |_=>False)
 |some (.put b i k v)=>au b (match hget h i with
  |some (.cells l)=>au (k l).1 (K v (bz h i (.cells (k l).2)) nx ⟨false,[],[i]⟩)
  |_=>False)
 | some (.pick b x y)=>match b with
  |true=>match x with
   |some v=>K v h nx ⟨false,[],[]⟩
   |none=>False
  |false=>match y with
   |some v=>K v h nx ⟨false,[],[]⟩
   |none=>False
def yg (ev:Operand→Option AV) (o:Oper) (r:AV):Option Prop:=
 match o.op with
 | .convert s d x=>match ev x with
  |some v=>some (cR P s d v=some (.val r))
  |none=>none
 | .indexAddr t x i=>match ev x,ev i with
  |some v,some w=>some (aC P t v w=some r)
  |_,_=>none
 | .index t x i=>match ev x,ev i with
  |some v,some w=>some (cm P t v w=some r)
  |_,_=>none
 | .slice t x lo hi mx=>match ev x,fC ev lo,fC ev hi,fC ev mx with
  |some x,some lo,some hi,some mx=>some (i4 P t x lo hi mx=some (.val r))
  |_,_,_,_=>none
 | .binOp op t x y _=>match ev x,ev y with
  |some v,some w=>some (aM P op t x y v w=some r)
  |_,_=>none
 | .call c=>match c.callee,gA ev c.args.toList with
  | .builtin b,some args=>some (mr P b c.argTypes args=some (.val r))
  |_,_=>none
 |_=>none
def iJ (ops:List Oper) (id:Nat) (o:Oper) (s:St) (K:AV→af→Nat→Foot→Prop):dU→Prop
 | .plain=>match cf P O.glob ops (bt s.slots) o with
  |some e=>fL P O n A id 2 e s.heap s.nx K
  |none=>False
 | .ans a=>match tC P O n (fun _ _ _ _ _=>none) ops id o s a with
  |some ((v,h,nx,ft),F)=>eh P O F∧K v h nx ft
  |none=>False
 | .el v=>match o.op with
  | .indexAddr t x i=>match bt s.slots x,bt s.slots i with
   | some (.fsl _ es),some w=>match kW w,dv P t with
    |some (b,k),some e=>match bR P e with
     |some sz=>cC es k=some v∧au (b&&Nat.beq (aa v.cells) sz) (K (.fptr v.cells 0) s.heap s.nx ⟨false,[],[]⟩)
     |none=>False
    |_,_=>False
   |_,_=>False
  |_=>False
 | .ld v=>match o.op with
  | .load t a=>match bt s.slots a with
   |some (.ptr i off)=>match hget s.heap i with
    |some (.cells l)=>b8 P t l off=some v∧K v s.heap s.nx ⟨false,[i],[]⟩
    |_=>False
   |some (.fptr cs off)=>b8 P t cs off=some v∧K v s.heap s.nx ⟨false,[],[]⟩
   |some (.gptr g off)=>fA P t (.gptr g off) O.glob=some (.val v)∧K v s.heap s.nx ⟨false,[],[]⟩
   |_=>False
  |_=>False
 | .res r=>match yg P (bt s.slots) o r with
  |some p=>p∧K r s.heap s.nx ⟨false,[],[]⟩
  |none=>False
abbrev Kn:=List (Nat × Bool)
def jP:Kn→Nat→Option Bool
 |[],_=>none
 |(d,b)::t,k=>match Nat.beq d k with
  |true=>some b
  |false=>jP t k
def ri:Kn→Nat→Kn
 |[],_=>[]
 |(d,b)::t,k=>match Nat.beq d k with
  |true=>ri t k
  |false=>(d,b)::ri t k
def jQ (kn:Kn):Option Tmp→Kn
 |some d=>ri kn d
 |none=>kn
def yh (kn:Kn) (slots:Tr) (x:Operand):Option AV:=match x with
 | .tmp t=>match jP kn t with
  |some b=>some (.bool b)
  |none=>bt slots (.tmp t)
 |x=>bt slots x
def iK (rid:Nat) (ops:List Oper) (id i:Nat) (o:Oper) (s:St) (kn:Kn) (K:Kn→St→Foot→Prop):Prop:=
 match A.hint rid i with
 |some a=>iJ P O n A ops id o s (fun v h nx ft=>K (jQ kn o.dst) ⟨cg s.n s.slots o.dst v,h,nx,s.n⟩ ft) a
 |none=>rh P O n A id s.heap s.nx (fun v h nx ft=>K (jQ kn o.dst) ⟨cg s.n s.slots o.dst v,h,nx,s.n⟩ ft) (oA P O.glob ops (yh kn s.slots) o)
def mR (o:Oper) (s:St) (kn:Kn) (K:Kn→St→Foot→Prop):Prop:=K (jQ kn o.dst) ⟨cg s.n s.slots o.dst f6,s.heap,s.nx,s.n⟩ ⟨false,[],[]⟩
def rj (rid:Nat) (ops:List Oper) (id i:Nat) (o:Oper) (s:St) (kn:Kn) (K:Kn→St→Foot→Prop):Prop:=
 match o.guard with
 |none=>iK P O n A rid ops id i o s kn K
 | some (j,want)=>match cC ops j with
  | some g=>match g.dst with
   | some d=>match jP kn d with
    | some b=>match want with
     |true=>match b with
      |true=>iK P O n A rid ops id i o s kn K
      |false=>mR o s kn K
     |false=>match b with
      |true=>mR o s kn K
      |false=>iK P O n A rid ops id i o s kn K
    | none=>match s.slots.get d with
     | some (.bool b)=>match want with
      |true=>match b with
       |true=>iK P O n A rid ops id i o s ((d,true)::kn) K
       |false=>mR o s ((d,false)::kn) K
      |false=>match b with
       |true=>mR o s ((d,true)::kn) K
       |false=>iK P O n A rid ops id i o s ((d,false)::kn) K
     |some (.tuple [])=>mR o s kn K
     |_=>False
   |none=>False
  |none=>False
def rk (rid:Nat) (all:List Oper) (base:Nat):List Oper→Nat→St→Kn→List (Nat × Foot)→(St→List (Nat × Foot)→Prop)→Prop
 |[],_,s,_,acc,K=>K s acc
 |o::rest,i,s,kn,acc,K=>rj P O n A rid all (base+i) i o s kn fun kn' s' ft=>rk rid all base rest (i+1) s' kn' (match ft.none with|true=>acc|false=>(i,ft)::acc) K
def tK (B:St→(AExit→St→Prop)→Prop):Nat→St→(AExit→St→Prop)→Prop
 |0,_,_=>False
 |k+1,s,Q=>B s (tH (fun s'=>tK B k s' Q) Q)
end
def kY:Code→Nat
 | .region id _ _=>id+1
 | .seq a b=>match kY a with
  |0=>kY b
  |k+1=>k+1
 | .cond _ a b=>match kY a with
  |0=>kY b
  |k+1=>k+1
 | .block _ c=>kY c
 | .loop c=>kY c
 |_=>0
def bu:Code→Nat→List Code
 | .seq a b,r=>bu a r++bu b r
 | .cond _ a b,r=>bu a r++bu b r
 | .block _ c,r=>bu c r
 | .loop c,r=>(match Nat.beq (kY c) r with
  |true=>[c]
  |false=>[])++bu c r
 |_,_=>[]
section
variable (P:Program) (O:bn) (n:Nat) (A:aX)
def rl (rid:Nat) (ops:Array Oper) (draw:Bool) (s:St) (Q:AExit→St→Prop):Prop:=
 rk P O n A rid ops.toList s.nx ops.toList 0 ⟨s.slots,s.heap,s.nx+aa ops.toList,s.n⟩ [] [] fun s' feet=>match draw with
  |false=>Q .normal s'
  |true=>au (jH ops.toList&&i7 (dT ops.toList []) feet) (Q .normal s')
def yi (c:Operand) (b:Bool) (s:St):St:=match c with
 | .tmp d=>⟨cg s.n s.slots (some d) (.bool b),s.heap,s.nx,s.n⟩
 |_=>s
def aI:Code→St→(AExit→St→Prop)→Prop
 | .skip,s,Q=>Q .normal s
 | .label _,s,Q=>Q .normal s
 | .exit i,s,Q=>Q (.exit i) s
 | .ret,s,Q=>Q .ret s
 | .region rid ops draw,s,Q=>match A.cut rid with
  |some C=>C s fun s=>rl P O n A rid ops draw s Q
  |none=>rl P O n A rid ops draw s Q
 | .seq a b,s,Q=>aI a s (tH (fun s'=>aI b s' Q) Q)
 | .cond c a b,s,Q=>match bt s.slots c with
  |some (.bool t)=>match t with
   |true=>aI a (yi c true s) Q
   |false=>aI b (yi c false s) Q
  |_=>False
 | .block id body,s,Q=>aI body s (oz id Q)
 | .loop body,s,Q=>match A.ls (kY body) with
  |some L=>L s Q
  |none=>tK (aI body) O.lf s Q
 |_,_,_=>False
def ax (f:FuncId) (args:List AV) (H:af) (nx:Nat) (Q:AV→af→Nat→Prop):Prop:=
  match P.funcs[f]? with
  | some fn=>match fn.body with
    | some c=>match fn.name== "runtime.NumGoroutine" with
      |true=>False
      | false=>match Nat.ble (aa args) fn.ntmps&&Nat.ble fn.ntmps 4095 with
       |false=>False
       |true=>aI P O n A c ⟨dy args 0 .tip,H,nx,fn.ntmps⟩ fun e s=>match e with
        | .exit _=>False
        | _=>match dw P O.glob s fn.results.toList with
          |some l=>Q (dx l) s.heap s.nx
          |none=>False
    |none=>False
  |none=>False
end
end
end Go.Proofs.Abs
/- The abstract machine in continuation form says but what is so. -/
namespace Go.Proofs.Abs
open Go
theorem oblB_iff {b:Bool} {K:Prop}:au b K↔b=true∧K:=by cases b<;>simp[au]
theorem aj {b:Bool} {T F:Prop} (ht:b=true→T) (hf:b=false→F):ab b T F:=by cases b<;>simp_all [ab]
section
variable {P:Program}
theorem yj {eq eq':TypeId→AV→AV→Option Bool} (h:∀t x y r,eq t x y=some r→eq' t x y=some r):∀ (fs:List Field) (xs ys:List AV) (r:Bool),eqF P eq fs xs ys=some r→jF P eq' fs xs ys=some r
 |[],xs,ys,r,hr=>by simpa [eqF,jF] using hr
 | f ::fs,xs,ys,r,hr=>by
  simp only[eqF] at hr
  simp only[jF]
  split at hr
  ·rename_i hn;simp only[hn];exact yj h fs xs ys r hr
  ·rename_i hn
   simp only[hn]
   split at hr
   ·rename_i a b ha hb
    simp only[ha,hb]
    split at hr
    ·rename_i p q hp hq
     simp only[Option.some.injEq] at hr
     subst hr
     rw[h _ _ _ _ hp]
     cases p with
     |true=>simpa using yj h fs xs ys q hq
     |false=>rfl
    ·cases hr
   ·cases hr
theorem Dd {eq eq':TypeId→AV→AV→Option Bool} (h:∀t x y r,eq t x y=some r→eq' t x y=some r) {e:TypeId} {sz:Nat} {xs ys:List AV}:∀ (is:List Nat) (r:Bool),q6 P eq e sz xs ys is=some r→kF P eq' e sz xs ys is=some r
 |[],r,hr=>by simpa [q6,kF] using hr
 | i::is,r,hr=>by
  simp only[q6] at hr
  simp only[kF]
  split at hr
  ·rename_i a b ha hb
   simp only[ha,hb]
   split at hr
   ·rename_i p q hp hq
    simp only[Option.some.injEq] at hr
    subst hr
    rw[h _ _ _ _ hp]
    cases p with
    |true=>simpa using Dd h is q hq
    |false=>rfl
   ·cases hr
  ·cases hr
theorem tL:∀ (d:Nat) (t:TypeId) (x y:AV) (r:Bool),mQ P d t x y=some r→dI P d t x y=some r
 |0,_,_,_,_,h=>by simp[mQ] at h
 | d +1,t,x,y,r,h=>by
  unfold mQ at h
  split at h
  ·rename_i xs ys
   split at h
   ·rename_i fs hu
    split at h
    ·cases h
    ·rename_i hs
     unfold dI
     simp only[hu,hs]
     exact yj (tL d) _ _ _ _ h
   ·rename_i n e hu
    split at h
    ·rename_i sz hs
     unfold dI
     simp only[hu,hs]
     exact Dd (tL d) _ _ h
    ·cases h
   ·cases h
  ·exact h
theorem oC {w:AV} {b:Bool} {k:Nat} (h:kW w=some (b,k)) (hb:b=true):fB w=some k:=by
 unfold kW at h
 split at h
 ·rename_i kd n
  simp only[Option.some.injEq,Prod.mk.injEq] at h
  obtain ⟨rfl,rfl⟩:=h
  cases n with
  |ofNat m=>rfl
  |negSucc m=>cases hb
 ·cases h
theorem oD {w:Option AV} {b:Bool} {k:Option Nat} (h:qZ w=some (b,k)) (hb:b=true):iy w=some k:=by
 unfold qZ at h
 split at h
 ·simp only[Option.some.injEq,Prod.mk.injEq] at h
  obtain ⟨_,rfl⟩:=h;rfl
 ·rename_i v
  split at h
  ·rename_i b' n hn
   simp only[Option.some.injEq,Prod.mk.injEq] at h
   obtain ⟨rfl,rfl⟩:=h
   simp[iy,oC hn hb]
  ·cases h
theorem tM:∀ (l:List AV) (o n:Nat),o+n≤l.length→chunk l o n=some ((l.drop o).take n)
 |l,o,0,_=>by cases l<;>simp[chunk]
 |[],o,n+1,h=>by simp at h
 |a::t,0,n+1,h=>by
  simp only[List.length_cons] at h
  simp[chunk,tM t 0 n (by omega)]
 |a::t,o+1,n+1,h=>by
  simp only[List.length_cons] at h
  simp[chunk,tM t o (n+1) (by omega)]
theorem KC {i:TypeInfo} {xd:TypeDesc} {z x:AV} {b:Bool} {m:Nat} {cs:List AV} {k:Nat→List AV→Option Eff} (hx:Dc xd=true) (h:kX i.size x=some (b,m,cs)) (hb:b=true):nM xd i.size i.bytes z x k=k m cs:=by
 have e:nM xd i.size i.bytes z x k=gz i.size x k:=by
  cases xd<;>first|(cases hx;done)|rfl
 rw[e]
 unfold kX at h
 split at h
 ·simp only[Option.some.injEq,Prod.mk.injEq] at h
  obtain ⟨rfl,rfl,rfl⟩:=h
  simp[gz,hb]
 ·simp only[Option.some.injEq,Prod.mk.injEq] at h
  obtain ⟨rfl,rfl,rfl⟩:=h;rfl
 ·simp only[Option.some.injEq,Prod.mk.injEq] at h
  obtain ⟨rfl,rfl,rfl⟩:=h;rfl
 ·simp only[Option.some.injEq,Prod.mk.injEq] at h
  obtain ⟨rfl,rfl,rfl⟩:=h
  simp only[gz,hb,if_true]
 ·cases h
theorem KD {sz:Nat} {x:AV} {b:Bool} {cs:List AV} (h:kX sz x=some (b,0,cs)):cs=[]:=by
 unfold kX at h
 split at h
 ·rename_i es
  simp only[Option.some.injEq,Prod.mk.injEq] at h
  obtain ⟨_,h1,rfl⟩:=h
  cases es with
  |nil=>rfl
  |cons a r=>simp[aa] at h1
 ·simp only[Option.some.injEq,Prod.mk.injEq] at h
  exact h.2.2.symm
 ·simp only[Option.some.injEq,Prod.mk.injEq] at h
  exact h.2.2.symm
 ·rename_i s
  simp only[Option.some.injEq,Prod.mk.injEq] at h
  obtain ⟨_,h1,rfl⟩:=h
  cases s with
  |nil=>rfl
  |cons a r=>simp[aa] at h1
 ·cases h
theorem KE (l:List AV) (k:Nat):splice l k []=some l:=by cases l<;>cases k<;>rfl
theorem KF {argTypes:Array TypeId} {s x:AV} {es:ES} (h:x5 P argTypes s x=some es):es.ok (mn P argTypes s x):=by
 unfold x5 at h
 split at h
 ·rename_i st xt h1 h2
  split at h
  ·rename_i e xd h3 h4
   split at h
   ·rename_i i z hx hi hz
    split at h
    ·cases h
    ·rename_i hc
     split at h
     ·rename_i b m cs hsrc
      have hA:∀k,b=true→nM xd i.size i.bytes z x k=k m cs:=fun k hb=>KC hx hsrc hb
      unfold mn
      simp only[h1,h2,h3,h4,hi,hz]
      rw[Bool.or_eq_false_iff,Bool.or_eq_false_iff] at hc
      obtain ⟨⟨c1,c2⟩,c3⟩:=hc
      simp only[c1,c2,c3,Bool.or_self,Bool.false_eq_true,if_false]
      unfold Db at h
      split at h
      ·split at h
       ·rename_i hm
        simp only[Option.some.injEq] at h;subst h
        intro hb
        rw[hA _ hb];simp[hm]
       ·rename_i hm
        simp only[Option.some.injEq] at h;subst h
        intro hb
        rw[Bool.and_eq_true] at hb
        rw[hA _ hb.1];simp only[hm,hb.2,Bool.false_eq_true,if_false,if_true]
      ·split at h
       ·rename_i hm
        simp only[Option.some.injEq] at h;subst h
        intro hb
        rw[hA _ hb];simp[hm]
       ·rename_i hm
        simp only[Option.some.injEq] at h;subst h
        intro hb
        rw[Bool.and_eq_true] at hb
        rw[hA _ hb.1];simp only[hm,hb.2,Bool.false_eq_true,if_false,if_true]
      ·rename_i id len sz
       simp only[Option.some.injEq] at h;subst h
       intro hb
       rw[Bool.and_eq_true,Bool.and_eq_true] at hb
       obtain ⟨hb,hb1,hb2⟩:=hb
       rw[hA _ hb]
       simp only[hb1,hb2,Bool.true_and,if_true]
       refine ⟨_,rfl,fun l hl=> ?_⟩
       have hl:=beq_iff.1 hl
       have hs:i.size≠0:=beq_false_iff.1 c1
       cases hm:Nat.beq m 0 with
       | false=>
        have hm:m≠0:=beq_false_iff.1 hm
        have:¬ ((len+m)*i.size≤aa l):=by
         rw[hl]
         intro hle
         have:=Nat.le_of_mul_le_mul_right hle (Nat.pos_of_ne_zero hs)
         omega
        simp only
        rw[if_neg (by simpa using this),if_pos (by simp[hl])]
        rw[List.take_of_length_le (by rw[←aE];omega)]
       |true=>
        obtain rfl:=beq_iff.1 hm
        obtain rfl:=KD hsrc
        simp only[Nat.add_zero]
        rw[if_pos (by simp[hl]),KE,List.append_nil]
      ·cases h
     ·cases h
   ·cases h
  ·cases h
 ·cases h
theorem KG {t:TypeId} {x:AV} {lo hi mx:Option AV} {es:ES} (h:x6 P t x lo hi mx=some es):es.ok (i4 P t x lo hi mx):=by
 unfold x6 at h
 split at h
 ·rename_i b1 l b2 hh hl hhi
  split at h
  ·rename_i s
   split at h
   ·rename_i hu
    simp only[Option.some.injEq] at h;subst h
    intro hb
    simp only[Bool.and_eq_true] at hb
    obtain ⟨k1,k2,k3,k4⟩:=hb
    have q1:=oD hl k1
    have q2:=oD hhi k2
    have q3:iy none=some none:=rfl
    simp only[i4,q1,q2,q3,wC,hu,k3,k4,Option.isNone_none,Bool.and_self]
   ·cases h
  ·rename_i full es'
   split at h
   ·rename_i e he
    split at h
    ·rename_i sz hsz
     simp only[Option.some.injEq] at h;subst h
     intro hb
     simp only[Bool.and_eq_true] at hb
     obtain ⟨k1,k2,k3,k4,k5⟩:=hb
     have q1:=oD hl k1
     have q2:=oD hhi k2
     have q3:iy none=some none:=rfl
     simp only[i4,q1,q2,q3,wD,he,hsz,k3,k4,k5,Bool.and_self,wB]
     rw[tM _ _ _ (by rw[←aE];rw[Nat.ble_eq] at k4 k5;omega)]
    ·cases h
   ·cases h
  ·rename_i own id off len sz'
   split at h
   ·rename_i h0
    split at h
    ·rename_i e he
     split at h
     ·rename_i sz hsz
      simp only[Option.some.injEq] at h;subst h
      intro hb
      simp only[Bool.and_eq_true] at hb
      obtain ⟨k2,k3,k4⟩:=hb
      have e1:b1=true:=by
       unfold qZ at hl
       split at hl
       ·simp only[Option.some.injEq,Prod.mk.injEq] at hl;exact hl.1.symm
       ·split at hl
        ·simp at hl
        ·cases hl
      have q1:=oD hl e1
      have q2:=oD hhi k2
      have q3:iy none=some none:=rfl
      simp only[i4,q1,q2,q3,wE,he,hsz,k3,Option.getD_none,Option.getD_some,k4,Option.isNone_none,Bool.and_true]
      have k5:Nat.ble 0 h0=true:=by simp
      simp[qe,beq_iff.1 k3,k5]
     ·cases h
    ·cases h
   ·cases h
  ·cases h
 ·cases h
theorem KH {src dst:TypeId} {x:AV} {es:ES} (h:x7 P src dst x=some es):es.ok (cR P src dst x):=by
 unfold x7 at h
 split at h
 ·rename_i e f l hs hd
  split at h
  ·rename_i hb
   simp only[Option.some.injEq] at h;subst h
   intro hi
   unfold cR
   simp only[hs,hd,hb,sR]
   cases hl:cW l with
   |none=>rw[hl] at hi;cases hi
   |some s=>simp[kG,gH,hl]
  ·cases h
 ·cases h
theorem KI {t:TypeId} {l c:AV} {es:ES} (h:x8 P t l c=some es):es.ok (qc P t l c):=by
 unfold x8 at h
 split at h
 ·rename_i e b1 l' b2 c' he hl hc
  split at h
  ·rename_i i z hi hz
   simp only[Option.some.injEq] at h;subst h
   intro hb
   rw[Bool.and_eq_true,Bool.and_eq_true] at hb
   obtain ⟨k1,k2,k3⟩:=hb
   simp only[qc,he,oC hl k1,oC hc k2,hi,hz,k3]
  ·cases h
 ·cases h
theorem yk {l:List AV} {o:Nat} {vs:List AV} (h:o+vs.length≤l.length):splice l o vs=some (q5 l o vs):=by
  unfold q5
  rw[aE]
  exact go l o vs h
 where
  go:∀ (l:List AV) (o:Nat) (vs:List AV),o+vs.length≤l.length→splice l o vs=some (l.take o++(vs++l.drop (o+vs.length)))
    |l,o,[],_=>by cases l<;>simp[splice]
    |[],o,_::_,h=>by simp at h
    | a::t,0,v::vs,h=>by
      simp only[List.length_cons] at h
      have:=go t 0 vs (by omega)
      simp only[splice,this]
      simp
    | a::t,o+1,v::vs,h=>by
      simp only[List.length_cons] at h
      have:=go t o (v::vs) (by simp only[List.length_cons];omega)
      simp only[splice,this]
      simp[show o+1+(vs.length+1)=o+(vs.length+1)+1 by omega]
theorem KJ {sz:Nat} {x:AV} {b:Bool} {m:Nat} {cs:List AV} {k:Nat→List AV→Option Eff} (h:kX sz x=some (b,m,cs)) (hb:b=true):gz sz x k=k m cs:=by
 unfold kX at h
 split at h
 ·simp only[Option.some.injEq,Prod.mk.injEq] at h
  obtain ⟨rfl,rfl,rfl⟩:=h
  simp[gz,hb]
 ·simp only[Option.some.injEq,Prod.mk.injEq] at h
  obtain ⟨rfl,rfl,rfl⟩:=h;rfl
 ·simp only[Option.some.injEq,Prod.mk.injEq] at h
  obtain ⟨rfl,rfl,rfl⟩:=h;rfl
 ·simp only[Option.some.injEq,Prod.mk.injEq] at h
  obtain ⟨rfl,rfl,rfl⟩:=h
  simp only[gz,hb,if_true]
 ·cases h
theorem KK {argTypes:Array TypeId} {d x:AV} {es:ES} (h:x9 P argTypes d x=some es):es.ok (mo P argTypes d x):=by
 unfold x9 at h
 split at h
 ·rename_i t ht
  split at h
  ·rename_i e he
   split at h
   ·rename_i sz hsz
    split at h
    ·rename_i own id off len s'
     split at h
     ·rename_i b m cs hsrc
      simp only[Option.some.injEq] at h;subst h
      intro hb
      rw[Bool.and_eq_true] at hb
      unfold mo
      simp only[ht,he,hsz,KJ hsrc hb.1,hb.2,if_true]
      refine ⟨_,rfl,fun l hl=> ?_⟩
      have hl:off+(cs.take (min m len*sz)).length≤l.length:=by simpa [aE] using hl
      simp only[yk hl]
     ·cases h
    ·cases h
   ·cases h
  ·cases h
 ·cases h
theorem De {t:TypeId} {v:AV} {n:Nat} (h:bM P t v n=true):(Nat.beq (aa v.cells) n&&bc v.cells)=true∧tI P t v=v.cells:=by
 unfold bM at h
 unfold tI
 split at h
 ·rename_i ht
  rw[Bool.and_eq_true] at h
  have e:=tj h.1
  have hn:=beq_iff.1 h.2
  subst hn
  exact ⟨by rw[e];simp[aa,bc,h.1],e.symm⟩
 ·rename_i hne
  exact ⟨h,rfl⟩
theorem KL {t:TypeId} {a v:AV} {es:ES} (h:ya P t a v=some es):es.ok (mh P t a v):=by
 unfold ya at h
 split at h
 ·rename_i id off
  split at h
  ·rename_i n hn
   simp only[Option.some.injEq] at h;subst h
   intro hb
   obtain ⟨hb,hc⟩:=De hb
   have hb1:=(Bool.and_eq_true _ _▸hb:_∧_).1
   refine ⟨_,by simp only[mh,hn,hb,if_true];rfl,fun l hl=> ?_⟩
   have hl:off+v.cells.length≤l.length:=by
    have h1:=beq_iff.1 hb1
    rw[aE] at h1
    simpa [aE,h1] using hl
   simp only[hc,yk hl,Option.map_some]
  ·cases h
 ·cases h
theorem KM {t:TypeId} {v:AV} {es:ES} (h:yb P t v=some es):es.ok (nP v):=by
 unfold yb at h
 split at h
 ·simp only[Option.some.injEq] at h;subst h
  intro hb
  simp only[nP,tj hb]
 ·cases h
theorem Df {fs:List Field} {pl:List (Nat × Nat)}:∀ {parts:List (Nat × AV)} {cells c:List AV} {b:Bool},q7 P fs pl cells parts=some (b,c)→b=true→iz (cC pl) cells parts=some c
 |[],_,_,_,h,_=>by
  simp only[q7,Option.some.injEq,Prod.mk.injEq] at h
  simp only[iz,h.2]
 | (i,v)::rest,cells,c,b,h,hb=>by
  unfold q7 at h
  split at h
  ·rename_i f off s hf hp
   split at h
   ·rename_i hs
    split at h
    ·rename_i b' c' hr
     simp only[Option.some.injEq,Prod.mk.injEq] at h
     obtain ⟨rfl,rfl⟩:=h
     rw[Bool.and_eq_true] at hb hs
     obtain ⟨h1,h2⟩:=De hb.1
     rw[Bool.and_eq_true] at h1
     have hl:=beq_iff.1 h1.1
     rw[aE] at hl
     have hle:=Nat.le_of_ble_eq_true hs.2
     rw[aE] at hle
     have:=Df hr hb.2
     rw[h2] at this
     simp only[iz,hp,h1.1,hs.1,Bool.and_self,if_true,yk (show off+v.cells.length≤cells.length by omega),this]
    ·cases h
   ·cases h
  ·cases h
theorem KN {t:TypeId} {parts:List (Nat × AV)} {es:ES} (h:yc P t parts=some es):es.ok (bS (qg P t parts)):=by
 unfold yc at h
 split at h
 ·rename_i z fs hz hu
  split at h
  ·rename_i pl hpl
   split at h
   ·rename_i b c hc
    simp only[Option.some.injEq] at h;subst h
    intro hb
    simp only[qg,hz,hu,hpl,Df hc hb,ml,bS]
   ·cases h
  ·cases h
 ·cases h
theorem KO {t:TypeId} {x i:AV} {es:ES} (h:yd P t x i=some es):es.ok (bS (aC P t x i)):=by
 unfold yd at h
 split at h
 ·rename_i e own id off len sz' b k hu hn
  split at h
  ·rename_i sz hsz
   simp only[Option.some.injEq] at h;subst h
   intro hb
   rw[Bool.and_eq_true] at hb
   have q1:=oC hn hb.1
   simp only[aC,q1,hu,hsz,hb.2,Option.bind_eq_bind,Option.bind_some,if_true,bS]
  ·cases h
 ·cases h
theorem cP {G:aP} {ops:List Oper} {ev:Operand→Option AV} {o:Oper} (h:ou o.op=true):cf P G ops ev o=bC P G ev o:=by
 unfold cf
 split
 ·rename_i ho _;rw[ho] at h;cases h
 ·rfl
theorem KP {G:aP} {ops:List Oper} {ev:Operand→Option AV} {o:Oper} {es:ES} (h:oA P G ops ev o=some es):es.ok (cf P G ops ev o):=by
 have plain:(match cf P G ops ev o with
   |some e=>some (ES.eff e)
   |none=>none)=some es→es.ok (cf P G ops ev o):=fun h=>by
  split at h
  ·rename_i e he
   simp only[Option.some.injEq] at h;subst h
   exact he
  ·cases h
 unfold oA at h
 split at h
 ·rename_i c a b ho
  rw[cP (by rw[ho];rfl)]
  split at h
  ·rename_i t ht
   simp only[Option.some.injEq] at h;subst h
   refine ⟨?_, ?_⟩<;>rintro rfl<;>simp[bC,ho,sW,ht]
  ·cases h
 ·rename_i op t x y t' ho
  split at h
  ·rename_i a b hx hy
   simp only[Option.some.injEq] at h;subst h
   intro hb
   rw[cP (by rw[ho];rfl)]
   simp only[bC,ho,e2,hx,hy,bS,aM,hb,if_true]
  ·rename_i a b hx hy
   split at h
   ·rename_i r hg hr
    simp only[Option.some.injEq] at h;subst h
    show _=some _
    rw[cP (by rw[ho];rfl)]
    simp only[bC,ho,e2,hx,hy,bS,aM,hg,tL _ _ _ _ _ hr,Bool.false_eq_true,if_false,Option.map_some]
   ·cases h
  ·rename_i a b hx hy
   split at h
   ·rename_i r hg hr
    simp only[Option.some.injEq] at h;subst h
    show _=some _
    rw[cP (by rw[ho];rfl)]
    simp only[bC,ho,e2,hx,hy,bS,aM,hg,tL _ _ _ _ _ hr,Bool.false_eq_true,if_false,Option.map_some]
   ·cases h
  ·rename_i k a k' b hx hy
   split at h
   ·rename_i hk
    have hk:=of_decide_eq_true hk
    subst hk
    simp only[Option.some.injEq] at h;subst h
    intro hb
    have hb:ak b 0=false:=by simpa using hb
    rw[cP (by rw[ho];rfl)]
    simp[bC,ho,e2,hx,hy,bS,aM,hb]
   ·cases h
  ·rename_i k a k' b hx hy
   split at h
   ·rename_i hk
    have hk:=of_decide_eq_true hk
    subst hk
    simp only[Option.some.injEq] at h;subst h
    intro hb
    have hb:ak b 0=false:=by simpa using hb
    rw[cP (by rw[ho];rfl)]
    simp[bC,ho,e2,hx,hy,bS,aM,hb]
   ·cases h
  ·exact plain h
 ·rename_i t a x ho
  split at h
  ·rename_i a' x' ha hx
   rw[cP (by rw[ho];rfl)]
   have:=KL h
   simpa only[bC,ho,e2,ha,hx] using this
  ·cases h
 ·rename_i t x ho
  split at h
  ·rename_i v hx
   split at h
   ·rename_i e he
    simp only[Option.some.injEq] at h;subst h
    rw[cP (by rw[ho];rfl)]
    have:=KM he
    simpa only[bC,ho,e1,hx] using this
   ·exact plain h
  ·cases h
 ·rename_i t parts ho
  split at h
  ·rename_i ps hps
   split at h
   ·rename_i e he
    simp only[Option.some.injEq] at h;subst h
    rw[cP (by rw[ho];rfl)]
    have:=KN he
    simpa only[bC,ho,sX,hps] using this
   ·exact plain h
  ·cases h
 ·rename_i t x i ho
  split at h
  ·rename_i x' i' hx hi
   split at h
   ·rename_i e he
    simp only[Option.some.injEq] at h;subst h
    rw[cP (by rw[ho];rfl)]
    have:=KO he
    simpa only[bC,ho,e2,hx,hi] using this
   ·exact plain h
  ·cases h
 ·rename_i s d x ho
  split at h
  ·rename_i f l hx
   split at h
   ·rename_i e he
    simp only[Option.some.injEq] at h;subst h
    rw[cP (by rw[ho];rfl)]
    have:=KH he
    simpa only[bC,ho,e1,hx] using this
   ·exact plain h
  ·exact plain h
 ·rename_i t x i ho
  split at h
  ·rename_i s w hu hx hi
   split at h
   ·rename_i b k hk
    simp only[Option.some.injEq] at h;subst h
    intro hb
    rw[Bool.and_eq_true] at hb
    rw[cP (by rw[ho];rfl)]
    have hlt:k<s.length:=by rw[←aE];exact blt_iff.1 hb.2
    have hg:cC s k=some (iH s k):=by rw[fJ];simp[iH,hlt]
    simp[bC,ho,e2,hx,hi,cm,oC hk hb.1,hu,hg,bS]
   ·cases h
  ·exact plain h
 ·rename_i t l c ho
  split at h
  ·rename_i l' c' hl hc
   rw[cP (by rw[ho];rfl)]
   have:=KI h
   simpa only[bC,ho,e2,hl,hc] using this
  ·cases h
 ·rename_i t x lo hi mx ho
  split at h
  ·rename_i x' lo' hi' mx' h1 h2 h3 h4
   rw[cP (by rw[ho];rfl)]
   have e:bC P G ev o=i4 P t x' lo' hi' mx':=by simp only[bC,ho,qw,h1,h2,h3,h4]
   rw[e]
   split at h
   ·rename_i es' he
    simp only[Option.some.injEq] at h;subst h
    exact KG he
   ·split at h
    ·rename_i e' he
     simp only[Option.some.injEq] at h;subst h
     exact he
    ·cases h
  ·cases h
 ·rename_i c ho
  split at h
  ·rename_i s x hc hargs
   rw[cP (by rw[ho];rfl)]
   have e:bC P G ev o=mn P c.argTypes s x:=by simp only[bC,ho,i6,hargs,hc,mr]
   rw[e]
   split at h
   ·rename_i es' he
    simp only[Option.some.injEq] at h;subst h
    exact KF he
   ·split at h
    ·rename_i e' he
     simp only[Option.some.injEq] at h;subst h
     exact he
    ·cases h
  ·rename_i d x hc hargs
   rw[cP (by rw[ho];rfl)]
   have e:bC P G ev o=mo P c.argTypes d x:=by simp only[bC,ho,i6,hargs,hc,mr]
   rw[e]
   split at h
   ·rename_i es' he
    simp only[Option.some.injEq] at h;subst h
    exact KK he
   ·split at h
    ·rename_i e' he
     simp only[Option.some.injEq] at h;subst h
     exact he
    ·cases h
  ·exact plain h
 ·exact plain h
variable {O:bn} {n:Nat} {A:aX}
structure cQ (P:Program) (O:bn) (A:aX):Prop where
 cx:bJ P O.glob A.cx∧bK A.cx
 sum:∀f args v,O.summ f args=some v→SemCall P O.glob f args v
 inl:∀f T,A.inl f=some T→∀args h nx K,T.run args h nx K→∃v h' nx',K v h' nx'∧cw P O.glob f args h nx v h' nx'
 cut:∀r C,A.cut r=some C→∀nx0 s K,C s K→∃s2,(∀w0 I0 α0 H0 D a w,(∀id,nx0≤id→α0 id=none)→CR O.glob w0 I0 α0 H0 nx0 D s a w→CR O.glob w0 I0 α0 H0 nx0 D s2 a w)∧K s2
theorem tN {G:aP}:bJ P G (fun _ _ _ _ _=>none)∧bK (fun _ _ _ _ _=>none):=by
 refine ⟨?_, ?_⟩
 ·intro f args rid H nx v H' nx' ft h;cases h
 ·intro f args id h nx v h' nx' ft hc;cases hc
abbrev mS (P:Program) (G:aP) (call:aY):Prop:=bJ P G call∧bK call
theorem tO (B:cU P O n) {id d:Nat} {e:Eff} {h:af} {nx:Nat} {K:AV→af→Nat→Foot→Prop} (hk:gg P O n id d e h nx K):
  ∃call,mS P O.glob call∧∃v h' nx' ft,be call id d e h nx=some (v,h',nx',ft)∧K v h' nx' ft:=by
 unfold gg at hk
 split at hk
 ·rename_i v h' nx' ft hr
  exact ⟨_,B.calls,v,h',nx',ft,hr,hk⟩
 ·exact hk.elim
theorem rm {call:aY} {id d:Nat} {f:FuncId} {args:List AV} {h:af} {nx:Nat}:be call id d (.call f args) h nx=call f args id h nx:=by cases d<;>rfl
noncomputable def mU (f0:FuncId) (args0:List AV) (L:List Nat) (H0:af) (nx0:Nat) (v:AV) (H2:af) (m:Nat):aY:=by
 classical exact fun f args _ h nx=>if f=f0∧args=args0∧nx=nx0∧bZ h L=H0 then some (v,yf L H2 nx h,nx+m,⟨true,L,nx::L⟩) else none
theorem Dg {G:aP} {f0:FuncId} {args0:List AV} {L:List Nat} {H0:af} {nx0:Nat} {v:AV} {H2:af} {m:Nat} (hB:cw P G f0 args0 H0 nx0 v H2 (nx0+m)):bJ P G (mU f0 args0 L H0 nx0 v H2 m)∧bK (mU f0 args0 L H0 nx0 v H2 m):=by
 refine ⟨?_, ?_⟩
 ·intro f args rid H nx v1 H' nx' ft hc w I α vs hr ha hrid hlt hf
  unfold mU at hc
  split at hc
  ·rename_i he
   obtain ⟨rfl,rfl,rfl,rfl⟩:=he
   simp only[Option.some.injEq,Prod.mk.injEq] at hc
   obtain ⟨rfl,rfl,rfl,rfl⟩:=hc
   obtain ⟨e1,e2⟩:=hB w I α vs (oh hr L) ha hf
   rw[e1]
   refine Calls.mono e2 ?_
   rintro e w' ⟨u,rfl,hp⟩
   exact ⟨u,rfl,xQ hr hf hp⟩
  ·cases hc
 ·intro f args id hp nx v1 h' nx' ft hc
  unfold mU at hc
  split at hc
  ·rename_i he
   obtain ⟨rfl,rfl,rfl,rfl⟩:=he
   simp only[Option.some.injEq,Prod.mk.injEq] at hc
   obtain ⟨rfl,rfl,rfl,rfl⟩:=hc
   refine ⟨fun h=>(by cases h),fun _ n l hw=> ?_⟩
   simp only[List.cons.injEq] at hw
   obtain ⟨rfl,rfl⟩:=hw
   refine ⟨rfl,by omega,_,rfl,fun p hp=> ?_,fun h2 hk=> ?_⟩
   ·rw[qT] at hp
    rcases List.mem_append.1 hp with hp|hp
    ·exact .inl (tv hp).1
    ·exact .inr (om hp).1
   ·have hC:bZ h2 L=bZ hp L:=ol _ fun i hi=>hk i (by simp[hi])
    unfold mU
    rw[if_pos ⟨rfl,rfl,rfl,hC⟩]
    rfl
  ·cases hc
theorem KQ {f:FuncId} {args:List AV} {h:af} {nx id d:Nat} {K:AV→af→Nat→Foot→Prop} {r:tJ} (hk:oB P O f args h nx K r):
  ∃call,mS P O.glob call∧∃v h' nx' ft,be call id d (.call f args) h nx=some (v,h',nx',ft)∧K v h' nx' ft:=by
 cases r with
 |val v=>exact ⟨_,xT hk.1,v,h,nx,_,by rw[rm];unfold kU;rw[if_pos ⟨rfl,rfl⟩],hk.2⟩
 |part L v H2 m=>exact ⟨_,Dg (L:=L) hk.1,v,_,_,_,by rw[rm];unfold mU;rw[if_pos ⟨rfl,rfl,rfl,rfl⟩],hk.2⟩
theorem ym (B:cU P O n) (hA:cQ P O A) {id:Nat}:∀ (d:Nat) (e:Eff) {h:af} {nx:Nat} {K:AV→af→Nat→Foot→Prop},fL P O n A id d e h nx K→
    ∃call,mS P O.glob call∧∃v h' nx' ft,be call id d e h nx=some (v,h',nx',ft)∧K v h' nx' ft:=by
  have callCase:∀ (d:Nat) (f:FuncId) (args:List AV) {h:af} {nx:Nat} {K:AV→af→Nat→Foot→Prop},(match A.cx f args id h nx with
      |some (v,h',nx',ft)=>K v h' nx' ft
      | none=>match A.sem f args h nx with
       |some r=>oB P O f args h nx K r
       | none=>match A.inl f with
        |some T=>rg args h nx K T
        |none=>match O.how f with
         | .pure=>match O.summ f args with
           |some v=>au (ac args) (K v h nx ⟨false,[],[]⟩)
           |none=>gg P O n id d (.call f args) h nx K
         |_=>gg P O n id d (.call f args) h nx K)→∃call,mS P O.glob call∧∃v h' nx' ft,be call id d (.call f args) h nx=some (v,h',nx',ft)∧K v h' nx' ft:=by
    intro d f args h nx K hk
    split at hk
    · rename_i v h' nx' ft hc
      exact ⟨_,hA.cx,v,h',nx',ft,by rw[rm];exact hc,hk⟩
    · split at hk
      · exact KQ hk
      split at hk
      · rename_i T hT
        obtain ⟨v,H2,nx2,hK,hB⟩:=hA.inl f T hT _ _ _ _ hk
        obtain ⟨hle,hK⟩:=oblB_iff.1 hK
        have hle:=Nat.le_of_ble_eq_true hle
        obtain ⟨m,rfl⟩:∃m,nx2=nx+m:=⟨nx2-nx,by omega⟩
        exact ⟨_,Dg (L:=T.see args h) hB,v,_,_,_,by rw[rm];unfold mU;rw[if_pos ⟨rfl,rfl,rfl,rfl⟩],hK⟩
      split at hk
      · split at hk
        · rename_i v hs
          obtain ⟨_,hk⟩:=oblB_iff.1 hk
          exact ⟨_,xT (hA.sum f args v hs),v,h,nx,_,by rw[rm];unfold kU;rw[if_pos ⟨rfl,rfl⟩],hk⟩
        · exact tO B hk
      · exact tO B hk
  intro d
  induction d with
  | zero=>
    intro e h nx K hk
    unfold fL at hk
    split at hk
    · exact callCase 0 _ _ hk
    · exact tO B hk
  | succ d ih=>
    intro e h nx K hk
    unfold fL at hk
    split at hk
    · exact callCase (d+1) _ _ hk
    · rename_i i k
      split at hk
      · rename_i b hb
        split at hk
        · rename_i e' he
          obtain ⟨call,hc,v,h',nx',ft,hr,hK⟩:=ih e' hk
          exact ⟨call,hc,v,h',nx',_,by simp only[be,hb,he,hr],hK⟩
        · exact hk.elim
      · exact hk.elim
    · exact tO B hk
def rn (P:Program) (G:aP) (ops:List Oper) (id:Nat) (o:Oper) (s:St) (K:St→Foot→Prop):Prop:=
 ∃call,mS P G call∧∃s' ft,c9 P G call ops id o s=some (s',ft)∧K s' ft
theorem g6 {ops:List Oper} {id:Nat} {o:Oper} {s:St} {K:St→Foot→Prop} (hw:cN ops o s.slots=some true) {call:aY} (hc:mS P O.glob call) {e:Eff} (he:cf P O.glob ops (bt s.slots) o=some e)
  {v:AV} {h:af} {nx:Nat} {ft:Foot} (hr:be call id 2 e s.heap s.nx=some (v,h,nx,ft)) (hk:K ⟨cg s.n s.slots o.dst v,h,nx,s.n⟩ ft):rn P O.glob ops id o s K:=
 ⟨call,hc,_,ft,by unfold c9;simp only[hw,he,hr],hk⟩
theorem KR (B:cU P O n) (hA:cQ P O A) {ops:List Oper} {id:Nat} {o:Oper} {s:St} {K:St→Foot→Prop} (hw:cN ops o s.slots=some true)
  (hk:rh P O n A id s.heap s.nx (fun v h nx ft=>K ⟨cg s.n s.slots o.dst v,h,nx,s.n⟩ ft) (oA P O.glob ops (bt s.slots) o)):rn P O.glob ops id o s K:=by
 cases hs:oA P O.glob ops (bt s.slots) o with
 |none=>rw[hs] at hk;exact hk.elim
 | some es=>
  rw[hs] at hk
  have hok:=KP hs
  cases es with
  |eff e=>
   obtain ⟨call,hc,v,h',nx',ft,hr,hK⟩:=ym B hA 2 e hk
   exact g6 hw hc hok hr hK
  |obl b e=>
   obtain ⟨hb,hk⟩:=oblB_iff.1 hk
   obtain ⟨call,hc,v,h',nx',ft,hr,hK⟩:=ym B hA 2 e hk
   exact g6 hw hc (hok hb) hr hK
  | app b i k v=>
   obtain ⟨hb,hk⟩:=oblB_iff.1 hk
   obtain ⟨kk,he,hkk⟩:=hok hb
   split at hk
   ·rename_i l hl
    obtain ⟨hb2,hk⟩:=oblB_iff.1 hk
    exact g6 hw B.calls he (by simp only[be,hl,hkk l hb2]) hk
   ·exact hk.elim
  | put b i k v=>
   obtain ⟨hb,hk⟩:=oblB_iff.1 hk
   obtain ⟨kk,he,hkk⟩:=hok hb
   split at hk
   ·rename_i l hl
    obtain ⟨hb2,hk⟩:=oblB_iff.1 hk
    exact g6 hw B.calls he (by simp only[be,hl,hkk l hb2]) hk
   ·exact hk.elim
  | pick b x y=>
   simp only[rh] at hk
   split at hk
   ·split at hk
    ·exact g6 hw B.calls ((hok.1 rfl).trans rfl) rfl hk
    ·exact hk.elim
   ·split at hk
    ·exact g6 hw B.calls ((hok.2 rfl).trans rfl) rfl hk
    ·exact hk.elim
theorem KS:mO P O (fun _ _ _ _ _=>none):=fun _ _ _ _ _ _ _ _ _ h=>by cases h
theorem KT {G:aP} {ops:List Oper} {ev:Operand→Option AV} {o:Oper} {r:AV} {p:Prop} (h:yg P ev o r=some p) (hp:p):cf P G ops ev o=some (.val r):=by
 unfold yg at h
 split at h
 ·rename_i s d x ho
  split at h
  ·rename_i v hx
   simp only[Option.some.injEq] at h;subst h
   rw[cP (by rw[ho];rfl)]
   simp only[bC,ho,e1,hx,hp]
  ·cases h
 ·rename_i t x i ho
  split at h
  ·rename_i v w hx hi
   simp only[Option.some.injEq] at h;subst h
   rw[cP (by rw[ho];rfl)]
   simp only[bC,ho,e2,hx,hi,hp,bS]
  ·cases h
 ·rename_i t x i ho
  split at h
  ·rename_i v w hx hi
   simp only[Option.some.injEq] at h;subst h
   rw[cP (by rw[ho];rfl)]
   simp only[bC,ho,e2,hx,hi,hp,bS]
  ·cases h
 ·rename_i t x lo hi mx ho
  split at h
  ·rename_i x' lo' hi' mx' h1 h2 h3 h4
   simp only[Option.some.injEq] at h;subst h
   rw[cP (by rw[ho];rfl)]
   simp only[bC,ho,qw,h1,h2,h3,h4,hp]
  ·cases h
 ·rename_i op t x y g ho
  split at h
  ·rename_i v w hx hi
   simp only[Option.some.injEq] at h;subst h
   rw[cP (by rw[ho];rfl)]
   simp only[bC,ho,e2,hx,hi,hp,bS]
  ·cases h
 ·rename_i c ho
  split at h
  ·rename_i b args hc ha
   simp only[Option.some.injEq] at h;subst h
   rw[cP (by rw[ho];rfl)]
   simp only[bC,ho,i6,ha,hc,hp]
  ·cases h
 ·cases h
theorem KU (B:cU P O n) (hA:cQ P O A) {ops:List Oper} {id:Nat} {o:Oper} {s:St} {K:St→Foot→Prop} {a:dU} (hw:cN ops o s.slots=some true)
  (hk:iJ P O n A ops id o s (fun v h nx ft=>K ⟨cg s.n s.slots o.dst v,h,nx,s.n⟩ ft) a):rn P O.glob ops id o s K:=by
 unfold iJ at hk
 split at hk
 ·split at hk
  ·rename_i e he
   obtain ⟨call,hc,v,h',nx',ft,hr,hK⟩:=ym B hA 2 e hk
   exact g6 hw hc he hr hK
  ·exact hk.elim
 ·split at hk
  ·rename_i a v h nx ft F ha
   obtain ⟨call,hc,hs⟩:=CY B.calls B.glob KS hw ha hk.1
   exact ⟨call,hc,_,_,hs,hk.2⟩
  ·exact hk.elim
 ·rename_i v
  split at hk
  ·rename_i t x i ho
   split at hk
   ·rename_i f es w hx hi
    split at hk
    ·rename_i b k e hn he
     split at hk
     ·rename_i sz hsz
      obtain ⟨hg,hk⟩:=hk
      obtain ⟨hb,hk⟩:=oblB_iff.1 hk
      rw[Bool.and_eq_true] at hb
      refine g6 (e:= .val (.fptr v.cells 0)) hw B.calls ?_ rfl hk
      rw[cP (by rw[ho];rfl)]
      have hu:P.underlying t=some (.slice e):=by
       unfold dv at he
       split at he
       ·simp only[Option.some.injEq] at he;subst he;assumption
       ·cases he
      have q1:=oC hn hb.1
      simp only[bC,ho,e2,hx,hi,aC,q1,hu,hsz,hg,hb.2,bS,Option.bind_eq_bind,Option.bind_some,if_true]
     ·exact hk.elim
    ·exact hk.elim
   ·exact hk.elim
  ·exact hk.elim
 ·rename_i v
  split at hk
  ·rename_i t a ho
   split at hk
   ·rename_i i off hx
    split at hk
    ·rename_i l hl
     obtain ⟨hp,hk⟩:=hk
     have he:∃k,cf P O.glob ops (bt s.slots) o=some (.read i k)∧k (.cells l)=some (.val v):=by
      rw[cP (by rw[ho];rfl)]
      simp only[bC,ho,e1,hx,fA]
      exact ⟨_,rfl,by simp only[hp,Option.map_some]⟩
     obtain ⟨k,he,hkl⟩:=he
     exact g6 hw B.calls he (by simp only[be,hl,hkl]) hk
    ·exact hk.elim
   ·rename_i cs off hx
    obtain ⟨hp,hk⟩:=hk
    refine g6 (e:= .val v) hw B.calls ?_ rfl hk
    rw[cP (by rw[ho];rfl)]
    simp only[bC,ho,e1,hx,fA,hp,Option.map_some]
   ·rename_i g off hx
    obtain ⟨hp,hk⟩:=hk
    refine g6 (e:= .val v) hw B.calls ?_ rfl hk
    rw[cP (by rw[ho];rfl)]
    simp only[bC,ho,e1,hx,hp]
   ·exact hk.elim
  ·exact hk.elim
 ·rename_i r
  split at hk
  ·rename_i p hp
   exact g6 (e:= .val r) hw B.calls (KT hp hk.1) rfl hk.2
  ·exact hk.elim
def KnOk (kn:Kn) (slots:Tr):Prop:=∀d b,jP kn d=some b→slots.get d=some (.bool b)
theorem KV {kn:Kn} {slots:Tr} (h:KnOk kn slots):yh kn slots=bt slots:=by
 funext x
 unfold yh
 split
 ·split
  ·rename_i b hb
   simp only[bt,h _ b hb]
  ·rfl
 ·rfl
theorem KW {kn:Kn} {k d:Nat} {b:Bool} (h:jP (ri kn k) d=some b):d≠k∧jP kn d=some b:=by
  induction kn with
  |nil=>cases h
  | cons p t ih=>
    obtain ⟨e,c⟩:=p
    simp only[ri] at h
    split at h
    · rename_i he
      have he:=beq_iff.1 he
      obtain ⟨h1,h2⟩:=ih h
      refine ⟨h1, ?_⟩
      simp only[jP]
      rw[beq_false_of (by rw[he];exact fun h=>h1 h.symm)]
      exact h2
    · rename_i he
      have he:=beq_false_iff.1 he
      simp only[jP] at h⊢
      split at h
      · rename_i hd
        have hd':=beq_iff.1 hd
        exact ⟨fun h'=>he (by omega),h⟩
      · exact ih h
 where
  beq_false_of {a b:Nat} (h:a≠b):Nat.beq a b=false:=beq_false_iff.2 h
theorem KnOk.put {kn:Kn} {slots:Tr} {n:Nat} {dst:Option Tmp} {v:AV} (h:KnOk kn slots):KnOk (jQ kn dst) (cg n slots dst v):=by
 intro d b hd
 cases dst with
 |none=>exact h d b hd
 |some e=>
  simp only[jQ] at hd
  obtain ⟨h1,h2⟩:=KW hd
  simp only[cg]
  split
  ·rw[Tr.get_set_ne 12 slots v h1];exact h d b h2
  ·exact h d b h2
theorem KnOk.cons {kn:Kn} {slots:Tr} {d:Nat} {b:Bool} (h:KnOk kn slots) (hd:slots.get d=some (.bool b)):KnOk ((d,b)::kn) slots:=by
 intro k c hk
 simp only[jP] at hk
 split at hk
 ·rename_i he
  have he:=beq_iff.1 he
  subst he
  simp only[Option.some.injEq] at hk
  subst hk;exact hd
 ·exact h k c hk
def tP (P:Program) (G:aP) (ops:List Oper) (id:Nat) (o:Oper) (s:St) (K:Kn→St→Foot→Prop):Prop:=
 rn P G ops id o s (fun s' ft=>∃kn',KnOk kn' s'.slots∧K kn' s' ft)
theorem KX {ops:List Oper} {id:Nat} {o:Oper} {s:St} {K K':AV→af→Nat→Foot→Prop} (h:K=K') {a:dU} (hk:iJ P O n A ops id o s K a):iJ P O n A ops id o s K' a:=h▸hk
theorem rp (B:cU P O n) (hA:cQ P O A) {rid:Nat} {ops:List Oper} {id i:Nat} {o:Oper} {s:St} {kn:Kn} {K:Kn→St→Foot→Prop} (hkn:KnOk kn s.slots) (hw:cN ops o s.slots=some true) (hk:iK P O n A rid ops id i o s kn K):
  tP P O.glob ops id o s K:=by
 have fin:rn P O.glob ops id o s (fun s' ft=>s'.slots=s'.slots∧(∃v,s'.slots=cg s.n s.slots o.dst v)∧K (jQ kn o.dst) s' ft)→tP P O.glob ops id o s K:=fun ⟨c,h1,s',ft,h2,_,⟨v,hv⟩,h3⟩=>
  ⟨c,h1,s',ft,h2,jQ kn o.dst,by rw[hv];exact hkn.put,h3⟩
 refine fin ?_
 unfold iK at hk
 split at hk
 ·refine KU B hA hw (KX ?_ hk)
  funext v h nx ft
  simp only[true_and,eq_iff_iff]
  exact ⟨fun h=>⟨⟨v,rfl⟩,h⟩,fun h=>h.2⟩
 ·rw[KV hkn] at hk
  refine KR B hA hw (?_:rh P O n A id s.heap s.nx _ (oA P O.glob ops (bt s.slots) o))
  have:(fun v h nx ft=>K (jQ kn o.dst) ⟨cg s.n s.slots o.dst v,h,nx,s.n⟩ ft)=(fun v h nx ft=>(fun (s':St) (ft:Foot)=>s'.slots=s'.slots∧(∃v,s'.slots=cg s.n s.slots o.dst v)∧K (jQ kn o.dst) s' ft) ⟨cg s.n s.slots o.dst v,h,nx,s.n⟩ ft):=by
   funext v h nx ft
   simp only[true_and,eq_iff_iff]
   exact ⟨fun h=>⟨⟨v,rfl⟩,h⟩,fun h=>h.2⟩
  rw[←this]
  exact hk
theorem KY (B:cU P O n) (hA:cQ P O A) {rid:Nat} {ops:List Oper} {id i:Nat} {o:Oper} {s:St} {kn:Kn} {K:Kn→St→Foot→Prop} (hkn:KnOk kn s.slots) (hk:rj P O n A rid ops id i o s kn K):tP P O.glob ops id o s K:=by
 have no:∀ {kn:Kn},KnOk kn s.slots→cN ops o s.slots=some false→mR o s kn K→tP P O.glob ops id o s K:=fun {kn} hkn hw hk=>
  ⟨_,B.calls,_,_,by unfold c9;simp only[hw],_,hkn.put,hk⟩
 unfold rj at hk
 split at hk
 ·rename_i hg
  exact rp B hA hkn (by unfold cN;simp only[hg]) hk
 ·rename_i j want hg
  split at hk
  ·rename_i g hj
   split at hk
   ·rename_i d hd
    split at hk
    ·rename_i b hkb
     have hb:=hkn d b hkb
     split at hk
     ·split at hk
      ·exact rp B hA hkn (by unfold cN;simp[hg,hj,hd,hb]) hk
      ·exact no hkn (by unfold cN;simp[hg,hj,hd,hb]) hk
     ·split at hk
      ·exact no hkn (by unfold cN;simp[hg,hj,hd,hb]) hk
      ·exact rp B hA hkn (by unfold cN;simp[hg,hj,hd,hb]) hk
    ·split at hk
     ·rename_i b hb
      split at hk
      ·split at hk
       ·exact rp B hA (hkn.cons hb) (by unfold cN;simp[hg,hj,hd,hb]) hk
       ·exact no (hkn.cons hb) (by unfold cN;simp[hg,hj,hd,hb]) hk
      ·split at hk
       ·exact no (hkn.cons hb) (by unfold cN;simp[hg,hj,hd,hb]) hk
       ·exact rp B hA (hkn.cons hb) (by unfold cN;simp[hg,hj,hd,hb]) hk
     ·rename_i hb
      exact no hkn (by unfold cN;simp[hg,hj,hd,hb]) hk
     ·exact hk.elim
   ·exact hk.elim
  ·exact hk.elim
theorem Dh (B:cU P O n) (hA:cQ P O A) {rid:Nat} {all:List Oper} {base:Nat}:∀ (rest:List Oper) (i:Nat) (s:St) (kn:Kn) (acc:List (Nat × Foot)) {K:St→List (Nat × Foot)→Prop},KnOk kn s.slots→rk P O n A rid all base rest i s kn acc K→
  ∃call,mS P O.glob call∧∃s' feet,cS P O.glob call all base rest i s acc=some (s',feet)∧K s' feet
 |[],i,s,kn,acc,K,_,hk=>⟨_,B.calls,s,acc,rfl,hk⟩
 |o::rest,i,s,kn,acc,K,hkn,hk=>by
  simp only[rk] at hk
  obtain ⟨c1,h1,s1,ft,hs,kn',hkn',hk⟩:=KY B hA hkn hk
  obtain ⟨c2,h2,s',feet,hr,hK⟩:=Dh B hA rest (i+1) s1 kn' _ hkn' hk
  refine ⟨gF (base+i) c1 c2,CZ h1 h2,s',feet, ?_,hK⟩
  simp only[cS]
  rw[xV (call':=c1) (fun f args hp nx=>by unfold gF;rw[if_pos rfl]),hs]
  simp only
  rw[xW (call':=c2) rest (i+1) _ _ fun f args id hp nx hid=>by unfold gF;rw[if_neg (by omega)]]
  exact hr
def LsOk (P:Program) (G:aP) (nx0:Nat) (A:aX) (c:Code):Prop:=
 ∀r L,A.ls r=some L→∀b∈bu c r,∀s Q,L s Q→AWp P G nx0 (.loop b) s Q
theorem Di {nx0:Nat} {body:Code} {W:St→(AExit→St→Prop)→Prop} (h:∀s Q,W s Q→AWp P O.glob nx0 body s Q):∀ (k:Nat) (s:St) (Q:AExit→St→Prop),tK W k s Q→ARnd P O.glob nx0 body Q k s
 |0,_,_,hk=>hk
 |k+1,s,Q,hk=>(h s _ hk).mono fun e s' hq=>by
  cases e with
  |normal=>exact Di h k s' Q hq
  |exit i=>exact hq
  |ret=>exact hq
theorem Dj {nx0:Nat} {c:Operand} {b:Bool} {s:St} {code:Code} {G:aP} {Q:AExit→St→Prop} (hc:bt s.slots c=some (.bool b)) (h:AWp P G nx0 code (yi c b s) Q):AWp P G nx0 code s Q:=by
 cases c with
 | tmp d=>
  have hg:∀k,(cg s.n s.slots (some d) (.bool b)).get k=s.slots.get k:=fun k=>by
   have hc:s.slots.get d=some (.bool b):=hc
   simp only[cg]
   split
   ·by_cases hk:k=d
    ·subst hk
     rcases Tr.get_set_self 12 s.slots (k:=k) (.bool b) with h|h
     ·rw[h,hc]
     ·exact h
    ·exact Tr.get_set_ne 12 s.slots _ hk
   ·rfl
  refine ⟨fun w0 I0 α0 H0 D a w hα hr=>h.out w0 I0 α0 H0 D a w hα ?_⟩
  obtain ⟨⟨I,α,ev,rel,hs,q1,q2,q3⟩,h7,h8,h9,h10,h11⟩:=hr
  exact ⟨⟨I,α,ev,rel,fun k v hv=>hs k v (by rw[←hg k];exact hv),q1,q2,q3⟩,h7,h8,h9,h10,h11⟩
 |_=>exact h
theorem tQ {nx0:Nat} (B:cU P O n) (hA:cQ P O A):∀ (c:Code) (s:St) (Q:AExit→St→Prop),LsOk P O.glob nx0 A c→aI P O n A c s Q→AWp P O.glob nx0 c s Q:=by
 intro c
 induction c with
 |skip=>exact fun s Q _ h=> .skip h
 |label l=>exact fun s Q _ h=> .label h
 |exit i=>exact fun s Q _ h=> .exit h
 |ret=>exact fun s Q _ h=> .ret h
 | region rid ops draw=>
  intro s Q _ h
  simp only[aI] at h
  have reg:∀ {s:St},rl P O n A rid ops draw s Q→AWp P O.glob nx0 (.region rid ops draw) s Q:=fun {s} h=>by
   unfold rl at h
   obtain ⟨call,⟨h1,h2⟩,s',feet,hr,hk⟩:=Dh B hA _ _ _ _ _ (fun _ _ h=>by cases h) h
   cases draw with
   |false=>exact .region B.mixed h1 h2 hr (fun h=>by cases h) hk
   |true=>
    obtain ⟨hb,hk⟩:=oblB_iff.1 hk
    rw[Bool.and_eq_true] at hb
    exact .region B.mixed h1 h2 hr (fun _=>hb) hk
  split at h
  ·rename_i C hC
   obtain ⟨s2,hs,hk⟩:=hA.cut rid C hC nx0 s _ h
   exact ⟨fun w0 I0 α0 H0 D a w hα hr=>(reg hk).out w0 I0 α0 H0 D a w hα (hs w0 I0 α0 H0 D a w hα hr)⟩
  ·exact reg h
 |seq a b iha ihb=>
  intro s Q hl h
  refine .seq ((iha s _ (fun r L hL b' hb=>hl r L hL b' (by simp[bu,hb])) h).mono fun e s' hq=> ?_)
  cases e with
  |normal=>exact ihb s' Q (fun r L hL b' hb=>hl r L hL b' (by simp[bu,hb])) hq
  |exit i=>exact hq
  |ret=>exact hq
 | cond c a b iha ihb=>
  intro s Q hl h
  simp only[aI] at h
  split at h
  ·rename_i t hc
   split at h
   ·exact .cond_true hc (Dj hc (iha _ Q (fun r L hL b' hb=>hl r L hL b' (by simp[bu,hb])) h))
   ·exact .cond_false hc (Dj hc (ihb _ Q (fun r L hL b' hb=>hl r L hL b' (by simp[bu,hb])) h))
  ·exact h.elim
 |block id body ih=>exact fun s Q hl h=> .block (ih s _ hl h)
 | loop body ih=>
  intro s Q hl h
  simp only[aI] at h
  split at h
  ·rename_i L hL
   exact hl _ L hL body (by simp[bu]) s Q h
  ·exact .loop O.lf (Di (fun s Q h=>ih s Q (fun r L hL b' hb=>hl r L hL b' (by simp[bu,hb])) h) _ _ _ h)
 |rangeFunc f p x y _ _=>exact fun s Q _ h=>h.elim
 |scope c _=>exact fun s Q _ h=>h.elim
 |goto l=>exact fun s Q _ h=>h.elim
 |refuse y=>exact fun s Q _ h=>h.elim
def iL (P:Program) (G:aP) (nx0:Nat) (A:aX) (f:FuncId):Prop:=∀fn c,P.funcs[f]? =some fn→fn.body=some c→LsOk P G nx0 A c
theorem Dk {G:aP} {nx0:Nat} {f:FuncId} (h:∀r,A.ls r=none):iL P G nx0 A f:=fun _ _ _ _ r L hL=>by rw[h] at hL;cases hL
theorem mV {f:FuncId} {args:List AV} {H:af} {nx:Nat} {Q:AV→af→Nat→Prop} (B:cU P O n) (hA:cQ P O A) (hl:iL P O.glob nx A f) (h:ax P O n A f args H nx Q):
  ∃fn c,P.funcs[f]? =some fn∧fn.body=some c∧(fn.name== "runtime.NumGoroutine")=false∧(Nat.ble (aa args) fn.ntmps&&Nat.ble fn.ntmps 4095)=true∧
   AWp P O.glob nx c ⟨dy args 0 .tip,H,nx,fn.ntmps⟩ (fun e s=>(e= .normal∨e= .ret)∧∃l,dw P O.glob s fn.results.toList=some l∧Q (dx l) s.heap s.nx):=by
 unfold ax at h
 split at h
 ·rename_i fn hfn
  split at h
  ·rename_i c hc
   split at h
   ·exact h.elim
   ·rename_i hname
    split at h
    ·exact h.elim
    ·rename_i hsz
     refine ⟨fn,c,hfn,hc,hname,hsz,(tQ B hA c _ _ (hl fn c hfn hc) h).mono fun e s hq=> ?_⟩
     split at hq
     ·exact hq.elim
     ·rename_i hne
      split at hq
      ·rename_i l hl
       refine ⟨?_,l,hl,hq⟩
       cases e with
       |normal=>exact .inl rfl
       |ret=>exact .inr rfl
       |exit i=>exact absurd rfl (hne i)
      ·exact hq.elim
  ·exact h.elim
 ·exact h.elim
theorem ji {f:FuncId} {args:List AV} {v:AV} (B:cU P O n) (hA:cQ P O A) (hl:iL P O.glob 0 A f) (hcl:ac args=true)
  (h:ax P O n A f args [] 0 (fun u H _=>(∃d,aW 0 H d u=some v)∧ah v=true)):SemCall P O.glob f args v:=by
 obtain ⟨fn,c,hfn,hc,hname,hsz,hw⟩:=mV B hA hl h
 refine C9 B hfn hc hname hsz hcl fun w I a hr=>wp_mono (hw.out w I _ [] [] a w (fun _ _=>rfl) hr) ?_
 rintro e a' w' ⟨x,s',rfl,h2,hx,l,hl,hq⟩
 refine ⟨s',l, ?_,h2,hl,hq.1,hq.2⟩
 rcases hx with rfl|rfl
 ·exact .inl rfl
 ·exact .inr rfl
theorem tR {f:FuncId} {args:List AV} {H:af} {nx:Nat} {v:AV} {H':af} {nx':Nat} (B:cU P O n) (hA:cQ P O A) (hl:iL P O.glob nx A f)
    (h:ax P O n A f args H nx (fun u h m=>u=v∧h=H'∧m=nx')):cw P O.glob f args H nx v H' nx':=by
  obtain ⟨fn,c,hfn,hc,hname,hsz,hw⟩:=mV B hA hl h
  intro w I α vs r ha hf
  refine body_of_wp' hfn hc hname hsz (fun w I α a hα hr=>wp_mono (hw.out w I α H [] a w hα hr) ?_) w I α vs r ha hf
  rintro e a' w' ⟨x,s',rfl,h2,hx,l,hl,rfl,rfl,rfl⟩
  refine ⟨s',l, ?_,h2,hl,rfl,rfl,rfl⟩
  rcases hx with rfl|rfl
  · exact .inl rfl
  · exact .inr rfl
 where
  body_of_wp' {f:FuncId} {fn:Func} {c:Code} {args:List AV} {H:af} {nx:Nat} {v:AV} {H':af} {nx':Nat} (hfn:P.funcs[f]? =some fn) (hc:fn.body=some c) (hname:(fn.name== "runtime.NumGoroutine")=false) (hsz:(Nat.ble (aa args) fn.ntmps&&Nat.ble fn.ntmps 4095)=true)
    (h:∀w I α a,(∀id,nx≤id→α id=none)→CR O.glob w I α H nx [] ⟨dy args 0 .tip,H,nx,fn.ntmps⟩ a w→c.wp P (fun e a' w'=>∃s l,(cK .normal=e∨cK .ret=e)∧CR O.glob w I α H nx [] s a' w'∧dw P O.glob s fn.results.toList=some l∧dx l=v∧s.heap=H'∧s.nx=nx') a w):
    cw P O.glob f args H nx v H' nx':=by
    intro w I α vs r ha hf
    rw[Bool.and_eq_true,Nat.ble_eq,Nat.ble_eq,aE] at hsz
    refine ⟨?_, ?_⟩
    · unfold callFunc
      simp only[Sem.run_bind,run_program,Result.andThen_ok,hfn,hname,hc,Bool.false_eq_true,if_false,Option.isNone_some,Sem.run_pure]
    · refine calls_of_wp hfn hc ?_
      have hvs:args.length=vs.size:=by rw[ha.1];simp
      have hr0:CR O.glob w I α H nx [] ⟨dy args 0 .tip,H,nx,fn.ntmps⟩ {tmps:=vs++Array.replicate (fn.ntmps-vs.size) undef,defers:=[]} w:=
        ⟨⟨I,α,.refl,r,mK ha (by omega),fun i hi=>absurd hi (Nat.not_lt_zero i),hf,fun id h=> .inl h⟩,Nat.le_refl _,Nat.le_refl _,rfl,by simp;omega,hsz.2⟩
      refine wp_mono (h w I α _ hf hr0) fun e a' w' hq=> ?_
      obtain ⟨s,l,he,hr,hl,rfl,rfl,rfl⟩:=hq
      obtain ⟨⟨I',α',h1,h2,h3,_,_,h6⟩,_,h8,h9,_,_⟩:=hr
      obtain ⟨u,e1,e2⟩:=mL (P:=P) (fn:=fn) h2 h3 hl
      rcases he with rfl|rfl<;>exact ⟨h9,u,e1,u,rfl,⟨I',α',h1,h2,e2,h6⟩,h8⟩
end
end Go.Proofs.Abs
/- Small laws of the abstract machine's functions: bytes, rows, numbers, what becomes part of a value. -/
namespace Go.Proofs.Abs
open Go
mutual
theorem yn {n:Nat} {h:af}:∀ {d:Nat} {v r:AV},aW n h d v=some r→aW n h (d+1) v=some r
 |0,_,_,hv=>by simp[aW] at hv
 | d +1,v,r,hv=>by
  have L:∀ {l l':List AV},b9 (aW n h d) l=some l'→b9 (aW n h (d+1)) l=some l':=fun {l l'} hl=>yp hl
  cases v with
  | ptr id off=>
   rw[aW] at hv⊢
   split at hv
   ·exact hv
   ·rename_i hb
    split at hv
    ·rename_i l hl
     try rw[hl]
     try simp only
     split at hv
     ·rename_i l' hl';rw[L hl'];exact hv
     ·cases hv
    ·cases hv
  | rsl own id off len sz=>
   rw[aW] at hv⊢
   split at hv
   ·exact hv
   ·rename_i hb
    split at hv
    ·rename_i l hl
     try rw[hl]
     try simp only
     split at hv
     ·rename_i es hes
      split at hv
      ·rename_i l' hl';rw[L hl'];exact hv
      ·cases hv
     ·cases hv
    ·cases hv
  |fptr cs off=>
   rw[aW] at hv⊢
   split at hv
   ·rename_i l' hl';rw[L hl'];exact hv
   ·cases hv
  |fsl f es=>
   rw[aW] at hv⊢
   split at hv
   ·rename_i l' hl';rw[L hl'];exact hv
   ·cases hv
  |agg cs=>
   rw[aW] at hv⊢
   split at hv
   ·rename_i l' hl';rw[L hl'];exact hv
   ·cases hv
  |tuple cs=>
   rw[aW] at hv⊢
   split at hv
   ·rename_i l' hl';rw[L hl'];exact hv
   ·cases hv
  |func fn a b=>
   rw[aW] at hv⊢
   split at hv
   ·rename_i a' b' ha hb;rw[L ha,L hb];exact hv
   ·cases hv
  |iface t v=>
   rw[aW] at hv⊢
   split at hv
   ·rename_i l' hl';rw[yn hl'];exact hv
   ·cases hv
  |_=>exact hv
theorem yp {n:Nat} {h:af} {d:Nat}:∀ {l l':List AV},b9 (aW n h d) l=some l'→b9 (aW n h (d+1)) l=some l'
 |[],_,hl=>by simpa [b9] using hl
 | a::t,l',hl=>by
  simp only[b9] at hl⊢
  split at hl
  ·rename_i b hb
   split at hl
   ·rename_i u hu
    simp only[yn hb,yp hu];exact hl
   ·cases hl
  ·cases hl
end
theorem KZ {n:Nat} {h:af} {d e:Nat} {v r:AV} (hd:d≤e) (hv:aW n h d v=some r):aW n h e v=some r:=by
 induction hd with
 |refl=>exact hv
 |step _ ih=>exact yn ih
theorem yq {n:Nat} {h:af} {d e:Nat} {l l':List AV} (hd:d≤e) (hl:b9 (aW n h d) l=some l'):b9 (aW n h e) l=some l':=by
 induction hd with
 |refl=>exact hl
 |step _ ih=>exact yp ih
structure Frz (n:Nat) (h:af) (v r:AV):Prop where
 out:∃d,aW n h d v=some r
structure FrzL (n:Nat) (h:af) (l l':List AV):Prop where
 out:∃d,b9 (aW n h d) l=some l'
theorem FrzL.nil {n:Nat} {h:af}:FrzL n h [] []:=⟨0,rfl⟩
theorem FrzL.cons {n:Nat} {h:af} {a b:AV} {t u:List AV} (h1:Frz n h a b) (h2:FrzL n h t u):FrzL n h (a::t) (b::u):=by
 obtain ⟨d,h1⟩:=h1
 obtain ⟨e,h2⟩:=h2
 exact ⟨max d e,by simp only[b9,KZ (Nat.le_max_left d e) h1,yq (Nat.le_max_right d e) h2]⟩
theorem FrzL.append {n:Nat} {h:af}:∀ {a b c d:List AV},FrzL n h a b→FrzL n h c d→FrzL n h (a++c) (b++d)
 |[],b,_,_,h1,h2=>by
  obtain ⟨e,h1⟩:=h1
  simp only[b9,Option.some.injEq] at h1
  subst h1;exact h2
 | x::t,b,c,d,h1,h2=>by
  obtain ⟨e,h1⟩:=h1
  simp only[b9] at h1
  split at h1
  ·rename_i y hy
   split at h1
   ·rename_i u hu
    simp only[Option.some.injEq] at h1
    subst h1
    exact FrzL.cons ⟨e,hy⟩ (FrzL.append ⟨e,hu⟩ h2)
   ·cases h1
  ·cases h1
theorem Frz.agg {n:Nat} {h:af} {l l':List AV} (hl:FrzL n h l l'):Frz n h (.agg l) (.agg l'):=by
 obtain ⟨d,hl⟩:=hl;exact ⟨d+1,by simp only[aW,hl]⟩
theorem Frz.tuple {n:Nat} {h:af} {l l':List AV} (hl:FrzL n h l l'):Frz n h (.tuple l) (.tuple l'):=by
 obtain ⟨d,hl⟩:=hl;exact ⟨d+1,by simp only[aW,hl]⟩
theorem Frz.fsl {n:Nat} {h:af} {f:Bool} {l l':List AV} (hl:FrzL n h l l'):Frz n h (.fsl f l) (.fsl f l'):=by
 obtain ⟨d,hl⟩:=hl;exact ⟨d+1,by simp only[aW,hl]⟩
theorem Frz.fptr {n:Nat} {h:af} {o:Nat} {l l':List AV} (hl:FrzL n h l l'):Frz n h (.fptr l o) (.fptr l' o):=by
 obtain ⟨d,hl⟩:=hl;exact ⟨d+1,by simp only[aW,hl]⟩
theorem Frz.rsl {n:Nat} {h:af} {own:Bool} {id off len sz:Nat} {c es l':List AV} (hn:Nat.blt id n=false) (hg:hget h id=some (.cells c)) (hc:kI sz len (c.drop off)=some es) (hl:FrzL n h es l'):Frz n h (.rsl own id off len sz) (.fsl false l'):=by
 obtain ⟨d,hl⟩:=hl;exact ⟨d+1,by simp only[aW,hn,hg,hc,hl]⟩
theorem Frz.ptr {n:Nat} {h:af} {id off:Nat} {c l':List AV} (hn:Nat.blt id n=false) (hg:hget h id=some (.cells c)) (hl:FrzL n h c l'):Frz n h (.ptr id off) (.fptr l' off):=by
 obtain ⟨d,hl⟩:=hl;exact ⟨d+1,by simp only[aW,hn,hg,hl]⟩
theorem Frz.keepR {n:Nat} {h:af} {own:Bool} {id off len sz:Nat} (hn:Nat.blt id n=true):Frz n h (.rsl own id off len sz) (.rsl own id off len sz):=⟨1,by simp only[aW,hn]⟩
theorem Frz.keepP {n:Nat} {h:af} {id off:Nat} (hn:Nat.blt id n=true):Frz n h (.ptr id off) (.ptr id off):=⟨1,by simp only[aW,hn]⟩
mutual
theorem Frz.closed {n:Nat} {h:af}:∀ (v:AV),ah v=true→Frz n h v v
 | .ptr _ _,hc=>by simp[ah] at hc
 | .rsl _ _ _ _ _,hc=>by simp[ah] at hc
 | .map _,hc=>by simp[ah] at hc
 | .fptr cs _,hc=> .fptr (FrzL.closed cs (by simpa [ah] using hc))
 | .fsl _ cs,hc=> .fsl (FrzL.closed cs (by simpa [ah] using hc))
 | .agg cs,hc=> .agg (FrzL.closed cs (by simpa [ah] using hc))
 | .tuple cs,hc=> .tuple (FrzL.closed cs (by simpa [ah] using hc))
 | .func fn a b,hc=>by
  simp only[ah,Bool.and_eq_true] at hc
  obtain ⟨d,h1⟩:=FrzL.closed (n:=n) (h:=h) a hc.1
  obtain ⟨e,h2⟩:=FrzL.closed (n:=n) (h:=h) b hc.2
  exact ⟨max d e+1,by simp only[aW,yq (Nat.le_max_left d e) h1,yq (Nat.le_max_right d e) h2]⟩
 | .iface t v,hc=>by
  obtain ⟨d,h1⟩:=Frz.closed (n:=n) (h:=h) v (by simpa [ah] using hc)
  exact ⟨d+1,by simp only[aW,h1]⟩
 | .bool _,_=>⟨1,rfl⟩
 | .int _ _,_=>⟨1,rfl⟩
 | .str _,_=>⟨1,rfl⟩
 | .nilp,_=>⟨1,rfl⟩
 | .gptr _ _,_=>⟨1,rfl⟩
 | .nilsl,_=>⟨1,rfl⟩
 | .nesl,_=>⟨1,rfl⟩
 | .nilmap,_=>⟨1,rfl⟩
 | .nilFunc,_=>⟨1,rfl⟩
 | .nilIface,_=>⟨1,rfl⟩
theorem FrzL.closed {n:Nat} {h:af}:∀ (l:List AV),ac l=true→FrzL n h l l
 |[],_=> .nil
 |a::t,hc=>by
  simp only[ac,Bool.and_eq_true] at hc
  exact .cons (Frz.closed a hc.1) (FrzL.closed t hc.2)
end
def ei (sz:Nat) (e:AV):Prop:=e.cells.length=sz∧kH e.cells=e
theorem Dm {sz:Nat}:∀ {es:List AV} (r:List AV),(∀e∈es,ei sz e)→kI sz es.length (flat es++r)=some es
 |[],r,_=>rfl
 | e::t,r,h=>by
  obtain ⟨h1,h2⟩:=h e (by simp)
  have ih:=Dm (es:=t) r fun x hx=>h x (by simp[hx])
  have hc:chunk (flat (e::t)++r) 0 sz=some e.cells:=by
   rw[tM _ _ _ (by simp only[flat,List.length_append];omega)]
   simp only[flat,List.drop_zero,List.append_assoc]
   rw[List.take_left' h1]
  simp only[List.length_cons,kI,hc]
  have hd:(flat (e::t)++r).drop sz=flat t++r:=by
   simp only[flat,List.append_assoc]
   rw[List.drop_left' h1]
  rw[hd,ih,h2]
  rfl
theorem Frz.row {n:Nat} {h:af} {own:Bool} {id len sz:Nat} {c es:List AV} (hn:Nat.blt id n=false) (hg:hget h id=some (.cells c)) (hc:c=flat es) (hl:len=es.length) (hes:∀e∈es,ei sz e) (hcl:ac es=true):Frz n h (.rsl own id 0 len sz) (.fsl false es):=by
 subst hc hl
 refine .rsl hn hg ?_ (FrzL.closed es hcl)
 have:=Dm (es:=es) [] hes
 simpa using this
theorem oE:∀s:List UInt8,ai s=s.map fun b=> .int .u8 (.ofNat b.toNat)
 |[]=>rfl
 |b::t=>by simp only[ai,List.map_cons,oE t]
@[simp] theorem mW (s:List UInt8):aa (ai s)=s.length:=by rw[aE,oE];simp
@[simp] theorem K8 (s:List UInt8):flat (ai s)=ai s:=(xp s).1
@[simp] theorem Dn:∀s:List UInt8,cW (ai s)=some s
 |[]=>rfl
 | b::t=>by
  have e:UInt8.ofNat (Int.ofNat b.toNat).toNat=b:=by
   show UInt8.ofNat b.toNat=b
   exact UInt8.ofNat_toNat
  simp only[ai,cW,Dn t,Option.map_some,e]
@[simp] theorem mX (s:List UInt8):gH (ai s)=s:=by simp[gH]
@[simp] theorem tS:∀s:List UInt8,ac (ai s)=true
 |[]=>rfl
 |b::t=>by simp only[ai,ac,ah,tS t,Bool.and_self]
@[simp] theorem K9:∀s:List UInt8,bc (ai s)=true
 |[]=>rfl
 |b::t=>by simp only[ai,bc,AV.one,K9 t,Bool.and_self]
@[simp] theorem La:∀s:List UInt8,a8 1 (ai s)=true
 |[]=>rfl
 |b::t=>by
  have e:aa (AV.int .u8 (.ofNat b.toNat)).cells=1:=rfl
  simp only[ai,a8,La t,e,Nat.beq_refl,Bool.and_self]
@[simp] theorem Wc (s:List UInt8):sS 1 (ai s)=true:=by cases s<;>rfl
theorem yr {s:List UInt8}:∀e∈ai s,ei 1 e:=by
 intro e he
 rw[oE,List.mem_map] at he
 obtain ⟨b,_,rfl⟩:=he
 exact ⟨rfl,rfl⟩
theorem Lb (s:List UInt8) (i:Nat):cC (ai s) i=(s[i]?).map fun b=> .int .u8 (.ofNat b.toNat):=by rw[fJ,oE,List.getElem?_map]
theorem Frz.bytes {n:Nat} {h:af} {own:Bool} {id len:Nat} {c:List AV} {s:List UInt8} (hn:Nat.blt id n=false) (hg:hget h id=some (.cells c)) (hc:c=ai s) (hl:len=s.length):Frz n h (.rsl own id 0 len 1) (.fsl false (ai s)):=
 .row hn hg (by rw[hc,K8]) (by rw[hl,oE];simp) yr (tS s)
theorem dV {a b:List AV}:ac (a++b)=(ac a&&ac b):=by
 induction a with
 |nil=>simp[ac]
 |cons x t ih=>simp[ac,ih,Bool.and_assoc]
theorem allSize_iff {sz:Nat}:∀ {l:List AV},a8 sz l=true↔∀e∈l,e.cells.length=sz
 |[]=>by simp[a8]
 |a::t=>by simp only[a8,Bool.and_eq_true,beq_iff,aE,allSize_iff (l:=t),List.forall_mem_cons]
theorem ej:∀ (a b:List AV),flat (a++b)=flat a++flat b
 |[],b=>rfl
 |x::t,b=>by simp only[List.cons_append,flat,ej t b,List.append_assoc]
theorem ltInt_iff {a b:Int}:aq a b=true↔a<b:=by rw[jb];simp
theorem ltInt_false {a b:Int}:aq a b=false↔b≤a:=by rw[jb];simp
theorem beqInt_iff {a b:Int}:ak a b=true↔a=b:=by rw[jJ];simp
theorem beqInt_false {a b:Int}:ak a b=false↔a≠b:=by rw[jJ];simp
theorem beqBytes_iff {a b:List UInt8}:aA a b=true↔a=b:=by rw[nY];simp
theorem eQ {n:Int} (h1: -9223372036854775808≤n) (h2:n≤9223372036854775807):ar .i64 n=n:=by
 rw[jI];exact IntWalk.i64_in _ ⟨by omega,by omega⟩
end Go.Proofs.Abs
/- What arguments are: numbers, texts, slices of plain elements. -/
namespace Go.Proofs.Abs
open Go
theorem Do {α:Type} {Q:Nat→α→Prop}:∀ (n:Nat),(∀i,i<n→∃x,Q i x)→∃l:List α,l.length=n∧∀i x,l[i]? =some x→Q i x
 |0,_=>⟨[],rfl,by simp⟩
 | n+1,h=>by
  obtain ⟨l,h1,h2⟩:=Do n fun i hi=>h i (by omega)
  obtain ⟨x,hx⟩:=h n (by omega)
  refine ⟨l++[x],by simp[h1],fun i y hy=> ?_⟩
  rcases Nat.lt_or_ge i n with hi|hi
  ·rw[List.getElem?_append_left (by omega)] at hy
   exact h2 i y hy
  ·rw[List.getElem?_append_right (by omega)] at hy
   have:i-l.length=0:=by
    have:=(List.getElem?_eq_some_iff.1 hy).1
    simp at this;omega
   rw[this] at hy
   simp at hy;subst hy
   have:i=n:=by omega
   subst this;exact hx
theorem yt {a:Addr} (h:a.spot=none) (n:Nat):a.add n=⟨a.block,a.off+n,none⟩:=by
 obtain ⟨b,o,s⟩:=a
 simp only at h;subst h
 unfold Addr.add
 split
 ·rename_i h0;subst h0;rfl
 ·rfl
section
variable {H:Type} {enc:TypeId × Value→H} {P:Program} {w:World} {base:Nat} {spare:Nat→Bool} {held:Bool} {t e:TypeId} {v:Value} {d:DataW H} {ps:List MemPlace}
theorem open_int {k:IntKind} (ht:P.underlying t=some (.int k)) (hok:Value.okWide P w .any base t v) (h:DataW.Trod enc P w 0 spare held t v d ps):∃n:Int,v= .int k n∧k.min≤n∧n≤k.max:=by
 obtain ⟨fuel,hd⟩:=h
 obtain ⟨n,e1,_,h2⟩:=DataW.trod_int ht hd
 have h2:k.min≤n∧n≤k.max:=by simpa [Lit.wf] using h2
 refine ⟨n, ?_,h2⟩
 simp only[Value.okWide,ht] at hok
 cases v with
 |agg cs=>simp[Cell.okWide,Cell.ok,ht] at hok
 |int k' n'=>simp only[Value.cells,List.cons.injEq] at e1;simpa using e1
 |_=>simp[Value.cells] at e1
def Dp (H:Type) (enc:TypeId × Value→H) (P:Program) (w:World) (spare:Nat→Bool) (held:Bool) (e:TypeId) (m:Nat) (p:List AV→Prop):Prop:=
 P.cellsOf e=m∧0<m∧∀ (fuel:Nat) (cs:List Value) (x:DataW H × List MemPlace),cs.length=m→DataW.trod enc P w 0 spare held fuel e cs=some x→∃l,RepL w (fun b=>b<w.heap.size) (fun _=>none) l cs∧p l
theorem yu {a:Addr} {n:Nat} {cs:List Value} (h:w.cells? 0 a n=some cs):cs.length=n∧∀j,j<n→w.cell? (a.add j)=cs[j]? :=by
 unfold World.cells? at h
 rw[if_pos (Nat.zero_le _)] at h
 refine ⟨by simpa using mapM_some_length h,fun j hj=> ?_⟩
 exact mapM_some_get h j j (by simp[hj])
theorem Lc {m:Nat} {p:List AV→Prop} (ht:P.underlying t=some (.slice e)) (he:Dp H enc P w spare held e m p) (hok:Value.okWide P w .any base t v) (h:DataW.Trod enc P w 0 spare held t v d ps):
  v= .slice none 0 0∨∃ess:List (List AV),Rep w (fun b=>b<w.heap.size) (fun _=>none) (.fsl false (ess.map kH)) v∧(∀c∈ess,p c∧c.length=m)∧ess.length≤maxLen:=by
 obtain ⟨hm,hpos,hread⟩:=he
 obtain ⟨fuel,hd⟩:=h
 simp only[Value.okWide,ht] at hok
 have hv:v.cells.toList=[v]:=by
  cases v with
  |agg cs=>simp[Cell.okWide,Cell.ok,ht] at hok
  |_=>rfl
 rw[hv] at hd
 rcases DataW.trod_slice ht hd with ⟨e1,_⟩|⟨a,len,cap,elems,rest,n,_,e1,_,_,hlc,hcap,hel,hget,_,_⟩
 ·left;simpa using e1
 ·right
  have e1:v= .slice (some a) len cap:=by simpa using e1
  subst e1
  have hspot:a.spot=none:=by
   simp only[Cell.okWide,Cell.ok,ht,World.has] at hok
   exact hok.2.2.2.1
  rw[hm] at hget
  have each:∀i,i<len→∃x:List AV × List Value,w.cells? 0 (a.add (i*m)) m=some x.2∧RepL w (fun b=>b<w.heap.size) (fun _=>none) x.1 x.2∧p x.1∧x.1.length=m:=fun i hi=>by
   have h1:=hget i hi
   have h2:elems[i]? ≠none:=by
    rw[List.getElem?_eq_getElem (by omega)];simp
   cases hc:w.cells? 0 (a.add (i*m)) m with
   |none=>rw[hc] at h1;exact absurd h1.symm h2
   | some cs=>
    rw[hc] at h1
    simp only[Option.bind_some] at h1
    cases hx:elems[i]? with
    |none=>exact absurd hx h2
    |some x=>
     rw[hx] at h1
     obtain ⟨l,hl,hp⟩:=hread n cs x (yu hc).1 h1
     exact ⟨(l,cs),rfl,hl,hp,by rw[hl.1];exact (yu hc).1⟩
  obtain ⟨xs,hlen,hxs⟩:=Do len each
  refine ⟨xs.map (·.1), ?_,fun c hc=> ?_, ?_⟩
  ·have hat:∀ (i:Nat) (u:AV),(List.map kH (xs.map (·.1)))[i]? =some u→∃x:List AV × List Value,xs[i]? =some x∧u=kH x.1:=fun i u hu=>by
    rw[List.getElem?_map,List.getElem?_map] at hu
    cases hx:xs[i]? with
    |none=>rw[hx] at hu;cases hu
    |some x=>rw[hx] at hu;exact ⟨x,rfl,by simpa using hu.symm⟩
   refine .fsl false _ (some a) len cap m a.block a.off (fun i j=>((xs[i]?.map (·.2)).getD [])[j]?.getD default) (by simp[hlen]) hlc (fun h=>by cases h) (.inl (by rw[←hspot])) (fun hne=> ?_) (fun u hu=> ?_) (fun i u j c hu hc=> ?_) (fun i u j c hu hc=> ?_)
   ·have hpos':0<len:=by
     rcases Nat.eq_zero_or_pos len with h0|h0
     ·have:xs=[]:=List.length_eq_zero_iff.1 (by omega)
      subst this;exact absurd rfl hne
     ·exact h0
    obtain ⟨x,hx⟩:∃x,xs[0]? =some x:=⟨xs[0]'(by omega),List.getElem?_eq_getElem (by omega)⟩
    have:=World.cells?_block (hxs 0 x hx).1 hpos
    rw[yt hspot] at this
    exact this
   ·obtain ⟨i,hi⟩:=List.getElem?_of_mem hu
    obtain ⟨x,hx,rfl⟩:=hat i u hi
    rw[qN];exact (hxs i x hx).2.2.2
   ·obtain ⟨x,hx,rfl⟩:=hat i u hu
    rw[qN] at hc
    obtain ⟨h1,h2,h3,h4⟩:=hxs i x hx
    obtain ⟨y,hy,_⟩:=h2.get hc
    have hj:j<m:=by rw[←h4];exact (List.getElem?_eq_some_iff.1 hc).1
    have:=(yu h1).2 j hj
    rw[yt hspot,yt rfl] at this
    simp only[hx,Option.map_some,Option.getD_some,hy]
    rw[this,hy]
   ·obtain ⟨x,hx,rfl⟩:=hat i u hu
    rw[qN] at hc
    obtain ⟨h1,h2,h3,h4⟩:=hxs i x hx
    obtain ⟨y,hy,hr⟩:=h2.get hc
    simpa only[hx,Option.map_some,Option.getD_some,hy] using hr
  ·obtain ⟨x,hx,rfl⟩:=List.mem_map.1 hc
   obtain ⟨i,hi⟩:=List.getElem?_of_mem hx
   exact (hxs i x hi).2.2
  ·simp only[List.length_map,hlen];exact Nat.le_trans hlc hcap
theorem Ld {i:TypeId} {k:IntKind} {f0 f1 f2 f3:Field} (ht:P.underlying e=some (.struct #[f0,f1,f2,f3])) (h0:f0.type=i∧f0.offset=0) (h1:f1.type=i∧f1.offset=1) (h2:f2.type=i∧f2.offset=2) (h3:f3.type=i∧f3.offset=3)
  (he:P.underlying i=some (.int k)) (hc:P.cellsOf i=1) (hs:P.cellsOf e=4):Dp H enc P w spare held e 4 fun l=>∃a b c z:Int,l=[.int k a,.int k b,.int k c,.int k z]∧(k.min≤a∧a≤k.max)∧(k.min≤b∧b≤k.max)∧(k.min≤c∧c≤k.max)∧(k.min≤z∧z≤k.max):=by
 refine ⟨hs,by omega,fun fuel cs x hl h=> ?_⟩
 obtain ⟨xs,n,_,_,_,hxl,hel⟩:=DataW.trod_struct ht h
 have at':∀ (j:Nat) (f:Field),j<4→ #[f0,f1,f2,f3][j]? =some f→f.type=i→f.offset=j→∃z,cs[j]? =some (.int k z)∧k.min≤z∧z≤k.max:=fun j f hj hf hte ho=>by
  have hE:=hel j f hf
  rw[hte,hc,ho,List.getElem?_eq_getElem (by rw[hxl];simpa using hj)] at hE
  obtain ⟨z,e1,_,hw⟩:=DataW.trod_int he hE
  have e7:((cs.drop j).take 1)[0]? =some (.int k z):=by rw[e1];rfl
  rw[List.getElem?_take_of_lt (by omega),List.getElem?_drop] at e7
  exact ⟨z,by simpa using e7,by simpa [Lit.wf] using hw⟩
 obtain ⟨a,ha,wa⟩:=at' 0 f0 (by omega) rfl h0.1 h0.2
 obtain ⟨b,hb,wb⟩:=at' 1 f1 (by omega) rfl h1.1 h1.2
 obtain ⟨c,hc',wc⟩:=at' 2 f2 (by omega) rfl h2.1 h2.2
 obtain ⟨z,hz,wz⟩:=at' 3 f3 (by omega) rfl h3.1 h3.2
 refine ⟨[.int k a,.int k b,.int k c,.int k z], ?_,a,b,c,z,rfl,wa,wb,wc,wz⟩
 have:cs=[.int k a,.int k b,.int k c,.int k z]:=by
  apply List.ext_getElem?
  intro j
  match j with
  |0=>exact ha
  |1=>exact hb
  |2=>exact hc'
  |3=>exact hz
  |j+4=>rw[List.getElem?_eq_none (by omega),List.getElem?_eq_none (by simp)]
 subst this
 exact .cons (.int _ _) (.cons (.int _ _) (.cons (.int _ _) (.cons (.int _ _) .nil)))
end
end Go.Proofs.Abs
/- States seen anew, with rows that are written no more made part of the values. -/
namespace Go.Proofs.Abs
open Go
def oF (m:Nat) (h:af):Blk→Blk→Prop
 | .cells l,.cells l'=>FrzL m h l l'
 | .siter s p,.siter s' p'=>s=s'∧p=p'
 | .mapb c s l,.mapb c' s' l'=>c=c'∧s=s'∧∃d,nV (aW m h d) l=some l'
 | .miter m a b c,.miter m' a' b' c'=>m=m'∧a=a'∧b=b'∧c=c'
 |_,_=>False
section
variable {G:aP} {w:World} {I:Nat→Prop} {α:Nat→Option Nat} {H:af}
theorem Dq {m b:Nat} {b0 b1:Blk} (r:Rel G w I α H) (hf:oF m H b0 b1) (h:BRel w I α b b0):BRel w (de I α H m) α b b1:=by
 cases b0 with
 | cells l=>cases b1 with
  |cells l'=>
   obtain ⟨d,hl'⟩:=hf
   obtain ⟨c,e,h1,h2,h3⟩:=h
   have hlen:=(kQ hl').1
   have h4:=(iG r m d).list hl' h3
   exact ⟨c,e,h1,by rw[hlen];exact h2,by rw[hlen];exact h4⟩
  |_=>exact hf.elim
 |siter s p=>cases b1 with
  |siter s' p'=>obtain ⟨rfl,rfl⟩:=hf;exact h
  |_=>exact hf.elim
 |miter m a b c=>cases b1 with
  |miter m' a' b' c'=>obtain ⟨rfl,rfl,rfl,rfl⟩:=hf;exact h
  |_=>exact hf.elim
 | mapb c s l=>cases b1 with
  |mapb c' s' l'=>
   obtain ⟨rfl,rfl,d,hes⟩:=hf
   obtain ⟨en,h1,h2,h4,h3⟩:=h
   obtain ⟨k1,k2⟩:=xJ (iG r m d) hes
   refine ⟨en,h1,by rw[k1];exact h2,h4,fun i x' y e1 e2=> ?_⟩
   obtain ⟨x,g1,g2,g3⟩:=k2 i x' e1
   obtain ⟨q1,q2⟩:=h3 i x y g1 e2
   exact ⟨g2 _ q1,g3 _ q2⟩
  |_=>exact hf.elim
end
section
variable {G:aP} {w0:World} {I0:Nat→Prop} {α0:Nat→Option Nat} {H0:af} {nx0:Nat} {D:List Deferred}
theorem CR.freeze {s s2:St} {a:Act} {w:World} (m:Nat) (h:CR G w0 I0 α0 H0 nx0 D s a w) (hn:s2.n=s.n) (hnx:s2.nx=s.nx)
  (hS:∀k v,s2.slots.get k=some v→∃u,s.slots.get k=some u∧Frz m s.heap u v)
  (hH:∀i b,hget s2.heap i=some b→i<m∧∃b1,hget s.heap i=some b1∧oF m s.heap b1 b):CR G w0 I0 α0 H0 nx0 D s2 a w:=by
 obtain ⟨⟨I,α,ev,rel,hs,_,hf,hnew⟩,h7,h8,h9,h10,h11⟩:=h
 have hlive:∀i,hget s2.heap i≠none→i<m∧hget s.heap i≠none:=fun i hi=>by
  cases hb:hget s2.heap i with
  |none=>exact absurd hb hi
  |some b=>
   obtain ⟨h1,b1,h2,_⟩:=hH i b hb
   exact ⟨h1,by rw[h2];simp⟩
 have hown:∀b,ci α s2.heap b→ci α s.heap b:=fun b ⟨i,h1,h2⟩=>⟨i,(hlive i h1).2,h2⟩
 refine ⟨⟨de I α s.heap m,α,⟨ev.os,fun b hb=> .inl (ev.I_mono b hb),ev.α_mono,ev.size,ev.frame,ev.shape,fun b hb=> ?_,fun b hb=>ev.own b (hown b hb)⟩, ?_, ?_,fun i hi=>absurd hi (Nat.not_lt_zero i),fun id hid=>hf id (by rw[hnx] at hid;exact hid),fun id hid=> ?_⟩,Nat.le_refl _,by rw[hnx];exact h8,h9,by rw[hn];exact h10,by rw[hn];exact h11⟩
 ·rcases hb with hb|⟨id,_,h2,h3⟩
  ·exact ev.Inew b hb
  ·rcases ev.own b ⟨id,h2,h3⟩ with h|h
   ·exact .inr (.inl h)
   ·exact .inr (.inr h)
 ·exact
  {live:=fun i blk hi=>by
    obtain ⟨hm,b1,e2,e3⟩:=hH i blk hi
    obtain ⟨b,k1,k2,k3⟩:=rel.live i b1 e2
    refine ⟨b,k1, ?_,Dq rel e3 k3⟩
    rintro (hb|⟨id,h1,h2,h3⟩)
    ·exact k2 hb
    ·have:=rel.inj id i b h2 (by rw[e2];simp) h3 k1
     omega
   inj:=fun i i' b h1 h2 h3 h4=>rel.inj i i' b (hlive i h1).2 (hlive i' h2).2 h3 h4
   imm:=fun b hb=>by
    rcases hb with hb|⟨id,_,_,h3⟩
    ·exact rel.imm b hb
    ·exact rel.dom id b h3
   dom:=rel.dom
   glob:=fun g l hgl=>by
    obtain ⟨h1,h2⟩:=rel.glob g l hgl
    refine ⟨.inl h1,fun j x hx=> ?_⟩
    obtain ⟨y,e1,e2⟩:=h2 j x hx
    exact ⟨y,e1,e2.mono (fun _ h=> .inl h) (fun _ _ h=>h) (fun _ _ _=>rfl) (fun _ _ _=>rfl)⟩}
 ·intro k v hv
  obtain ⟨u,e1,d,e2⟩:=hS k v hv
  obtain ⟨y,e3,e4⟩:=hs k u e1
  exact ⟨y,e3,iG rel m d _ _ _ e2 e4⟩
 ·rw[hnx];exact hnew id hid
end
end Go.Proofs.Abs
/- Loops: states by number, seen anew behind each round. -/
namespace Go.Proofs.Abs
open Go
def rq (lk:List (Nat × Nat)):AV→AV→Prop
 | .ptr i o,u=>match u with
  | .ptr j p=>bA lk i=some j∧o=p
  |_=>False
 | .rsl w i o l z,u=>match u with
  | .rsl w' j o' l' z'=>w=w'∧bA lk i=some j∧o=o'∧l=l'∧z=z'
  |_=>False
 | .map i,u=>match u with
  | .map j=>bA lk i=some j
  |_=>False
 |v,u=>u=v∧ah v=true
theorem tT {lk:List (Nat × Nat)} {v u:AV} (h:rq lk v u):RenV lk v u:=by
 unfold rq at h
 split at h
 ·split at h
  ·obtain ⟨h1,rfl⟩:=h;exact .ptr _ _ _ h1
  ·exact h.elim
 ·split at h
  ·obtain ⟨rfl,h1,rfl,rfl,rfl⟩:=h;exact .rsl _ _ _ _ _ _ h1
  ·exact h.elim
 ·split at h
  ·exact .map _ _ h
  ·exact h.elim
 ·obtain ⟨rfl,hc⟩:=h;exact .same _ hc
def oG (lk:List (Nat × Nat)):List AV→List AV→Prop
 |[],[]=>True
 |a::t,b::u=>rq lk a b∧oG lk t u
 |_,_=>False
theorem Dr {lk:List (Nat × Nat)}:∀ {l l':List AV},oG lk l l'→l.length=l'.length∧∀ (i:Nat) x y,l[i]? =some x→l'[i]? =some y→RenV lk x y
 |[],[],_=>⟨rfl,fun i x y h=>by simp at h⟩
 |a::t,b::u,h=>by
  obtain ⟨h1,h2⟩:=Dr h.2
  refine ⟨by simp[h1],fun i x y hx hy=> ?_⟩
  cases i with
  |zero=>simp only[List.getElem?_cons_zero,Option.some.injEq] at hx hy;subst hx;subst hy;exact tT h.1
  |succ i=>exact h2 i x y (by simpa using hx) (by simpa using hy)
 |[],_::_,h=>h.elim
 |_::_,[],h=>h.elim
def yv (lk:List (Nat × Nat)):AV→AV→Prop
 | .func fn f c,u=>match u with
  | .func fn' f' c'=>(fn=fn'∧f=f'∧ac f=true)∧oG lk c c'
  |_=>False
 | .iface t v,u=>match u with
  | .iface t' v'=>t=t'∧rq lk v v'
  |_=>False
 |v,u=>rq lk v u
theorem Le {lk:List (Nat × Nat)} {v u:AV} (h:yv lk v u):RenV lk v u:=by
 unfold yv at h
 split at h
 ·split at h
  ·obtain ⟨⟨rfl,rfl,hf⟩,hc⟩:=h
   obtain ⟨h1,h2⟩:=Dr hc
   exact .func _ _ _ _ hf h1 h2
  ·exact h.elim
 ·split at h
  ·obtain ⟨rfl,h⟩:=h;exact .iface _ (tT h)
  ·exact h.elim
 ·exact tT h
inductive yw where
 |whole
 |each
 |rel
 |split (pre suf old:List AV)
structure df (lk:List (Nat × Nat)) (l l':List AV):Prop where
 out:RenL lk l l'
def tU:List (AV × AV)→Bool
 |[]=>true
 |(a,b)::t=>ah a&&(ah b&&tU t)
theorem RenP.same (lk:List (Nat × Nat)):∀ {l:List (AV × AV)},tU l=true→RenP lk l l
 |[],_=>trivial
 |(a,b)::t,h=>by
  simp only[tU,Bool.and_eq_true] at h
  exact ⟨.same a h.1,.same b h.2.1,RenP.same lk h.2.2⟩
def yx (lk:List (Nat × Nat)) (mode:yw):Blk→Blk→Prop
 | .cells l,.cells l'=>match mode with
  | .whole=>l'=l∧ac l=true
  | .each=>oG lk l l'
  | .rel=>df lk l l'
  | .split pre suf old=>(l=pre++suf∧l'=pre++old)∧(ac pre=true∧oG lk suf old)
 | .siter s p,.siter s' p'=>s=s'∧p=p'
 | .miter m a b c,.miter m' a' b' c'=>a=a'∧b=b'∧c=c'∧bA lk m=some m'
 | .mapb c s l,.mapb c' s' l'=>(c=c'∧s=s'∧l'=l)∧tU l=true
 |_,_=>False
theorem yy {lk:List (Nat × Nat)}:∀ {l l':List AV},oG lk l l'→RenL lk l l'
 |[],[],_=>trivial
 |_a::_t,_b::_u,h=>⟨tT h.1,yy h.2⟩
 |[],_::_,h=>h.elim
 |_::_,[],h=>h.elim
theorem RenL.append' {lk:List (Nat × Nat)}:∀ {a b c d:List AV},RenL lk a b→RenL lk c d→RenL lk (a++c) (b++d)
 |[],[],_,_,_,h=>h
 |_::_,_::_,_,_,h1,h2=>⟨h1.1,RenL.append' h1.2 h2⟩
 |[],_::_,_,_,h,_=>h.elim
 |_::_,[],_,_,h,_=>h.elim
theorem Lf {lk:List (Nat × Nat)} {wh:yw} {b b':Blk} (h:yx lk wh b b'):kV lk b b':=by
 cases b with
 | cells l=>cases b' with
  | cells l'=>
   simp only[yx] at h
   split at h
   ·obtain ⟨rfl,hc⟩:=h;exact RenL.same lk hc
   ·exact yy h
   ·exact h.out
   ·obtain ⟨⟨rfl,rfl⟩,hc,h⟩:=h
    exact RenL.append' (RenL.same lk hc) (yy h)
  |_=>exact h.elim
 |siter s p=>cases b' with
  |siter s' p'=>exact h
  |_=>exact h.elim
 |miter m a b c'=>cases b' with
  |miter m' a' b' c'=>exact h
  |_=>exact h.elim
 | mapb c s l=>cases b' with
  |mapb c' s' l'=>
   obtain ⟨⟨rfl,rfl,rfl⟩,hc⟩:=h
   exact ⟨rfl,rfl,RenP.same lk hc⟩
  |_=>exact h.elim
abbrev Heap2:=List (Nat × Blk × yw)
def Heap2.heap:Heap2→af
 |[]=>[]
 |(i,b,_)::t=>(i,some b)::Heap2.heap t
def yz (lk:List (Nat × Nat)) (g:Nat→Option AV):List (Nat × AV)→Prop
 |[]=>True
 |(k,v)::t=>(match g k with
  |some u=>yv lk v u
  |none=>False)∧yz lk g t
def yA (g:Nat→Option AV):List (Nat × AV)→Prop
 |[]=>True
 |(k,v)::t=>(match g k with
  |some u=>u=v∧ah v=true
  |none=>False)∧yA g t
def yB (lk:List (Nat × Nat)) (g:Nat→Option Blk):Heap2→Prop
 |[]=>True
 | (i,b,wh)::t=>(match bA lk i with
  |some j=>match g j with
   |some c=>yx lk wh b c
   |none=>False
  |none=>False)∧yB lk g t
structure View where
 slots:List (Nat × AV)
 refs:List (Nat × AV)
 heap:Heap2
 nx:Nat
 n:Nat
noncomputable def View.st (V:View):St:=⟨sl (V.slots++V.refs),V.heap.heap,V.nx,V.n⟩
def tV:List Nat→Bool
 |[]=>true
 |a::t=> !ff t a&&tV t
def Ds (nx0 nx:Nat) (lk:List (Nat × Nat)):Bool:=tV (lk.map (·.2))&&(mq (lk.map (·.1)) nx&&Nat.ble nx0 nx)
def tW (lk:List (Nat × Nat)):Nat→Bool
 |0=>true
 |n+1=>(match bA lk n with
  |some j=>Nat.beq j n
  |none=>false)&&tW lk n
def ck (nx0:Nat) (lk:List (Nat × Nat)) (V:View) (s:St):Prop:=
 au (Ds nx0 V.nx lk&&(tW lk nx0&&Nat.beq V.n s.n)) (yA s.slots.get V.slots∧(yz lk s.slots.get V.refs∧yB lk (hget s.heap) V.heap))
def Says2 (G:aP) (nx0:Nat) (s s2:St):Prop:=
 ∀w0 I0 α0 H0 D a w,(∀id,nx0≤id→α0 id=none)→CR G w0 I0 α0 H0 nx0 D s a w→CR G w0 I0 α0 H0 nx0 D s2 a w
theorem Du:∀ {l:List Nat},tV l=true→l.Nodup
 |[],_=> .nil
 |a::t,h=>by
  simp only[tV,Bool.and_eq_true,Bool.not_eq_true'] at h
  refine List.nodup_cons.2 ⟨fun hm=> ?_,Du h.2⟩
  rw[memN_iff.2 hm] at h;exact Bool.noConfusion h.1
theorem Dv {lk:List (Nat × Nat)}:∀ {n:Nat},tW lk n=true→∀i,i<n→bA lk i=some i
 |0,_=>by simp
 | n+1,h=>fun i hi=>by
  simp only[tW,Bool.and_eq_true] at h
  rcases Nat.lt_or_ge i n with h'|h'
  ·exact Dv h.2 i h'
  ·have:i=n:=by omega
   subst this
   have h1:=h.1
   split at h1
   ·rename_i j hj;rw[hj,beq_iff.1 h1]
   ·cases h1
theorem yC {H2:Heap2} {i:Nat} {b:Blk} (h:hget H2.heap i=some b):∃wh,(i,b,wh)∈H2:=by
 induction H2 with
 |nil=>simp[Heap2.heap,hget] at h
 | cons p t ih=>
  obtain ⟨j,c,wh⟩:=p
  simp only[Heap2.heap,hget] at h
  split at h
  ·rename_i he
   have he:=beq_iff.1 he
   simp only[Option.some.injEq] at h
   subst he;subst h
   exact ⟨wh,by simp⟩
  ·obtain ⟨wh,hm⟩:=ih h
   exact ⟨wh,by simp[hm]⟩
theorem Dw {lk:List (Nat × Nat)} {g:Nat→Option AV}:∀ {L:List (Nat × AV)},yz lk g L→∀k v,(k,v)∈L→∃u,g k=some u∧RenV lk v u
 |[],_,_,_,h=>by cases h
 | (k',v')::t,h,k,v,hm=>by
  rcases List.mem_cons.1 hm with e|hm
  ·cases e
   have h1:=h.1
   split at h1
   ·rename_i u hu;exact ⟨u,hu,Le h1⟩
   ·exact h1.elim
  ·exact Dw h.2 k v hm
theorem Dx {lk:List (Nat × Nat)} {g:Nat→Option AV}:∀ {L:List (Nat × AV)},yA g L→∀k v,(k,v)∈L→∃u,g k=some u∧RenV lk v u
 |[],_,_,_,h=>by cases h
 | (k',v')::t,h,k,v,hm=>by
  rcases List.mem_cons.1 hm with e|hm
  ·cases e
   have h1:=h.1
   split at h1
   ·rename_i u hu
    obtain ⟨rfl,hc⟩:=h1
    exact ⟨u,hu,.same _ hc⟩
   ·exact h1.elim
  ·exact Dx h.2 k v hm
theorem Dy {lk:List (Nat × Nat)} {g:Nat→Option Blk}:∀ {H2:Heap2},yB lk g H2→∀i b wh,(i,b,wh)∈H2→∃j b1,bA lk i=some j∧g j=some b1∧kV lk b b1
 |[],_,_,_,_,h=>by cases h
 | (i',b',wh')::t,h,i,b,wh,hm=>by
  rcases List.mem_cons.1 hm with e|hm
  ·cases e
   have h1:=h.1
   split at h1
   ·rename_i j hj
    split at h1
    ·rename_i c hc;exact ⟨j,c,hj,hc,Lf h1⟩
    ·exact h1.elim
   ·exact h1.elim
  ·exact Dy h.2 i b wh hm
theorem fM {G:aP} {nx0:Nat} {lk:List (Nat × Nat)} {V:View} {s:St} (hg:∀g l,G g=some l→ac l=true) (h:ck nx0 lk V s):Says2 G nx0 s V.st:=by
 obtain ⟨hb,h0,h1,h2⟩:=oblB_iff.1 h
 simp only[Ds,Bool.and_eq_true] at hb
 obtain ⟨⟨b1,b2,b3⟩,b4,b5⟩:=hb
 intro w0 I0 α0 H0 D a w hα hr
 refine hr.turnIn lk hg hα (beq_iff.1 b5) (fun k v hv=>by
   rcases List.mem_append.1 (qY hv) with hm|hm
   ·exact Dx h0 k v hm
   ·exact Dw h1 k v hm) (fun i b hi=> ?_) (Du b1) (fun i hi=> ?_) (Dv b4) (Nat.le_of_ble_eq_true b3)
 ·obtain ⟨wh,hm⟩:=yC hi
  exact Dy h2 i b wh hm
 ·cases hl:bA lk i with
  |none=>rfl
  |some j=>
   have:=jM b2 i (List.mem_map.2 ⟨_,mP hl,rfl⟩)
   have hi:V.nx≤i:=hi
   omega
def tX (m:Nat) (h:af) (g:Nat→Option AV):List (Nat × AV)→Prop
 |[]=>True
 |(k,v)::t=>(match g k with
  |some u=>Frz m h u v
  |none=>False)∧tX m h g t
def tY (m:Nat) (h:af):Heap2→Prop
 |[]=>True
 |(i,b,_)::t=>(au (Nat.blt i m) (match hget h i with
  |some c=>oF m h c b
  |none=>False))∧tY m h t
def Dz (m:Nat) (V:View) (s:St):Prop:=au (Nat.beq V.n s.n&&Nat.beq V.nx s.nx) (tX m s.heap s.slots.get (V.slots++V.refs)∧tY m s.heap V.heap)
theorem yD {m:Nat} {h:af} {g:Nat→Option AV}:∀ {L:List (Nat × AV)},tX m h g L→∀k v,(k,v)∈L→∃u,g k=some u∧Frz m h u v
 |[],_,_,_,h=>by cases h
 | (k',v')::t,h,k,v,hm=>by
  rcases List.mem_cons.1 hm with e|hm
  ·cases e
   have h1:=h.1
   split at h1
   ·rename_i u hu;exact ⟨u,hu,h1⟩
   ·exact h1.elim
  ·exact yD h.2 k v hm
theorem yE {m:Nat} {h:af}:∀ {H2:Heap2},tY m h H2→∀i b wh,(i,b,wh)∈H2→i<m∧∃b1,hget h i=some b1∧oF m h b1 b
 |[],_,_,_,_,h=>by cases h
 | (i',b',wh')::t,h,i,b,wh,hm=>by
  rcases List.mem_cons.1 hm with e|hm
  ·cases e
   obtain ⟨hb,h1⟩:=oblB_iff.1 h.1
   refine ⟨blt_iff.1 hb, ?_⟩
   split at h1
   ·rename_i c hc;exact ⟨c,hc,h1⟩
   ·exact h1.elim
  ·exact yE h.2 i b wh hm
theorem Lg {G:aP} {nx0 m:Nat} {V:View} {s:St} (h:Dz m V s):Says2 G nx0 s V.st:=by
 obtain ⟨hb,h1,h2⟩:=oblB_iff.1 h
 rw[Bool.and_eq_true] at hb
 intro w0 I0 α0 H0 D a w _ hr
 refine hr.freeze m (beq_iff.1 hb.1) (beq_iff.1 hb.2) (fun k v hv=>yD h1 k v (qY hv)) fun i b hi=> ?_
 obtain ⟨wh,hm⟩:=yC hi
 exact yE h2 i b wh hm
theorem Says2.trans {G:aP} {nx0:Nat} {s s1 s2:St} (h1:Says2 G nx0 s s1) (h2:Says2 G nx0 s1 s2):Says2 G nx0 s s2:=fun w0 I0 α0 H0 D a w hα hr=>h2 w0 I0 α0 H0 D a w hα (h1 w0 I0 α0 H0 D a w hα hr)
theorem Says2.refl {G:aP} {nx0:Nat} {s:St}:Says2 G nx0 s s:=fun _ _ _ _ _ _ _ _ h=>h
section
variable {P:Program} {G:aP} {nx0:Nat} {s s2:St} {Q Q':AExit→St→Prop}
theorem AWp.says {c:Code} (hs:Says2 G nx0 s s2) (h:AWp P G nx0 c s2 Q):AWp P G nx0 c s Q:=
 ⟨fun w0 I0 α0 H0 D a w hα hr=>h.out w0 I0 α0 H0 D a w hα (hs w0 I0 α0 H0 D a w hα hr)⟩
theorem AWp.saysEnd {c:Code} (h:AWp P G nx0 c s Q) (hq:∀e s',Q e s'→∃s2,Says2 G nx0 s' s2∧Q' e s2):AWp P G nx0 c s Q':=
 ⟨fun w0 I0 α0 H0 D a w hα hr=>wp_mono (h.out w0 I0 α0 H0 D a w hα hr) fun _ _ _ ⟨x,s',h1,h2,h3⟩=>by
  obtain ⟨s2,k1,k2⟩:=hq x s' h3
  exact ⟨x,s2,h1,k1 w0 I0 α0 H0 D _ _ hα h2,k2⟩⟩
theorem AWp.loopN {body:Code} (S:Nat→St):∀ (k j:Nat),(∀i,j≤i→i≤j+k→AWp P G nx0 body (S i) (fun e s'=>(e= .normal∧i<j+k∧Says2 G nx0 s' (S (i+1)))∨(e≠ .normal∧∃s2,Says2 G nx0 s' s2∧Q e s2)))→
  AWp P G nx0 (.loop body) (S j) Q:=fun k j h=>by
 refine .loop (k+1) ?_
 induction k generalizing j with
 | zero=>
  refine (h j (Nat.le_refl _) (Nat.le_refl _)).saysEnd fun e s' hq=> ?_
  rcases hq with ⟨_,h1,_⟩|⟨hne,s2,h1,h2⟩
  ·omega
  ·refine ⟨s2,h1, ?_⟩
   cases e with
   |normal=>exact absurd rfl hne
   |exit i=>exact h2
   |ret=>exact h2
 | succ k ih=>
  refine (h j (Nat.le_refl _) (by omega)).saysEnd fun e s' hq=> ?_
  rcases hq with ⟨rfl,h1,h2⟩|⟨hne,s2,h1,h2⟩
  ·exact ⟨_,h2,ih (j+1) fun i h3 h4=>(h i (by omega) (by omega)).mono fun e s'' hq=>by
    rcases hq with ⟨h5,h6,h7⟩|h5
    ·exact .inl ⟨h5,by omega,h7⟩
    ·exact .inr h5⟩
  ·refine ⟨s2,h1, ?_⟩
   cases e with
   |normal=>exact absurd rfl hne
   |exit i=>exact h2
   |ret=>exact h2
end
def oH (nx0:Nat) (lk:List (Nat × Nat)) (V:View) (lk':List (Nat × Nat)) (F:View) (go:Bool) (Q:AExit→St→Prop):AExit→St→Prop:=fun e s=>match e with
 | .normal=>au go (ck nx0 lk V s)
 |e=>ck nx0 lk' F s∧Q e F.st
theorem AWp.loopV {P:Program} {O:bn} {n:Nat} {nx0:Nat} {Q:AExit→St→Prop} {body:Code} (B:cU P O n) (A:Nat→aX) (V F:Nat→View) (lk lk':Nat→List (Nat × Nat)) (k j:Nat) (hA:∀i,cQ P O (A i)) (hls:∀i,LsOk P O.glob nx0 (A i) body)
  (h:∀i,j≤i→i≤j+k→aI P O n (A i) body (V i).st (oH nx0 (lk i) (V (i+1)) (lk' i) (F i) (Nat.blt i (j+k)) Q)):AWp P O.glob nx0 (.loop body) (V j).st Q:=by
 refine AWp.loopN (fun i=>(V i).st) k j fun i h1 h2=>(tQ B (hA i) body _ _ (hls i) (h i h1 h2)).mono fun e s hq=> ?_
 cases e with
 |normal=>
  obtain ⟨hb,hs⟩:=oblB_iff.1 hq
  exact .inl ⟨rfl,blt_iff.1 hb,fM B.glob hs⟩
 |exit x=>exact .inr ⟨(fun h=>by cases h),(F i).st,fM B.glob hq.1,hq.2⟩
 |ret=>exact .inr ⟨(fun h=>by cases h),(F i).st,fM B.glob hq.1,hq.2⟩
theorem AWp.loopM {P:Program} {O:bn} {n:Nat} {nx0:Nat} {Q:AExit→St→Prop} {body:Code} (B:cU P O n) (A:Nat→aX) (V M F:Nat→View) (lk lk':Nat→List (Nat × Nat)) (k j:Nat) (hA:∀i,cQ P O (A i)) (hls:∀i,LsOk P O.glob nx0 (A i) body)
  (hM:∀i,j≤i→i<j+k→Says2 O.glob nx0 (M i).st (V (i+1)).st)
  (h:∀i,j≤i→i≤j+k→aI P O n (A i) body (V i).st (oH nx0 (lk i) (M i) (lk' i) (F i) (Nat.blt i (j+k)) Q)):AWp P O.glob nx0 (.loop body) (V j).st Q:=by
 refine AWp.loopN (fun i=>(V i).st) k j fun i h1 h2=>(tQ B (hA i) body _ _ (hls i) (h i h1 h2)).mono fun e s hq=> ?_
 cases e with
 |normal=>
  obtain ⟨hb,hs⟩:=oblB_iff.1 hq
  exact .inl ⟨rfl,blt_iff.1 hb,(fM B.glob hs).trans (hM i h1 (blt_iff.1 hb))⟩
 |exit x=>exact .inr ⟨(fun h=>by cases h),(F i).st,fM B.glob hq.1,hq.2⟩
 |ret=>exact .inr ⟨(fun h=>by cases h),(F i).st,fM B.glob hq.1,hq.2⟩
def cd (r0:Nat) (L:bq):Nat→Option bq:=fun r=>match Nat.beq r r0 with
 |true=>some L
 |false=>none
def Lh (r0 i0:Nat) (h:dU):Nat→Nat→Option dU:=fun r i=>match Nat.beq r r0&&Nat.beq i i0 with
 |true=>some h
 |false=>none
def oI:aY:=fun _ _ _ _ _=>none
noncomputable def jR (hint:Nat→Nat→Option dU) (ls:Nat→Option bq):aX:=⟨hint,ls,oI,aH,ye,iI⟩
theorem tZ {P:Program} {O:bn} {hint:Nat→Nat→Option dU} {ls:Nat→Option bq} (h:∀f args v,O.summ f args=some v→SemCall P O.glob f args v):cQ P O (jR hint ls):=⟨tN,h,fun _ _ h=>(by cases h),fun _ _ h=>(by cases h)⟩
noncomputable def rt (hint:Nat→Nat→Option dU) (ls:Nat→Option bq) (sem:eP):aX:=⟨hint,ls,oI,sem,ye,iI⟩
theorem jS {P:Program} {O:bn} {hint:Nat→Nat→Option dU} {ls:Nat→Option bq} {sem:eP} (h:∀f args v,O.summ f args=some v→SemCall P O.glob f args v):cQ P O (rt hint ls sem):=⟨tN,h,fun _ _ h=>(by cases h),fun _ _ h=>(by cases h)⟩
theorem LsOk.none {P:Program} {G:aP} {nx0:Nat} {c:Code} {hint:Nat→Nat→Option dU}:LsOk P G nx0 (jR hint (fun _=>Option.none)) c:=fun r L hL=>by cases hL
theorem LsOk.one {P:Program} {G:aP} {nx0 r0:Nat} {L0:bq} {c b:Code} {hint:Nat→Nat→Option dU} (hat:bu c r0=[b]) (h:∀s Q,L0 s Q→AWp P G nx0 (.loop b) s Q):LsOk P G nx0 (jR hint (cd r0 L0)) c:=by
 intro r L hL x hx s Q hs
 simp only[jR,cd] at hL
 split at hL
 ·rename_i hr
  have hr:=beq_iff.1 hr
  simp only[Option.some.injEq] at hL
  rw[hr,hat,List.mem_singleton] at hx
  rw[hx]
  rw[←hL] at hs
  exact h s Q hs
 ·cases hL
def iM:List (Nat × bq)→Nat→Option bq
 |[],_=>none
 |(r,L)::t,k=>match Nat.beq k r with
  |true=>some L
  |false=>iM t k
def oJ:List (Nat × Nat × dU)→Nat→Nat→Option dU
 |[],_,_=>none
 |(r,i,h)::t,k,j=>match Nat.beq k r&&Nat.beq j i with
  |true=>some h
  |false=>oJ t k j
theorem LsOk.no {P:Program} {G:aP} {nx0:Nat} {c:Code} {A:aX} (h:A.ls=fun _=>Option.none):LsOk P G nx0 A c:=fun r L hL=>by rw[h] at hL;cases hL
theorem DA:∀ {l:List (Nat × bq)} {r:Nat} {L:bq},iM l r=some L→(r,L)∈l
 |[],_,_,h=>by cases h
 | (r0,L0)::t,r,L,h=>by
  simp only[iM] at h
  split at h
  ·rename_i hr
   have hr:=beq_iff.1 hr
   simp only[Option.some.injEq] at h
   subst hr;subst h;exact List.mem_cons_self ..
  ·exact List.mem_cons_of_mem _ (DA h)
theorem LsOk.many {P:Program} {G:aP} {nx0:Nat} {l:List (Nat × bq)} {c:Code} {A:aX} (hA:A.ls=iM l) (h:∀p∈l,∀b∈bu c p.1,∀s Q,p.2 s Q→AWp P G nx0 (.loop b) s Q):LsOk P G nx0 A c:=by
 intro r L hL x hx s Q hs
 rw[hA] at hL
 exact h (r,L) (DA hL) x hx s Q hs
def cy (P:Program) (f:FuncId):Code:=match P.funcs[f]? with
 |some fn=>match fn.body with
  |some c=>c
  |none=> .skip
 |none=> .skip
def aD (P:Program) (f r:Nat):Code:=match bu (cy P f) r with
 |b::_=>b
 |[]=> .skip
theorem Li {P:Program} {f:FuncId} {fn:Func} {c:Code} (h1:P.funcs[f]? =some fn) (h2:fn.body=some c):c=cy P f:=by
 unfold cy;rw[h1];simp only;rw[h2]
theorem aw {P:Program} {G:aP} {nx0:Nat} {A:aX} {f:FuncId} (h:LsOk P G nx0 A (cy P f)):iL P G nx0 A f:=fun fn c h1 h2=>by rw[Li h1 h2];exact h
end Go.Proofs.Abs
/- Calls that make blocks, known from a heap of their own. -/
namespace Go.Proofs.Abs
open Go
def shl (nx m:Nat):List (Nat × Nat):=(List.range m).map fun k=>(nx+k,k)
theorem Lj {l:List (Nat × Nat)} (h:(l.map (·.1)).Nodup) {i j:Nat} (hm:(i,j)∈l):bA l i=some j:=by
 induction l with
 |nil=>cases hm
 | cons p t ih=>
  obtain ⟨a,b⟩:=p
  simp only[List.map_cons,List.nodup_cons] at h
  simp only[bA]
  rcases List.mem_cons.1 hm with e|hm
  ·cases e;simp
  ·split
   ·rename_i he
    have he:=beq_iff.1 he
    exact absurd (List.mem_map.2 ⟨_,hm,by simp[he]⟩) h.1
   ·exact ih h.2 hm
theorem jT {nx m i:Nat}:bA (shl nx m) i=if nx≤i∧i<nx+m then some (i-nx) else none:=by
 split
 ·rename_i h
  refine Lj ?_ ?_
  ·unfold shl
   rw[List.map_map]
   rw[List.nodup_iff_pairwise_ne,List.pairwise_map]
   refine (List.nodup_range (n:=m)).imp fun {a b} h=> ?_
   simpa using h
  ·unfold shl
   exact List.mem_map.2 ⟨i-nx,by simp;omega,by simp;omega⟩
 ·rename_i h
  cases hl:bA (shl nx m) i with
  |none=>rfl
  |some j=>
   have:=mP hl
   unfold shl at this
   obtain ⟨k,hk,e⟩:=List.mem_map.1 this
   simp at hk e
   omega
section
variable {P:Program} {G:aP} {f:FuncId} {args:List AV} {v v2:AV} {H' H2:af} {m nx:Nat}
theorem yF (hg:∀g l,G g=some l→ac l=true) (hcl:ac args=true) (h:cw P G f args [] 0 v H' m) (hV:RenV (shl nx m) v2 v)
    (hH:∀i b2,hget H2 i=some b2→∃j b,bA (shl nx m) i=some j∧hget H' j=some b∧kV (shl nx m) b2 b):cw P G f args [] nx v2 H2 (nx+m):=by
  intro w I α vs r ha hf
  obtain ⟨e1,e2⟩:=h w I (fun _=>none) vs (kR hg r) (jf ha hcl) (fun _ _=>rfl)
  refine ⟨e1,e2.mono ?_⟩
  rintro e w' ⟨u,rfl,⟨⟨I',α',ev,rel,rep,hnew⟩,_⟩⟩
  refine ⟨u,rfl,⟨I',fun i=>match bA (shl nx m) i with|some j=>α' j|none=>α i, ?_, ?_, ?_, ?_⟩,by omega⟩
  · have hown:∀b,ci (fun i=>match bA (shl nx m) i with|some j=>α' j|none=>α i) H2 b→ci α' H' b:=fun b ⟨i,h1,h2⟩=>by
      cases hi:hget H2 i with
      |none=>exact absurd hi h1
      | some blk=>
        obtain ⟨j,b1,k1,k2,_⟩:=hH i blk hi
        exact ⟨j,by rw[k2];simp,by simpa [k1] using h2⟩
    refine ⟨ev.os,ev.I_mono,fun id b hb=> ?_,ev.size,fun b hb _=>ev.frame b hb g5,ev.shape,fun b hb=> ?_,fun b hb=> ?_⟩
    · have:bA (shl nx m) id=none:=by
        rw[jT,if_neg]
        intro hc
        rw[hf id hc.1] at hb;cases hb
      simp only[this];exact hb
    · rcases ev.Inew b hb with h|h|h
      · exact .inl h
      · exact .inr (.inl h)
      · exact absurd h g5
    · rcases ev.own b (hown b hb) with h|h
      · exact .inl h
      · exact absurd h g5
  · exact
    { live:=fun i blk hi=>by
        obtain ⟨j,b1,k1,k2,k3⟩:=hH i blk hi
        obtain ⟨b,q1,q2,q3⟩:=rel.live j b1 k2
        exact ⟨b,by simpa [k1] using q1,q2,brel_ext (xY k3 q3)⟩
      inj :=fun i i' b h1 h2 h3 h4=>by
        cases hi:hget H2 i with
        |none=>exact absurd hi h1
        | some blk=>
          cases hi':hget H2 i' with
          |none=>exact absurd hi' h2
          | some blk'=>
            obtain ⟨j,b1,k1,k2,_⟩:=hH i blk hi
            obtain ⟨j',b1',k1',k2',_⟩:=hH i' blk' hi'
            have hj:j=j':=rel.inj j j' b (by rw[k2];simp) (by rw[k2'];simp) (by simpa [k1] using h3) (by simpa [k1'] using h4)
            rw[jT] at k1 k1'
            split at k1<;>split at k1'<;>simp_all<;>omega
      imm:=rel.imm
      dom:=fun i b hb=>by
        split at hb
        · exact rel.dom _ b hb
        · exact Nat.lt_of_lt_of_le (r.dom i b hb) ev.size
      glob:=fun g l hgl=>by
        obtain ⟨h1,h2⟩:=rel.glob g l hgl
        refine ⟨h1,fun j x hx=> ?_⟩
        obtain ⟨y,k1,k2⟩:=h2 j x hx
        exact ⟨y,k1,rep_closed k2 (qX (hg g l hgl) hx)⟩}
  · exact rep_ext (oy hV rep)
  · intro i hi
    simp only at hi
    split at hi
    · rename_i j hj
      right
      rw[jT] at hj
      split at hj
      · assumption
      · cases hj
    · exact .inl hi
 where
  sub {α α':Nat→Option Nat} {nx m:Nat}:∀id b,((bA (shl nx m) id).bind α')=some b→(match bA (shl nx m) id with|some j=>α' j|none=>α id)=some b:=fun id b hb=>by
    cases hl:bA (shl nx m) id with
    |none=>rw[hl] at hb;cases hb
    |some j=>simpa [hl] using hb
  rep_ext {w:World} {I:Nat→Prop} {α α':Nat→Option Nat} {nx m:Nat} {a:AV} {v:Value} (h:Rep w I (fun i=>(bA (shl nx m) i).bind α') a v):Rep w I (fun i=>match bA (shl nx m) i with|some j=>α' j|none=>α i) a v:=
    h.mono (fun _ h=>h) sub (fun _ _ _=>rfl) (fun _ _ _=>rfl)
  brel_ext {w:World} {I:Nat→Prop} {α α':Nat→Option Nat} {nx m b:Nat} {blk:Blk} (h:BRel w I (fun i=>(bA (shl nx m) i).bind α') b blk):BRel w I (fun i=>match bA (shl nx m) i with|some j=>α' j|none=>α i) b blk:=by
    cases blk with
    |cells l=>obtain ⟨c,e,h1,h2,h3⟩:=h;exact ⟨c,e,h1,h2,h3.1,fun i x y hx hy=>rep_ext (h3.2 i x y hx hy)⟩
    |siter s p=>exact h
    |mapb c s es=>obtain ⟨en,h1,h2,h4,h3⟩:=h;exact ⟨en,h1,h2,h4,fun i x y hx hy=>⟨rep_ext (h3 i x y hx hy).1,rep_ext (h3 i x y hx hy).2⟩⟩
    |miter q a b c=>obtain ⟨mb,h1,h2⟩:=h;exact ⟨mb,sub _ _ h1,h2⟩
def oK (tbl:FuncId→List AV→Nat→Option (AV × af × Nat)):aY:=fun f args _ h nx=>match tbl f args nx with
 |some (v,H2,m)=>some (v,Mods.app (i8 (gb H2 []) (fH nx H2 H2)) h,nx+m,⟨true,[],[nx]⟩)
 |none=>none
theorem Ll {tbl:FuncId→List AV→Nat→Option (AV × af × Nat)} (h:∀f args nx v H2 m,tbl f args nx=some (v,H2,m)→cw P G f args [] nx v H2 (nx+m)):bJ P G (oK tbl)∧bK (oK tbl):=by
 refine ⟨?_, ?_⟩
 ·intro f args rid H nx v H' nx' ft hc w I α vs hr ha hrid hlt hf
  unfold oK at hc
  split at hc
  ·rename_i v0 H2 m ht
   simp only[Option.some.injEq,Prod.mk.injEq] at hc
   obtain ⟨rfl,rfl,rfl,rfl⟩:=hc
   have hcut:bZ H []=[]:=rfl
   obtain ⟨e1,e2⟩:=h f args nx v0 H2 m ht w I α vs (hcut▸oh hr []) ha hf
   rw[e1]
   refine Calls.mono e2 ?_
   rintro e w' ⟨u,rfl,hp⟩
   exact ⟨u,rfl,xQ (L:=[]) hr hf hp⟩
  ·cases hc
 ·intro f args id hp nx v h' nx' ft hc
  unfold oK at hc
  split at hc
  ·rename_i v0 H2 m ht
   simp only[Option.some.injEq,Prod.mk.injEq] at hc
   obtain ⟨rfl,rfl,rfl,rfl⟩:=hc
   refine ⟨fun hall=>(by cases hall),fun _ n l hw=> ?_⟩
   simp only[List.cons.injEq] at hw
   obtain ⟨rfl,rfl⟩:=hw
   refine ⟨rfl,by omega,_,rfl,fun p hp=> ?_,fun h2 _=> ?_⟩
   ·right
    rw[qT] at hp
    rcases List.mem_append.1 hp with hp|hp
    ·cases hp
    ·exact (om hp).1
   ·unfold oK;rw[ht]
  ·cases hc
theorem Lm {O:bn} {n:Nat} (hm:P.follows .mixedOrders=true) (hsum:∀f args v,O.summ f args=some v→SemCall P O.glob f args v) (hcx:bJ P O.glob O.cx∧bK O.cx) (hg:∀g l,O.glob g=some l→ac l=true)
  (h:tA (fD P O (bv P O n) f [] [] 0)=true):SemCall P O.glob f [] (.bool true):=by
 generalize hr:fD P O (bv P O n) f [] [] 0=r at h
 unfold tA at h
 split at h
 ·rename_i b hp
  obtain ⟨H',nx'⟩:=hp
  subst h
  obtain ⟨h1,h2⟩:=qU (P:=P) (O:=O) hm hsum hg hcx n
  refine ⟨fun w I α H rid nx vs r ha hrid hlt hf=> ?_⟩
  obtain ⟨e1,e2⟩:=og (w:=w) (vs:=vs) hm h1 h2 hr (kR hg r) (jf ha rfl) (fun _ _=>rfl)
  rw[e1]
  refine Calls.mono e2 ?_
  rintro e w' ⟨u,rfl,hp⟩
  exact ⟨u,rfl,mM (d:=1) r hp rfl rfl⟩
 ·cases h
end
end Go.Proofs.Abs
/- Calls that look at rows and answer plainly, known for closed arguments. -/
namespace Go.Proofs.Abs
open Go
def DB:AV→Bool
 | .int _ _| .bool _| .str _=>true
 |_=>false
def oL (S:FuncId→List AV→Option AV):aY:=fun f args _ h nx=>
 match b9 (aW 0 (bZ h (bL h 3 (bF args []))) 40) args with
 | some args'=>match ac args',S f args' with
  |true,some r=>match DB r with
   |true=>some (r,h,nx,⟨false,bL h 3 (bF args []),[]⟩)
   |false=>none
  |_,_=>none
 |none=>none
section
variable {P:Program} {G:aP}
theorem Ln {w w':World} {I I':Nat→Prop} {α α':Nat→Option Nat} {r:AV} {u:Value} (h:DB r=true) (hr:Rep w I α r u):Rep w' I' α' r u:=by
 cases r with
 |int k n=>cases hr;exact .int _ _
 |bool b=>cases hr;exact .bool _
 |str s=>cases hr with|str _ b hb=>exact .str s b hb
 |_=>cases h
theorem Lo {S:FuncId→List AV→Option AV} (hg:∀g l,G g=some l→ac l=true) (hS:∀f args r,ac args=true→S f args=some r→SemCall P G f args r):bJ P G (oL S)∧bK (oL S):=by
  refine ⟨?_, ?_⟩
  · intro f args rid H nx v H' nx' ft hc w I α vs hr ha hrid hlt hf
    unfold oL at hc
    split at hc
    · rename_i args' hfz
      split at hc
      · rename_i r hcl hsm
        split at hc
        · rename_i hsc
          simp only[Option.some.injEq,Prod.mk.injEq] at hc
          obtain ⟨rfl,rfl,rfl,rfl⟩:=hc
          have hcut:=oh hr (bL H 3 (bF args []))
          have h1:RepL w (de I α (bZ H (bL H 3 (bF args []))) 0) α args' vs.toList:=(iG hcut 0 40).list hfz ha
          have h2:Rel G w (de I α (bZ H (bL H 3 (bF args []))) 0) (fun _=>none) []:=
            { live:=fun id blk h=>by simp[hget] at h
              inj:=fun id id' b h=>absurd rfl h
              imm:=fun b hb=>by
                rcases hb with hb|⟨id,_,_,h3⟩
                · exact hcut.imm b hb
                · exact hcut.dom id b h3
              dom:=fun id b h=>by cases h
              glob:=fun g l hgl=>by
                obtain ⟨h1,h2⟩:=hcut.glob g l hgl
                refine ⟨.inl h1,fun j x hx=> ?_⟩
                obtain ⟨y,e1,e2⟩:=h2 j x hx
                exact ⟨y,e1,(rep_closed e2 (qX (hg g l hgl) hx)).mono (fun _ h=> .inl h) (fun _ _ h=>h) (fun _ _ _=>rfl) (fun _ _ _=>rfl)⟩}
          have h3:=(hS f args' _ hcl hsm).out w _ (fun _=>none) [] rid nx vs h2 (jf h1 hcl) rfl hlt (fun _ _=>rfl)
          refine out_mono h3 fun u w' ⟨⟨I',α',ev,_,hv,_⟩,_⟩=> ?_
          have eo:Ev w I α H w' I α H:=
            { os:=ev.os
              I_mono:=fun _ h=>h
              α_mono:=fun _ _ h=>h
              size:=ev.size
              frame:=fun b hb _=>ev.frame b hb g5
              shape:=ev.shape
              Inew:=fun _ h=> .inl h
              own:=fun _ h=> .inr h}
          have hsame:∀b,b<w.heap.size→w'.heap[b]? =w.heap[b]? :=fun b hb=>ev.frame b hb g5
          refine ⟨⟨I,α,eo,⟨fun id blk h=> ?_,hr.inj,fun b hb=>Nat.lt_of_lt_of_le (hr.imm b hb) ev.size,fun id b hb=>Nat.lt_of_lt_of_le (hr.dom id b hb) ev.size,iB hr eo⟩,Ln hsc hv,fun id h=> .inl h⟩,Nat.le_refl _⟩
          obtain ⟨b,k1,k2,k3⟩:=hr.live id blk h
          exact ⟨b,k1,k2,k3.ev hr eo (hsame b (hr.dom id b k1))⟩
        · cases hc
      · cases hc
    · cases hc
  · intro f args id h nx v h' nx' ft hc
    unfold oL at hc
    split at hc
    · rename_i args' hfz
      split at hc
      · rename_i r hcl hsm
        split at hc
        · rename_i hsc
          simp only[Option.some.injEq,Prod.mk.injEq] at hc
          obtain ⟨rfl,rfl,rfl,rfl⟩:=hc
          refine .one rfl ⟨rfl,[],rfl,by simp,fun h2 nx2 hk=> ?_⟩
          have hk':∀i∈bL h 3 (bF args []),hget h2 i=hget h i:=fun i hi=>hk i (by simp[hi])
          have e1:=qS 3 (bF args []) hk'
          have e2:=ol (bL h 3 (bF args [])) hk'
          unfold oL
          rw[e1,e2]
          simp only[hfz,hcl,hsm,hsc]
          rfl
        · cases hc
      · cases hc
    · cases hc
 where
  out_mono {Q Q':Value→World→Prop} {m:Result Next} (h:eO P Q m) (hq:∀v w,Q v w→Q' v w):eO P Q' m:=by
    cases m with
    | ok n w=>
      cases n with
      |value v=>exact hq v w h
      |skip=>exact hq _ w h
      |enter f args=>exact Calls.mono h fun e w' ⟨v,h1,h2⟩=>⟨v,h1,hq v w' h2⟩
      |_=>exact h.elim
    |_=>exact h.elim
def iN (p:FuncId→Bool) (c1 c2:aY):aY:=fun f=>match p f with
 |true=>c1 f
 |false=>c2 f
theorem Lp {p:FuncId→Bool} {c1 c2:aY} (h1:bJ P G c1∧bK c1) (h2:bJ P G c2∧bK c2):bJ P G (iN p c1 c2)∧bK (iN p c1 c2):=by
 refine ⟨?_, ?_⟩
 ·intro f args rid H nx v H' nx' ft hc
  cases hp:p f with
  |true=>
   have e:iN p c1 c2 f=c1 f:=by unfold iN;rw[hp]
   rw[e] at hc
   exact h1.1 f args rid H nx v H' nx' ft hc
  |false=>
   have e:iN p c1 c2 f=c2 f:=by unfold iN;rw[hp]
   rw[e] at hc
   exact h2.1 f args rid H nx v H' nx' ft hc
 ·intro f args id h nx v h' nx' ft hc
  cases hp:p f with
  |true=>
   have e:iN p c1 c2 f=c1 f:=by unfold iN;rw[hp]
   rw[e] at hc⊢
   exact h1.2 f args id h nx v h' nx' ft hc
  |false=>
   have e:iN p c1 c2 f=c2 f:=by unfold iN;rw[hp]
   rw[e] at hc⊢
   exact h2.2 f args id h nx v h' nx' ft hc
end
end Go.Proofs.Abs
/- The abstract machine, written so that the kernel runs it with less ado; it is the same machine. -/
namespace Go.Proofs.Abs
open Go
noncomputable section
def asInt (x:AV):Option (IntKind × Int):=AV.rec (motive_1:=fun _=>Option (IntKind × Int)) (motive_2:=fun _=>Unit) (fun _=>none) (fun k n=>some (k,n)) (fun _=>none) (fun _ _=>none) (none) (fun _ _ _=>none) (fun _ _=>none) (fun _ _ _=>none) (fun _ _ _ _ _=>none) (none) (none) (fun _=>none) (none) (fun _ _ _ _ _=>none) (none) (fun _ _ _=>none) (none) (fun _ _=>none) (fun _ _=>none) () (fun _ _ _ _=>()) x
def asBool (x:AV):Option Bool:=AV.rec (motive_1:=fun _=>Option Bool) (motive_2:=fun _=>Unit) (fun b=>some b) (fun _ _=>none) (fun _=>none) (fun _ _=>none) (none) (fun _ _ _=>none) (fun _ _=>none) (fun _ _ _=>none) (fun _ _ _ _ _=>none) (none) (none) (fun _=>none) (none) (fun _ _ _ _ _=>none) (none) (fun _ _ _=>none) (none) (fun _ _=>none) (fun _ _=>none) () (fun _ _ _ _=>()) x
inductive VP where
 |ptr (i o:Nat)
 |fptr (cs:List AV) (o:Nat)
 |gptr (g o:Nat)
 |oth
def t3 (x:AV):VP:=AV.rec (motive_1:=fun _=>VP) (motive_2:=fun _=>Unit) (fun _=>VP.oth) (fun _ _=>VP.oth) (fun _=>VP.oth) (fun i o=>VP.ptr i o) (VP.oth) (fun cs o _=>VP.fptr cs o) (fun g o=>VP.gptr g o) (fun _ _ _=>VP.oth) (fun _ _ _ _ _=>VP.oth) (VP.oth) (VP.oth) (fun _=>VP.oth) (VP.oth) (fun _ _ _ _ _=>VP.oth) (VP.oth) (fun _ _ _=>VP.oth) (VP.oth) (fun _ _=>VP.oth) (fun _ _=>VP.oth) () (fun _ _ _ _=>()) x
def Lq (x:AV):Option (List AV):=AV.rec (motive_1:=fun _=>Option (List AV)) (motive_2:=fun _=>Unit) (fun _=>none) (fun _ _=>none) (fun _=>none) (fun _ _=>none) (none) (fun _ _ _=>none) (fun _ _=>none) (fun _ _ _=>none) (fun _ _ _ _ _=>none) (none) (none) (fun _=>none) (none) (fun _ _ _ _ _=>none) (none) (fun _ _ _=>none) (none) (fun _ _=>none) (fun cs _=>some cs) () (fun _ _ _ _=>()) x
inductive VS where
 |fsl (f:Bool) (es:List AV)
 |rsl (w:Bool) (i o l z:Nat)
 |oth
def ru (x:AV):VS:=AV.rec (motive_1:=fun _=>VS) (motive_2:=fun _=>Unit) (fun _=>VS.oth) (fun _ _=>VS.oth) (fun _=>VS.oth) (fun _ _=>VS.oth) (VS.oth) (fun _ _ _=>VS.oth) (fun _ _=>VS.oth) (fun f es _=>VS.fsl f es) (fun w i o l z=>VS.rsl w i o l z) (VS.oth) (VS.oth) (fun _=>VS.oth) (VS.oth) (fun _ _ _ _ _=>VS.oth) (VS.oth) (fun _ _ _=>VS.oth) (VS.oth) (fun _ _=>VS.oth) (fun _ _=>VS.oth) () (fun _ _ _ _=>()) x
def t4 (x:AV):List AV:=AV.rec (motive_1:=fun _=>List AV) (motive_2:=fun _=>Unit) (fun b=>[.bool b]) (fun k n=>[.int k n]) (fun s=>[.str s]) (fun i o=>[.ptr i o]) ([.nilp]) (fun cs o _=>[.fptr cs o]) (fun g o=>[.gptr g o]) (fun f es _=>[.fsl f es]) (fun w i o l z=>[.rsl w i o l z]) ([.nilsl]) ([.nesl]) (fun i=>[.map i]) ([.nilmap]) (fun fn a c _ _=>[.func fn a c]) ([.nilFunc]) (fun t v _=>[.iface t v]) ([.nilIface]) (fun cs _=>cs) (fun cs _=>[.tuple cs]) () (fun _ _ _ _=>()) x
def yG (x:AV):Bool:=AV.rec (motive_1:=fun _=>Bool) (motive_2:=fun _=>Unit) (fun _=>true) (fun _ _=>true) (fun _=>true) (fun _ _=>true) (true) (fun _ _ _=>true) (fun _ _=>true) (fun _ _ _=>true) (fun _ _ _ _ _=>true) (true) (true) (fun _=>true) (true) (fun _ _ _ _ _=>true) (true) (fun _ _ _=>true) (true) (fun _ _=>false) (fun _ _=>false) () (fun _ _ _ _=>()) x
def yH (l:List AV):Bool:=List.rec true (fun a _ ih=>yG a&&ih) l
theorem yI {x:AV} {p:IntKind × Int} (h:asInt x=some p):x= .int p.1 p.2:=by cases x<;>simp[asInt] at h<;>(subst h;rfl)
theorem Lr:t4=AV.cells:=by funext x;cases x<;>rfl
theorem Lt:yG=AV.one:=by funext x;cases x<;>rfl
theorem Lu:yH=bc:=by
 funext l
 induction l with
 |nil=>rfl
 |cons a t ih=>show (yG a&&yH t)=_;rw[ih,Lt];rfl
def DC:BinOp→IntKind→Int→Int→Option (Option AV)
 | .add=>fun k a b=>some (some (.int k (ar k (a+b))))
 | .sub=>fun k a b=>some (some (.int k (ar k (a-b))))
 | .mul=>fun k a b=>some (some (.int k (ar k (a*b))))
 | .eql=>fun _ a b=>some (some (.bool (ak a b)))
 | .neq=>fun _ a b=>some (some (.bool (!ak a b)))
 | .lss=>fun _ a b=>some (some (.bool (aq a b)))
 | .leq=>fun _ a b=>some (some (.bool (!aq b a)))
 | .gtr=>fun _ a b=>some (some (.bool (aq b a)))
 | .geq=>fun _ a b=>some (some (.bool (!aq a b)))
 |_=>fun _ _ _=>none
def Lv (k k':IntKind):Bool:=decide (k=k')
section
variable (P:Program)
def yJ (op:BinOp) (t:TypeId) (xo yo:Operand) (x y:AV):Option AV:=
 match asInt x with
 | some p=>match asInt y with
  | some q=>match Lv p.1 q.1 with
   |true=>match DC op p.1 p.2 q.2 with
    |some r=>r
    |none=>aM P op t xo yo x y
   |false=>aM P op t xo yo x y
  |none=>aM P op t xo yo x y
 |none=>aM P op t xo yo x y
theorem Lw:yJ P=aM P:=by
 funext op t xo yo x y
 unfold yJ
 split
 ·rename_i p hx
  split
  ·rename_i q hy
   split
   ·rename_i hk
    have hk:p.1=q.1:=of_decide_eq_true hk
    split
    ·rename_i r hr
     rw[yI hx,yI hy]
     rw[←hk]
     unfold DC at hr
     split at hr<;>simp only[Option.some.injEq] at hr<;>first|(subst hr;simp[aM];done)|(cases hr;done)
    ·rfl
   ·rfl
  ·rfl
 ·rfl
def DD (t:TypeId) (glob:Nat→Option (List AV)) (a:AV):Option Eff:=
 match t3 a with
 | .ptr id off=>some<| .read id fun
  | .cells l=>(b8 P t l off).map .val
  |_=>none
 | .fptr cs off=>(b8 P t cs off).map .val
 | .gptr g off=>match glob g with
  |some l=>(b8 P t l off).map .val
  |none=>none
 | .oth=>none
theorem Lx (t:TypeId) (glob:Nat→Option (List AV)) (a:AV):DD P t glob a=fA P t a glob:=by cases a<;>rfl
def yK (t:TypeId) (a v:AV):Option Eff:=
 match t3 a with
 | .ptr id off=>match bR P t with
  |some n=>match Nat.beq (aa (t4 v)) n&&yH (t4 v) with
   | true=>some<| .upd id fun
     | .cells l=>(splice l off (t4 v)).map fun l'=>(.cells l',f6)
     |_=>none
   |false=>none
  |none=>none
 |_=>none
theorem Ly (t:TypeId) (a v:AV):yK P t a v=mh P t a v:=by
 unfold yK
 rw[Lr,Lu]
 cases a<;>first|rfl|skip
 rename_i id off
 show (match bR P t with
  |some n=>(match Nat.beq (aa v.cells) n&&bc v.cells with
   | true=>some<|Eff.upd id fun
     | .cells l=>(splice l off v.cells).map fun l'=>(Blk.cells l',f6)
     |_=>none
   |false=>none)
  |none=>none)=_
 unfold mh
 simp only
 cases bR P t with
 |none=>rfl
 |some n=>
  simp only
  cases Nat.beq (aa v.cells) n&&bc v.cells<;>rfl
def DE (a:AV):Option AV:=match t3 a with
 | .ptr i o=>some (.ptr i o)
 | .fptr c o=>some (.fptr c o)
 | .gptr g o=>some (.gptr g o)
 | .oth=>qb a
theorem Lz (a:AV):DE a=qb a:=by cases a<;>rfl
def yL (t:TypeId) (x:AV) (f:Nat):Option AV:=
 match mj P t f with
 | some fd=>match bR P fd.type with
  |some (_+1)=>match t3 x with
   | .ptr id off=>some (.ptr id (off+fd.offset))
   | .fptr cs off=>some (.fptr cs (off+fd.offset))
   | .gptr g off=>some (.gptr g (off+fd.offset))
   | .oth=>none
  |_=>none
 |none=>none
theorem LA (t:TypeId) (x:AV) (f:Nat):yL P t x f=qf P t x f:=by
 unfold yL qf
 cases mj P t f with
 |none=>rfl
 | some fd=>
  simp only
  cases bR P fd.type with
  |none=>rfl
  |some n=>
   cases n with
   |zero=>rfl
   |succ n=>cases x<;>rfl
def DF (a:AV):Option Nat:=match asInt a with
 |some p=>Int.rec (fun n=>some n) (fun _=>none) p.2
 |none=>none
theorem LB (a:AV):DF a=fB a:=by
 cases a<;>try rfl
 rename_i k n
 cases n<;>rfl
def yM (t:TypeId) (x i:AV):Option AV:=
 match dv P t,ru x,DF i with
 | some e,.rsl _ id off len sz',some i=>match bR P e with
  |some sz=>match Nat.blt i len&&Nat.beq sz sz' with
   |true=>some (.ptr id (off+i*sz))
   |false=>none
  |none=>none
 |_,_,_=>aC P t x i
theorem LC (t:TypeId) (x i:AV):yM P t x i=aC P t x i:=by
 unfold yM
 split
 ·rename_i e w id off len sz' k he hx hi
  rw[LB] at hi
  have hu:P.underlying t=some (.slice e):=by
   unfold dv at he
   split at he
   ·simp only[Option.some.injEq] at he;subst he;assumption
   ·cases he
  have hx:x= .rsl w id off len sz':=by cases x<;>simp[ru] at hx<;>simp[hx]
  subst hx
  simp only[aC,hi,hu,Option.bind_eq_bind,Option.bind_some]
  split
  ·rename_i sz hs
   simp only[hs,Option.bind_some]
   split
   ·rename_i h;simp only[h,if_true]
   ·rename_i h;simp only[h,Bool.false_eq_true,if_false]
  ·rename_i hs
   simp only[hs,Option.bind_none]
 ·rfl
def DG (v:Option AV) (i:Nat):Option Eff:=
 match v with
 |some a=>match Lq a with
  |some vs=>bS (cC vs i)
  |none=>none
 |none=>none
def yN (s d:TypeId) (x:AV):Option Eff:=
 match asInt x with
 |some p=>match P.underlying s,P.underlying d with
  |some _,some (.int k)=>some (.val (.int k (ar k p.2)))
  |_,_=>cR P s d x
 |none=>cR P s d x
theorem LD (s d:TypeId) (x:AV):yN P s d x=cR P s d x:=by
 unfold yN
 split
 ·rename_i p hx
  split
  ·rename_i k h1 h2
   rw[yI hx]
   unfold cR
   simp only[h1,h2]
  ·rfl
 ·rfl
def yO (argTypes:Array TypeId) (x:AV):Option Eff:=
 match argTypes[0]?,ru x with
 |some t,.rsl _ _ _ n _=>match dv P t with
  |some _=>some (.val (.int .i64 (.ofNat n)))
  |none=>jG P argTypes x
 |some t,.fsl _ es=>match dv P t with
  |some _=>some (.val (.int .i64 (.ofNat (aa es))))
  |none=>jG P argTypes x
 |_,_=>jG P argTypes x
theorem LE (argTypes:Array TypeId) (x:AV):yO P argTypes x=jG P argTypes x:=by
 have he:∀ {t e},dv P t=some e→P.underlying t=some (.slice e):=fun {t e} he=>by
  unfold dv at he
  split at he
  ·simp only[Option.some.injEq] at he;subst he;assumption
  ·cases he
 unfold yO
 split
 ·rename_i t w i o n z ht hx
  split
  ·rename_i e h
   have hx:x= .rsl w i o n z:=by cases x<;>simp[ru] at hx<;>simp[hx]
   subst hx
   simp only[jG,ht,he h]
  ·rfl
 ·rename_i t f es ht hx
  split
  ·rename_i e h
   have hx:x= .fsl f es:=by cases x<;>simp[ru] at hx<;>simp[hx]
   subst hx
   simp only[jG,ht,he h]
  ·rfl
 ·rfl
def yP (glob:Nat→Option (List AV)) (ev:Operand→Option AV) (c:Call):Option Eff:=
 match c.callee with
 | .builtin .len=>match gA ev c.args.toList with
  |some [x]=>yO P c.argTypes x
  |_=>i6 P glob ev c
 |_=>i6 P glob ev c
theorem LF (glob:Nat→Option (List AV)) (ev:Operand→Option AV) (c:Call):yP P glob ev c=i6 P glob ev c:=by
 unfold yP
 split
 ·rename_i hc
  split
  ·rename_i x hx
   simp only[i6,hx,hc,mr,LE]
  ·rfl
 ·rfl
end
def DH (o:Op):Program→(Nat→Option (List AV))→(Operand→Option AV)→Option (Option Eff):=
 Op.rec (motive:=fun _=>Program→(Nat→Option (List AV))→(Operand→Option AV)→Option (Option Eff))
  (fun x _ _ ev=>some (bS (ev x))) (fun x _ _ ev=>some (bS (ev x))) (fun _ _ _ _ _ _=>none) (fun _ _ _ _=>none) (fun _ _ _ _ _=>none) (fun _ _ _ _ _=>none) (fun _ _ _ _ _ _=>none) (fun _ _ _ _ _ _ _=>none) (fun t a P glob ev=>some (e1 ev a fun a=>DD P t glob a)) (fun t a x P _ ev=>some (e2 ev a x (yK P t))) (fun _ _ _ _=>none) (fun _ _ _ _=>none) (fun x _ _ ev=>some (e1 ev x fun v=>bS (DE v))) (fun op t x y _ P _ ev=>some (e2 ev x y fun v w=>bS (yJ P op t x y v w))) (fun _ _ _ _ _ _=>none) (fun s d x P _ ev=>some (e1 ev x (yN P s d))) (fun _ _ _ _ _=>none) (fun _ _ _ _ _=>none) (fun _ _ _ _ _ _=>none) (fun _ _ _ _ _=>none) (fun _ _ _ _ _=>none) (fun _ _ _ _ _ _=>none) (fun _ _ _ _ _ _ _ _=>none) (fun t x f P _ ev=>some (e1 ev x fun v=>bS (yL P t v f))) (fun _ _ _ _ _ _=>none) (fun t x i P _ ev=>some (e2 ev x i fun v w=>bS (yM P t v w))) (fun _ _ _ _ _ _=>none) (fun _ _ _ _ _ _ _=>none) (fun _ _ _ _ _ _ _=>none) (fun _ _ _ _ _ _=>none) (fun _ _ _ _ _ _ _=>none) (fun _ _ _ _ _=>none) (fun _ _ _ _ _=>none) (fun _ _ _ _=>none) (fun _ _ _ _ _ _ _=>none) (fun t i _ _ ev=>some (DG (ev t) i)) (fun c P glob ev=>some (yP P glob ev c)) (fun _ _ _ _=>none) (fun _ _ _ _=>none) (fun _ _ _ _=>none) (fun _ _ _ _ _=>none) (fun _ _ _ _ _ _=>none) (fun _ _ _ _ _=>none) o
def yQ (P:Program) (glob:Nat→Option (List AV)) (ev:Operand→Option AV) (o:Oper):Option Eff:=match DH o.op P glob ev with
 |some r=>r
 |none=>bC P glob ev o
theorem LG (P:Program) (glob:Nat→Option (List AV)) (ev:Operand→Option AV) (o:Oper):yQ P glob ev o=bC P glob ev o:=by
  unfold yQ
  split
  · rename_i r hr
    cases ho:o.op<;>rw[ho] at hr<;>simp only[DH,Option.some.injEq,reduceCtorEq] at hr<;>(subst hr;simp only[bC,ho,Lw,Lx,Lz,LA,LC,LF])<;>first
      |rfl
      | (unfold DG sY;rename_i t i;cases ev t with
         |none=>rfl
         |some a=>cases a<;>rfl)
      |(congr 1;funext a b;exact Ly P _ a b)
      |(congr 1;funext a;exact LD P _ _ a)
  · rfl
def LH (o:Op):Bool:=Op.rec (motive:=fun _=>Bool) (fun _=>false) (fun _=>false) (fun _ _ _=>false) (fun _=>false) (fun _ _=>false) (fun _ _=>false) (fun _ _ _=>true) (fun _ _ _ _=>false) (fun _ _=>false) (fun _ _ _=>false) (fun _=>false) (fun _=>false) (fun _=>false) (fun _ _ _ _ _=>false) (fun _ _ _=>false) (fun _ _ _=>false) (fun _ _=>false) (fun _ _=>false) (fun _ _ _=>false) (fun _ _=>false) (fun _ _=>false) (fun _ _ _=>false) (fun _ _ _ _ _=>false) (fun _ _ _=>false) (fun _ _ _=>false) (fun _ _ _=>false) (fun _ _ _=>false) (fun _ _ _ _=>false) (fun _ _ _ _=>false) (fun _ _ _=>false) (fun _ _ _ _=>false) (fun _ _=>false) (fun _ _=>false) (fun _=>false) (fun _ _ _ _=>false) (fun _ _=>false) (fun _=>false) (fun _=>false) (fun _=>false) (fun _=>false) (fun _ _=>false) (fun _ _ _=>false) (fun _ _=>false) o
def yR (P:Program) (glob:Nat→Option (List AV)) (ops:List Oper) (ev:Operand→Option AV) (o:Oper):Option Eff:=match LH o.op with
 |true=>cf P glob ops ev o
 |false=>yQ P glob ev o
theorem LI (P:Program) (glob:Nat→Option (List AV)) (ops:List Oper) (ev:Operand→Option AV) (o:Oper):yR P glob ops ev o=cf P glob ops ev o:=by
 unfold yR
 split
 ·rfl
 ·rename_i h
  rw[LG,cP]
  cases ho:o.op<;>first|rfl|(rw[ho] at h;cases h)
def yS (e:Eff):Option AV:=match e with
 | .val v=>some v
 |_=>none
theorem LJ {e:Eff} {v:AV} (h:yS e=some v):e= .val v:=by cases e<;>simp[yS] at h<;>(subst h;rfl)
def yT (call:aY) (id:Nat) (e:Eff) (h:af) (nx:Nat):Option (AV × af × Nat × Foot):=match yS e with
 |some v=>some (v,h,nx,⟨false,[],[]⟩)
 |none=>be call id 2 e h nx
theorem LK (call:aY) (id:Nat) (e:Eff) (h:af) (nx:Nat):yT call id e h nx=be call id 2 e h nx:=by
 unfold yT
 split
 ·rename_i v hv;rw[LJ hv];rfl
 ·rfl
section
variable (P:Program) (glob:Nat→Option (List AV)) (call:aY)
def yU (ops:List Oper) (id:Nat) (o:Oper) (s:St):Option (St × Foot):=
 match cN ops o s.slots with
 | some true=>match yR P glob ops (bt s.slots) o with
  |some e=>match yT call id e s.heap s.nx with
   |some (v,h,nx,ft)=>some (⟨cg s.n s.slots o.dst v,h,nx,s.n⟩,ft)
   |none=>none
  |none=>none
 |some false=>some (⟨cg s.n s.slots o.dst f6,s.heap,s.nx,s.n⟩,⟨false,[],[]⟩)
 |none=>none
theorem LL (ops:List Oper) (id:Nat) (o:Oper) (s:St):yU P glob call ops id o s=c9 P glob call ops id o s:=by
 unfold yU c9
 simp only[LI,LK]
 rfl
def t5 (all:List Oper) (base:Nat):List Oper→Nat→St→List (Nat × Foot)→Option (St × List (Nat × Foot))
 |[],_,s,acc=>some (s,acc)
 |o::rest,i,s,acc=>match yU P glob call all (base+i) o s with
  |some (s',ft)=>t5 all base rest (i+1) s' (match ft.none with|true=>acc|false=>(i,ft)::acc)
  |none=>none
theorem DI (all:List Oper) (base:Nat):∀ (l:List Oper) (i:Nat) (s:St) (acc:List (Nat × Foot)),t5 P glob call all base l i s acc=cS P glob call all base l i s acc
 |[],_,_,_=>rfl
 |o::rest,i,s,acc=>by
  simp only[t5,cS,LL]
  split
  ·rename_i s' ft h;simp only[h];exact DI all base rest (i+1) s' _
  ·rename_i h;simp only[h]
def LM (v:Option AV):Option Bool:=match v with
 |some a=>asBool a
 |none=>none
def gI (lf:Nat):Code→St→Option (AExit × St)
 | .skip,s| .label _,s=>some (.normal,s)
 | .region _ ops draw,s=>
  match t5 P glob call ops.toList s.nx ops.toList 0 ⟨s.slots,s.heap,s.nx+aa ops.toList,s.n⟩ [] with
  | some (s',feet)=>match draw with
   |false=>some (.normal,s')
   |true=>match jH ops.toList&&i7 (dT ops.toList []) feet with
    |true=>some (.normal,s')
    |false=>none
  |none=>none
 | .seq a b,s=>match gI lf a s with
  |some (.normal,s')=>gI lf b s'
  |r=>r
 | .cond c a b,s=>match LM (bt s.slots c) with
  |some true=>gI lf a s
  |some false=>gI lf b s
  |_=>none
 | .block id body,s=>match gI lf body s with
  |some (.exit i,s')=>match Nat.beq i id with
   |true=>some (.normal,s')
   |false=>some (.exit i,s')
  |r=>r
 | .loop body,s=>nR (gI lf body) lf s
 | .exit id,s=>some (.exit id,s)
 | .ret,s=>some (.ret,s)
 |_,_=>none
theorem LN (lf:Nat) (c:Code):gI P glob call lf c=cu P glob call lf c:=by
 induction c with
 |region id ops draw=>funext s;simp only[gI,cu,DI];rfl
 |seq a b iha ihb=>funext s;simp only[gI,cu,iha,ihb];rfl
 | cond c a b iha ihb=>
  funext s
  simp only[gI,cu,iha,ihb]
  cases bt s.slots c with
  |none=>rfl
  |some v=>
   cases v<;>first|rfl|skip
   rename_i b;cases b<;>rfl
 |block id body ih=>funext s;simp only[gI,cu,ih];rfl
 |loop body ih=>funext s;simp only[gI,cu,ih]
 |_=>rfl
end
def g7 (P:Program) (O:bn) (call:aY) (f:FuncId) (args:List AV) (h:af) (nx:Nat):Option (AV × af × Nat):=
  match P.funcs[f]? with
  | some fn=>match fn.body with
    | some c=>match fn.name== "runtime.NumGoroutine" with
      |true=>none
      | false=>match Nat.ble (aa args) fn.ntmps&&Nat.ble fn.ntmps 4095 with
       |false=>none
       |true=>match gI P O.glob call O.lf c ⟨dy args 0 .tip,h,nx,fn.ntmps⟩ with
        | some (.normal,s)|some (.ret,s)=>match dw P O.glob s fn.results.toList with
          |some l=>some (dx l,s.heap,s.nx)
          |none=>none
        |_=>none
    |none=>none
  |none=>none
theorem DJ (P:Program) (O:bn) (call:aY) (f:FuncId) (args:List AV) (h:af) (nx:Nat):g7 P O call f args h nx=fD P O call f args h nx:=by
 unfold g7 fD
 simp only[LN]
 rfl
def DK (P:Program) (O:bn) (call:aY) (d:Nat) (f:FuncId) (args:List AV) (id:Nat) (h:af) (nx:Nat):Option (AV × af × Nat × Foot):=
 match g7 P O call f args (bZ h (bL h d (bF args []))) nx with
 |some (v,h1,_)=>match lookEnd (bL h d (bF args [])) id nx h v h1 with
  |some r=>some (fF (bL h d (bF args [])) id nx h r)
  |none=>none
 |none=>none
def DL (P:Program) (O:bn) (call:aY) (d:Nat) (f:FuncId) (args:List AV) (h:af) (nx:Nat):Option (AV × af × Nat × Foot):=
  match g7 P O call f args (bZ h (bL h d (bF args []))) nx with
  |some (v,h1,nx')=>match Nat.ble nx nx' with
   |false=>none
   |true=>some (v,Mods.app (i8 (gb h1 (bL h d (bF args []))) (fH nx h1 h1)) h,nx',⟨true,bL h d (bF args []),nx::bL h d (bF args [])⟩)
  |none=>none
def gJ (P:Program) (O:bn):Nat→aY
 |0,_,_,_,_,_=>none
 | n +1,f,args,id,h,nx=>
  match O.how f,ac args with
  | .look d,_=>DK P O (gJ P O n) d f args id h nx
  | .each d,_=>mA P O (gJ P O n) d f args id h nx
  | .clone,_=>kM P f args id h nx
  | .part d,_=>DL P O (gJ P O n) d f args h nx
  | .cmp,_=>kN P f args h nx
  | .known,_=>O.cx f args id h nx
  | .pure,true=>match O.summ f args with
   |some v=>some (v,h,nx,⟨false,[],[]⟩)
   | none=>match g7 P O (gJ P O n) f args [] 0 with
    | some (v,h',_)=>match aW 0 h' 40 v with
     |some v'=>match ah v' with
      |true=>some (v',h,nx,⟨false,[],[]⟩)
      |false=>none
     |none=>none
    |none=>none
  | .fresh,true=>match g7 P O (gJ P O n) f args [] 0 with
   |some (v,h',_)=>gX h' v id h nx
   |none=>none
  | .pure,false=>match g7 P O (gJ P O n) f args h nx with
   |some (v,h',nx')=>match aW nx h' 40 v with
    |some v'=>some (v',gB nx h',nx',⟨true,[],[]⟩)
    |none=>none
   |none=>none
  |_,_=>match g7 P O (gJ P O n) f args h nx with
   |some (v,h',nx')=>some (v,h',nx',⟨true,[],[]⟩)
   |none=>none
theorem DM (P:Program) (O:bn):∀n,gJ P O n=bv P O n
 |0=>rfl
 |n+1=>by
  funext f args id h nx
  simp only[gJ,bv,DM P O n,DJ,DK,DL,mz,mB]
  rfl
theorem DN (P:Program) (O:bn) (n:Nat) (f:FuncId) (args:List AV) (h:af) (nx:Nat):g7 P O (gJ P O n) f args h nx=fD P O (bv P O n) f args h nx:=by
 rw[DJ,DM]
end
theorem LO {P:Program} {O:bn} {n:Nat} {f:FuncId} (hm:P.follows .mixedOrders=true) (hsum:∀f args v,O.summ f args=some v→SemCall P O.glob f args v) (hcx:bJ P O.glob O.cx∧bK O.cx) (hg:∀g l,O.glob g=some l→ac l=true)
  (h:tA (g7 P O (gJ P O n) f [] [] 0)=true):SemCall P O.glob f [] (.bool true):=
 Lm (n:=n) hm hsum hcx hg (by rw[←DN];exact h)
end Go.Proofs.Abs
/- A law whose answer is known: the call. -/
namespace Go.Proofs.Abs
open Go
theorem SemCall.calls {P:Program} {G:aP} {f:FuncId} {fn:Func} {c:Code} {args:List AV} {vs:Array Value} {w:World} (hfn:P.funcs[f]? =some fn) (hc:fn.body=some c) (hname:(fn.name== "runtime.NumGoroutine")=false)
  (h:SemCall P G f args (.bool true)) (hr:Rel G w (fun b=>b<w.heap.size) (fun _=>none) []) (ha:RepL w (fun b=>b<w.heap.size) (fun _=>none) args vs.toList):
  Calls P f vs w fun e w'=>e= .returned (.bool true)∧RowKit.Below w.heap.size w w':=by
 have e1:(callFunc f vs).run P w= .ok (.enter f vs) w:=by
  unfold callFunc
  simp only[Sem.run_bind,run_program,Result.andThen_ok,hfn,hname,hc,Bool.false_eq_true,if_false,Option.isNone_some,Sem.run_pure]
 have:=h.out w _ _ [] 0 1 vs hr ha rfl (by omega) (fun _ _=>rfl)
 rw[e1] at this
 refine Calls.mono this ?_
 rintro e w' ⟨v,rfl,⟨⟨I',α',ev,_,hv,_⟩,_⟩⟩
 cases hv
 exact ⟨rfl,ev.os.1,ev.os.2.1,ev.os.2.2,ev.size,fun k hk=>ev.frame k hk g5⟩
end Go.Proofs.Abs
/- A run in continuation form leads to one end: so calls may be followed where they stand. -/
namespace Go.Proofs.Abs
open Go
def mY (F:(AV→af→Nat→Foot→Prop)→Prop):Prop:=∀K,F K→∃v h nx ft,K v h nx ft∧∀K',K' v h nx ft→F K'
def t6 (F:(AV→af→Nat→Prop)→Prop):Prop:=∀K,F K→∃v h nx,K v h nx∧∀K',K' v h nx→F K'
def yV (F:(Kn→St→Foot→Prop)→Prop):Prop:=∀K,F K→∃kn s ft,K kn s ft∧∀K',K' kn s ft→F K'
def LP (F:(St→List (Nat × Foot)→Prop)→Prop):Prop:=∀K,F K→∃s ft,K s ft∧∀K',K' s ft→F K'
def rv (F:(AExit→St→Prop)→Prop):Prop:=∀Q,F Q→∃e s,Q e s∧∀Q',Q' e s→F Q'
section
variable {P:Program} {O:bn} {n:Nat} {A:aX}
theorem t7 {id d:Nat} {e:Eff} {h:af} {nx:Nat}:mY (gg P O n id d e h nx):=by
 intro K hk
 unfold gg at hk⊢
 split at hk
 ·rename_i v h' nx' ft hr
  refine ⟨v,h',nx',ft,hk,fun K' h=> ?_⟩
  exact h
 ·exact hk.elim
def jj (A:aX):Prop:=∀f T,A.inl f=some T→∀args h nx,t6 (T.run args h nx)
theorem LQ {f:FuncId} {args:List AV} {h:af} {nx:Nat} (r:tJ):mY (fun K=>oB P O f args h nx K r):=by
 intro K hk
 cases r with
 |val v=>exact ⟨v,h,nx,_,hk.2,fun K' h=>⟨hk.1,h⟩⟩
 |part L v H2 m=>exact ⟨v,_,_,_,hk.2,fun K' h=>⟨hk.1,h⟩⟩
theorem LR {args:List AV} {h:af} {nx:Nat} {T:q9} (hT:∀args h nx,t6 (T.run args h nx)):mY (fun K=>rg args h nx K T):=by
 intro K hk
 obtain ⟨v,H2,nx2,h1,h2⟩:=hT _ _ _ _ hk
 obtain ⟨hle,h1⟩:=oblB_iff.1 h1
 exact ⟨v,_,_,_,h1,fun K' h=>h2 _ (oblB_iff.2 ⟨hle,h⟩)⟩
theorem DO (hi:jj A) {id d:Nat} {f:FuncId} {args:List AV} {h:af} {nx:Nat}:mY (fun K=>match A.cx f args id h nx with
      |some (v,h',nx',ft)=>K v h' nx' ft
      | none=>match A.sem f args h nx with
       |some r=>oB P O f args h nx K r
       | none=>match A.inl f with
        |some T=>rg args h nx K T
        |none=>match O.how f with
         | .pure=>match O.summ f args with
           |some v=>au (ac args) (K v h nx ⟨false,[],[]⟩)
           |none=>gg P O n id d (.call f args) h nx K
         |_=>gg P O n id d (.call f args) h nx K):=by
  intro K hk
  simp only at hk⊢
  split at hk
  · rename_i v h' nx' ft hc
    exact ⟨v,h',nx',ft,hk,fun K' h=>by first|(rw[hc];exact h)|exact h⟩
  · rename_i hc
    split at hk
    · rename_i r hr
      obtain ⟨v,h',nx',ft,h1,h2⟩:=LQ r K hk
      exact ⟨v,h',nx',ft,h1,fun K' h=>by first|exact h2 K' h|(rw[hc,hr];exact h2 K' h)⟩
    · rename_i hr
      split at hk
      · rename_i T hT
        obtain ⟨v,h',nx',ft,h1,h2⟩:=LR (hi f T hT) K hk
        exact ⟨v,h',nx',ft,h1,fun K' h=>by first|exact h2 K' h|(rw[hc,hr,hT];exact h2 K' h)⟩
      · rename_i hT
        split at hk
        · rename_i ho
          split at hk
          · rename_i v hs
            obtain ⟨hb,hk⟩:=oblB_iff.1 hk
            exact ⟨v,h,nx,_,hk,fun K' h=>by first|exact oblB_iff.2 ⟨hb,h⟩|(rw[hc,hr,hT,ho,hs];exact oblB_iff.2 ⟨hb,h⟩)⟩
          · rename_i hs
            obtain ⟨v,h',nx',ft,h1,h2⟩:=t7 K hk
            exact ⟨v,h',nx',ft,h1,fun K' h=>by first|exact h2 K' h|(rw[hc,hr,hT,ho,hs];exact h2 K' h)⟩
        · obtain ⟨v,h',nx',ft,h1,h2⟩:=t7 K hk
          exact ⟨v,h',nx',ft,h1,fun K' h=>h2 K' h⟩
theorem yW (hi:jj A) {id:Nat}:∀ (d:Nat) (e:Eff) {h:af} {nx:Nat},mY (fL P O n A id d e h nx):=by
 intro d
 induction d with
 | zero=>
  intro e h nx K hk
  unfold fL at hk
  split at hk
  ·obtain ⟨v,h',nx',ft,h1,h2⟩:=DO hi K hk
   exact ⟨v,h',nx',ft,h1,fun K' h=>by unfold fL;exact h2 K' h⟩
  ·rename_i hne
   obtain ⟨v,h',nx',ft,h1,h2⟩:=t7 K hk
   refine ⟨v,h',nx',ft,h1,fun K' h=> ?_⟩
   unfold fL
   split
   ·exact absurd rfl (hne _ _)
   ·exact h2 K' h
 | succ d ih=>
  intro e h nx K hk
  unfold fL at hk
  split at hk
  ·obtain ⟨v,h',nx',ft,h1,h2⟩:=DO hi K hk
   exact ⟨v,h',nx',ft,h1,fun K' h=>by unfold fL;exact h2 K' h⟩
  ·rename_i i k
   split at hk
   ·rename_i b hb
    split at hk
    ·rename_i e' he
     obtain ⟨v,h',nx',ft,h1,h2⟩:=ih e' _ hk
     exact ⟨v,h',nx',_,h1,fun K' h=>by unfold fL;simp only[hb,he];exact h2 _ h⟩
    ·exact hk.elim
   ·exact hk.elim
  ·rename_i hne hnr
   obtain ⟨v,h',nx',ft,h1,h2⟩:=t7 K hk
   refine ⟨v,h',nx',ft,h1,fun K' h=> ?_⟩
   unfold fL
   split
   ·exact absurd rfl (hne _ _)
   ·exact absurd rfl (hnr _ _)
   ·exact h2 K' h
theorem LS (hi:jj A) {id:Nat} {h:af} {nx:Nat} (oe:Option ES):mY (fun K=>rh P O n A id h nx K oe):=by
 intro K hk
 cases oe with
 |none=>exact hk.elim
 | some es=>cases es with
  |eff e=>exact yW hi 2 e K hk
  |obl b e=>
   obtain ⟨hb,hk⟩:=oblB_iff.1 hk
   obtain ⟨v,h',nx',ft,h1,h2⟩:=yW hi 2 e K hk
   exact ⟨v,h',nx',ft,h1,fun K' h=>oblB_iff.2 ⟨hb,h2 K' h⟩⟩
  | app b i k v=>
   obtain ⟨hb,hk⟩:=oblB_iff.1 hk
   split at hk
   ·rename_i l hl
    obtain ⟨hq,hk⟩:=oblB_iff.1 hk
    refine ⟨_,_,_,_,hk,fun K' h=>oblB_iff.2 ⟨hb, ?_⟩⟩
    simp only[hl]
    exact oblB_iff.2 ⟨hq,h⟩
   ·exact hk.elim
  | put b i k v=>
   obtain ⟨hb,hk⟩:=oblB_iff.1 hk
   split at hk
   ·rename_i l hl
    obtain ⟨hq,hk⟩:=oblB_iff.1 hk
    refine ⟨_,_,_,_,hk,fun K' h=>oblB_iff.2 ⟨hb, ?_⟩⟩
    simp only[hl]
    exact oblB_iff.2 ⟨hq,h⟩
   ·exact hk.elim
  | pick b x y=>
   cases b with
   |true=>cases x with
    |none=>exact hk.elim
    |some v=>exact ⟨v,h,nx,_,hk,fun K' h=>h⟩
   |false=>cases y with
    |none=>exact hk.elim
    |some v=>exact ⟨v,h,nx,_,hk,fun K' h=>h⟩
theorem LT (hi:jj A) {ops:List Oper} {id:Nat} {o:Oper} {s:St} (a:dU):mY (fun K=>iJ P O n A ops id o s K a):=by
 intro K hk
 cases a with
 | plain=>
  simp only[iJ] at hk⊢
  split at hk
  ·rename_i e he
   exact yW hi 2 e K hk
  ·exact hk.elim
 |ans a=>
  simp only[iJ] at hk⊢
  split at hk
  ·exact ⟨_,_,_,_,hk.2,fun K' h=>⟨hk.1,h⟩⟩
  ·exact hk.elim
 | el v=>
  simp only[iJ] at hk⊢
  split at hk
  ·split at hk
   ·split at hk
    ·split at hk
     ·obtain ⟨hg,hk⟩:=hk
      obtain ⟨hb,hk⟩:=oblB_iff.1 hk
      exact ⟨_,_,_,_,hk,fun K' h=>⟨hg,oblB_iff.2 ⟨hb,h⟩⟩⟩
     ·exact hk.elim
    ·exact hk.elim
   ·exact hk.elim
  ·exact hk.elim
 | ld v=>
  simp only[iJ] at hk⊢
  split at hk
  ·split at hk
   ·split at hk
    ·exact ⟨_,_,_,_,hk.2,fun K' h=>⟨hk.1,h⟩⟩
    ·exact hk.elim
   ·exact ⟨_,_,_,_,hk.2,fun K' h=>⟨hk.1,h⟩⟩
   ·exact ⟨_,_,_,_,hk.2,fun K' h=>⟨hk.1,h⟩⟩
   ·exact hk.elim
  ·exact hk.elim
 |res r=>
  simp only[iJ] at hk⊢
  split at hk
  ·exact ⟨_,_,_,_,hk.2,fun K' h=>⟨hk.1,h⟩⟩
  ·exact hk.elim
theorem rx (hi:jj A) {rid:Nat} {ops:List Oper} {id i:Nat} {o:Oper} {s:St} {kn:Kn}:yV (iK P O n A rid ops id i o s kn):=by
 intro K hk
 unfold iK at hk
 split at hk
 ·rename_i a ha
  obtain ⟨v,h',nx',ft,h1,h2⟩:=LT hi a _ hk
  exact ⟨_,_,_,h1,fun K' h=>by unfold iK;simp only[ha];exact h2 _ h⟩
 ·rename_i ha
  obtain ⟨v,h',nx',ft,h1,h2⟩:=LS hi _ _ hk
  exact ⟨_,_,_,h1,fun K' h=>by unfold iK;simp only[ha];exact h2 _ h⟩
theorem ry {o:Oper} {s:St} {kn:Kn}:yV (mR o s kn):=fun _K hk=>⟨_,_,_,hk,fun _ h=>h⟩
theorem LU (hi:jj A) {rid:Nat} {ops:List Oper} {id i:Nat} {o:Oper} {s:St} {kn:Kn}:yV (rj P O n A rid ops id i o s kn):=by
 intro K hk
 unfold rj at hk⊢
 split at hk
 ·exact rx hi K hk
 ·split at hk
  ·split at hk
   ·split at hk
    ·split at hk
     ·split at hk
      ·exact rx hi K hk
      ·exact ry K hk
     ·split at hk
      ·exact ry K hk
      ·exact rx hi K hk
    ·split at hk
     ·split at hk
      ·split at hk
       ·exact rx hi K hk
       ·exact ry K hk
      ·split at hk
       ·exact ry K hk
       ·exact rx hi K hk
     ·exact ry K hk
     ·exact hk.elim
   ·exact hk.elim
  ·exact hk.elim
theorem DP (hi:jj A) {rid:Nat} {all:List Oper} {base:Nat}:∀ (rest:List Oper) (i:Nat) (s:St) (kn:Kn) (acc:List (Nat × Foot)),LP (rk P O n A rid all base rest i s kn acc)
 |[],_,_,_,_=>fun _ hk=>⟨_,_,hk,fun _ h=>h⟩
 |o::rest,i,s,kn,acc=>fun K hk=>by
  obtain ⟨kn',s',ft,h1,h2⟩:=LU hi _ hk
  obtain ⟨s2,ft2,h3,h4⟩:=DP hi rest (i+1) s' kn' _ _ h1
  exact ⟨s2,ft2,h3,fun K' h=>h2 _ (h4 K' h)⟩
theorem DQ {B:St→(AExit→St→Prop)→Prop} (hB:∀s,rv (B s)):∀ (k:Nat) (s:St),rv (tK B k s)
 |0,_=>fun _ hk=>hk.elim
 | k+1,s=>fun Q hk=>by
  obtain ⟨e,s',h1,h2⟩:=hB s _ hk
  cases e with
  |normal=>
   obtain ⟨e,s2,h3,h4⟩:=DQ hB k s' Q h1
   exact ⟨e,s2,h3,fun Q' h=>h2 _ (h4 Q' h)⟩
  |exit i=>exact ⟨_,_,h1,fun Q' h=>h2 _ h⟩
  |ret=>exact ⟨_,_,h1,fun Q' h=>h2 _ h⟩
theorem LV (hi:jj A) (hcut:A.cut=iI) (hls:∀r L,A.ls r=some L→∀s,rv (L s)):∀ (c:Code) (s:St),rv (aI P O n A c s):=by
 intro c
 induction c with
 |skip=>exact fun s Q hk=>⟨_,_,hk,fun _ h=>h⟩
 |label l=>exact fun s Q hk=>⟨_,_,hk,fun _ h=>h⟩
 |exit i=>exact fun s Q hk=>⟨_,_,hk,fun _ h=>h⟩
 |ret=>exact fun s Q hk=>⟨_,_,hk,fun _ h=>h⟩
 | region rid ops draw=>
  intro s Q hk
  simp only[aI,hcut,iI,rl] at hk⊢
  obtain ⟨s',ft,h1,h2⟩:=DP hi _ _ _ _ _ _ hk
  cases draw with
  |false=>exact ⟨_,_,h1,fun Q' h=>h2 _ h⟩
  |true=>
   obtain ⟨hb,h1⟩:=oblB_iff.1 h1
   exact ⟨_,_,h1,fun Q' h=>h2 _ (oblB_iff.2 ⟨hb,h⟩)⟩
 | seq a b iha ihb=>
  intro s Q hk
  simp only[aI] at hk⊢
  obtain ⟨e,s',h1,h2⟩:=iha s _ hk
  cases e with
  |normal=>
   obtain ⟨e,s2,h3,h4⟩:=ihb s' Q h1
   exact ⟨e,s2,h3,fun Q' h=>h2 _ (h4 Q' h)⟩
  |exit i=>exact ⟨_,_,h1,fun Q' h=>h2 _ h⟩
  |ret=>exact ⟨_,_,h1,fun Q' h=>h2 _ h⟩
 | cond c a b iha ihb=>
  intro s Q hk
  simp only[aI] at hk⊢
  split at hk
  ·split at hk
   ·exact iha _ Q hk
   ·exact ihb _ Q hk
  ·exact hk.elim
 | block id body ih=>
  intro s Q hk
  simp only[aI] at hk⊢
  obtain ⟨e,s',h1,h2⟩:=ih s _ hk
  cases e with
  |normal=>exact ⟨_,_,h1,fun Q' h=>h2 _ h⟩
  |ret=>exact ⟨_,_,h1,fun Q' h=>h2 _ h⟩
  | exit i=>
   simp only[oz] at h1
   split at h1
   ·rename_i hb
    exact ⟨_,_,h1,fun Q' h=>h2 _ (by simp only[oz,hb];exact h)⟩
   ·rename_i hb
    exact ⟨_,_,h1,fun Q' h=>h2 _ (by simp only[oz,hb];exact h)⟩
 | loop body ih=>
  intro s Q hk
  simp only[aI] at hk⊢
  split at hk
  ·rename_i L hL
   exact hls _ L hL s Q hk
  ·exact DQ ih _ s Q hk
 |_=>exact fun s Q hk=>hk.elim
theorem DR (hi:jj A) (hcut:A.cut=iI) (hls:∀r L,A.ls r=some L→∀s,rv (L s)) {f:FuncId} {args:List AV} {H:af} {nx:Nat}:t6 (ax P O n A f args H nx):=by
 intro K hk
 unfold ax at hk
 split at hk
 ·rename_i fn hfn
  split at hk
  ·rename_i c hc
   split at hk
   ·exact hk.elim
   ·rename_i hname
    split at hk
    ·exact hk.elim
    ·rename_i hsz
     obtain ⟨e,s,h1,h2⟩:=LV hi hcut hls c _ _ hk
     have fin:∀ {e:AExit},(∀i,e≠ .exit i)→(match e with
       | .exit _=>False
       |_=>match dw P O.glob s fn.results.toList with
        |some l=>K (dx l) s.heap s.nx
        |none=>False)→∃l,dw P O.glob s fn.results.toList=some l∧K (dx l) s.heap s.nx:=fun {e} hne h=>by
      split at h
      ·exact h.elim
      ·split at h
       ·rename_i l hl
        exact ⟨l,hl,h⟩
       ·exact h.elim
     have back:∀ {l:List AV},dw P O.glob s fn.results.toList=some l→(∀i,e≠ .exit i)→∀K':AV→af→Nat→Prop,K' (dx l) s.heap s.nx→ax P O n A f args H nx K':=fun {l} hl hne K' h=>by
      unfold ax
      simp only[hfn,hc,hname,hsz]
      refine h2 _ ?_
      split
      ·exact absurd rfl (hne _)
      ·simp only[hl];exact h
     cases e with
     |exit i=>exact h1.elim
     |normal=>
      obtain ⟨l,hl,hK⟩:=fin (e:= .normal) (fun _ h=>by cases h) h1
      exact ⟨_,_,_,hK,fun K' h=>back hl (fun _ h=>by cases h) K' h⟩
     |ret=>
      obtain ⟨l,hl,hK⟩:=fin (e:= .ret) (fun _ h=>by cases h) h1
      exact ⟨_,_,_,hK,fun K' h=>back hl (fun _ h=>by cases h) K' h⟩
  ·exact hk.elim
 ·exact hk.elim
theorem LW (B:cU P O n) (hA:cQ P O A) (hi:jj A) (hcut:A.cut=iI) (hls:A.ls=fun _=>none) {f:FuncId} {args:List AV} {h:af} {nx:Nat} {K:AV→af→Nat→Prop} (hk:ax P O n A f args h nx K):
  ∃v h' nx',K v h' nx'∧cw P O.glob f args h nx v h' nx':=by
 obtain ⟨v,h',nx',h1,h2⟩:=DR hi hcut (fun r L hL=>by rw[hls] at hL;cases hL) K hk
 exact ⟨v,h',nx',h1,tR B hA (Dk fun r=>by rw[hls]) (h2 _ ⟨rfl,rfl,rfl⟩)⟩
end
noncomputable def kZ (P:Program) (O:bn) (n:Nat) (sem:eP) (isI:FuncId→Option (List AV→af→List Nat)):Nat→FuncId→Option q9
 |0=>fun _=>none
 |d+1=>fun f=>match isI f with
  |some see=>some ⟨see,ax P O n ⟨fun _ _=>none,fun _=>none,oI,sem,kZ P O n sem isI d,iI⟩ f⟩
  |none=>none
section
variable {P:Program} {O:bn} {n:Nat} {sem:eP} {isI:FuncId→Option (List AV→af→List Nat)}
theorem DS:∀ (d:Nat) f T,kZ P O n sem isI d f=some T→∀args h nx,t6 (T.run args h nx)
 |0,_,_,h=>by cases h
 | d+1,f,T,h=>by
  simp only[kZ] at h
  split at h
  ·simp only[Option.some.injEq] at h
   subst h
   exact fun args h nx=>DR (A:=⟨fun _ _=>none,fun _=>none,oI,sem,kZ P O n sem isI d,iI⟩) (fun f T hT=>DS d f T hT) rfl (fun r L hL=>by cases hL)
  ·cases h
theorem DT (B:cU P O n) (hsum:∀f args v,O.summ f args=some v→SemCall P O.glob f args v):∀ (d:Nat) f T,kZ P O n sem isI d f=some T→∀args h nx K,T.run args h nx K→∃v h' nx',K v h' nx'∧cw P O.glob f args h nx v h' nx'
 |0,_,_,h=>by cases h
 | d+1,f,T,h=>by
  simp only[kZ] at h
  split at h
  ·simp only[Option.some.injEq] at h
   subst h
   exact fun args h nx K hk=>LW B (A:=⟨fun _ _=>none,fun _=>none,oI,sem,kZ P O n sem isI d,iI⟩) ⟨tN,hsum,fun f T hT=>DT B hsum d f T hT,fun _ _ h=>(by cases h)⟩ (fun f T hT=>DS d f T hT) rfl rfl hk
  ·cases h
end
def LX:List AV→af→List Nat:=fun _ h=>h.map (·.1)
def LY:List AV→af→List Nat:=fun _ _=>[]
def LZ:List FuncId→List FuncId→FuncId→Option (List AV→af→List Nat):=fun pure all f=>match ff pure f with
 |true=>some LY
 |false=>match ff all f with
  |true=>some LX
  |false=>none
noncomputable def DU (P:Program) (O:bn) (n:Nat) (hint:Nat→Nat→Option dU) (ls:Nat→Option bq) (sem:eP) (isI:FuncId→Option (List AV→af→List Nat)):aX:=⟨hint,ls,oI,sem,kZ P O n sem isI 8,iI⟩
theorem L5 {P:Program} {O:bn} {n:Nat} {hint:Nat→Nat→Option dU} {ls:Nat→Option bq} {sem:eP} {isI:FuncId→Option (List AV→af→List Nat)} (B:cU P O n) (h:∀f args v,O.summ f args=some v→SemCall P O.glob f args v):cQ P O (DU P O n hint ls sem isI):=
 ⟨tN,h,fun f T hT=>DT B h 8 f T hT,fun _ _ h=>(by cases h)⟩
end Go.Proofs.Abs
/- What calls answer, by their numbers; values that say less; items as trees. -/
namespace Go.Proofs.Abs
open Go
noncomputable section
def bg:List (FuncId × AV)→eP
 |[],_,_,_,_=>none
 |(f,v)::t,g,a,h,nx=>match Nat.beq g f with
  |true=>some (.val v)
  |false=>bg t g a h nx
def dW:List (FuncId × (List AV→Option AV))→eP
 |[],_,_,_,_=>none
 | (f,k)::t,g,a,h,nx=>match Nat.beq g f with
  |true=>match k a with
   |some v=>some (.val v)
   |none=>none
  |false=>dW t g a h nx
structure Wk (v v':AV):Prop where
 out:∀w I α x,Rep w I α v x→Rep w I α v' x
structure WkL (l l':List AV):Prop where
 out:∀w I α x,RepL w I α l x→RepL w I α l' x
 len:l.length=l'.length
 at_:∀ (i:Nat) x y,l[i]? =some x→l'[i]? =some y→Wk x y
theorem Wk.refl (v:AV):Wk v v:=⟨fun _ _ _ _ h=>h⟩
theorem Wk.trans {u v w:AV} (h:Wk u v) (h':Wk v w):Wk u w:=⟨fun _ _ _ _ r=>h'.out _ _ _ _ (h.out _ _ _ _ r)⟩
theorem WkL.nil:WkL [] []:=⟨fun _ _ _ _ h=>h,rfl,by simp⟩
theorem WkL.refl (l:List AV):WkL l l:=⟨fun _ _ _ _ h=>h,rfl,fun i x y h1 h2=>by rw[h1] at h2;cases h2;exact .refl x⟩
theorem WkL.cons {a b:AV} {t u:List AV} (h:Wk a b) (ht:WkL t u):WkL (a::t) (b::u):=
 ⟨fun w I α x r=>by
  obtain ⟨y,v',rfl,h1,h2⟩:=RepL.cons_inv r
  exact .cons (h.out _ _ _ _ h1) (ht.out _ _ _ _ h2),by simp[ht.len],fun i x y h1 h2=>by
  cases i with
  |zero=>simp at h1 h2;subst h1;subst h2;exact h
  |succ i=>simp at h1 h2;exact ht.at_ i x y h1 h2⟩
theorem WkL.append {a b c d:List AV} (h:WkL a b) (h':WkL c d):WkL (a++c) (b++d):=by
 have hl:=h.len
 have hl':=h'.len
 refine ⟨fun w I α x r=>⟨by have:=r.1;simp only[List.length_append] at this⊢;omega,fun i p q e1 e2=> ?_⟩,by simp only[List.length_append];omega,fun i p q e1 e2=> ?_⟩
 ·have hi:i<(a++c).length:=by
   have:i<(b++d).length:=by
    rcases Nat.lt_or_ge i (b++d).length with h|h
    ·exact h
    ·rw[List.getElem?_eq_none h] at e1;cases e1
   simp only[List.length_append] at this⊢;omega
  have r':=r.2 i _ q (List.getElem?_eq_getElem hi) e2
  have key:Wk ((a++c)[i]) p:=by
   have e3:=List.getElem?_eq_getElem hi
   by_cases hlt:i<a.length
   ·rw[List.getElem?_append_left hlt] at e3
    rw[List.getElem?_append_left (by omega)] at e1
    exact h.at_ i _ _ e3 e1
   ·rw[List.getElem?_append_right (by omega)] at e3 e1
    rw[hl] at e3
    exact h'.at_ _ _ _ e3 e1
  exact key.out _ _ _ _ r'
 ·by_cases hlt:i<a.length
  ·rw[List.getElem?_append_left hlt] at e1
   rw[List.getElem?_append_left (by omega)] at e2
   exact h.at_ i _ _ e1 e2
  ·rw[List.getElem?_append_right (by omega)] at e1 e2
   rw[hl] at e1
   exact h'.at_ _ _ _ e1 e2
theorem Wk.nil {f:Bool}:Wk .nilsl (.fsl f []):=⟨fun w I α x h=>by
 cases h
 exact .fsl f [] none 0 0 0 0 0 (fun _ _=>undef) rfl (Nat.le_refl _) (fun _=>rfl) (.inr ⟨rfl,rfl⟩) (fun h=>absurd rfl h) (by simp) (by simp) (by simp)⟩
theorem Wk.full {l:List AV}:Wk (.fsl true l) (.fsl false l):=⟨fun w I α x h=>by
 cases h with
 |fsl _ _ a len cap sz b base g hl hc hf ha hI hs hg hr=>
  exact .fsl false l a len cap sz b base g hl hc (fun h=>by cases h) ha hI hs hg hr⟩
theorem Wk.row {f:Bool} {l:List AV}:Wk (.fsl f l) (.fsl false l):=by
 cases f with
 |true=>exact .full
 |false=>exact .refl _
theorem Wk.els {l l':List AV} (hlen:l.length=l'.length) (h:∀ (i:Nat) (x y:AV),l[i]? =some x→l'[i]? =some y→WkL x.cells y.cells):Wk (.fsl false l) (.fsl false l'):=⟨fun w I α x hx=>by
 have get:∀ (i:Nat) (y:AV),l'[i]? =some y→∃x:AV,l[i]? =some x∧WkL x.cells y.cells:=fun i y hy=>by
  have hi:i<l.length:=by
   rw[hlen]
   rcases Nat.lt_or_ge i l'.length with h|h
   ·exact h
   ·rw[List.getElem?_eq_none h] at hy;cases hy
  exact ⟨_,List.getElem?_eq_getElem hi,h i _ _ (List.getElem?_eq_getElem hi) hy⟩
 cases hx with
 | fsl _ _ a len cap sz b base g hl hc hf ha hI hs hg hr=>
  have cell:∀ (i:Nat) (e:AV) (j:Nat) (c:AV),l'[i]? =some e→e.cells[j]? =some c→∃ (e0 c0:AV),l[i]? =some e0∧e0.cells[j]? =some c0∧Wk c0 c:=fun i e j c h1 h2=>by
   obtain ⟨e0,k1,k2⟩:=get i e h1
   have hj:j<e0.cells.length:=by
    rw[k2.len]
    rcases Nat.lt_or_ge j e.cells.length with h|h
    ·exact h
    ·rw[List.getElem?_eq_none h] at h2;cases h2
   exact ⟨e0,_,k1,List.getElem?_eq_getElem hj,k2.at_ j _ _ (List.getElem?_eq_getElem hj) h2⟩
  refine .fsl false l' a len cap sz b base g (by omega) hc (fun h=>by cases h) ?_ (fun hne=>hI fun h0=>hne ?_) (fun e he=> ?_) (fun i e j c h1 h2=> ?_) (fun i e j c h1 h2=> ?_)
  ·exact ha
  ·subst h0;exact List.eq_nil_of_length_eq_zero hlen.symm
  ·obtain ⟨i,hi⟩:=List.getElem?_of_mem he
   obtain ⟨e0,k1,k2⟩:=get i e hi
   rw[←k2.len]
   exact hs e0 (List.mem_of_getElem? k1)
  ·obtain ⟨e0,c0,k1,k2,_⟩:=cell i e j c h1 h2
   exact hg i e0 j c0 k1 k2
  ·obtain ⟨e0,c0,k1,k2,k3⟩:=cell i e j c h1 h2
   exact k3.out _ _ _ _ (hr i e0 j c0 k1 k2)⟩
structure WkE (l l':List AV):Prop where
 len:l.length=l'.length
 at_:∀ (i:Nat) (x y:AV),l[i]? =some x→l'[i]? =some y→WkL x.cells y.cells
theorem WkE.nil:WkE [] []:=⟨rfl,by simp⟩
theorem WkE.refl (l:List AV):WkE l l:=⟨rfl,fun i x y h1 h2=>by rw[h1] at h2;cases h2;exact .refl _⟩
theorem WkE.cons {x y:AV} {l l':List AV} (h:WkL x.cells y.cells) (t:WkE l l'):WkE (x::l) (y::l'):=
 ⟨by simp[t.len],fun i x' y' h1 h2=>by
  cases i with
  |zero=>simp at h1 h2;subst h1;subst h2;exact h
  |succ i=>simp at h1 h2;exact t.at_ i x' y' h1 h2⟩
theorem WkE.consA {a b:List AV} {l l':List AV} (h:WkL a b) (t:WkE l l'):WkE (.agg a::l) (.agg b::l'):= .cons h t
theorem WkE.map {α:Type} {f g:α→AV} {l:List α} (h:∀x∈l,WkL (f x).cells (g x).cells):WkE (l.map f) (l.map g):=
 ⟨by simp,fun i x y h1 h2=>by
  rw[List.getElem?_map,Option.map_eq_some_iff] at h1 h2
  obtain ⟨a,ha,rfl⟩:=h1
  obtain ⟨b,hb,rfl⟩:=h2
  rw[ha] at hb;cases hb
  exact h a (List.mem_of_getElem? ha)⟩
theorem Wk.rows {f:Bool} {l l':List AV} (h:WkE l l'):Wk (.fsl f l) (.fsl false l'):=Wk.row.trans (.els h.len h.at_)
theorem Wk.agg {l l':List AV} (h:WkL l l'):Wk (.agg l) (.agg l'):=⟨fun w I α x r=>by
 obtain ⟨a',rfl,h1⟩:=Rep.agg_iff.1 r
 exact Rep.agg_iff.2 ⟨a',rfl,h.out _ _ _ _ h1⟩⟩
theorem Wk.tuple {l l':List AV} (h:WkL l l'):Wk (.tuple l) (.tuple l'):=⟨fun w I α x r=>by
 obtain ⟨a',rfl,h1⟩:=Rep.tuple_iff.1 r
 exact Rep.tuple_iff.2 ⟨a',rfl,h.out _ _ _ _ h1⟩⟩
theorem Wk.iface {t:TypeId} {v v':AV} (h:Wk v v'):Wk (.iface t v) (.iface t v'):=⟨fun w I α x r=>by
 cases r with
 |iface _ _ v'' hv=>exact .iface t _ _ (h.out _ _ _ _ hv)⟩
theorem Wk.func {fn:Fn} {a c a' c':List AV} (h1:WkL a a') (h2:WkL c c'):Wk (.func fn a c) (.func fn a' c'):=⟨fun w I α x r=>by
 obtain ⟨u,v,rfl,k1,k2⟩:=Rep.func_iff.1 r
 exact Rep.func_iff.2 ⟨u,v,rfl,h1.out _ _ _ _ k1,h2.out _ _ _ _ k2⟩⟩
theorem Wk.fptr {l l':List AV} {o:Nat} (h:WkL l l'):Wk (.fptr l o) (.fptr l' o):=⟨fun w I α x r=>by
 cases r with
 | fptr _ _ b base g hI hg hr=>
  have cell:∀ (j:Nat) (c:AV),l'[j]? =some c→∃c0:AV,l[j]? =some c0∧Wk c0 c:=fun j c h2=>by
   have hj:j<l.length:=by
    rw[h.len]
    rcases Nat.lt_or_ge j l'.length with h|h
    ·exact h
    ·rw[List.getElem?_eq_none h] at h2;cases h2
   exact ⟨_,List.getElem?_eq_getElem hj,h.at_ j _ _ (List.getElem?_eq_getElem hj) h2⟩
  refine .fptr l' o b base g hI (fun j c hc=> ?_) (fun j c hc=> ?_)
  ·obtain ⟨c0,k1,_⟩:=cell j c hc
   exact hg j c0 k1
  ·obtain ⟨c0,k1,k2⟩:=cell j c hc
   exact k2.out _ _ _ _ (hr j c0 k1)⟩
theorem DV {f:Bool} {w:World} {I:Nat→Prop} {α:Nat→Option Nat} {x:Value} (h:Rep w I α (.fsl f []) x):Rep w I α .nilsl x∨Rep w I α .nesl x:=by
 cases h with
 |fsl _ _ a len cap sz b base g hl hc hf ha hI hs hg hr=>
  obtain rfl:len=0:=by simpa using hl.symm
  rcases ha with rfl|⟨rfl,rfl⟩
  ·exact .inr (.nesl _ _)
  ·exact .inl .nilsl
section
variable {P:Program} {G:aP} {f:FuncId} {args args':List AV} {v v':AV}
theorem SemCall.wkA (h:SemCall P G f args' v) (hw:WkL args args'):SemCall P G f args v:=
 ⟨fun w I α H rid nx vs r hr=>h.out w I α H rid nx vs r (hw.out _ _ _ _ hr)⟩
theorem L6 {Q Q':Value→World→Prop} {r:Result Next} (h:eO P Q r) (hq:∀v w,Q v w→Q' v w):eO P Q' r:=by
 unfold eO at h⊢
 split at h
 ·exact hq _ _ h
 ·exact hq _ _ h
 ·exact Calls.mono h fun e w' ⟨v,h1,h2⟩=>⟨v,h1,hq _ _ h2⟩
 ·exact h
theorem SemCall.wk (h:SemCall P G f args' v) (ha:WkL args args') (hv:Wk v v'):SemCall P G f args v':=
 ⟨fun w I α H rid nx vs r hr h1 h2 h3=>L6 (h.out w I α H rid nx vs r (ha.out _ _ _ _ hr) h1 h2 h3) fun _ _ ⟨⟨I',α',q1,q2,q3,q4⟩,hle⟩=>⟨⟨I',α',q1,q2,hv.out _ _ _ _ q3,q4⟩,hle⟩⟩
theorem SemCall.res (h:SemCall P G f args v) (hv:Wk v v'):SemCall P G f args v':=h.wk (.refl _) hv
theorem SemCall.empty (h1:SemCall P G f [.nilsl] v) (h2:SemCall P G f [.nesl] v):SemCall P G f [.fsl false []] v:=
 ⟨fun w I α H rid nx vs r hr k1 k2 k3=>by
  obtain ⟨y,v',e,hy,ht⟩:=RepL.cons_inv hr
  have:RepL w I α [.nilsl] vs.toList∨RepL w I α [.nesl] vs.toList:=by
   rw[e]
   rcases DV hy with h|h
   ·exact .inl (.cons h ht)
   ·exact .inr (.cons h ht)
  rcases this with h|h
  ·exact h1.out w I α H rid nx vs r h k1 k2 k3
  ·exact h2.out w I α H rid nx vs r h k1 k2 k3⟩
end
inductive It where
 |mk (tag ty n:Int) (data:List UInt8) (kids:List It)
mutual
def aG:It→AV
 | .mk t y n d ks=> .agg [.int .i64 t,.int .i64 y,.int .i64 n,.fsl false (ai d),.fsl false (ad ks)]
def ad:List It→List AV
 |[]=>[]
 |k::r=>aG k::ad r
end
mutual
def bO (m:Nat):It→Prop
 | .mk _ _ _ d ks=>d.length≤m∧ks.length≤m∧iO m ks
def iO (m:Nat):List It→Prop
 |[]=>True
 |k::r=>bO m k∧iO m r
end
mutual
def dL:It→It→Bool
 | .mk t y n d ks,.mk t' y' n' d' ks'=>ak t t'&&(ak y y'&&(ak n n'&&(aA d d'&&ep ks ks')))
def ep:List It→List It→Bool
 |[],[]=>true
 |k::r,k'::r'=>dL k k'&&ep r r'
 |_,_=>false
end
mutual
theorem L7:∀x y:It,dL x y=true↔x=y
 | .mk t y n d ks,.mk t' y' n' d' ks'=>by
  simp only[dL,Bool.and_eq_true,beqInt_iff,beqBytes_iff,yX ks ks',It.mk.injEq]
theorem yX:∀l r:List It,ep l r=true↔l=r
 |[],[]=>by simp[ep]
 |[],_::_=>by simp[ep]
 |_::_,[]=>by simp[ep]
 |k::r,k'::r'=>by simp only[ep,Bool.and_eq_true,L7 k k',yX r r',List.cons.injEq]
end
theorem DW {l r:List It} (h:ep l r=true):l.length=r.length:=by rw[(yX l r).1 h]
@[simp] theorem DX {k:IntKind} {n:Int}:(AV.int k n).one=true:=rfl
@[simp] theorem DY {s:List UInt8}:(AV.str s).one=true:=rfl
@[simp] theorem DZ {b:Bool}:(AV.bool b).one=true:=rfl
@[simp] theorem L8 {f:Bool} {l:List AV}:(AV.fsl f l).one=true:=rfl
theorem t8 {P:Program} {t:TypeId} {v:AV} (h:fe P t=some false) (hv:v.one=true):bM P t v 1=true:=by simp only[bM,h,hv];rfl
theorem yY {P:Program} {t:TypeId} {l:List AV} {n:Nat} (h:fe P t=some true) (hl:Nat.beq (aa l) n=true) (ho:bc l=true):bM P t (.agg l) n=true:=by simp only[bM,h,AV.cells,hl,ho];rfl
theorem aF {b:Bool} {K:Prop} (h:b=true) (k:K):au b K:=oblB_iff.2 ⟨h,k⟩
theorem jU:∀l:List It,ad l=l.map aG
 |[]=>rfl
 |k::r=>by simp only[ad,List.map_cons,jU r]
theorem okIs_iff {m:Nat}:∀ {l:List It},iO m l↔∀k∈l,bO m k
 |[]=>by simp[iO]
 |k::r=>by simp only[iO,okIs_iff (l:=r),List.forall_mem_cons]
mutual
theorem bG:∀x:It,ah (aG x)=true
 | .mk t y n d ks=>by
  have h:=cH ks
  simp[aG,ah,ac,h]
theorem cH:∀l:List It,ac (ad l)=true
 |[]=>rfl
 |k::r=>by simp only[ad,ac,bG k,cH r,Bool.and_self]
end
end
end Go.Proofs.Abs
/- Loops, round by round; what hints ask. -/
namespace Go.Proofs.Abs
open Go
section
variable {P:Program} {G:aP} {nx0:Nat} {s s2:St} {Q:AExit→St→Prop} {body:Code}
structure ALp (P:Program) (G:aP) (nx0:Nat) (body:Code) (s:St) (Q:AExit→St→Prop):Prop where
 out:∃k,ARnd P G nx0 body Q k s
theorem ALp.loop (h:ALp P G nx0 body s Q):AWp P G nx0 (.loop body) s Q:=by
 obtain ⟨k,h⟩:=h
 exact .loop k h
theorem ARnd.says (hs:Says2 G nx0 s s2):∀ {k:Nat},ARnd P G nx0 body Q k s2→ARnd P G nx0 body Q k s
 |0,h=>h
 |_+1,h=>AWp.says hs h
theorem ALp.says (hs:Says2 G nx0 s s2) (h:ALp P G nx0 body s2 Q):ALp P G nx0 body s Q:=by
 obtain ⟨k,h⟩:=h
 exact ⟨k,h.says hs⟩
end
def bf (nx0:Nat) (lk:List (Nat × Nat)) (V:View) (N:Prop) (lk':List (Nat × Nat)) (F:View) (Q:AExit→St→Prop):AExit→St→Prop:=fun e s=>match e with
 | .normal=>ck nx0 lk V s∧N
 |e=>ck nx0 lk' F s∧Q e F.st
theorem ALp.round {P:Program} {O:bn} {n:Nat} {nx0:Nat} {Q:AExit→St→Prop} {body:Code} {A:aX} {V0 V1 V2 F:View} {lk lk':List (Nat × Nat)} (B:cU P O n) (hA:cQ P O A) (hls:LsOk P O.glob nx0 A body)
  (hM:Says2 O.glob nx0 V1.st V2.st) (h:aI P O n A body V0.st (bf nx0 lk V1 (ALp P O.glob nx0 body V2.st Q) lk' F Q)):ALp P O.glob nx0 body V0.st Q:=by
 have h:=tQ B hA body _ _ hls h
 by_cases hN:ALp P O.glob nx0 body V2.st Q
 ·obtain ⟨k,hk⟩:=hN
  refine ⟨k+1,h.saysEnd fun e s hq=> ?_⟩
  cases e with
  |normal=>exact ⟨_,(fM B.glob hq.1).trans hM,hk⟩
  |exit i=>exact ⟨_,fM B.glob hq.1,hq.2⟩
  |ret=>exact ⟨_,fM B.glob hq.1,hq.2⟩
 ·refine ⟨1,h.saysEnd fun e s hq=> ?_⟩
  cases e with
  |normal=>exact absurd hq.2 hN
  |exit i=>exact ⟨_,fM B.glob hq.1,hq.2⟩
  |ret=>exact ⟨_,fM B.glob hq.1,hq.2⟩
theorem LsOk.at1 {P:Program} {G:aP} {nx0 r1:Nat} {L1:bq} {b1:Code} {c:Code} {A:aX} (hA:A.ls=iM [(r1,L1)]) (a1:bu c r1=[b1]) (h1:∀s Q,L1 s Q→AWp P G nx0 (.loop b1) s Q):LsOk P G nx0 A c:=
 LsOk.many hA fun p hp b hb s Q hs=>by
  simp only[List.mem_singleton] at hp;subst hp
  rw[a1,List.mem_singleton] at hb;subst hb;exact h1 s Q hs
theorem LsOk.at2 {P:Program} {G:aP} {nx0 r1 r2:Nat} {L1 L2:bq} {b1 b2:Code} {c:Code} {A:aX} (hA:A.ls=iM [(r1,L1),(r2,L2)]) (a1:bu c r1=[b1]) (a2:bu c r2=[b2]) (h1:∀s Q,L1 s Q→AWp P G nx0 (.loop b1) s Q) (h2:∀s Q,L2 s Q→AWp P G nx0 (.loop b2) s Q):LsOk P G nx0 A c:=
 LsOk.many hA fun p hp b hb s Q hs=>by
  simp only[List.mem_cons,List.not_mem_nil,or_false] at hp
  rcases hp with rfl|rfl
  ·rw[a1,List.mem_singleton] at hb;subst hb;exact h1 s Q hs
  ·rw[a2,List.mem_singleton] at hb;subst hb;exact h2 s Q hs
theorem LsOk.at3 {P:Program} {G:aP} {nx0 r1 r2 r3:Nat} {L1 L2 L3:bq} {b1 b2 b3:Code} {c:Code} {A:aX} (hA:A.ls=iM [(r1,L1),(r2,L2),(r3,L3)]) (a1:bu c r1=[b1]) (a2:bu c r2=[b2]) (a3:bu c r3=[b3]) (h1:∀s Q,L1 s Q→AWp P G nx0 (.loop b1) s Q) (h2:∀s Q,L2 s Q→AWp P G nx0 (.loop b2) s Q) (h3:∀s Q,L3 s Q→AWp P G nx0 (.loop b3) s Q):LsOk P G nx0 A c:=
 LsOk.many hA fun p hp b hb s Q hs=>by
  simp only[List.mem_cons,List.not_mem_nil,or_false] at hp
  rcases hp with rfl|rfl|rfl
  ·rw[a1,List.mem_singleton] at hb;subst hb;exact h1 s Q hs
  ·rw[a2,List.mem_singleton] at hb;subst hb;exact h2 s Q hs
  ·rw[a3,List.mem_singleton] at hb;subst hb;exact h3 s Q hs
theorem AWp.seen {P:Program} {G:aP} {nx0:Nat} {lk:List (Nat × Nat)} {V:View} {s:St} {Q:AExit→St→Prop} {body:Code} (hg:∀g l,G g=some l→ac l=true) (hs:ck nx0 lk V s) (h:ALp P G nx0 body V.st Q):AWp P G nx0 (.loop body) s Q:=(h.says (fM hg hs)).loop
theorem bN {P:Program} {O:bn} {n:Nat} {A:aX} {f:FuncId} {args:List AV} {v:AV} (B:cU P O n) (hA:cQ P O A) (hl:iL P O.glob 0 A f) (hcl:ac args=true) (hv:ah v=true)
  (h:ax P O n A f args [] 0 (fun u _ _=>u=v)):SemCall P O.glob f args v:=by
 obtain ⟨fn,c,hfn,hc,hname,hsz,hw⟩:=mV B hA hl h
 refine C9 B hfn hc hname hsz hcl fun w I a hr=>wp_mono (hw.out w I _ [] [] a w (fun _ _=>rfl) hr) ?_
 rintro e a' w' ⟨x,s',rfl,h2,hx,l,hl,hq⟩
 refine ⟨s',l, ?_,h2,hl, ?_,hv⟩
 ·rcases hx with rfl|rfl
  ·exact .inl rfl
  ·exact .inr rfl
 ·rw[hq];exact (Frz.closed v hv).out
def jV (v u:AV) (H:af):Prop:=∃r,(∃d,aW 0 H d u=some r)∧ah r=true∧Wk r v
def eH (v u:AV):Prop:=ah u=true∧Wk u v
theorem yZ {P:Program} {O:bn} {n:Nat} (B:cU P O n) {f:FuncId} {fn:Func} {c:Code} {args:List AV} {v:AV} (hfn:P.funcs[f]? =some fn) (hc:fn.body=some c) (hname:(fn.name== "runtime.NumGoroutine")=false) (hsz:(Nat.ble (aa args) fn.ntmps&&Nat.ble fn.ntmps 4095)=true)
  (hcl:ac args=true) (h:∀w I a,CR O.glob w I (fun _=>none) [] 0 [] ⟨dy args 0 .tip,[],0,fn.ntmps⟩ a w→
   c.wp P (fun e a' w'=>∃s l,(cK .normal=e∨cK .ret=e)∧CR O.glob w I (fun _=>none) [] 0 [] s a' w'∧dw P O.glob s fn.results.toList=some l∧jV v (dx l) s.heap) a w):
  SemCall P O.glob f args v:=by
 refine ⟨?_⟩
 intro w I α H rid nx vs r ha hrid hlt hf
 rw[Bool.and_eq_true,Nat.ble_eq,Nat.ble_eq,aE] at hsz
 have e1:(callFunc f vs).run P w= .ok (.enter f vs) w:=by
  unfold callFunc
  simp only[Sem.run_bind,run_program,Result.andThen_ok,hfn,hname,hc,Bool.false_eq_true,if_false,Option.isNone_some,Sem.run_pure]
 rw[e1]
 refine calls_of_wp hfn hc ?_
 have hra:RepL w I (fun _=>none) args vs.toList:=jf ha hcl
 have hvs:args.length=vs.size:=by rw[hra.1];simp
 have hr0:CR O.glob w I (fun _=>none) [] 0 [] ⟨dy args 0 .tip,[],0,fn.ntmps⟩ {tmps:=vs++Array.replicate (fn.ntmps-vs.size) undef,defers:=[]} w:=
  ⟨⟨I,fun _=>none,.refl,kR B.glob r,mK hra (by omega),fun i hi=>absurd hi (Nat.not_lt_zero i),fun _ _=>rfl,fun id h=>absurd rfl h⟩,Nat.le_refl _,Nat.le_refl _,rfl,by simp;omega,hsz.2⟩
 refine wp_mono (h w I _ hr0) fun e a' w' hq=> ?_
 obtain ⟨s,l,he,hr,hl,v0,⟨d,hfz⟩,hcv,hwk⟩:=hq
 obtain ⟨⟨I',α',h1,h2,h3,_,_,h6⟩,_,h8,h9,_,_⟩:=hr
 obtain ⟨u,e1,e2⟩:=mL (P:=P) (fn:=fn) h2 h3 hl
 have hp:fK O.glob w I (fun _=>none) [] 0 (dx l) s.heap s.nx u w':=⟨⟨I',α',h1,h2,e2,h6⟩,h8⟩
 have hpost:Post O.glob w I α H rid nx v H nx u w':=by
  obtain ⟨⟨I2,α2,q1,q2,q3,q4⟩,hle⟩:=mM r hp hfz hcv
  exact ⟨⟨I2,α2,q1,q2,hwk.out _ _ _ _ q3,q4⟩,hle⟩
 rcases he with rfl|rfl<;>exact ⟨h9,u,e1,u,rfl,hpost⟩
theorem dp {P:Program} {O:bn} {n:Nat} {A:aX} {f:FuncId} {args:List AV} {v:AV} (B:cU P O n) (hA:cQ P O A) (hl:iL P O.glob 0 A f) (hcl:ac args=true)
  (h:ax P O n A f args [] 0 (fun u H _=>jV v u H)):SemCall P O.glob f args v:=by
 obtain ⟨fn,c,hfn,hc,hname,hsz,hw⟩:=mV B hA hl h
 refine yZ B hfn hc hname hsz hcl fun w I a hr=>wp_mono (hw.out w I _ [] [] a w (fun _ _=>rfl) hr) ?_
 rintro e a' w' ⟨x,s',rfl,h2,hx,l,hl,hq⟩
 refine ⟨s',l, ?_,h2,hl,hq⟩
 rcases hx with rfl|rfl
 ·exact .inl rfl
 ·exact .inr rfl
theorem bh {P:Program} {O:bn} {n:Nat} {A:aX} {f:FuncId} {args:List AV} {v:AV} (B:cU P O n) (hA:cQ P O A) (hl:iL P O.glob 0 A f) (hcl:ac args=true)
  (h:ax P O n A f args [] 0 (fun u _ _=>eH v u)):SemCall P O.glob f args v:=by
 obtain ⟨fn,c,hfn,hc,hname,hsz,hw⟩:=mV B hA hl h
 refine yZ B hfn hc hname hsz hcl fun w I a hr=>wp_mono (hw.out w I _ [] [] a w (fun _ _=>rfl) hr) ?_
 rintro e a' w' ⟨x,s',rfl,h2,hx,l,hl,hq⟩
 refine ⟨s',l, ?_,h2,hl,_,(Frz.closed _ hq.1).out,hq.1,hq.2⟩
 rcases hx with rfl|rfl
 ·exact .inl rfl
 ·exact .inr rfl
theorem dM {v:AV} (h:ah v=true):eH v v:=⟨h,.refl v⟩
theorem rz {u v:AV} (h:u=v) (hc:ah v=true):eH v u:=by subst h;exact ⟨hc,.refl _⟩
theorem jW {n:Nat} {H:af} {b c:Bool} (h:b=c):(∃d,aW n H d (.bool b)=some (.bool c))∧ah (.bool c)=true:=⟨⟨1,by rw[h];rfl⟩,rfl⟩
theorem D3 {n:Nat} {H:af} {k:IntKind} {a b:Int} (h:a=b):(∃d,aW n H d (.int k a)=some (.int k b))∧ah (.int k b)=true:=⟨⟨1,by rw[h];rfl⟩,rfl⟩
theorem jk {n:Nat} {H:af} {v:AV} (h:ah v=true):(∃d,aW n H d v=some v)∧ah v=true:=⟨(Frz.closed v h).out,h⟩
theorem rA {n:Nat} {H:af} {v r:AV} (h:Frz n H v r) (hc:ah r=true):(∃d,aW n H d v=some r)∧ah r=true:=⟨h.out,hc⟩
theorem CR.up {G:aP} {w0:World} {I0:Nat→Prop} {α0:Nat→Option Nat} {H0:af} {nx0:Nat} {D:List Deferred} {s:St} {a:Act} {w:World} {m:Nat} (h:CR G w0 I0 α0 H0 nx0 D s a w) (hm:s.nx≤m):CR G w0 I0 α0 H0 nx0 D ⟨s.slots,s.heap,m,s.n⟩ a w:=by
 obtain ⟨⟨I,α,ev,rel,hs,_,hf,hnew⟩,h7,h8,h9,h10,h11⟩:=h
 refine ⟨⟨I,α,ev,rel,hs,fun i hi=>absurd hi (Nat.not_lt_zero i),fun id hid=>hf id (Nat.le_trans hm hid),fun id hid=> ?_⟩,Nat.le_refl _,Nat.le_trans h8 hm,h9,h10,h11⟩
 rcases hnew id hid with h|h
 ·exact .inl h
 ·exact .inr ⟨h.1,Nat.lt_of_lt_of_le h.2 hm⟩
def D4 (m:Nat) (V:View) (s:St):Prop:=au (Nat.beq V.n s.n&&Nat.ble s.nx V.nx) (tX m s.heap s.slots.get (V.slots++V.refs)∧tY m s.heap V.heap)
theorem L9 {G:aP} {nx0 m:Nat} {V:View} {s:St} (h:D4 m V s):Says2 G nx0 s V.st:=by
 obtain ⟨hb,h1,h2⟩:=oblB_iff.1 h
 rw[Bool.and_eq_true] at hb
 intro w0 I0 α0 H0 D a w _ hr
 refine (hr.up (Nat.le_of_ble_eq_true hb.2)).freeze m (beq_iff.1 hb.1) rfl (fun k v hv=>yD h1 k v (qY hv)) fun i b hi=> ?_
 obtain ⟨wh,hm⟩:=yC hi
 exact yE h2 i b wh hm
def Ma (m:Nat) (V:View):St→(St→Prop)→Prop:=fun s K=>D4 m V s∧K V.st
def D5 (r0:Nat) (C:St→(St→Prop)→Prop):Nat→Option (St→(St→Prop)→Prop):=fun r=>match Nat.beq r r0 with
 |true=>some C
 |false=>none
noncomputable def mZ (A:aX) (r m:Nat) (V:View):aX:={A with cut:=D5 r (Ma m V)}
theorem oM {P:Program} {O:bn} {A:aX} {r m:Nat} {V:View} (hA:cQ P O A):cQ P O (mZ A r m V):=
 ⟨hA.cx,hA.sum,hA.inl,fun r' C hC nx0 s K hk=>by
  simp only[mZ,D5] at hC
  split at hC
  ·simp only[Option.some.injEq] at hC
   subst hC
   exact ⟨V.st,L9 hk.1,hk.2⟩
  ·cases hC⟩
section
variable {P:Program} {G:aP}
theorem y4 {s d e:TypeId} {f:Bool} {b:List UInt8} (h1:P.underlying s=some (.slice e)) (h2:P.underlying d=some .string) (h3:mi P e=true):cR P s d (.fsl f (ai b))=some (.val (.str b)):=by
 simp only[cR,h1,h2,h3,sR,Dn,kG]
theorem fN {t e:TypeId} {sz i:Nat} {f:Bool} {l:List AV} {v:AV} (h1:P.underlying t=some (.slice e)) (h2:bR P e=some sz) (hv:l[i]? =some v) (hs:v.cells.length=sz):aC P t (.fsl f l) (.int .i64 (.ofNat i))=some (.fptr v.cells 0):=by
 have h5:Nat.beq (aa v.cells) sz=true:=by rw[beq_iff,aE,hs]
 simp only[aC,fB,h1,h2,fJ,hv,h5,if_true,Option.bind_eq_bind,Option.bind_some]
end
end Go.Proofs.Abs
/- Objects as values. -/
namespace Go.Proofs.Abs
open Go
noncomputable section
structure Dt where
 has:Bool
 t:Int
structure Lk where
 ty:Int
 id:List UInt8
structure Cu where
 name:List UInt8
 text:List UInt8
structure Ob where
 id:List UInt8
 ty:Int
 alg:Int
 len:Int
 mask:Int
 mat:List UInt8
 st:Int
 d0:Dt
 d1:Dt
 d2:Dt
 d3:Dt
 d4:Dt
 d5:Dt
 d6:Dt
 d7:Dt
 d8:Dt
 d9:Dt
 why:Int
 msg:List UInt8
 names:List (List UInt8)
 links:List Lk
 cust:List Cu
 lh:Bool
 lt:Int
 lc:Int
 lu:Int
 arch:Bool
def bi (l:Lk):AV:= .agg [.int .i64 l.ty,.str l.id]
def aQ (c:Cu):AV:= .agg [.str c.name,.str c.text]
def bU (o:Ob):AV:= .fsl false (ai o.mat)
def bV (o:Ob):AV:= .fsl false (o.names.map .str)
def bW (o:Ob):AV:= .fsl false (o.links.map bi)
def bo (o:Ob):AV:= .fsl false (o.cust.map aQ)
def ae (o:Ob) (M N L C:AV):List AV:=[.str o.id,.int .i64 o.ty,.int .i64 o.alg,.int .i64 o.len,.int .i64 o.mask,M,.int .i64 o.st,
 .bool o.d0.has,.int .i64 o.d0.t,.bool o.d1.has,.int .i64 o.d1.t,.bool o.d2.has,.int .i64 o.d2.t,.bool o.d3.has,.int .i64 o.d3.t,.bool o.d4.has,.int .i64 o.d4.t,
 .bool o.d5.has,.int .i64 o.d5.t,.bool o.d6.has,.int .i64 o.d6.t,.bool o.d7.has,.int .i64 o.d7.t,.bool o.d8.has,.int .i64 o.d8.t,.bool o.d9.has,.int .i64 o.d9.t,
 .int .i64 o.why,.str o.msg,N,L,C,.bool o.lh,.int .i64 o.lt,.int .i64 o.lc,.int .i64 o.lu,.bool o.arch]
def am (o:Ob):List AV:=ae o (bU o) (bV o) (bW o) (bo o)
def az (o:Ob):AV:= .agg (am o)
theorem oN:∀l:List (List UInt8),ac (l.map .str)=true
 |[]=>rfl
 |s::t=>by simp only[List.map_cons,ac,oN t,Bool.and_true];rfl
theorem oO:∀l:List Lk,ac (l.map bi)=true
 |[]=>rfl
 |s::t=>by simp only[List.map_cons,ac,oO t,Bool.and_true];rfl
theorem m4:∀l:List Cu,ac (l.map aQ)=true
 |[]=>rfl
 |s::t=>by simp only[List.map_cons,ac,m4 t,Bool.and_true];rfl
theorem m5 (o:Ob):ah (bU o)=true:=tS _
theorem oP (o:Ob):ah (bV o)=true:=oN _
theorem oQ (o:Ob):ah (bW o)=true:=oO _
theorem m6 (o:Ob):ah (bo o)=true:=m4 _
theorem bH (o:Ob):ac (am o)=true:=by
 simp only[am,ae,ac,ah,m5,oP,oQ,m6,Bool.and_self]
theorem Mb (o:Ob):ah (az o)=true:=bH o
theorem Mc (o:Ob):bc (am o)=true:=by
 simp only[am,ae,bc,DY,DX,DZ,bU,bV,bW,bo,L8,Bool.and_self]
theorem Md (o:Ob):Nat.beq (aa (am o)) 37=true:=rfl
end
end Go.Proofs.Abs
/- Calls with closed arguments, run by themselves, whose answers say enough; bodies that say less. -/
namespace Go.Proofs.Abs
open Go
noncomputable section
def aS (P:Program) (O:bn) (n:Nat) (f:FuncId) (args:List AV):Option AV:=
 match g7 P O (gJ P O n) f args [] 0 with
 |some (v,h',_)=>aW 0 h' 40 v
 |none=>none
section
variable {P:Program} {O:bn} {n:Nat} {f:FuncId} {args:List AV} {v r:AV}
theorem Me (hm:P.follows .mixedOrders=true) (hsum:∀f args v,O.summ f args=some v→SemCall P O.glob f args v) (hg:∀g l,O.glob g=some l→ac l=true) (hcx:bJ P O.glob O.cx∧bK O.cx)
  (hcl:ac args=true) (h:aS P O n f args=some v) (hv:ah v=true):SemCall P O.glob f args v:=by
 unfold aS at h
 rw[DN] at h
 split at h
 ·rename_i v0 h0 m0 hr
  obtain ⟨hc,hl⟩:=qU (P:=P) (O:=O) hm hsum hg hcx n
  refine ⟨?_⟩
  intro w I α H rid nx vs r ha hrid hlt hf
  obtain ⟨e1,e2⟩:=og hm hc hl hr (kR hg r) (jf ha hcl) (fun _ _=>rfl)
  rw[e1]
  exact Calls.mono e2 fun e w' ⟨u,h1,h2⟩=>⟨u,h1,mM r h2 h hv⟩
 ·cases h
theorem SemCall.emptyAt {f':Bool} {rest:List AV} (h1:SemCall P O.glob f (.nilsl::rest) v) (h2:SemCall P O.glob f (.nesl::rest) v):SemCall P O.glob f (.fsl f' []::rest) v:=
 ⟨fun w I α H rid nx vs r hr k1 k2 k3=>by
  obtain ⟨y,v',e,hy,ht⟩:=RepL.cons_inv hr
  have:RepL w I α (.nilsl::rest) vs.toList∨RepL w I α (.nesl::rest) vs.toList:=by
   rw[e]
   rcases DV hy with h|h
   ·exact .inl (.cons h ht)
   ·exact .inr (.cons h ht)
  rcases this with h|h
  ·exact h1.out w I α H rid nx vs r h k1 k2 k3
  ·exact h2.out w I α H rid nx vs r h k1 k2 k3⟩
end
def WkB:Blk→Blk→Prop
 | .cells l,.cells l'=>WkL l l'
 |b,b'=>b=b'
theorem WkB.rel {w:World} {I:Nat→Prop} {α:Nat→Option Nat} {b:Nat} {x y:Blk} (h:WkB x y) (r:BRel w I α b x):BRel w I α b y:=by
 cases x with
 | cells l=>cases y with
  |cells l'=>
   obtain ⟨c,e,h1,h2,h3⟩:=r
   have h:WkL l l':=h
   exact ⟨c,e,h1,by rw[←h.len];exact h2,by rw[←h.len];exact h.out _ _ _ _ h3⟩
  |_=>cases h
 |_=>cases y<;>first|(cases h;done)|(cases h;exact r)
def y5 (k:Nat) (h:af):af→Prop
 |[]=>True
 |(i,some b)::t=>(Nat.blt i k=true∧∃b0 b1,hget h i=some b0∧oF k h b0 b1∧WkB b1 b)∧y5 k h t
 |(_,none)::_=>False
theorem y6 {k:Nat} {h:af}:∀ {H2:af},y5 k h H2→∀i b,hget H2 i=some b→i<k∧∃b0 b1,hget h i=some b0∧oF k h b0 b1∧WkB b1 b
 |[],_,i,b,hb=>by cases hb
 | (j,some c)::t,he,i,b,hb=>by
  simp only[hget] at hb
  split at hb
  ·rename_i hj
   have hj:=beq_iff.1 hj
   subst hj
   cases hb
   exact ⟨blt_iff.1 he.1.1,he.1.2⟩
  ·exact y6 he.2 i b hb
 |(_,none)::_,he,_,_,_=>he.elim
def t9 (k:Nat) (v:AV) (H2:af) (nx2:Nat) (u:AV) (h:af) (m:Nat):Prop:=Nat.ble m nx2=true∧(∃r,Frz k h u r∧Wk r v)∧y5 k h H2
theorem Mf {G:aP} {w w':World} {I:Nat→Prop} {α:Nat→Option Nat} {H hE H2:af} {nx m nx2 k:Nat} {u v:AV} {x:Value} (h:fK G w I α H nx u hE m x w') (he:t9 k v H2 nx2 u hE m):fK G w I α H nx v H2 nx2 x w':=by
 obtain ⟨hm,⟨r,hfr,hwk⟩,hH⟩:=he
 have hm:=Nat.le_of_ble_eq_true hm
 obtain ⟨⟨I',α',ev,rel,hrep,hnew⟩,hle⟩:=h
 have hlive:∀i,hget H2 i≠none→i<k∧hget hE i≠none:=fun i hi=>by
  cases hb:hget H2 i with
  |none=>exact absurd hb hi
  |some b=>
   obtain ⟨h1,b0,b1,h2,_⟩:=y6 hH i b hb
   exact ⟨h1,by rw[h2];simp⟩
 have hown:∀b,ci α' H2 b→ci α' hE b:=fun b ⟨i,h1,h2⟩=>⟨i,(hlive i h1).2,h2⟩
 refine ⟨⟨de I' α' hE k,α',⟨ev.os,fun b hb=> .inl (ev.I_mono b hb),ev.α_mono,ev.size,ev.frame,ev.shape,fun b hb=> ?_,fun b hb=>ev.own b (hown b hb)⟩, ?_, ?_,fun id hid=> ?_⟩,Nat.le_trans hle hm⟩
 ·rcases hb with hb|⟨id,_,h2,h3⟩
  ·exact ev.Inew b hb
  ·rcases ev.own b ⟨id,h2,h3⟩ with h|h
   ·exact .inr (.inl h)
   ·exact .inr (.inr h)
 ·exact
  {live:=fun i blk hi=>by
    obtain ⟨hmk,b0,b1,e2,e3,e4⟩:=y6 hH i blk hi
    obtain ⟨b,k1,k2,k3⟩:=rel.live i b0 e2
    refine ⟨b,k1, ?_,e4.rel (Dq rel e3 k3)⟩
    rintro (hb|⟨id,h1,h2,h3⟩)
    ·exact k2 hb
    ·have:=rel.inj id i b h2 (by rw[e2];simp) h3 k1
     omega
   inj:=fun i i' b h1 h2 h3 h4=>rel.inj i i' b (hlive i h1).2 (hlive i' h2).2 h3 h4
   imm:=fun b hb=>by
    rcases hb with hb|⟨id,_,_,h3⟩
    ·exact rel.imm b hb
    ·exact rel.dom id b h3
   dom:=rel.dom
   glob:=fun g l hgl=>by
    obtain ⟨h1,h2⟩:=rel.glob g l hgl
    refine ⟨.inl h1,fun j x hx=> ?_⟩
    obtain ⟨y,e1,e2⟩:=h2 j x hx
    exact ⟨y,e1,e2.mono (fun _ h=> .inl h) (fun _ _ h=>h) (fun _ _ _=>rfl) (fun _ _ _=>rfl)⟩}
 ·obtain ⟨d,hfr⟩:=hfr
  exact hwk.out _ _ _ _ (iG rel k d _ _ _ hfr hrep)
 ·rcases hnew id hid with h|h
  ·exact .inl h
  ·exact .inr ⟨h.1,Nat.lt_of_lt_of_le h.2 hm⟩
theorem fh {P:Program} {O:bn} {n:Nat} {A:aX} {f:FuncId} {args:List AV} {H:af} {nx k:Nat} {v:AV} {H2:af} {nx2:Nat} (B:cU P O n) (hA:cQ P O A) (hl:iL P O.glob nx A f)
  (h:ax P O n A f args H nx (fun u h m=>t9 k v H2 nx2 u h m)):cw P O.glob f args H nx v H2 nx2:=by
 obtain ⟨fn,c,hfn,hc,hname,hsz,hw⟩:=mV B hA hl h
 intro w I α vs r ha hf
 rw[Bool.and_eq_true,Nat.ble_eq,Nat.ble_eq,aE] at hsz
 refine ⟨?_, ?_⟩
 ·unfold callFunc
  simp only[Sem.run_bind,run_program,Result.andThen_ok,hfn,hname,hc,Bool.false_eq_true,if_false,Option.isNone_some,Sem.run_pure]
 ·refine calls_of_wp hfn hc ?_
  have hvs:args.length=vs.size:=by rw[ha.1];simp
  have hr0:CR O.glob w I α H nx [] ⟨dy args 0 .tip,H,nx,fn.ntmps⟩ {tmps:=vs++Array.replicate (fn.ntmps-vs.size) undef,defers:=[]} w:=
   ⟨⟨I,α,.refl,r,mK ha (by omega),fun i hi=>absurd hi (Nat.not_lt_zero i),hf,fun id h=> .inl h⟩,Nat.le_refl _,Nat.le_refl _,rfl,by simp;omega,hsz.2⟩
  refine wp_mono (hw.out w I α H [] _ w hf hr0) ?_
  rintro e a' w' ⟨x,s,rfl,hr,hx,l,hl,hq⟩
  obtain ⟨⟨I',α',h1,h2,h3,_,_,h6⟩,_,h8,h9,_,_⟩:=hr
  obtain ⟨u,e1,e2⟩:=mL (P:=P) (fn:=fn) h2 h3 hl
  have hp:fK O.glob w I α H nx (dx l) s.heap s.nx u w':=⟨⟨I',α',h1,h2,e2,h6⟩,h8⟩
  rcases hx with rfl|rfl<;>exact ⟨h9,u,e1,u,rfl,Mf hp hq⟩
theorem Mg {P:Program} {G:aP} {f:FuncId} {args:List AV} {u v:AV} {H1:af} {m:Nat} (hg:∀g l,G g=some l→ac l=true) (hcl:ac args=true) (h:cw P G f args [] 0 u H1 m) (he:jV v u H1):SemCall P G f args v:=by
 refine ⟨fun w I α H rid nx vs r ha hrid hlt hf=> ?_⟩
 obtain ⟨e1,e2⟩:=h w I (fun _=>none) vs (kR hg r) (jf ha hcl) (fun _ _=>rfl)
 obtain ⟨v0,⟨d,hfz⟩,hcv,hwk⟩:=he
 rw[e1]
 refine Calls.mono e2 fun e w' ⟨x,h1,h2⟩=>⟨x,h1, ?_⟩
 obtain ⟨⟨I2,α2,q1,q2,q3,q4⟩,hle⟩:=mM r h2 hfz hcv
 exact ⟨⟨I2,α2,q1,q2,hwk.out _ _ _ _ q3,q4⟩,hle⟩
end
end Go.Proofs.Abs
/- States with blocks that may be there or not. -/
namespace Go.Proofs.Abs
open Go
noncomputable section
end
end Go.Proofs.Abs
/- States that say less: fewer blocks. -/
namespace Go.Proofs.Abs
open Go
noncomputable section
theorem Says2.sub {G:aP} {nx0:Nat} {s s2:St} (hs:s2.slots=s.slots) (hh:∀i b,hget s2.heap i=some b→hget s.heap i=some b) (hnx:s2.nx=s.nx) (hn:s2.n=s.n):Says2 G nx0 s s2:=by
 intro w0 I0 α0 H0 D a w hα h
 obtain ⟨⟨I,α,ev,rel,hsl,h4,hf,hnew⟩,h7,h8,h9,h10,h11⟩:=h
 have hne:∀i,hget s2.heap i≠none→hget s.heap i≠none:=fun i h=>by
  cases hi:hget s2.heap i with
  |none=>exact absurd hi h
  |some b=>rw[hh i b hi];simp
 refine ⟨⟨I,α,⟨ev.os,ev.I_mono,ev.α_mono,ev.size,ev.frame,ev.shape,ev.Inew,fun b ⟨i,h1,h2⟩=>ev.own b ⟨i,hne i h1,h2⟩⟩, ?_, ?_,fun i hi=>absurd hi (Nat.not_lt_zero i),fun id hid=>hf id (by rw[←hnx];exact hid),fun id hid=> ?_⟩,Nat.le_refl _,by rw[hnx];exact h8,h9,by rw[hn];exact h10,by rw[hn];exact h11⟩
 ·exact ⟨fun i blk hi=>rel.live i blk (hh i blk hi),fun i i' b h1 h2=>rel.inj i i' b (hne i h1) (hne i' h2),rel.imm,rel.dom,rel.glob⟩
 ·rw[hs];exact hsl
 ·rw[hnx];exact hnew id hid
end
end Go.Proofs.Abs
/- What a body comes to, under other numbers: of the blocks that it is handed, and of those that are new. -/
namespace Go.Proofs.Abs
open Go
section
variable {P:Program} {G:aP} {f:FuncId} {args args2:List AV} {v v2:AV} {H H' H2 H2':af} {nx nx' nx2 nx2':Nat} {lk:List (Nat × Nat)}
end
end Go.Proofs.Abs
