import Derived.Test.YtjmnheinkchlfaaGreatDoorG4
import Derived.OpenShut
import Derived.LaidMore
namespace Go.Proofs.Abs
open Go
noncomputable section
def aS (b:Bool) (K:Prop):Prop:=match b with
 |true=>K
 |false=>False
def cM (b:Bool) (T F:Prop):Prop:=match b with
 |true=>T
 |false=>F
inductive ES where
 |eff (e:Eff)
 |obl (b:Bool) (e:Eff)
 |app (b:Bool) (i:Nat) (k:List AV→Bool × List AV) (v:Nat→AV)
 |pick (b:Bool) (x y:Option AV)
 |put (b:Bool) (i:Nat) (k:List AV→Bool × List AV) (v:AV)
def ES.ok (oe:Option Eff):ES→Prop
 | .eff e=>oe=some e
 | .obl b e=>b=true→oe=some e
 | .app b i k v=>b=true→∃kk,oe=some (.repl i kk)∧∀l,(k l).1=true→kk (.cells l)=some (.cells (k l).2,v)
 | .pick b x y=>(b=true→oe=aC x)∧(b=false→oe=aC y)
 | .put b i k v=>b=true→∃kk,oe=some (.upd i kk)∧∀l,(k l).1=true→kk (.cells l)=some (.cells (k l).2,v)
inductive bU where
 |plain
 |ans (a:fP)
 |el (v:AV)
 |ld (v:AV)
 |res (r:AV)
def hR:Int→Bool
 | .ofNat _=>true
 |_=>false
def ec:AV→Option (Bool × Nat)
 | .int _ n=>some (hR n,n.toNat)
 |_=>none
def hU:Option AV→Option (Bool × Option Nat)
 |none=>some (true,none)
 |some v=>match ec v with
  |some (b,n)=>some (b,some n)
  |none=>none
def ju (es:List AV):List UInt8:=(bV es).getD []
def hY (l:List AV) (o:Nat) (vs:List AV):List AV:=l.take o++(vs++l.drop (o+ac vs))
def c7 (s:List UInt8) (i:Nat):UInt8:=s[i]?.getD 0
section
variable (P:Program)
def fY (eq:TypeId→AV→AV→Option Bool):List Field→List AV→List AV→Option Bool
 |[],_,_=>some true
 | f::fs,xs,ys=>match f.name== "_" with
  |true=>fY eq fs xs ys
  | false=>match bc P f.type xs f.offset,bc P f.type ys f.offset with
   |some a,some b=>match eq f.type a b,fY eq fs xs ys with
    |some p,some q=>some (p&&q)
    |_,_=>none
   |_,_=>none
def hZ (eq:TypeId→AV→AV→Option Bool) (e:TypeId) (sz:Nat) (xs ys:List AV):List Nat→Option Bool
 |[]=>some true
 | i::is=>match bc P e xs (i*sz),bc P e ys (i*sz) with
  |some a,some b=>match eq e a b,hZ eq e sz xs ys is with
   |some p,some q=>some (p&&q)
   |_,_=>none
  |_,_=>none
def e7:Nat→TypeId→AV→AV→Option Bool
 |0,_,_,_=>none
 | d+1,t,x,y=>match x,y with
  | .agg xs,.agg ys=>match P.underlying t with
   |some (.struct fs)=>match P.stoodInHeld t with
    |true=>none
    |false=>fY P (e7 d) fs.toList xs ys
   |some (.array n e)=>match aF P e with
    |some sz=>hZ P (e7 d) e sz xs ys (List.range n)
    |none=>none
   |_=>none
  |x,y=>bC P (d+1) t x y
def ed (sz:Nat) (x:AV):Option (Bool × Nat × List AV):=match x with
 | .fsl _ es=>some (bq sz es,ac es,flat es)
 | .nilsl=>some (true,0,[])
 | .nesl=>some (true,0,[])
 | .str s=>some (Nat.beq sz 1,ac s,ax s)
 |_=>none
def qt (i:TypeInfo) (s:AV) (b:Bool) (n:Nat) (cs:List AV):Option ES:=match s with
 | .nilsl=>match Nat.beq n 0 with
  |true=>some (.obl b (.val .nilsl))
  |false=>some (.obl (b&&Nat.ble (n*i.bytes) 140737488355328) (.new (.cells cs) fun id=> .rsl true id 0 n i.size))
 | .fsl true es=>match Nat.beq n 0 with
  |true=>some (.obl b (.val (.fsl true es)))
  |false=>some (.obl (b&&(Nat.ble ((ac es+n)*i.bytes) 140737488355328&&bq i.size es)) (.new (.cells (flat es++cs)) fun id=> .rsl true id 0 (ac es+n) i.size))
 | .rsl true id 0 len sz=>some (.app (b&&(Nat.ble ((len+n)*i.bytes) 140737488355328&&(aV cs&&Nat.beq sz i.size))) id (fun l=>(Nat.beq (ac l) (len*i.size),l++cs)) fun id'=> .rsl true id' 0 (len+n) i.size)
 |_=>none
def qu:TypeDesc→Bool
 | .slice _| .string=>true
 |_=>false
def lP (argTypes:Array TypeId) (s x:AV):Option ES:=
 match argTypes[0]?,argTypes[1]? with
 | some st,some xt=>match P.underlying st,P.underlying xt with
  | some (.slice e),some xd=>match qu xd,P.info? e,bN P e with
   | true,some i,some z=>match Nat.beq i.size 0||Nat.beq i.bytes 0|| !Nat.beq (ac z.cells) i.size with
    |true=>none
    |false=>match ed i.size x with
     |some (b,n,cs)=>qt i s b n cs
     |none=>none
   |_,_,_=>none
  |_,_=>none
 |_,_=>none
def lQ (t:TypeId) (x:AV) (lo hi mx:Option AV):Option ES:=
 match hU lo,hU hi,mx with
 | some (b1,lo),some (b2,hi),none=>match x with
  | .str s=>match P.underlying t with
   |some .string=>some (.obl (b1&&(b2&&(Nat.ble (lo.getD 0) (hi.getD (ac s))&&Nat.ble (hi.getD (ac s)) (ac s)))) (.val (.str ((s.drop (lo.getD 0)).take (hi.getD (ac s)-lo.getD 0)))))
   |_=>none
  | .fsl full es=>match bw P t with
   |some e=>match aF P e with
    |some sz=>some (.obl (b1&&(b2&&(iK sz es&&(Nat.ble (lo.getD 0) (hi.getD (ac es))&&Nat.ble (hi.getD (ac es)) (ac es))))) (.val (.fsl (gq full none (hi.getD (ac es)) (ac es)) ((es.drop (lo.getD 0)).take (hi.getD (ac es)-lo.getD 0)))))
    |none=>none
   |none=>none
  | .rsl own id off len sz'=>match lo,hi with
   | none,some h=>match bw P t with
    |some e=>match aF P e with
     |some sz=>some (.obl (b2&&(Nat.beq sz sz'&&Nat.ble h len)) (.val (.rsl own id off h sz)))
     |none=>none
    |none=>none
   |_,_=>none
  |_=>none
 |_,_,_=>none
def lR (src dst:TypeId) (x:AV):Option ES:=
 match P.underlying src,P.underlying dst,x with
 |some (.slice e),some .string,.fsl _ es=>match fv P e with
  |true=>some (.obl (bV es).isSome (.val (.str (ju es))))
  |false=>none
 |_,_,_=>none
def lS (t:TypeId) (l c:AV):Option ES:=
 match bw P t,ec l,ec c with
 | some e,some (b1,l),some (b2,c)=>match P.info? e,bN P e with
  |some i,some z=>
   some (.obl (b1&&(b2&&(Nat.ble l c&&Nat.ble (i.bytes*c) 281474976710656&&Nat.ble c 9223372036854775807&&Nat.beq (ac z.cells) i.size&&Nat.blt 0 i.size))) (.new (.cells (flat (bp z c))) fun id=> .rsl true id 0 l i.size))
  |_,_=>none
 |_,_,_=>none
def lT (argTypes:Array TypeId) (d x:AV):Option ES:=
 match argTypes[0]? with
 | some t=>match bw P t with
  | some e=>match aF P e with
   | some sz=>match d with
    | .rsl _ id off len _=>match ed sz x with
     |some (b,n,cs)=>some (.put (b&&aV cs) id (fun l=>(Nat.ble (off+ac (cs.take (min n len*sz))) (ac l),hY l off (cs.take (min n len*sz)))) (.int .i64 (.ofNat (min n len))))
     |none=>none
    |_=>none
   |none=>none
  |none=>none
 |none=>none
def jv (t:TypeId) (v:AV):List AV:=match fq P t with
 |some false=>[v]
 |_=>v.cells
def jw (t:TypeId) (v:AV) (n:Nat):Bool:=match fq P t with
 |some false=>v.one&&Nat.beq n 1
 |_=>Nat.beq (ac v.cells) n&&aV v.cells
def lU (t:TypeId) (a v:AV):Option ES:=
 match a with
 | .ptr id off=>match aF P t with
  |some n=>some (.put (jw P t v n) id (fun l=>(Nat.ble (off+n) (ac l),hY l off (jv P t v))) ci)
  |none=>none
 |_=>none
def lV (t:TypeId) (v:AV):Option ES:=match fq P t with
 |some false=>some (.obl v.one (.new (.cells [v]) fun id=> .ptr id 0))
 |_=>none
def ia (fs:List Field) (pl:List (Nat × Nat)):List AV→List (Nat × AV)→Option (Bool × List AV)
 |cells,[]=>some (true,cells)
 | cells,(i,v)::rest=>match aU fs i,aU pl i with
  | some f,some (off,s)=>match Nat.blt 0 s&&Nat.ble (off+s) (ac cells) with
   |true=>match ia fs pl (hY cells off (jv P f.type v)) rest with
    |some (b,c)=>some (jw P f.type v s&&b,c)
    |none=>none
   |false=>none
  |_,_=>none
def lW (t:TypeId) (parts:List (Nat × AV)):Option ES:=
 match bN P t,P.underlying t with
 | some z,some (.struct fs)=>match fw P fs.toList with
  |some pl=>match ia P fs.toList pl z.cells parts with
   |some (b,c)=>some (.obl b (.val (.agg c)))
   |none=>none
  |none=>none
 |_,_=>none
def lX (t:TypeId) (x i:AV):Option ES:=
 match P.underlying t,x,ec i with
 |some (.slice e),.rsl _ id off len sz',some (b,i)=>match aF P e with
  |some sz=>some (.obl (b&&(Nat.blt i len&&Nat.beq sz sz')) (.val (.ptr id (off+i*sz))))
  |none=>none
 |_,_,_=>none
def fZ (glob:Nat→Option (List AV)) (ops:List Oper) (ev:Operand→Option AV) (o:Oper):Option ES:=
 match o.op with
 | .pick c a b=>match ev c with
  |some (.bool t)=>some (.pick t (ev a) (ev b))
  |_=>none
 | .binOp op t x y _=>match op,ev x,ev y with
  | .add,some (.str a),some (.str b)=>some (.obl (Nat.ble (ac a+ac b) 9223372036854775807) (.val (.str (a++b))))
  | .eql,some (.agg a),some (.agg b)=>match P.eqGuardType P.depth t,e7 P 16 t (.agg a) (.agg b) with
   |false,some r=>some (.eff (.val (.bool r)))
   |_,_=>none
  | .neq,some (.agg a),some (.agg b)=>match P.eqGuardType P.depth t,e7 P 16 t (.agg a) (.agg b) with
   |false,some r=>some (.eff (.val (.bool !r)))
   |_,_=>none
  | .quo,some (.int k a),some (.int k' b)=>match decide (k=k') with
   |true=>some (.obl (!bo b 0) (.val (.int k (ai k (a.tdiv b)))))
   |false=>none
  | .rem,some (.int k a),some (.int k' b)=>match decide (k=k') with
   |true=>some (.obl (!bo b 0) (.val (.int k (a.tmod b))))
   |false=>none
  |_,_,_=>match aK P glob ops ev o with
   |some e=>some (.eff e)
   |none=>none
 | .store t a x=>match ev a,ev x with
  |some a,some x=>lU P t a x
  |_,_=>none
 | .box t x=>match ev x with
  | some v=>match lV P t v with
   |some e=>some e
   |none=>match aK P glob ops ev o with
    |some e=>some (.eff e)
    |none=>none
  |none=>none
 | .build t parts=>match dg ev parts.toList with
  | some ps=>match lW P t ps with
   |some e=>some e
   |none=>match aK P glob ops ev o with
    |some e=>some (.eff e)
    |none=>none
  |none=>none
 | .indexAddr t x i=>match ev x,ev i with
  | some x,some i=>match lX P t x i with
   |some e=>some e
   |none=>match aK P glob ops ev o with
    |some e=>some (.eff e)
    |none=>none
  |_,_=>none
 | .convert s d x=>match ev x with
  | some (.fsl f es)=>match lR P s d (.fsl f es) with
   |some e=>some e
   |none=>match aK P glob ops ev o with
    |some e=>some (.eff e)
    |none=>none
  |_=>match aK P glob ops ev o with
   |some e=>some (.eff e)
   |none=>none
 | .index t x i=>match P.underlying t,ev x,ev i with
  |some .string,some (.str s),some w=>match ec w with
   |some (b,k)=>some (.obl (b&&Nat.blt k (ac s)) (.val (.int .u8 (.ofNat (c7 s k).toNat))))
   |none=>none
  |_,_,_=>match aK P glob ops ev o with
   |some e=>some (.eff e)
   |none=>none
 | .makeSlice t l c=>match ev l,ev c with
  |some l,some c=>lS P t l c
  |_,_=>none
 | .slice t x lo hi mx=>match ev x,b6 ev lo,b6 ev hi,b6 ev mx with
  | some x,some lo,some hi,some mx=>match lQ P t x lo hi mx with
   |some e=>some e
   |none=>match de P t x lo hi mx with
    |some e=>some (.eff e)
    |none=>none
  |_,_,_,_=>none
 | .call c=>match c.callee,ct ev c.args.toList with
  | .builtin .append,some [s,x]=>match lP P c.argTypes s x with
   |some e=>some e
   |none=>match eA P c.argTypes s x with
    |some e=>some (.eff e)
    |none=>none
  | .builtin .copy,some [d,x]=>match lT P c.argTypes d x with
   |some e=>some e
   |none=>match eB P c.argTypes d x with
    |some e=>some (.eff e)
    |none=>none
  |_,_=>match aK P glob ops ev o with
   |some e=>some (.eff e)
   |none=>none
 |_=>match aK P glob ops ev o with
  |some e=>some (.eff e)
  |none=>none
variable (O:al) (n:Nat)
abbrev bJ:=St→(AExit→St→Prop)→Prop
inductive jx where
 |val (v:AV)
 |part (L:List Nat) (v:AV) (H2:aa) (m:Nat)
abbrev ef:=FuncId→List AV→aa→Nat→Option jx
def jy:ef:=fun _ _ _ _=>none
structure ib where
 see:List AV→aa→List Nat
 run:List AV→aa→Nat→(AV→aa→Nat→Prop)→Prop
def qv:FuncId→Option ib:=fun _=>none
def dq:Nat→Option (St→(St→Prop)→Prop):=fun _=>none
structure bu where
 hint:Nat→Nat→Option bU:=fun _ _=>none
 ls:Nat→Option bJ:=fun _=>none
 cx:ah:=fun _ _ _ _ _=>none
 sem:ef:=jy
 inl:FuncId→Option ib:=qv
 cut:Nat→Option (St→(St→Prop)→Prop):=dq
def lY (L:List Nat) (H2:aa) (nx:Nat) (h:aa):aa:=Mods.app (cT (ca H2 L) (bW nx H2 H2)) h
def ic (args:List AV) (h:aa) (nx:Nat) (K:AV→aa→Nat→Foot→Prop) (T:ib):Prop:=
 T.run args (aD h (T.see args h)) nx fun v H2 nx2=>aS (Nat.ble nx nx2) (K v (lY (T.see args h) H2 nx h) nx2 ⟨true,T.see args h,nx::T.see args h⟩)
def f5 (f:FuncId) (args:List AV) (h:aa) (nx:Nat) (K:AV→aa→Nat→Foot→Prop):jx→Prop
 | .val v=>SemCall P O.glob f args v∧K v h nx ⟨false,[],[]⟩
 | .part L v H2 m=>aH P O.glob f args (aD h L) nx v H2 (nx+m)∧K v (lY L H2 nx h) (nx+m) ⟨true,L,nx::L⟩
variable (A:bu)
def cm (id d:Nat) (e:Eff) (h:aa) (nx:Nat) (K:AV→aa→Nat→Foot→Prop):Prop:=
 match ak (ap P O n) id d e h nx with
 |some (v,h',nx',ft)=>K v h' nx' ft
 |none=>False
def cd (id:Nat):Nat→Eff→aa→Nat→(AV→aa→Nat→Foot→Prop)→Prop
  | 0, e,h,nx,K=>match e with
    | .call f args=>match A.cx f args id h nx with
      |some (v,h',nx',ft)=>K v h' nx' ft
      | none=>match A.sem f args h nx with
       |some r=>f5 P O f args h nx K r
       | none=>match A.inl f with
        |some T=>ic args h nx K T
        |none=>match O.how f with
         | .pure=>match O.summ f args with
           |some v=>aS (af args) (K v h nx ⟨false,[],[]⟩)
           |none=>cm P O n id 0 (.call f args) h nx K
         |_=>cm P O n id 0 (.call f args) h nx K
    |e=>cm P O n id 0 e h nx K
  | d + 1, e,h,nx,K=>match e with
    | .call f args=>match A.cx f args id h nx with
      |some (v,h',nx',ft)=>K v h' nx' ft
      | none=>match A.sem f args h nx with
       |some r=>f5 P O f args h nx K r
       | none=>match A.inl f with
        |some T=>ic args h nx K T
        |none=>match O.how f with
         | .pure=>match O.summ f args with
           |some v=>aS (af args) (K v h nx ⟨false,[],[]⟩)
           |none=>cm P O n id (d+1) (.call f args) h nx K
         |_=>cm P O n id (d+1) (.call f args) h nx K
    | .read i k=>match hget h i with
      | some b=>match k b with
        |some e=>cd id d e h nx fun v h' nx' ft=>K v h' nx' ⟨ft.all,i::ft.r,ft.w⟩
        |none=>False
      |none=>False
    |e=>cm P O n id (d+1) e h nx K
def ig (id:Nat) (h:aa) (nx:Nat) (K:AV→aa→Nat→Foot→Prop):Option ES→Prop
 |none=>False
 |some (.eff e)=>cd P O n A id 2 e h nx K
 |some (.obl b e)=>aS b (cd P O n A id 2 e h nx K)
 |some (.app b i k v)=>aS b (match hget h i with
  |some (.cells l)=>aS (k l).1 (K (v id) (au (aq h i) id (.cells (k l).2)) nx ⟨false,[],[i,id]⟩)
  |_=>False)
 |some (.put b i k v)=>aS b (match hget h i with
  |some (.cells l)=>aS (k l).1 (K v (au h i (.cells (k l).2)) nx ⟨false,[],[i]⟩)
  |_=>False)
 | some (.pick b x y)=>match b with
  |true=>match x with
   |some v=>K v h nx ⟨false,[],[]⟩
   |none=>False
  |false=>match y with
   |some v=>K v h nx ⟨false,[],[]⟩
   |none=>False
def lZ (ev:Operand→Option AV) (o:Oper) (r:AV):Option Prop:=
 match o.op with
 | .convert s d x=>match ev x with
  |some v=>some (dd P s d v=some (.val r))
  |none=>none
 | .indexAddr t x i=>match ev x,ev i with
  |some v,some w=>some (df P t v w=some r)
  |_,_=>none
 | .index t x i=>match ev x,ev i with
  |some v,some w=>some (gw P t v w=some r)
  |_,_=>none
 | .slice t x lo hi mx=>match ev x,b6 ev lo,b6 ev hi,b6 ev mx with
  |some x,some lo,some hi,some mx=>some (de P t x lo hi mx=some (.val r))
  |_,_,_,_=>none
 | .binOp op t x y _=>match ev x,ev y with
  |some v,some w=>some (bd P op t x y v w=some r)
  |_,_=>none
 | .call c=>match c.callee,ct ev c.args.toList with
  | .builtin b,some args=>some (eD P b c.argTypes args=some (.val r))
  |_,_=>none
 |_=>none
def c8 (ops:List Oper) (id:Nat) (o:Oper) (s:St) (K:AV→aa→Nat→Foot→Prop):bU→Prop
 | .plain=>match aK P O.glob ops (ar s.slots) o with
  |some e=>cd P O n A id 2 e s.heap s.nx K
  |none=>False
 | .ans a=>match jn P O n (fun _ _ _ _ _=>none) ops id o s a with
  |some ((v,h,nx,ft),F)=>bM P O F∧K v h nx ft
  |none=>False
 | .el v=>match o.op with
  | .indexAddr t x i=>match ar s.slots x,ar s.slots i with
   | some (.fsl _ es),some w=>match ec w,bw P t with
    |some (b,k),some e=>match aF P e with
     |some sz=>aU es k=some v∧aS (b&&Nat.beq (ac v.cells) sz) (K (.fptr v.cells 0) s.heap s.nx ⟨false,[],[]⟩)
     |none=>False
    |_,_=>False
   |_,_=>False
  |_=>False
 | .ld v=>match o.op with
  | .load t a=>match ar s.slots a with
   |some (.ptr i off)=>match hget s.heap i with
    |some (.cells l)=>bc P t l off=some v∧K v s.heap s.nx ⟨false,[i],[]⟩
    |_=>False
   |some (.fptr cs off)=>bc P t cs off=some v∧K v s.heap s.nx ⟨false,[],[]⟩
   |some (.gptr g off)=>bZ P t (.gptr g off) O.glob=some (.val v)∧K v s.heap s.nx ⟨false,[],[]⟩
   |_=>False
  |_=>False
 | .res r=>match lZ P (ar s.slots) o r with
  |some p=>p∧K r s.heap s.nx ⟨false,[],[]⟩
  |none=>False
abbrev Kn:=List (Nat × Bool)
def dK:Kn→Nat→Option Bool
 |[],_=>none
 |(d,b)::t,k=>match Nat.beq d k with
  |true=>some b
  |false=>dK t k
def ii:Kn→Nat→Kn
 |[],_=>[]
 |(d,b)::t,k=>match Nat.beq d k with
  |true=>ii t k
  |false=>(d,b)::ii t k
def dL (kn:Kn):Option Tmp→Kn
 |some d=>ii kn d
 |none=>kn
def l3 (kn:Kn) (slots:Tr) (x:Operand):Option AV:=match x with
 | .tmp t=>match dK kn t with
  |some b=>some (.bool b)
  |none=>ar slots (.tmp t)
 |x=>ar slots x
def c9 (rid:Nat) (ops:List Oper) (id i:Nat) (o:Oper) (s:St) (kn:Kn) (K:Kn→St→Foot→Prop):Prop:=
 match A.hint rid i with
 |some a=>c8 P O n A ops id o s (fun v h nx ft=>K (dL kn o.dst) ⟨aL s.n s.slots o.dst v,h,nx,s.n⟩ ft) a
 |none=>ig P O n A id s.heap s.nx (fun v h nx ft=>K (dL kn o.dst) ⟨aL s.n s.slots o.dst v,h,nx,s.n⟩ ft) (fZ P O.glob ops (l3 kn s.slots) o)
def e8 (o:Oper) (s:St) (kn:Kn) (K:Kn→St→Foot→Prop):Prop:=K (dL kn o.dst) ⟨aL s.n s.slots o.dst ci,s.heap,s.nx,s.n⟩ ⟨false,[],[]⟩
def ij (rid:Nat) (ops:List Oper) (id i:Nat) (o:Oper) (s:St) (kn:Kn) (K:Kn→St→Foot→Prop):Prop:=
 match o.guard with
 |none=>c9 P O n A rid ops id i o s kn K
 | some (j,want)=>match aU ops j with
  | some g=>match g.dst with
   | some d=>match dK kn d with
    | some b=>match want with
     |true=>match b with
      |true=>c9 P O n A rid ops id i o s kn K
      |false=>e8 o s kn K
     |false=>match b with
      |true=>e8 o s kn K
      |false=>c9 P O n A rid ops id i o s kn K
    | none=>match s.slots.get d with
     | some (.bool b)=>match want with
      |true=>match b with
       |true=>c9 P O n A rid ops id i o s ((d,true)::kn) K
       |false=>e8 o s ((d,false)::kn) K
      |false=>match b with
       |true=>e8 o s ((d,true)::kn) K
       |false=>c9 P O n A rid ops id i o s ((d,false)::kn) K
     |some (.tuple [])=>e8 o s kn K
     |_=>False
   |none=>False
  |none=>False
def il (rid:Nat) (all:List Oper) (base:Nat):List Oper→Nat→St→Kn→List (Nat × Foot)→(St→List (Nat × Foot)→Prop)→Prop
 |[],_,s,_,acc,K=>K s acc
 |o::rest,i,s,kn,acc,K=>ij P O n A rid all (base+i) i o s kn fun kn' s' ft=>il rid all base rest (i+1) s' kn' (match ft.none with|true=>acc|false=>(i,ft)::acc) K
def jz (B:St→(AExit→St→Prop)→Prop):Nat→St→(AExit→St→Prop)→Prop
 |0,_,_=>False
 |k+1,s,Q=>B s (jt (fun s'=>jz B k s' Q) Q)
end
def eg:Code→Nat
 | .region id _ _=>id+1
 | .seq a b=>match eg a with
  |0=>eg b
  |k+1=>k+1
 | .cond _ a b=>match eg a with
  |0=>eg b
  |k+1=>k+1
 | .block _ c=>eg c
 | .loop c=>eg c
 |_=>0
def bH:Code→Nat→List Code
 | .seq a b,r=>bH a r++bH b r
 | .cond _ a b,r=>bH a r++bH b r
 | .block _ c,r=>bH c r
 | .loop c,r=>(match Nat.beq (eg c) r with
  |true=>[c]
  |false=>[])++bH c r
 |_,_=>[]
section
variable (P:Program) (O:al) (n:Nat) (A:bu)
def im (rid:Nat) (ops:Array Oper) (draw:Bool) (s:St) (Q:AExit→St→Prop):Prop:=
 il P O n A rid ops.toList s.nx ops.toList 0 ⟨s.slots,s.heap,s.nx+ac ops.toList,s.n⟩ [] [] fun s' feet=>match draw with
  |false=>Q .normal s'
  |true=>aS (dB ops.toList&&di (bI ops.toList []) feet) (Q .normal s')
def l4 (c:Operand) (b:Bool) (s:St):St:=match c with
 | .tmp d=>⟨aL s.n s.slots (some d) (.bool b),s.heap,s.nx,s.n⟩
 |_=>s
def bg:Code→St→(AExit→St→Prop)→Prop
 | .skip,s,Q=>Q .normal s
 | .label _,s,Q=>Q .normal s
 | .exit i,s,Q=>Q (.exit i) s
 | .ret,s,Q=>Q .ret s
 | .region rid ops draw,s,Q=>match A.cut rid with
  |some C=>C s fun s=>im P O n A rid ops draw s Q
  |none=>im P O n A rid ops draw s Q
 | .seq a b,s,Q=>bg a s (jt (fun s'=>bg b s' Q) Q)
 | .cond c a b,s,Q=>match ar s.slots c with
  |some (.bool t)=>match t with
   |true=>bg a (l4 c true s) Q
   |false=>bg b (l4 c false s) Q
  |_=>False
 | .block id body,s,Q=>bg body s (fX id Q)
 | .loop body,s,Q=>match A.ls (eg body) with
  |some L=>L s Q
  |none=>jz (bg body) O.lf s Q
 |_,_,_=>False
def aZ (f:FuncId) (args:List AV) (H:aa) (nx:Nat) (Q:AV→aa→Nat→Prop):Prop:=
  match P.funcs[f]? with
  | some fn=>match fn.body with
    | some c=>match fn.name== "runtime.NumGoroutine" with
      |true=>False
      | false=>match Nat.ble (ac args) fn.ntmps&&Nat.ble fn.ntmps 4095 with
       |false=>False
       |true=>bg P O n A c ⟨bE args 0 .tip,H,nx,fn.ntmps⟩ fun e s=>match e with
        | .exit _=>False
        | _=>match bx P O.glob s fn.results.toList with
          |some l=>Q (bD l) s.heap s.nx
          |none=>False
    |none=>False
  |none=>False
end
end
end Go.Proofs.Abs
/- The abstract machine in continuation form says but what is so. -/
namespace Go.Proofs.Abs
open Go
theorem oblB_iff {b:Bool} {K:Prop}:aS b K↔b=true∧K:=by cases b<;>simp[aS]
theorem dr {b:Bool} {T F:Prop} (ht:b=true→T) (hf:b=false→F):cM b T F:=by cases b<;>simp_all [cM]
section
variable {P:Program}
theorem l5 {eq eq':TypeId→AV→AV→Option Bool} (h:∀t x y r,eq t x y=some r→eq' t x y=some r):∀ (fs:List Field) (xs ys:List AV) (r:Bool),fY P eq fs xs ys=some r→dz P eq' fs xs ys=some r
 |[],xs,ys,r,hr=>by simpa [fY,dz] using hr
 | f ::fs,xs,ys,r,hr=>by
  simp only[fY] at hr
  simp only[dz]
  split at hr
  ·rename_i hn;simp only[hn];exact l5 h fs xs ys r hr
  ·rename_i hn
   simp only[hn]
   split at hr
   ·rename_i a b ha hb
    simp only[ha,hb]
    split at hr
    ·rename_i p q hp hq
     simp only[Option.some.injEq] at hr
     subst hr
     rw[h _ _ _ _ hp]
     cases p with
     |true=>simpa using l5 h fs xs ys q hq
     |false=>rfl
    ·cases hr
   ·cases hr
theorem qw {eq eq':TypeId→AV→AV→Option Bool} (h:∀t x y r,eq t x y=some r→eq' t x y=some r) {e:TypeId} {sz:Nat} {xs ys:List AV}:∀ (is:List Nat) (r:Bool),hZ P eq e sz xs ys is=some r→dS P eq' e sz xs ys is=some r
 |[],r,hr=>by simpa [hZ,dS] using hr
 | i::is,r,hr=>by
  simp only[hZ] at hr
  simp only[dS]
  split at hr
  ·rename_i a b ha hb
   simp only[ha,hb]
   split at hr
   ·rename_i p q hp hq
    simp only[Option.some.injEq] at hr
    subst hr
    rw[h _ _ _ _ hp]
    cases p with
    |true=>simpa using qw h is q hq
    |false=>rfl
   ·cases hr
  ·cases hr
theorem jA:∀ (d:Nat) (t:TypeId) (x y:AV) (r:Bool),e7 P d t x y=some r→bC P d t x y=some r
 |0,_,_,_,_,h=>by simp[e7] at h
 | d +1,t,x,y,r,h=>by
  unfold e7 at h
  split at h
  ·rename_i xs ys
   split at h
   ·rename_i fs hu
    split at h
    ·cases h
    ·rename_i hs
     unfold bC
     simp only[hu,hs]
     exact l5 (jA d) _ _ _ _ h
   ·rename_i n e hu
    split at h
    ·rename_i sz hs
     unfold bC
     simp only[hu,hs]
     exact qw (jA d) _ _ h
    ·cases h
   ·cases h
  ·exact h
theorem f6 {w:AV} {b:Bool} {k:Nat} (h:ec w=some (b,k)) (hb:b=true):cq w=some k:=by
 unfold ec at h
 split at h
 ·rename_i kd n
  simp only[Option.some.injEq,Prod.mk.injEq] at h
  obtain ⟨rfl,rfl⟩:=h
  cases n with
  |ofNat m=>rfl
  |negSucc m=>cases hb
 ·cases h
theorem f7 {w:Option AV} {b:Bool} {k:Option Nat} (h:hU w=some (b,k)) (hb:b=true):cQ w=some k:=by
 unfold hU at h
 split at h
 ·simp only[Option.some.injEq,Prod.mk.injEq] at h
  obtain ⟨_,rfl⟩:=h;rfl
 ·rename_i v
  split at h
  ·rename_i b' n hn
   simp only[Option.some.injEq,Prod.mk.injEq] at h
   obtain ⟨rfl,rfl⟩:=h
   simp[cQ,f6 hn hb]
  ·cases h
theorem jB:∀ (l:List AV) (o n:Nat),o+n≤l.length→chunk l o n=some ((l.drop o).take n)
 |l,o,0,_=>by cases l<;>simp[chunk]
 |[],o,n+1,h=>by simp at h
 |a::t,0,n+1,h=>by
  simp only[List.length_cons] at h
  simp[chunk,jB t 0 n (by omega)]
 |a::t,o+1,n+1,h=>by
  simp only[List.length_cons] at h
  simp[chunk,jB t o (n+1) (by omega)]
theorem tH {i:TypeInfo} {xd:TypeDesc} {z x:AV} {b:Bool} {m:Nat} {cs:List AV} {k:Nat→List AV→Option Eff} (hx:qu xd=true) (h:ed i.size x=some (b,m,cs)) (hb:b=true):fx xd i.size i.bytes z x k=k m cs:=by
 have e:fx xd i.size i.bytes z x k=cr i.size x k:=by
  cases xd<;>first|(cases hx;done)|rfl
 rw[e]
 unfold ed at h
 split at h
 ·simp only[Option.some.injEq,Prod.mk.injEq] at h
  obtain ⟨rfl,rfl,rfl⟩:=h
  simp[cr,hb]
 ·simp only[Option.some.injEq,Prod.mk.injEq] at h
  obtain ⟨rfl,rfl,rfl⟩:=h;rfl
 ·simp only[Option.some.injEq,Prod.mk.injEq] at h
  obtain ⟨rfl,rfl,rfl⟩:=h;rfl
 ·simp only[Option.some.injEq,Prod.mk.injEq] at h
  obtain ⟨rfl,rfl,rfl⟩:=h
  simp only[cr,hb,if_true]
 ·cases h
theorem tI {sz:Nat} {x:AV} {b:Bool} {cs:List AV} (h:ed sz x=some (b,0,cs)):cs=[]:=by
 unfold ed at h
 split at h
 ·rename_i es
  simp only[Option.some.injEq,Prod.mk.injEq] at h
  obtain ⟨_,h1,rfl⟩:=h
  cases es with
  |nil=>rfl
  |cons a r=>simp[ac] at h1
 ·simp only[Option.some.injEq,Prod.mk.injEq] at h
  exact h.2.2.symm
 ·simp only[Option.some.injEq,Prod.mk.injEq] at h
  exact h.2.2.symm
 ·rename_i s
  simp only[Option.some.injEq,Prod.mk.injEq] at h
  obtain ⟨_,h1,rfl⟩:=h
  cases s with
  |nil=>rfl
  |cons a r=>simp[ac] at h1
 ·cases h
theorem tJ (l:List AV) (k:Nat):splice l k []=some l:=by cases l<;>cases k<;>rfl
theorem tK {argTypes:Array TypeId} {s x:AV} {es:ES} (h:lP P argTypes s x=some es):es.ok (eA P argTypes s x):=by
 unfold lP at h
 split at h
 ·rename_i st xt h1 h2
  split at h
  ·rename_i e xd h3 h4
   split at h
   ·rename_i i z hx hi hz
    split at h
    ·cases h
    ·rename_i hc
     split at h
     ·rename_i b m cs hsrc
      have hA:∀k,b=true→fx xd i.size i.bytes z x k=k m cs:=fun k hb=>tH hx hsrc hb
      unfold eA
      simp only[h1,h2,h3,h4,hi,hz]
      rw[Bool.or_eq_false_iff,Bool.or_eq_false_iff] at hc
      obtain ⟨⟨c1,c2⟩,c3⟩:=hc
      simp only[c1,c2,c3,Bool.or_self,Bool.false_eq_true,if_false]
      unfold qt at h
      split at h
      ·split at h
       ·rename_i hm
        simp only[Option.some.injEq] at h;subst h
        intro hb
        rw[hA _ hb];simp[hm]
       ·rename_i hm
        simp only[Option.some.injEq] at h;subst h
        intro hb
        rw[Bool.and_eq_true] at hb
        rw[hA _ hb.1];simp only[hm,hb.2,Bool.false_eq_true,if_false,if_true]
      ·split at h
       ·rename_i hm
        simp only[Option.some.injEq] at h;subst h
        intro hb
        rw[hA _ hb];simp[hm]
       ·rename_i hm
        simp only[Option.some.injEq] at h;subst h
        intro hb
        rw[Bool.and_eq_true] at hb
        rw[hA _ hb.1];simp only[hm,hb.2,Bool.false_eq_true,if_false,if_true]
      ·rename_i id len sz
       simp only[Option.some.injEq] at h;subst h
       intro hb
       rw[Bool.and_eq_true,Bool.and_eq_true] at hb
       obtain ⟨hb,hb1,hb2⟩:=hb
       rw[hA _ hb]
       simp only[hb1,hb2,Bool.true_and,if_true]
       refine ⟨_,rfl,fun l hl=> ?_⟩
       have hl:=beq_iff.1 hl
       have hs:i.size≠0:=beq_false_iff.1 c1
       cases hm:Nat.beq m 0 with
       | false=>
        have hm:m≠0:=beq_false_iff.1 hm
        have:¬ ((len+m)*i.size≤ac l):=by
         rw[hl]
         intro hle
         have:=Nat.le_of_mul_le_mul_right hle (Nat.pos_of_ne_zero hs)
         omega
        simp only
        rw[if_neg (by simpa using this),if_pos (by simp[hl])]
        rw[List.take_of_length_le (by rw[←am];omega)]
       |true=>
        obtain rfl:=beq_iff.1 hm
        obtain rfl:=tI hsrc
        simp only[Nat.add_zero]
        rw[if_pos (by simp[hl]),tJ,List.append_nil]
      ·cases h
     ·cases h
   ·cases h
  ·cases h
 ·cases h
theorem tL {t:TypeId} {x:AV} {lo hi mx:Option AV} {es:ES} (h:lQ P t x lo hi mx=some es):es.ok (de P t x lo hi mx):=by
 unfold lQ at h
 split at h
 ·rename_i b1 l b2 hh hl hhi
  split at h
  ·rename_i s
   split at h
   ·rename_i hu
    simp only[Option.some.injEq] at h;subst h
    intro hb
    simp only[Bool.and_eq_true] at hb
    obtain ⟨k1,k2,k3,k4⟩:=hb
    have q1:=f7 hl k1
    have q2:=f7 hhi k2
    have q3:cQ none=some none:=rfl
    simp only[de,q1,q2,q3,j7,hu,k3,k4,Option.isNone_none,Bool.and_self]
   ·cases h
  ·rename_i full es'
   split at h
   ·rename_i e he
    split at h
    ·rename_i sz hsz
     simp only[Option.some.injEq] at h;subst h
     intro hb
     simp only[Bool.and_eq_true] at hb
     obtain ⟨k1,k2,k3,k4,k5⟩:=hb
     have q1:=f7 hl k1
     have q2:=f7 hhi k2
     have q3:cQ none=some none:=rfl
     simp only[de,q1,q2,q3,j8,he,hsz,k3,k4,k5,Bool.and_self,j6]
     rw[jB _ _ _ (by rw[←am];rw[Nat.ble_eq] at k4 k5;omega)]
    ·cases h
   ·cases h
  ·rename_i own id off len sz'
   split at h
   ·rename_i h0
    split at h
    ·rename_i e he
     split at h
     ·rename_i sz hsz
      simp only[Option.some.injEq] at h;subst h
      intro hb
      simp only[Bool.and_eq_true] at hb
      obtain ⟨k2,k3,k4⟩:=hb
      have e1:b1=true:=by
       unfold hU at hl
       split at hl
       ·simp only[Option.some.injEq,Prod.mk.injEq] at hl;exact hl.1.symm
       ·split at hl
        ·simp at hl
        ·cases hl
      have q1:=f7 hl e1
      have q2:=f7 hhi k2
      have q3:cQ none=some none:=rfl
      simp only[de,q1,q2,q3,j9,he,hsz,k3,Option.getD_none,Option.getD_some,k4,Option.isNone_none,Bool.and_true]
      have k5:Nat.ble 0 h0=true:=by simp
      simp[gu,beq_iff.1 k3,k5]
     ·cases h
    ·cases h
   ·cases h
  ·cases h
 ·cases h
theorem tM {src dst:TypeId} {x:AV} {es:ES} (h:lR P src dst x=some es):es.ok (dd P src dst x):=by
 unfold lR at h
 split at h
 ·rename_i e f l hs hd
  split at h
  ·rename_i hb
   simp only[Option.some.injEq] at h;subst h
   intro hi
   unfold dd
   simp only[hs,hd,hb,j5]
   cases hl:bV l with
   |none=>rw[hl] at hi;cases hi
   |some s=>simp[eu,ju,hl]
  ·cases h
 ·cases h
theorem tN {t:TypeId} {l c:AV} {es:ES} (h:lS P t l c=some es):es.ok (gp P t l c):=by
 unfold lS at h
 split at h
 ·rename_i e b1 l' b2 c' he hl hc
  split at h
  ·rename_i i z hi hz
   simp only[Option.some.injEq] at h;subst h
   intro hb
   rw[Bool.and_eq_true,Bool.and_eq_true] at hb
   obtain ⟨k1,k2,k3⟩:=hb
   simp only[gp,he,f6 hl k1,f6 hc k2,hi,hz,k3]
  ·cases h
 ·cases h
theorem l6 {l:List AV} {o:Nat} {vs:List AV} (h:o+vs.length≤l.length):splice l o vs=some (hY l o vs):=by
  unfold hY
  rw[am]
  exact go l o vs h
 where
  go:∀ (l:List AV) (o:Nat) (vs:List AV),o+vs.length≤l.length→splice l o vs=some (l.take o++(vs++l.drop (o+vs.length)))
    |l,o,[],_=>by cases l<;>simp[splice]
    |[],o,_::_,h=>by simp at h
    | a::t,0,v::vs,h=>by
      simp only[List.length_cons] at h
      have:=go t 0 vs (by omega)
      simp only[splice,this]
      simp
    | a::t,o+1,v::vs,h=>by
      simp only[List.length_cons] at h
      have:=go t o (v::vs) (by simp only[List.length_cons];omega)
      simp only[splice,this]
      simp[show o+1+(vs.length+1)=o+(vs.length+1)+1 by omega]
theorem tO {sz:Nat} {x:AV} {b:Bool} {m:Nat} {cs:List AV} {k:Nat→List AV→Option Eff} (h:ed sz x=some (b,m,cs)) (hb:b=true):cr sz x k=k m cs:=by
 unfold ed at h
 split at h
 ·simp only[Option.some.injEq,Prod.mk.injEq] at h
  obtain ⟨rfl,rfl,rfl⟩:=h
  simp[cr,hb]
 ·simp only[Option.some.injEq,Prod.mk.injEq] at h
  obtain ⟨rfl,rfl,rfl⟩:=h;rfl
 ·simp only[Option.some.injEq,Prod.mk.injEq] at h
  obtain ⟨rfl,rfl,rfl⟩:=h;rfl
 ·simp only[Option.some.injEq,Prod.mk.injEq] at h
  obtain ⟨rfl,rfl,rfl⟩:=h
  simp only[cr,hb,if_true]
 ·cases h
theorem tP {argTypes:Array TypeId} {d x:AV} {es:ES} (h:lT P argTypes d x=some es):es.ok (eB P argTypes d x):=by
 unfold lT at h
 split at h
 ·rename_i t ht
  split at h
  ·rename_i e he
   split at h
   ·rename_i sz hsz
    split at h
    ·rename_i own id off len s'
     split at h
     ·rename_i b m cs hsrc
      simp only[Option.some.injEq] at h;subst h
      intro hb
      rw[Bool.and_eq_true] at hb
      unfold eB
      simp only[ht,he,hsz,tO hsrc hb.1,hb.2,if_true]
      refine ⟨_,rfl,fun l hl=> ?_⟩
      have hl:off+(cs.take (min m len*sz)).length≤l.length:=by simpa [am] using hl
      simp only[l6 hl]
     ·cases h
    ·cases h
   ·cases h
  ·cases h
 ·cases h
theorem qx {t:TypeId} {v:AV} {n:Nat} (h:jw P t v n=true):(Nat.beq (ac v.cells) n&&aV v.cells)=true∧jv P t v=v.cells:=by
 unfold jw at h
 unfold jv
 split at h
 ·rename_i ht
  rw[Bool.and_eq_true] at h
  have e:=ja h.1
  have hn:=beq_iff.1 h.2
  subst hn
  exact ⟨by rw[e];simp[ac,aV,h.1],e.symm⟩
 ·rename_i hne
  exact ⟨h,rfl⟩
theorem tQ {t:TypeId} {a v:AV} {es:ES} (h:lU P t a v=some es):es.ok (er P t a v):=by
 unfold lU at h
 split at h
 ·rename_i id off
  split at h
  ·rename_i n hn
   simp only[Option.some.injEq] at h;subst h
   intro hb
   obtain ⟨hb,hc⟩:=qx hb
   have hb1:=(Bool.and_eq_true _ _▸hb:_∧_).1
   refine ⟨_,by simp only[er,hn,hb,if_true];rfl,fun l hl=> ?_⟩
   have hl:off+v.cells.length≤l.length:=by
    have h1:=beq_iff.1 hb1
    rw[am] at h1
    simpa [am,h1] using hl
   simp only[hc,l6 hl,Option.map_some]
  ·cases h
 ·cases h
theorem tR {t:TypeId} {v:AV} {es:ES} (h:lV P t v=some es):es.ok (fA v):=by
 unfold lV at h
 split at h
 ·simp only[Option.some.injEq] at h;subst h
  intro hb
  simp only[fA,ja hb]
 ·cases h
theorem qy {fs:List Field} {pl:List (Nat × Nat)}:∀ {parts:List (Nat × AV)} {cells c:List AV} {b:Bool},ia P fs pl cells parts=some (b,c)→b=true→cR (aU pl) cells parts=some c
 |[],_,_,_,h,_=>by
  simp only[ia,Option.some.injEq,Prod.mk.injEq] at h
  simp only[cR,h.2]
 | (i,v)::rest,cells,c,b,h,hb=>by
  unfold ia at h
  split at h
  ·rename_i f off s hf hp
   split at h
   ·rename_i hs
    split at h
    ·rename_i b' c' hr
     simp only[Option.some.injEq,Prod.mk.injEq] at h
     obtain ⟨rfl,rfl⟩:=h
     rw[Bool.and_eq_true] at hb hs
     obtain ⟨h1,h2⟩:=qx hb.1
     rw[Bool.and_eq_true] at h1
     have hl:=beq_iff.1 h1.1
     rw[am] at hl
     have hle:=Nat.le_of_ble_eq_true hs.2
     rw[am] at hle
     have:=qy hr hb.2
     rw[h2] at this
     simp only[cR,hp,h1.1,hs.1,Bool.and_self,if_true,l6 (show off+v.cells.length≤cells.length by omega),this]
    ·cases h
   ·cases h
  ·cases h
theorem tS {t:TypeId} {parts:List (Nat × AV)} {es:ES} (h:lW P t parts=some es):es.ok (aC (gx P t parts)):=by
 unfold lW at h
 split at h
 ·rename_i z fs hz hu
  split at h
  ·rename_i pl hpl
   split at h
   ·rename_i b c hc
    simp only[Option.some.injEq] at h;subst h
    intro hb
    simp only[gx,hz,hu,hpl,qy hc hb,ey,aC]
   ·cases h
  ·cases h
 ·cases h
theorem tT {t:TypeId} {x i:AV} {es:ES} (h:lX P t x i=some es):es.ok (aC (df P t x i)):=by
 unfold lX at h
 split at h
 ·rename_i e own id off len sz' b k hu hn
  split at h
  ·rename_i sz hsz
   simp only[Option.some.injEq] at h;subst h
   intro hb
   rw[Bool.and_eq_true] at hb
   have q1:=f6 hn hb.1
   simp only[df,q1,hu,hsz,hb.2,Option.bind_eq_bind,Option.bind_some,if_true,aC]
  ·cases h
 ·cases h
theorem a6 {G:ag} {ops:List Oper} {ev:Operand→Option AV} {o:Oper} (h:fS o.op=true):aK P G ops ev o=az P G ev o:=by
 unfold aK
 split
 ·rename_i ho _;rw[ho] at h;cases h
 ·rfl
theorem tU {G:ag} {ops:List Oper} {ev:Operand→Option AV} {o:Oper} {es:ES} (h:fZ P G ops ev o=some es):es.ok (aK P G ops ev o):=by
 have plain:(match aK P G ops ev o with
   |some e=>some (ES.eff e)
   |none=>none)=some es→es.ok (aK P G ops ev o):=fun h=>by
  split at h
  ·rename_i e he
   simp only[Option.some.injEq] at h;subst h
   exact he
  ·cases h
 unfold fZ at h
 split at h
 ·rename_i c a b ho
  rw[a6 (by rw[ho];rfl)]
  split at h
  ·rename_i t ht
   simp only[Option.some.injEq] at h;subst h
   refine ⟨?_, ?_⟩<;>rintro rfl<;>simp[az,ho,iP,ht]
  ·cases h
 ·rename_i op t x y t' ho
  split at h
  ·rename_i a b hx hy
   simp only[Option.some.injEq] at h;subst h
   intro hb
   rw[a6 (by rw[ho];rfl)]
   simp only[az,ho,e2,hx,hy,aC,bd,hb,if_true]
  ·rename_i a b hx hy
   split at h
   ·rename_i r hg hr
    simp only[Option.some.injEq] at h;subst h
    show _=some _
    rw[a6 (by rw[ho];rfl)]
    simp only[az,ho,e2,hx,hy,aC,bd,hg,jA _ _ _ _ _ hr,Bool.false_eq_true,if_false,Option.map_some]
   ·cases h
  ·rename_i a b hx hy
   split at h
   ·rename_i r hg hr
    simp only[Option.some.injEq] at h;subst h
    show _=some _
    rw[a6 (by rw[ho];rfl)]
    simp only[az,ho,e2,hx,hy,aC,bd,hg,jA _ _ _ _ _ hr,Bool.false_eq_true,if_false,Option.map_some]
   ·cases h
  ·rename_i k a k' b hx hy
   split at h
   ·rename_i hk
    have hk:=of_decide_eq_true hk
    subst hk
    simp only[Option.some.injEq] at h;subst h
    intro hb
    have hb:bo b 0=false:=by simpa using hb
    rw[a6 (by rw[ho];rfl)]
    simp[az,ho,e2,hx,hy,aC,bd,hb]
   ·cases h
  ·rename_i k a k' b hx hy
   split at h
   ·rename_i hk
    have hk:=of_decide_eq_true hk
    subst hk
    simp only[Option.some.injEq] at h;subst h
    intro hb
    have hb:bo b 0=false:=by simpa using hb
    rw[a6 (by rw[ho];rfl)]
    simp[az,ho,e2,hx,hy,aC,bd,hb]
   ·cases h
  ·exact plain h
 ·rename_i t a x ho
  split at h
  ·rename_i a' x' ha hx
   rw[a6 (by rw[ho];rfl)]
   have:=tQ h
   simpa only[az,ho,e2,ha,hx] using this
  ·cases h
 ·rename_i t x ho
  split at h
  ·rename_i v hx
   split at h
   ·rename_i e he
    simp only[Option.some.injEq] at h;subst h
    rw[a6 (by rw[ho];rfl)]
    have:=tR he
    simpa only[az,ho,e1,hx] using this
   ·exact plain h
  ·cases h
 ·rename_i t parts ho
  split at h
  ·rename_i ps hps
   split at h
   ·rename_i e he
    simp only[Option.some.injEq] at h;subst h
    rw[a6 (by rw[ho];rfl)]
    have:=tS he
    simpa only[az,ho,iQ,hps] using this
   ·exact plain h
  ·cases h
 ·rename_i t x i ho
  split at h
  ·rename_i x' i' hx hi
   split at h
   ·rename_i e he
    simp only[Option.some.injEq] at h;subst h
    rw[a6 (by rw[ho];rfl)]
    have:=tT he
    simpa only[az,ho,e2,hx,hi] using this
   ·exact plain h
  ·cases h
 ·rename_i s d x ho
  split at h
  ·rename_i f l hx
   split at h
   ·rename_i e he
    simp only[Option.some.injEq] at h;subst h
    rw[a6 (by rw[ho];rfl)]
    have:=tM he
    simpa only[az,ho,e1,hx] using this
   ·exact plain h
  ·exact plain h
 ·rename_i t x i ho
  split at h
  ·rename_i s w hu hx hi
   split at h
   ·rename_i b k hk
    simp only[Option.some.injEq] at h;subst h
    intro hb
    rw[Bool.and_eq_true] at hb
    rw[a6 (by rw[ho];rfl)]
    have hlt:k<s.length:=by rw[←am];exact blt_iff.1 hb.2
    have hg:aU s k=some (c7 s k):=by rw[cw];simp[c7,hlt]
    simp[az,ho,e2,hx,hi,gw,f6 hk hb.1,hu,hg,aC]
   ·cases h
  ·exact plain h
 ·rename_i t l c ho
  split at h
  ·rename_i l' c' hl hc
   rw[a6 (by rw[ho];rfl)]
   have:=tN h
   simpa only[az,ho,e2,hl,hc] using this
  ·cases h
 ·rename_i t x lo hi mx ho
  split at h
  ·rename_i x' lo' hi' mx' h1 h2 h3 h4
   rw[a6 (by rw[ho];rfl)]
   have e:az P G ev o=de P t x' lo' hi' mx':=by simp only[az,ho,gI,h1,h2,h3,h4]
   rw[e]
   split at h
   ·rename_i es' he
    simp only[Option.some.injEq] at h;subst h
    exact tL he
   ·split at h
    ·rename_i e' he
     simp only[Option.some.injEq] at h;subst h
     exact he
    ·cases h
  ·cases h
 ·rename_i c ho
  split at h
  ·rename_i s x hc hargs
   rw[a6 (by rw[ho];rfl)]
   have e:az P G ev o=eA P c.argTypes s x:=by simp only[az,ho,dh,hargs,hc,eD]
   rw[e]
   split at h
   ·rename_i es' he
    simp only[Option.some.injEq] at h;subst h
    exact tK he
   ·split at h
    ·rename_i e' he
     simp only[Option.some.injEq] at h;subst h
     exact he
    ·cases h
  ·rename_i d x hc hargs
   rw[a6 (by rw[ho];rfl)]
   have e:az P G ev o=eB P c.argTypes d x:=by simp only[az,ho,dh,hargs,hc,eD]
   rw[e]
   split at h
   ·rename_i es' he
    simp only[Option.some.injEq] at h;subst h
    exact tP he
   ·split at h
    ·rename_i e' he
     simp only[Option.some.injEq] at h;subst h
     exact he
    ·cases h
  ·exact plain h
 ·exact plain h
variable {O:al} {n:Nat} {A:bu}
structure bK (P:Program) (O:al) (A:bu):Prop where
 cx:an P O.glob A.cx∧ao A.cx
 sum:∀f args v,O.summ f args=some v→SemCall P O.glob f args v
 inl:∀f T,A.inl f=some T→∀args h nx K,T.run args h nx K→∃v h' nx',K v h' nx'∧aH P O.glob f args h nx v h' nx'
 cut:∀r C,A.cut r=some C→∀nx0 s K,C s K→∃s2,(∀w0 I0 α0 H0 D a w,(∀id,nx0≤id→α0 id=none)→CR O.glob w0 I0 α0 H0 nx0 D s a w→CR O.glob w0 I0 α0 H0 nx0 D s2 a w)∧K s2
theorem l7 {G:ag}:an P G (fun _ _ _ _ _=>none)∧ao (fun _ _ _ _ _=>none):=by
 refine ⟨?_, ?_⟩
 ·intro f args rid H nx v H' nx' ft h;cases h
 ·intro f args id h nx v h' nx' ft hc;cases hc
abbrev e9 (P:Program) (G:ag) (call:ah):Prop:=an P G call∧ao call
theorem jC (B:bt P O n) {id d:Nat} {e:Eff} {h:aa} {nx:Nat} {K:AV→aa→Nat→Foot→Prop} (hk:cm P O n id d e h nx K):
  ∃call,e9 P O.glob call∧∃v h' nx' ft,ak call id d e h nx=some (v,h',nx',ft)∧K v h' nx' ft:=by
 unfold cm at hk
 split at hk
 ·rename_i v h' nx' ft hr
  exact ⟨_,B.calls,v,h',nx',ft,hr,hk⟩
 ·exact hk.elim
theorem io {call:ah} {id d:Nat} {f:FuncId} {args:List AV} {h:aa} {nx:Nat}:ak call id d (.call f args) h nx=call f args id h nx:=by cases d<;>rfl
noncomputable def fa (f0:FuncId) (args0:List AV) (L:List Nat) (H0:aa) (nx0:Nat) (v:AV) (H2:aa) (m:Nat):ah:=by
 classical exact fun f args _ h nx=>if f=f0∧args=args0∧nx=nx0∧aD h L=H0 then some (v,lY L H2 nx h,nx+m,⟨true,L,nx::L⟩) else none
theorem qz {G:ag} {f0:FuncId} {args0:List AV} {L:List Nat} {H0:aa} {nx0:Nat} {v:AV} {H2:aa} {m:Nat} (hB:aH P G f0 args0 H0 nx0 v H2 (nx0+m)):an P G (fa f0 args0 L H0 nx0 v H2 m)∧ao (fa f0 args0 L H0 nx0 v H2 m):=by
 refine ⟨?_, ?_⟩
 ·intro f args rid H nx v1 H' nx' ft hc w I α vs hr ha hrid hlt hf
  unfold fa at hc
  split at hc
  ·rename_i he
   obtain ⟨rfl,rfl,rfl,rfl⟩:=he
   simp only[Option.some.injEq,Prod.mk.injEq] at hc
   obtain ⟨rfl,rfl,rfl,rfl⟩:=hc
   obtain ⟨e1,e2⟩:=hB w I α vs (eU hr L) ha hf
   rw[e1]
   refine Calls.mono e2 ?_
   rintro e w' ⟨u,rfl,hp⟩
   exact ⟨u,rfl,jk hr hf hp⟩
  ·cases hc
 ·intro f args id hp nx v1 h' nx' ft hc
  unfold fa at hc
  split at hc
  ·rename_i he
   obtain ⟨rfl,rfl,rfl,rfl⟩:=he
   simp only[Option.some.injEq,Prod.mk.injEq] at hc
   obtain ⟨rfl,rfl,rfl,rfl⟩:=hc
   refine ⟨fun h=>(by cases h),fun _ n l hw=> ?_⟩
   simp only[List.cons.injEq] at hw
   obtain ⟨rfl,rfl⟩:=hw
   refine ⟨rfl,by omega,_,rfl,fun p hp=> ?_,fun h2 hk=> ?_⟩
   ·rw[fO] at hp
    rcases List.mem_append.1 hp with hp|hp
    ·exact .inl (g9 hp).1
    ·exact .inr (eX hp).1
   ·have hC:aD h2 L=aD hp L:=eW _ fun i hi=>hk i (by simp[hi])
    unfold fa
    rw[if_pos ⟨rfl,rfl,rfl,hC⟩]
    rfl
  ·cases hc
theorem tV {f:FuncId} {args:List AV} {h:aa} {nx id d:Nat} {K:AV→aa→Nat→Foot→Prop} {r:jx} (hk:f5 P O f args h nx K r):
  ∃call,e9 P O.glob call∧∃v h' nx' ft,ak call id d (.call f args) h nx=some (v,h',nx',ft)∧K v h' nx' ft:=by
 cases r with
 |val v=>exact ⟨_,lG hk.1,v,h,nx,_,by rw[io];unfold ea;rw[if_pos ⟨rfl,rfl⟩],hk.2⟩
 |part L v H2 m=>exact ⟨_,qz (L:=L) hk.1,v,_,_,_,by rw[io];unfold fa;rw[if_pos ⟨rfl,rfl,rfl,rfl⟩],hk.2⟩
theorem l8 (B:bt P O n) (hA:bK P O A) {id:Nat}:∀ (d:Nat) (e:Eff) {h:aa} {nx:Nat} {K:AV→aa→Nat→Foot→Prop},cd P O n A id d e h nx K→
    ∃call,e9 P O.glob call∧∃v h' nx' ft,ak call id d e h nx=some (v,h',nx',ft)∧K v h' nx' ft:=by
  have callCase:∀ (d:Nat) (f:FuncId) (args:List AV) {h:aa} {nx:Nat} {K:AV→aa→Nat→Foot→Prop},(match A.cx f args id h nx with
      |some (v,h',nx',ft)=>K v h' nx' ft
      | none=>match A.sem f args h nx with
       |some r=>f5 P O f args h nx K r
       | none=>match A.inl f with
        |some T=>ic args h nx K T
        |none=>match O.how f with
         | .pure=>match O.summ f args with
           |some v=>aS (af args) (K v h nx ⟨false,[],[]⟩)
           |none=>cm P O n id d (.call f args) h nx K
         |_=>cm P O n id d (.call f args) h nx K)→∃call,e9 P O.glob call∧∃v h' nx' ft,ak call id d (.call f args) h nx=some (v,h',nx',ft)∧K v h' nx' ft:=by
    intro d f args h nx K hk
    split at hk
    · rename_i v h' nx' ft hc
      exact ⟨_,hA.cx,v,h',nx',ft,by rw[io];exact hc,hk⟩
    · split at hk
      · exact tV hk
      split at hk
      · rename_i T hT
        obtain ⟨v,H2,nx2,hK,hB⟩:=hA.inl f T hT _ _ _ _ hk
        obtain ⟨hle,hK⟩:=oblB_iff.1 hK
        have hle:=Nat.le_of_ble_eq_true hle
        obtain ⟨m,rfl⟩:∃m,nx2=nx+m:=⟨nx2-nx,by omega⟩
        exact ⟨_,qz (L:=T.see args h) hB,v,_,_,_,by rw[io];unfold fa;rw[if_pos ⟨rfl,rfl,rfl,rfl⟩],hK⟩
      split at hk
      · split at hk
        · rename_i v hs
          obtain ⟨_,hk⟩:=oblB_iff.1 hk
          exact ⟨_,lG (hA.sum f args v hs),v,h,nx,_,by rw[io];unfold ea;rw[if_pos ⟨rfl,rfl⟩],hk⟩
        · exact jC B hk
      · exact jC B hk
  intro d
  induction d with
  | zero=>
    intro e h nx K hk
    unfold cd at hk
    split at hk
    · exact callCase 0 _ _ hk
    · exact jC B hk
  | succ d ih=>
    intro e h nx K hk
    unfold cd at hk
    split at hk
    · exact callCase (d+1) _ _ hk
    · rename_i i k
      split at hk
      · rename_i b hb
        split at hk
        · rename_i e' he
          obtain ⟨call,hc,v,h',nx',ft,hr,hK⟩:=ih e' hk
          exact ⟨call,hc,v,h',nx',_,by simp only[ak,hb,he,hr],hK⟩
        · exact hk.elim
      · exact hk.elim
    · exact jC B hk
def ip (P:Program) (G:ag) (ops:List Oper) (id:Nat) (o:Oper) (s:St) (K:St→Foot→Prop):Prop:=
 ∃call,e9 P G call∧∃s' ft,bh P G call ops id o s=some (s',ft)∧K s' ft
theorem cN {ops:List Oper} {id:Nat} {o:Oper} {s:St} {K:St→Foot→Prop} (hw:a0 ops o s.slots=some true) {call:ah} (hc:e9 P O.glob call) {e:Eff} (he:aK P O.glob ops (ar s.slots) o=some e)
  {v:AV} {h:aa} {nx:Nat} {ft:Foot} (hr:ak call id 2 e s.heap s.nx=some (v,h,nx,ft)) (hk:K ⟨aL s.n s.slots o.dst v,h,nx,s.n⟩ ft):ip P O.glob ops id o s K:=
 ⟨call,hc,_,ft,by unfold bh;simp only[hw,he,hr],hk⟩
theorem tW (B:bt P O n) (hA:bK P O A) {ops:List Oper} {id:Nat} {o:Oper} {s:St} {K:St→Foot→Prop} (hw:a0 ops o s.slots=some true)
  (hk:ig P O n A id s.heap s.nx (fun v h nx ft=>K ⟨aL s.n s.slots o.dst v,h,nx,s.n⟩ ft) (fZ P O.glob ops (ar s.slots) o)):ip P O.glob ops id o s K:=by
 cases hs:fZ P O.glob ops (ar s.slots) o with
 |none=>rw[hs] at hk;exact hk.elim
 | some es=>
  rw[hs] at hk
  have hok:=tU hs
  cases es with
  |eff e=>
   obtain ⟨call,hc,v,h',nx',ft,hr,hK⟩:=l8 B hA 2 e hk
   exact cN hw hc hok hr hK
  |obl b e=>
   obtain ⟨hb,hk⟩:=oblB_iff.1 hk
   obtain ⟨call,hc,v,h',nx',ft,hr,hK⟩:=l8 B hA 2 e hk
   exact cN hw hc (hok hb) hr hK
  | app b i k v=>
   obtain ⟨hb,hk⟩:=oblB_iff.1 hk
   obtain ⟨kk,he,hkk⟩:=hok hb
   split at hk
   ·rename_i l hl
    obtain ⟨hb2,hk⟩:=oblB_iff.1 hk
    exact cN hw B.calls he (by simp only[ak,hl,hkk l hb2]) hk
   ·exact hk.elim
  | put b i k v=>
   obtain ⟨hb,hk⟩:=oblB_iff.1 hk
   obtain ⟨kk,he,hkk⟩:=hok hb
   split at hk
   ·rename_i l hl
    obtain ⟨hb2,hk⟩:=oblB_iff.1 hk
    exact cN hw B.calls he (by simp only[ak,hl,hkk l hb2]) hk
   ·exact hk.elim
  | pick b x y=>
   simp only[ig] at hk
   split at hk
   ·split at hk
    ·exact cN hw B.calls ((hok.1 rfl).trans rfl) rfl hk
    ·exact hk.elim
   ·split at hk
    ·exact cN hw B.calls ((hok.2 rfl).trans rfl) rfl hk
    ·exact hk.elim
theorem tX:eZ P O (fun _ _ _ _ _=>none):=fun _ _ _ _ _ _ _ _ _ h=>by cases h
theorem tY {G:ag} {ops:List Oper} {ev:Operand→Option AV} {o:Oper} {r:AV} {p:Prop} (h:lZ P ev o r=some p) (hp:p):aK P G ops ev o=some (.val r):=by
 unfold lZ at h
 split at h
 ·rename_i s d x ho
  split at h
  ·rename_i v hx
   simp only[Option.some.injEq] at h;subst h
   rw[a6 (by rw[ho];rfl)]
   simp only[az,ho,e1,hx,hp]
  ·cases h
 ·rename_i t x i ho
  split at h
  ·rename_i v w hx hi
   simp only[Option.some.injEq] at h;subst h
   rw[a6 (by rw[ho];rfl)]
   simp only[az,ho,e2,hx,hi,hp,aC]
  ·cases h
 ·rename_i t x i ho
  split at h
  ·rename_i v w hx hi
   simp only[Option.some.injEq] at h;subst h
   rw[a6 (by rw[ho];rfl)]
   simp only[az,ho,e2,hx,hi,hp,aC]
  ·cases h
 ·rename_i t x lo hi mx ho
  split at h
  ·rename_i x' lo' hi' mx' h1 h2 h3 h4
   simp only[Option.some.injEq] at h;subst h
   rw[a6 (by rw[ho];rfl)]
   simp only[az,ho,gI,h1,h2,h3,h4,hp]
  ·cases h
 ·rename_i op t x y g ho
  split at h
  ·rename_i v w hx hi
   simp only[Option.some.injEq] at h;subst h
   rw[a6 (by rw[ho];rfl)]
   simp only[az,ho,e2,hx,hi,hp,aC]
  ·cases h
 ·rename_i c ho
  split at h
  ·rename_i b args hc ha
   simp only[Option.some.injEq] at h;subst h
   rw[a6 (by rw[ho];rfl)]
   simp only[az,ho,dh,ha,hc,hp]
  ·cases h
 ·cases h
theorem tZ (B:bt P O n) (hA:bK P O A) {ops:List Oper} {id:Nat} {o:Oper} {s:St} {K:St→Foot→Prop} {a:bU} (hw:a0 ops o s.slots=some true)
  (hk:c8 P O n A ops id o s (fun v h nx ft=>K ⟨aL s.n s.slots o.dst v,h,nx,s.n⟩ ft) a):ip P O.glob ops id o s K:=by
 unfold c8 at hk
 split at hk
 ·split at hk
  ·rename_i e he
   obtain ⟨call,hc,v,h',nx',ft,hr,hK⟩:=l8 B hA 2 e hk
   exact cN hw hc he hr hK
  ·exact hk.elim
 ·split at hk
  ·rename_i a v h nx ft F ha
   obtain ⟨call,hc,hs⟩:=qi B.calls B.glob tX hw ha hk.1
   exact ⟨call,hc,_,_,hs,hk.2⟩
  ·exact hk.elim
 ·rename_i v
  split at hk
  ·rename_i t x i ho
   split at hk
   ·rename_i f es w hx hi
    split at hk
    ·rename_i b k e hn he
     split at hk
     ·rename_i sz hsz
      obtain ⟨hg,hk⟩:=hk
      obtain ⟨hb,hk⟩:=oblB_iff.1 hk
      rw[Bool.and_eq_true] at hb
      refine cN (e:= .val (.fptr v.cells 0)) hw B.calls ?_ rfl hk
      rw[a6 (by rw[ho];rfl)]
      have hu:P.underlying t=some (.slice e):=by
       unfold bw at he
       split at he
       ·simp only[Option.some.injEq] at he;subst he;assumption
       ·cases he
      have q1:=f6 hn hb.1
      simp only[az,ho,e2,hx,hi,df,q1,hu,hsz,hg,hb.2,aC,Option.bind_eq_bind,Option.bind_some,if_true]
     ·exact hk.elim
    ·exact hk.elim
   ·exact hk.elim
  ·exact hk.elim
 ·rename_i v
  split at hk
  ·rename_i t a ho
   split at hk
   ·rename_i i off hx
    split at hk
    ·rename_i l hl
     obtain ⟨hp,hk⟩:=hk
     have he:∃k,aK P O.glob ops (ar s.slots) o=some (.read i k)∧k (.cells l)=some (.val v):=by
      rw[a6 (by rw[ho];rfl)]
      simp only[az,ho,e1,hx,bZ]
      exact ⟨_,rfl,by simp only[hp,Option.map_some]⟩
     obtain ⟨k,he,hkl⟩:=he
     exact cN hw B.calls he (by simp only[ak,hl,hkl]) hk
    ·exact hk.elim
   ·rename_i cs off hx
    obtain ⟨hp,hk⟩:=hk
    refine cN (e:= .val v) hw B.calls ?_ rfl hk
    rw[a6 (by rw[ho];rfl)]
    simp only[az,ho,e1,hx,bZ,hp,Option.map_some]
   ·rename_i g off hx
    obtain ⟨hp,hk⟩:=hk
    refine cN (e:= .val v) hw B.calls ?_ rfl hk
    rw[a6 (by rw[ho];rfl)]
    simp only[az,ho,e1,hx,hp]
   ·exact hk.elim
  ·exact hk.elim
 ·rename_i r
  split at hk
  ·rename_i p hp
   exact cN (e:= .val r) hw B.calls (tY hp hk.1) rfl hk.2
  ·exact hk.elim
def KnOk (kn:Kn) (slots:Tr):Prop:=∀d b,dK kn d=some b→slots.get d=some (.bool b)
theorem t0 {kn:Kn} {slots:Tr} (h:KnOk kn slots):l3 kn slots=ar slots:=by
 funext x
 unfold l3
 split
 ·split
  ·rename_i b hb
   simp only[ar,h _ b hb]
  ·rfl
 ·rfl
theorem t1 {kn:Kn} {k d:Nat} {b:Bool} (h:dK (ii kn k) d=some b):d≠k∧dK kn d=some b:=by
  induction kn with
  |nil=>cases h
  | cons p t ih=>
    obtain ⟨e,c⟩:=p
    simp only[ii] at h
    split at h
    · rename_i he
      have he:=beq_iff.1 he
      obtain ⟨h1,h2⟩:=ih h
      refine ⟨h1, ?_⟩
      simp only[dK]
      rw[beq_false_of (by rw[he];exact fun h=>h1 h.symm)]
      exact h2
    · rename_i he
      have he:=beq_false_iff.1 he
      simp only[dK] at h⊢
      split at h
      · rename_i hd
        have hd':=beq_iff.1 hd
        exact ⟨fun h'=>he (by omega),h⟩
      · exact ih h
 where
  beq_false_of {a b:Nat} (h:a≠b):Nat.beq a b=false:=beq_false_iff.2 h
theorem KnOk.put {kn:Kn} {slots:Tr} {n:Nat} {dst:Option Tmp} {v:AV} (h:KnOk kn slots):KnOk (dL kn dst) (aL n slots dst v):=by
 intro d b hd
 cases dst with
 |none=>exact h d b hd
 |some e=>
  simp only[dL] at hd
  obtain ⟨h1,h2⟩:=t1 hd
  simp only[aL]
  split
  ·rw[Tr.get_set_ne 12 slots v h1];exact h d b h2
  ·exact h d b h2
theorem KnOk.cons {kn:Kn} {slots:Tr} {d:Nat} {b:Bool} (h:KnOk kn slots) (hd:slots.get d=some (.bool b)):KnOk ((d,b)::kn) slots:=by
 intro k c hk
 simp only[dK] at hk
 split at hk
 ·rename_i he
  have he:=beq_iff.1 he
  subst he
  simp only[Option.some.injEq] at hk
  subst hk;exact hd
 ·exact h k c hk
def jD (P:Program) (G:ag) (ops:List Oper) (id:Nat) (o:Oper) (s:St) (K:Kn→St→Foot→Prop):Prop:=
 ip P G ops id o s (fun s' ft=>∃kn',KnOk kn' s'.slots∧K kn' s' ft)
theorem t2 {ops:List Oper} {id:Nat} {o:Oper} {s:St} {K K':AV→aa→Nat→Foot→Prop} (h:K=K') {a:bU} (hk:c8 P O n A ops id o s K a):c8 P O n A ops id o s K' a:=h▸hk
theorem iq (B:bt P O n) (hA:bK P O A) {rid:Nat} {ops:List Oper} {id i:Nat} {o:Oper} {s:St} {kn:Kn} {K:Kn→St→Foot→Prop} (hkn:KnOk kn s.slots) (hw:a0 ops o s.slots=some true) (hk:c9 P O n A rid ops id i o s kn K):
  jD P O.glob ops id o s K:=by
 have fin:ip P O.glob ops id o s (fun s' ft=>s'.slots=s'.slots∧(∃v,s'.slots=aL s.n s.slots o.dst v)∧K (dL kn o.dst) s' ft)→jD P O.glob ops id o s K:=fun ⟨c,h1,s',ft,h2,_,⟨v,hv⟩,h3⟩=>
  ⟨c,h1,s',ft,h2,dL kn o.dst,by rw[hv];exact hkn.put,h3⟩
 refine fin ?_
 unfold c9 at hk
 split at hk
 ·refine tZ B hA hw (t2 ?_ hk)
  funext v h nx ft
  simp only[true_and,eq_iff_iff]
  exact ⟨fun h=>⟨⟨v,rfl⟩,h⟩,fun h=>h.2⟩
 ·rw[t0 hkn] at hk
  refine tW B hA hw (?_:ig P O n A id s.heap s.nx _ (fZ P O.glob ops (ar s.slots) o))
  have:(fun v h nx ft=>K (dL kn o.dst) ⟨aL s.n s.slots o.dst v,h,nx,s.n⟩ ft)=(fun v h nx ft=>(fun (s':St) (ft:Foot)=>s'.slots=s'.slots∧(∃v,s'.slots=aL s.n s.slots o.dst v)∧K (dL kn o.dst) s' ft) ⟨aL s.n s.slots o.dst v,h,nx,s.n⟩ ft):=by
   funext v h nx ft
   simp only[true_and,eq_iff_iff]
   exact ⟨fun h=>⟨⟨v,rfl⟩,h⟩,fun h=>h.2⟩
  rw[←this]
  exact hk
theorem t3 (B:bt P O n) (hA:bK P O A) {rid:Nat} {ops:List Oper} {id i:Nat} {o:Oper} {s:St} {kn:Kn} {K:Kn→St→Foot→Prop} (hkn:KnOk kn s.slots) (hk:ij P O n A rid ops id i o s kn K):jD P O.glob ops id o s K:=by
 have no:∀ {kn:Kn},KnOk kn s.slots→a0 ops o s.slots=some false→e8 o s kn K→jD P O.glob ops id o s K:=fun {kn} hkn hw hk=>
  ⟨_,B.calls,_,_,by unfold bh;simp only[hw],_,hkn.put,hk⟩
 unfold ij at hk
 split at hk
 ·rename_i hg
  exact iq B hA hkn (by unfold a0;simp only[hg]) hk
 ·rename_i j want hg
  split at hk
  ·rename_i g hj
   split at hk
   ·rename_i d hd
    split at hk
    ·rename_i b hkb
     have hb:=hkn d b hkb
     split at hk
     ·split at hk
      ·exact iq B hA hkn (by unfold a0;simp[hg,hj,hd,hb]) hk
      ·exact no hkn (by unfold a0;simp[hg,hj,hd,hb]) hk
     ·split at hk
      ·exact no hkn (by unfold a0;simp[hg,hj,hd,hb]) hk
      ·exact iq B hA hkn (by unfold a0;simp[hg,hj,hd,hb]) hk
    ·split at hk
     ·rename_i b hb
      split at hk
      ·split at hk
       ·exact iq B hA (hkn.cons hb) (by unfold a0;simp[hg,hj,hd,hb]) hk
       ·exact no (hkn.cons hb) (by unfold a0;simp[hg,hj,hd,hb]) hk
      ·split at hk
       ·exact no (hkn.cons hb) (by unfold a0;simp[hg,hj,hd,hb]) hk
       ·exact iq B hA (hkn.cons hb) (by unfold a0;simp[hg,hj,hd,hb]) hk
     ·rename_i hb
      exact no hkn (by unfold a0;simp[hg,hj,hd,hb]) hk
     ·exact hk.elim
   ·exact hk.elim
  ·exact hk.elim
theorem qA (B:bt P O n) (hA:bK P O A) {rid:Nat} {all:List Oper} {base:Nat}:∀ (rest:List Oper) (i:Nat) (s:St) (kn:Kn) (acc:List (Nat × Foot)) {K:St→List (Nat × Foot)→Prop},KnOk kn s.slots→il P O n A rid all base rest i s kn acc K→
  ∃call,e9 P O.glob call∧∃s' feet,a8 P O.glob call all base rest i s acc=some (s',feet)∧K s' feet
 |[],i,s,kn,acc,K,_,hk=>⟨_,B.calls,s,acc,rfl,hk⟩
 |o::rest,i,s,kn,acc,K,hkn,hk=>by
  simp only[il] at hk
  obtain ⟨c1,h1,s1,ft,hs,kn',hkn',hk⟩:=t3 B hA hkn hk
  obtain ⟨c2,h2,s',feet,hr,hK⟩:=qA B hA rest (i+1) s1 kn' _ hkn' hk
  refine ⟨cB (base+i) c1 c2,qj h1 h2,s',feet, ?_,hK⟩
  simp only[a8]
  rw[lI (call':=c1) (fun f args hp nx=>by unfold cB;rw[if_pos rfl]),hs]
  simp only
  rw[lJ (call':=c2) rest (i+1) _ _ fun f args id hp nx hid=>by unfold cB;rw[if_neg (by omega)]]
  exact hr
def LsOk (P:Program) (G:ag) (nx0:Nat) (A:bu) (c:Code):Prop:=
 ∀r L,A.ls r=some L→∀b∈bH c r,∀s Q,L s Q→AWp P G nx0 (.loop b) s Q
theorem qB {nx0:Nat} {body:Code} {W:St→(AExit→St→Prop)→Prop} (h:∀s Q,W s Q→AWp P O.glob nx0 body s Q):∀ (k:Nat) (s:St) (Q:AExit→St→Prop),jz W k s Q→ARnd P O.glob nx0 body Q k s
 |0,_,_,hk=>hk
 |k+1,s,Q,hk=>(h s _ hk).mono fun e s' hq=>by
  cases e with
  |normal=>exact qB h k s' Q hq
  |exit i=>exact hq
  |ret=>exact hq
theorem qC {nx0:Nat} {c:Operand} {b:Bool} {s:St} {code:Code} {G:ag} {Q:AExit→St→Prop} (hc:ar s.slots c=some (.bool b)) (h:AWp P G nx0 code (l4 c b s) Q):AWp P G nx0 code s Q:=by
 cases c with
 | tmp d=>
  have hg:∀k,(aL s.n s.slots (some d) (.bool b)).get k=s.slots.get k:=fun k=>by
   have hc:s.slots.get d=some (.bool b):=hc
   simp only[aL]
   split
   ·by_cases hk:k=d
    ·subst hk
     rcases Tr.get_set_self 12 s.slots (k:=k) (.bool b) with h|h
     ·rw[h,hc]
     ·exact h
    ·exact Tr.get_set_ne 12 s.slots _ hk
   ·rfl
  refine ⟨fun w0 I0 α0 H0 D a w hα hr=>h.out w0 I0 α0 H0 D a w hα ?_⟩
  obtain ⟨⟨I,α,ev,rel,hs,q1,q2,q3⟩,h7,h8,h9,h10,h11⟩:=hr
  exact ⟨⟨I,α,ev,rel,fun k v hv=>hs k v (by rw[←hg k];exact hv),q1,q2,q3⟩,h7,h8,h9,h10,h11⟩
 |_=>exact h
theorem jE {nx0:Nat} (B:bt P O n) (hA:bK P O A):∀ (c:Code) (s:St) (Q:AExit→St→Prop),LsOk P O.glob nx0 A c→bg P O n A c s Q→AWp P O.glob nx0 c s Q:=by
 intro c
 induction c with
 |skip=>exact fun s Q _ h=> .skip h
 |label l=>exact fun s Q _ h=> .label h
 |exit i=>exact fun s Q _ h=> .exit h
 |ret=>exact fun s Q _ h=> .ret h
 | region rid ops draw=>
  intro s Q _ h
  simp only[bg] at h
  have reg:∀ {s:St},im P O n A rid ops draw s Q→AWp P O.glob nx0 (.region rid ops draw) s Q:=fun {s} h=>by
   unfold im at h
   obtain ⟨call,⟨h1,h2⟩,s',feet,hr,hk⟩:=qA B hA _ _ _ _ _ (fun _ _ h=>by cases h) h
   cases draw with
   |false=>exact .region B.mixed h1 h2 hr (fun h=>by cases h) hk
   |true=>
    obtain ⟨hb,hk⟩:=oblB_iff.1 hk
    rw[Bool.and_eq_true] at hb
    exact .region B.mixed h1 h2 hr (fun _=>hb) hk
  split at h
  ·rename_i C hC
   obtain ⟨s2,hs,hk⟩:=hA.cut rid C hC nx0 s _ h
   exact ⟨fun w0 I0 α0 H0 D a w hα hr=>(reg hk).out w0 I0 α0 H0 D a w hα (hs w0 I0 α0 H0 D a w hα hr)⟩
  ·exact reg h
 |seq a b iha ihb=>
  intro s Q hl h
  refine .seq ((iha s _ (fun r L hL b' hb=>hl r L hL b' (by simp[bH,hb])) h).mono fun e s' hq=> ?_)
  cases e with
  |normal=>exact ihb s' Q (fun r L hL b' hb=>hl r L hL b' (by simp[bH,hb])) hq
  |exit i=>exact hq
  |ret=>exact hq
 | cond c a b iha ihb=>
  intro s Q hl h
  simp only[bg] at h
  split at h
  ·rename_i t hc
   split at h
   ·exact .cond_true hc (qC hc (iha _ Q (fun r L hL b' hb=>hl r L hL b' (by simp[bH,hb])) h))
   ·exact .cond_false hc (qC hc (ihb _ Q (fun r L hL b' hb=>hl r L hL b' (by simp[bH,hb])) h))
  ·exact h.elim
 |block id body ih=>exact fun s Q hl h=> .block (ih s _ hl h)
 | loop body ih=>
  intro s Q hl h
  simp only[bg] at h
  split at h
  ·rename_i L hL
   exact hl _ L hL body (by simp[bH]) s Q h
  ·exact .loop O.lf (qB (fun s Q h=>ih s Q (fun r L hL b' hb=>hl r L hL b' (by simp[bH,hb])) h) _ _ _ h)
 |rangeFunc f p x y _ _=>exact fun s Q _ h=>h.elim
 |scope c _=>exact fun s Q _ h=>h.elim
 |goto l=>exact fun s Q _ h=>h.elim
 |refuse y=>exact fun s Q _ h=>h.elim
def fb (P:Program) (G:ag) (nx0:Nat) (A:bu) (f:FuncId):Prop:=∀fn c,P.funcs[f]? =some fn→fn.body=some c→LsOk P G nx0 A c
theorem qD {G:ag} {nx0:Nat} {f:FuncId} (h:∀r,A.ls r=none):fb P G nx0 A f:=fun _ _ _ _ r L hL=>by rw[h] at hL;cases hL
theorem l9 {f:FuncId} {args:List AV} {H:aa} {nx:Nat} {Q:AV→aa→Nat→Prop} (B:bt P O n) (hA:bK P O A) (hl:fb P O.glob nx A f) (h:aZ P O n A f args H nx Q):
  ∃fn c,P.funcs[f]? =some fn∧fn.body=some c∧(fn.name== "runtime.NumGoroutine")=false∧(Nat.ble (ac args) fn.ntmps&&Nat.ble fn.ntmps 4095)=true∧
   AWp P O.glob nx c ⟨bE args 0 .tip,H,nx,fn.ntmps⟩ (fun e s=>(e= .normal∨e= .ret)∧∃l,bx P O.glob s fn.results.toList=some l∧Q (bD l) s.heap s.nx):=by
 unfold aZ at h
 split at h
 ·rename_i fn hfn
  split at h
  ·rename_i c hc
   split at h
   ·exact h.elim
   ·rename_i hname
    split at h
    ·exact h.elim
    ·rename_i hsz
     refine ⟨fn,c,hfn,hc,hname,hsz,(jE B hA c _ _ (hl fn c hfn hc) h).mono fun e s hq=> ?_⟩
     split at hq
     ·exact hq.elim
     ·rename_i hne
      split at hq
      ·rename_i l hl
       refine ⟨?_,l,hl,hq⟩
       cases e with
       |normal=>exact .inl rfl
       |ret=>exact .inr rfl
       |exit i=>exact absurd rfl (hne i)
      ·exact hq.elim
  ·exact h.elim
 ·exact h.elim
theorem ma {f:FuncId} {args:List AV} {v:AV} (B:bt P O n) (hA:bK P O A) (hl:fb P O.glob 0 A f) (hcl:af args=true)
  (h:aZ P O n A f args [] 0 (fun u H _=>(∃d,aj 0 H d u=some v)∧ad v=true)):SemCall P O.glob f args v:=by
 obtain ⟨fn,c,hfn,hc,hname,hsz,hw⟩:=l9 B hA hl h
 refine tF B hfn hc hname hsz hcl fun w I a hr=>wp_mono (hw.out w I _ [] [] a w (fun _ _=>rfl) hr) ?_
 rintro e a' w' ⟨x,s',rfl,h2,hx,l,hl,hq⟩
 refine ⟨s',l, ?_,h2,hl,hq.1,hq.2⟩
 rcases hx with rfl|rfl
 ·exact .inl rfl
 ·exact .inr rfl
theorem qE {f:FuncId} {args:List AV} {H:aa} {nx:Nat} {v:AV} {H':aa} {nx':Nat} (B:bt P O n) (hA:bK P O A) (hl:fb P O.glob nx A f)
    (h:aZ P O n A f args H nx (fun u h m=>u=v∧h=H'∧m=nx')):aH P O.glob f args H nx v H' nx':=by
  obtain ⟨fn,c,hfn,hc,hname,hsz,hw⟩:=l9 B hA hl h
  intro w I α vs r ha hf
  refine body_of_wp' hfn hc hname hsz (fun w I α a hα hr=>wp_mono (hw.out w I α H [] a w hα hr) ?_) w I α vs r ha hf
  rintro e a' w' ⟨x,s',rfl,h2,hx,l,hl,rfl,rfl,rfl⟩
  refine ⟨s',l, ?_,h2,hl,rfl,rfl,rfl⟩
  rcases hx with rfl|rfl
  · exact .inl rfl
  · exact .inr rfl
 where
  body_of_wp' {f:FuncId} {fn:Func} {c:Code} {args:List AV} {H:aa} {nx:Nat} {v:AV} {H':aa} {nx':Nat} (hfn:P.funcs[f]? =some fn) (hc:fn.body=some c) (hname:(fn.name== "runtime.NumGoroutine")=false) (hsz:(Nat.ble (ac args) fn.ntmps&&Nat.ble fn.ntmps 4095)=true)
    (h:∀w I α a,(∀id,nx≤id→α id=none)→CR O.glob w I α H nx [] ⟨bE args 0 .tip,H,nx,fn.ntmps⟩ a w→c.wp P (fun e a' w'=>∃s l,(aY .normal=e∨aY .ret=e)∧CR O.glob w I α H nx [] s a' w'∧bx P O.glob s fn.results.toList=some l∧bD l=v∧s.heap=H'∧s.nx=nx') a w):
    aH P O.glob f args H nx v H' nx':=by
    intro w I α vs r ha hf
    rw[Bool.and_eq_true,Nat.ble_eq,Nat.ble_eq,am] at hsz
    refine ⟨?_, ?_⟩
    · unfold callFunc
      simp only[Sem.run_bind,run_program,Result.andThen_ok,hfn,hname,hc,Bool.false_eq_true,if_false,Option.isNone_some,Sem.run_pure]
    · refine calls_of_wp hfn hc ?_
      have hvs:args.length=vs.size:=by rw[ha.1];simp
      have hr0:CR O.glob w I α H nx [] ⟨bE args 0 .tip,H,nx,fn.ntmps⟩ {tmps:=vs++Array.replicate (fn.ntmps-vs.size) undef,defers:=[]} w:=
        ⟨⟨I,α,.refl,r,fL ha (by omega),fun i hi=>absurd hi (Nat.not_lt_zero i),hf,fun id h=> .inl h⟩,Nat.le_refl _,Nat.le_refl _,rfl,by simp;omega,hsz.2⟩
      refine wp_mono (h w I α _ hf hr0) fun e a' w' hq=> ?_
      obtain ⟨s,l,he,hr,hl,rfl,rfl,rfl⟩:=hq
      obtain ⟨⟨I',α',h1,h2,h3,_,_,h6⟩,_,h8,h9,_,_⟩:=hr
      obtain ⟨u,e1,e2⟩:=fM (P:=P) (fn:=fn) h2 h3 hl
      rcases he with rfl|rfl<;>exact ⟨h9,u,e1,u,rfl,⟨I',α',h1,h2,e2,h6⟩,h8⟩
end
end Go.Proofs.Abs
/- Small laws of the abstract machine's functions: bytes, rows, numbers, what becomes part of a value. -/
namespace Go.Proofs.Abs
open Go
mutual
theorem mc {n:Nat} {h:aa}:∀ {d:Nat} {v r:AV},aj n h d v=some r→aj n h (d+1) v=some r
 |0,_,_,hv=>by simp[aj] at hv
 | d +1,v,r,hv=>by
  have L:∀ {l l':List AV},aI (aj n h d) l=some l'→aI (aj n h (d+1)) l=some l':=fun {l l'} hl=>me hl
  cases v with
  | ptr id off=>
   rw[aj] at hv⊢
   split at hv
   ·exact hv
   ·rename_i hb
    split at hv
    ·rename_i l hl
     try rw[hl]
     try simp only
     split at hv
     ·rename_i l' hl';rw[L hl'];exact hv
     ·cases hv
    ·cases hv
  | rsl own id off len sz=>
   rw[aj] at hv⊢
   split at hv
   ·exact hv
   ·rename_i hb
    split at hv
    ·rename_i l hl
     try rw[hl]
     try simp only
     split at hv
     ·rename_i es hes
      split at hv
      ·rename_i l' hl';rw[L hl'];exact hv
      ·cases hv
     ·cases hv
    ·cases hv
  |fptr cs off=>
   rw[aj] at hv⊢
   split at hv
   ·rename_i l' hl';rw[L hl'];exact hv
   ·cases hv
  |fsl f es=>
   rw[aj] at hv⊢
   split at hv
   ·rename_i l' hl';rw[L hl'];exact hv
   ·cases hv
  |agg cs=>
   rw[aj] at hv⊢
   split at hv
   ·rename_i l' hl';rw[L hl'];exact hv
   ·cases hv
  |tuple cs=>
   rw[aj] at hv⊢
   split at hv
   ·rename_i l' hl';rw[L hl'];exact hv
   ·cases hv
  |func fn a b=>
   rw[aj] at hv⊢
   split at hv
   ·rename_i a' b' ha hb;rw[L ha,L hb];exact hv
   ·cases hv
  |iface t v=>
   rw[aj] at hv⊢
   split at hv
   ·rename_i l' hl';rw[mc hl'];exact hv
   ·cases hv
  |_=>exact hv
theorem me {n:Nat} {h:aa} {d:Nat}:∀ {l l':List AV},aI (aj n h d) l=some l'→aI (aj n h (d+1)) l=some l'
 |[],_,hl=>by simpa [aI] using hl
 | a::t,l',hl=>by
  simp only[aI] at hl⊢
  split at hl
  ·rename_i b hb
   split at hl
   ·rename_i u hu
    simp only[mc hb,me hu];exact hl
   ·cases hl
  ·cases hl
end
theorem t4 {n:Nat} {h:aa} {d e:Nat} {v r:AV} (hd:d≤e) (hv:aj n h d v=some r):aj n h e v=some r:=by
 induction hd with
 |refl=>exact hv
 |step _ ih=>exact mc ih
theorem mf {n:Nat} {h:aa} {d e:Nat} {l l':List AV} (hd:d≤e) (hl:aI (aj n h d) l=some l'):aI (aj n h e) l=some l':=by
 induction hd with
 |refl=>exact hl
 |step _ ih=>exact me ih
structure Frz (n:Nat) (h:aa) (v r:AV):Prop where
 out:∃d,aj n h d v=some r
structure FrzL (n:Nat) (h:aa) (l l':List AV):Prop where
 out:∃d,aI (aj n h d) l=some l'
theorem FrzL.nil {n:Nat} {h:aa}:FrzL n h [] []:=⟨0,rfl⟩
theorem FrzL.cons {n:Nat} {h:aa} {a b:AV} {t u:List AV} (h1:Frz n h a b) (h2:FrzL n h t u):FrzL n h (a::t) (b::u):=by
 obtain ⟨d,h1⟩:=h1
 obtain ⟨e,h2⟩:=h2
 exact ⟨max d e,by simp only[aI,t4 (Nat.le_max_left d e) h1,mf (Nat.le_max_right d e) h2]⟩
theorem FrzL.append {n:Nat} {h:aa}:∀ {a b c d:List AV},FrzL n h a b→FrzL n h c d→FrzL n h (a++c) (b++d)
 |[],b,_,_,h1,h2=>by
  obtain ⟨e,h1⟩:=h1
  simp only[aI,Option.some.injEq] at h1
  subst h1;exact h2
 | x::t,b,c,d,h1,h2=>by
  obtain ⟨e,h1⟩:=h1
  simp only[aI] at h1
  split at h1
  ·rename_i y hy
   split at h1
   ·rename_i u hu
    simp only[Option.some.injEq] at h1
    subst h1
    exact FrzL.cons ⟨e,hy⟩ (FrzL.append ⟨e,hu⟩ h2)
   ·cases h1
  ·cases h1
theorem Frz.agg {n:Nat} {h:aa} {l l':List AV} (hl:FrzL n h l l'):Frz n h (.agg l) (.agg l'):=by
 obtain ⟨d,hl⟩:=hl;exact ⟨d+1,by simp only[aj,hl]⟩
theorem Frz.tuple {n:Nat} {h:aa} {l l':List AV} (hl:FrzL n h l l'):Frz n h (.tuple l) (.tuple l'):=by
 obtain ⟨d,hl⟩:=hl;exact ⟨d+1,by simp only[aj,hl]⟩
theorem Frz.fsl {n:Nat} {h:aa} {f:Bool} {l l':List AV} (hl:FrzL n h l l'):Frz n h (.fsl f l) (.fsl f l'):=by
 obtain ⟨d,hl⟩:=hl;exact ⟨d+1,by simp only[aj,hl]⟩
theorem Frz.fptr {n:Nat} {h:aa} {o:Nat} {l l':List AV} (hl:FrzL n h l l'):Frz n h (.fptr l o) (.fptr l' o):=by
 obtain ⟨d,hl⟩:=hl;exact ⟨d+1,by simp only[aj,hl]⟩
theorem Frz.rsl {n:Nat} {h:aa} {own:Bool} {id off len sz:Nat} {c es l':List AV} (hn:Nat.blt id n=false) (hg:hget h id=some (.cells c)) (hc:dT sz len (c.drop off)=some es) (hl:FrzL n h es l'):Frz n h (.rsl own id off len sz) (.fsl false l'):=by
 obtain ⟨d,hl⟩:=hl;exact ⟨d+1,by simp only[aj,hn,hg,hc,hl]⟩
theorem Frz.ptr {n:Nat} {h:aa} {id off:Nat} {c l':List AV} (hn:Nat.blt id n=false) (hg:hget h id=some (.cells c)) (hl:FrzL n h c l'):Frz n h (.ptr id off) (.fptr l' off):=by
 obtain ⟨d,hl⟩:=hl;exact ⟨d+1,by simp only[aj,hn,hg,hl]⟩
mutual
theorem Frz.closed {n:Nat} {h:aa}:∀ (v:AV),ad v=true→Frz n h v v
 | .ptr _ _,hc=>by simp[ad] at hc
 | .rsl _ _ _ _ _,hc=>by simp[ad] at hc
 | .map _,hc=>by simp[ad] at hc
 | .fptr cs _,hc=> .fptr (FrzL.closed cs (by simpa [ad] using hc))
 | .fsl _ cs,hc=> .fsl (FrzL.closed cs (by simpa [ad] using hc))
 | .agg cs,hc=> .agg (FrzL.closed cs (by simpa [ad] using hc))
 | .tuple cs,hc=> .tuple (FrzL.closed cs (by simpa [ad] using hc))
 | .func fn a b,hc=>by
  simp only[ad,Bool.and_eq_true] at hc
  obtain ⟨d,h1⟩:=FrzL.closed (n:=n) (h:=h) a hc.1
  obtain ⟨e,h2⟩:=FrzL.closed (n:=n) (h:=h) b hc.2
  exact ⟨max d e+1,by simp only[aj,mf (Nat.le_max_left d e) h1,mf (Nat.le_max_right d e) h2]⟩
 | .iface t v,hc=>by
  obtain ⟨d,h1⟩:=Frz.closed (n:=n) (h:=h) v (by simpa [ad] using hc)
  exact ⟨d+1,by simp only[aj,h1]⟩
 | .bool _,_=>⟨1,rfl⟩
 | .int _ _,_=>⟨1,rfl⟩
 | .str _,_=>⟨1,rfl⟩
 | .nilp,_=>⟨1,rfl⟩
 | .gptr _ _,_=>⟨1,rfl⟩
 | .nilsl,_=>⟨1,rfl⟩
 | .nesl,_=>⟨1,rfl⟩
 | .nilmap,_=>⟨1,rfl⟩
 | .nilFunc,_=>⟨1,rfl⟩
 | .nilIface,_=>⟨1,rfl⟩
theorem FrzL.closed {n:Nat} {h:aa}:∀ (l:List AV),af l=true→FrzL n h l l
 |[],_=> .nil
 |a::t,hc=>by
  simp only[af,Bool.and_eq_true] at hc
  exact .cons (Frz.closed a hc.1) (FrzL.closed t hc.2)
end
def fc (sz:Nat) (e:AV):Prop:=e.cells.length=sz∧iL e.cells=e
theorem qF {sz:Nat}:∀ {es:List AV} (r:List AV),(∀e∈es,fc sz e)→dT sz es.length (flat es++r)=some es
 |[],r,_=>rfl
 | e::t,r,h=>by
  obtain ⟨h1,h2⟩:=h e (by simp)
  have ih:=qF (es:=t) r fun x hx=>h x (by simp[hx])
  have hc:chunk (flat (e::t)++r) 0 sz=some e.cells:=by
   rw[jB _ _ _ (by simp only[flat,List.length_append];omega)]
   simp only[flat,List.drop_zero,List.append_assoc]
   rw[List.take_left' h1]
  simp only[List.length_cons,dT,hc]
  have hd:(flat (e::t)++r).drop sz=flat t++r:=by
   simp only[flat,List.append_assoc]
   rw[List.drop_left' h1]
  rw[hd,ih,h2]
  rfl
theorem Frz.row {n:Nat} {h:aa} {own:Bool} {id len sz:Nat} {c es:List AV} (hn:Nat.blt id n=false) (hg:hget h id=some (.cells c)) (hc:c=flat es) (hl:len=es.length) (hes:∀e∈es,fc sz e) (hcl:af es=true):Frz n h (.rsl own id 0 len sz) (.fsl false es):=by
 subst hc hl
 refine .rsl hn hg ?_ (FrzL.closed es hcl)
 have:=qF (es:=es) [] hes
 simpa using this
theorem ir:∀s:List UInt8,ax s=s.map fun b=> .int .u8 (.ofNat b.toNat)
 |[]=>rfl
 |b::t=>by simp only[ax,List.map_cons,ir t]
@[simp] theorem yE (s:List UInt8):ac (ax s)=s.length:=by rw[am,ir];simp
@[simp] theorem t5 (s:List UInt8):flat (ax s)=ax s:=(kT s).1
@[simp] theorem t6:∀s:List UInt8,bV (ax s)=some s
 |[]=>rfl
 | b::t=>by
  have e:UInt8.ofNat (Int.ofNat b.toNat).toNat=b:=by
   show UInt8.ofNat b.toNat=b
   exact UInt8.ofNat_toNat
  simp only[ax,bV,t6 t,Option.map_some,e]
@[simp] theorem yF (s:List UInt8):ju (ax s)=s:=by simp[ju]
@[simp] theorem qG:∀s:List UInt8,af (ax s)=true
 |[]=>rfl
 |b::t=>by simp only[ax,af,ad,qG t,Bool.and_self]
@[simp] theorem t7:∀s:List UInt8,aV (ax s)=true
 |[]=>rfl
 |b::t=>by simp only[ax,aV,AV.one,t7 t,Bool.and_self]
@[simp] theorem t8:∀s:List UInt8,bq 1 (ax s)=true
 |[]=>rfl
 |b::t=>by
  have e:ac (AV.int .u8 (.ofNat b.toNat)).cells=1:=rfl
  simp only[ax,bq,t8 t,e,Nat.beq_refl,Bool.and_self]
@[simp] theorem yG (s:List UInt8):iK 1 (ax s)=true:=by cases s<;>rfl
theorem t9 {s:List UInt8}:∀e∈ax s,fc 1 e:=by
 intro e he
 rw[ir,List.mem_map] at he
 obtain ⟨b,_,rfl⟩:=he
 exact ⟨rfl,rfl⟩
theorem ua (s:List UInt8) (i:Nat):aU (ax s) i=(s[i]?).map fun b=> .int .u8 (.ofNat b.toNat):=by rw[cw,ir,List.getElem?_map]
theorem Frz.bytes {n:Nat} {h:aa} {own:Bool} {id len:Nat} {c:List AV} {s:List UInt8} (hn:Nat.blt id n=false) (hg:hget h id=some (.cells c)) (hc:c=ax s) (hl:len=s.length):Frz n h (.rsl own id 0 len 1) (.fsl false (ax s)):=
 .row hn hg (by rw[hc,t5]) (by rw[hl,ir];simp) t9 (qG s)
theorem allSize_iff {sz:Nat}:∀ {l:List AV},bq sz l=true↔∀e∈l,e.cells.length=sz
 |[]=>by simp[bq]
 |a::t=>by simp only[bq,Bool.and_eq_true,beq_iff,am,allSize_iff (l:=t),List.forall_mem_cons]
theorem ltInt_iff {a b:Int}:aW a b=true↔a<b:=by rw[dm];simp
theorem ltInt_false {a b:Int}:aW a b=false↔b≤a:=by rw[dm];simp
theorem mg {n:Int} (h1: -9223372036854775808≤n) (h2:n≤9223372036854775807):ai .i64 n=n:=by
 rw[cZ];exact IntWalk.i64_in _ ⟨by omega,by omega⟩
end Go.Proofs.Abs
/- What arguments are: numbers, texts, slices of plain elements. -/
namespace Go.Proofs.Abs
open Go
section
variable {H:Type} {enc:TypeId × Value→H} {P:Program} {w:World} {base:Nat} {spare:Nat→Bool} {held:Bool} {t e:TypeId} {v:Value} {d:DataW H} {ps:List MemPlace}
end
end Go.Proofs.Abs
/- States seen anew, with rows that are written no more made part of the values. -/
namespace Go.Proofs.Abs
open Go
def iu (m:Nat) (h:aa):Blk→Blk→Prop
 | .cells l,.cells l'=>FrzL m h l l'
 | .siter s p,.siter s' p'=>s=s'∧p=p'
 | .mapb c s l,.mapb c' s' l'=>c=c'∧s=s'∧∃d,fG (aj m h d) l=some l'
 | .miter m a b c,.miter m' a' b' c'=>m=m'∧a=a'∧b=b'∧c=c'
 |_,_=>False
section
variable {G:ag} {w:World} {I:Nat→Prop} {α:Nat→Option Nat} {H:aa}
theorem ub {m b:Nat} {b0 b1:Blk} (r:Rel G w I α H) (hf:iu m H b0 b1) (h:BRel w I α b b0):BRel w (br I α H m) α b b1:=by
 cases b0 with
 | cells l=>cases b1 with
  |cells l'=>
   obtain ⟨d,hl'⟩:=hf
   obtain ⟨c,e,h1,h2,h3⟩:=h
   have hlen:=(d4 hl').1
   have h4:=(dn r m d).list hl' h3
   exact ⟨c,e,h1,by rw[hlen];exact h2,by rw[hlen];exact h4⟩
  |_=>exact hf.elim
 |siter s p=>cases b1 with
  |siter s' p'=>obtain ⟨rfl,rfl⟩:=hf;exact h
  |_=>exact hf.elim
 |miter m a b c=>cases b1 with
  |miter m' a' b' c'=>obtain ⟨rfl,rfl,rfl,rfl⟩:=hf;exact h
  |_=>exact hf.elim
 | mapb c s l=>cases b1 with
  |mapb c' s' l'=>
   obtain ⟨rfl,rfl,d,hes⟩:=hf
   obtain ⟨en,h1,h2,h4,h3⟩:=h
   obtain ⟨k1,k2⟩:=lw (dn r m d) hes
   refine ⟨en,h1,by rw[k1];exact h2,h4,fun i x' y e1 e2=> ?_⟩
   obtain ⟨x,g1,g2,g3⟩:=k2 i x' e1
   obtain ⟨q1,q2⟩:=h3 i x y g1 e2
   exact ⟨g2 _ q1,g3 _ q2⟩
  |_=>exact hf.elim
end
section
variable {G:ag} {w0:World} {I0:Nat→Prop} {α0:Nat→Option Nat} {H0:aa} {nx0:Nat} {D:List Deferred}
theorem CR.freeze {s s2:St} {a:Act} {w:World} (m:Nat) (h:CR G w0 I0 α0 H0 nx0 D s a w) (hn:s2.n=s.n) (hnx:s2.nx=s.nx)
  (hS:∀k v,s2.slots.get k=some v→∃u,s.slots.get k=some u∧Frz m s.heap u v)
  (hH:∀i b,hget s2.heap i=some b→i<m∧∃b1,hget s.heap i=some b1∧iu m s.heap b1 b):CR G w0 I0 α0 H0 nx0 D s2 a w:=by
 obtain ⟨⟨I,α,ev,rel,hs,_,hf,hnew⟩,h7,h8,h9,h10,h11⟩:=h
 have hlive:∀i,hget s2.heap i≠none→i<m∧hget s.heap i≠none:=fun i hi=>by
  cases hb:hget s2.heap i with
  |none=>exact absurd hb hi
  |some b=>
   obtain ⟨h1,b1,h2,_⟩:=hH i b hb
   exact ⟨h1,by rw[h2];simp⟩
 have hown:∀b,aO α s2.heap b→aO α s.heap b:=fun b ⟨i,h1,h2⟩=>⟨i,(hlive i h1).2,h2⟩
 refine ⟨⟨br I α s.heap m,α,⟨ev.os,fun b hb=> .inl (ev.I_mono b hb),ev.α_mono,ev.size,ev.frame,ev.shape,fun b hb=> ?_,fun b hb=>ev.own b (hown b hb)⟩, ?_, ?_,fun i hi=>absurd hi (Nat.not_lt_zero i),fun id hid=>hf id (by rw[hnx] at hid;exact hid),fun id hid=> ?_⟩,Nat.le_refl _,by rw[hnx];exact h8,h9,by rw[hn];exact h10,by rw[hn];exact h11⟩
 ·rcases hb with hb|⟨id,_,h2,h3⟩
  ·exact ev.Inew b hb
  ·rcases ev.own b ⟨id,h2,h3⟩ with h|h
   ·exact .inr (.inl h)
   ·exact .inr (.inr h)
 ·exact
  {live:=fun i blk hi=>by
    obtain ⟨hm,b1,e2,e3⟩:=hH i blk hi
    obtain ⟨b,k1,k2,k3⟩:=rel.live i b1 e2
    refine ⟨b,k1, ?_,ub rel e3 k3⟩
    rintro (hb|⟨id,h1,h2,h3⟩)
    ·exact k2 hb
    ·have:=rel.inj id i b h2 (by rw[e2];simp) h3 k1
     omega
   inj:=fun i i' b h1 h2 h3 h4=>rel.inj i i' b (hlive i h1).2 (hlive i' h2).2 h3 h4
   imm:=fun b hb=>by
    rcases hb with hb|⟨id,_,_,h3⟩
    ·exact rel.imm b hb
    ·exact rel.dom id b h3
   dom:=rel.dom
   glob:=fun g l hgl=>by
    obtain ⟨h1,h2⟩:=rel.glob g l hgl
    refine ⟨.inl h1,fun j x hx=> ?_⟩
    obtain ⟨y,e1,e2⟩:=h2 j x hx
    exact ⟨y,e1,e2.mono (fun _ h=> .inl h) (fun _ _ h=>h) (fun _ _ _=>rfl) (fun _ _ _=>rfl)⟩}
 ·intro k v hv
  obtain ⟨u,e1,d,e2⟩:=hS k v hv
  obtain ⟨y,e3,e4⟩:=hs k u e1
  exact ⟨y,e3,dn rel m d _ _ _ e2 e4⟩
 ·rw[hnx];exact hnew id hid
end
end Go.Proofs.Abs
/- Loops: states by number, seen anew behind each round. -/
namespace Go.Proofs.Abs
open Go
def iv (lk:List (Nat × Nat)):AV→AV→Prop
 | .ptr i o,u=>match u with
  | .ptr j p=>aw lk i=some j∧o=p
  |_=>False
 | .rsl w i o l z,u=>match u with
  | .rsl w' j o' l' z'=>w=w'∧aw lk i=some j∧o=o'∧l=l'∧z=z'
  |_=>False
 | .map i,u=>match u with
  | .map j=>aw lk i=some j
  |_=>False
 |v,u=>u=v∧ad v=true
theorem jF {lk:List (Nat × Nat)} {v u:AV} (h:iv lk v u):RenV lk v u:=by
 unfold iv at h
 split at h
 ·split at h
  ·obtain ⟨h1,rfl⟩:=h;exact .ptr _ _ _ h1
  ·exact h.elim
 ·split at h
  ·obtain ⟨rfl,h1,rfl,rfl,rfl⟩:=h;exact .rsl _ _ _ _ _ _ h1
  ·exact h.elim
 ·split at h
  ·exact .map _ _ h
  ·exact h.elim
 ·obtain ⟨rfl,hc⟩:=h;exact .same _ hc
def f8 (lk:List (Nat × Nat)):List AV→List AV→Prop
 |[],[]=>True
 |a::t,b::u=>iv lk a b∧f8 lk t u
 |_,_=>False
theorem qH {lk:List (Nat × Nat)}:∀ {l l':List AV},f8 lk l l'→l.length=l'.length∧∀ (i:Nat) x y,l[i]? =some x→l'[i]? =some y→RenV lk x y
 |[],[],_=>⟨rfl,fun i x y h=>by simp at h⟩
 |a::t,b::u,h=>by
  obtain ⟨h1,h2⟩:=qH h.2
  refine ⟨by simp[h1],fun i x y hx hy=> ?_⟩
  cases i with
  |zero=>simp only[List.getElem?_cons_zero,Option.some.injEq] at hx hy;subst hx;subst hy;exact jF h.1
  |succ i=>exact h2 i x y (by simpa using hx) (by simpa using hy)
 |[],_::_,h=>h.elim
 |_::_,[],h=>h.elim
def mh (lk:List (Nat × Nat)):AV→AV→Prop
 | .func fn f c,u=>match u with
  | .func fn' f' c'=>(fn=fn'∧f=f'∧af f=true)∧f8 lk c c'
  |_=>False
 | .iface t v,u=>match u with
  | .iface t' v'=>t=t'∧iv lk v v'
  |_=>False
 |v,u=>iv lk v u
theorem uc {lk:List (Nat × Nat)} {v u:AV} (h:mh lk v u):RenV lk v u:=by
 unfold mh at h
 split at h
 ·split at h
  ·obtain ⟨⟨rfl,rfl,hf⟩,hc⟩:=h
   obtain ⟨h1,h2⟩:=qH hc
   exact .func _ _ _ _ hf h1 h2
  ·exact h.elim
 ·split at h
  ·obtain ⟨rfl,h⟩:=h;exact .iface _ (jF h)
  ·exact h.elim
 ·exact jF h
inductive mi where
 |whole
 |each
 |rel
 |split (pre suf old:List AV)
structure ud (lk:List (Nat × Nat)) (l l':List AV):Prop where
 out:RenL lk l l'
def jG:List (AV × AV)→Bool
 |[]=>true
 |(a,b)::t=>ad a&&(ad b&&jG t)
theorem RenP.same (lk:List (Nat × Nat)):∀ {l:List (AV × AV)},jG l=true→RenP lk l l
 |[],_=>trivial
 |(a,b)::t,h=>by
  simp only[jG,Bool.and_eq_true] at h
  exact ⟨.same a h.1,.same b h.2.1,RenP.same lk h.2.2⟩
def mj (lk:List (Nat × Nat)) (mode:mi):Blk→Blk→Prop
 | .cells l,.cells l'=>match mode with
  | .whole=>l'=l∧af l=true
  | .each=>f8 lk l l'
  | .rel=>ud lk l l'
  | .split pre suf old=>(l=pre++suf∧l'=pre++old)∧(af pre=true∧f8 lk suf old)
 | .siter s p,.siter s' p'=>s=s'∧p=p'
 | .miter m a b c,.miter m' a' b' c'=>a=a'∧b=b'∧c=c'∧aw lk m=some m'
 | .mapb c s l,.mapb c' s' l'=>(c=c'∧s=s'∧l'=l)∧jG l=true
 |_,_=>False
theorem ml {lk:List (Nat × Nat)}:∀ {l l':List AV},f8 lk l l'→RenL lk l l'
 |[],[],_=>trivial
 |_a::_t,_b::_u,h=>⟨jF h.1,ml h.2⟩
 |[],_::_,h=>h.elim
 |_::_,[],h=>h.elim
theorem RenL.append' {lk:List (Nat × Nat)}:∀ {a b c d:List AV},RenL lk a b→RenL lk c d→RenL lk (a++c) (b++d)
 |[],[],_,_,_,h=>h
 |_::_,_::_,_,_,h1,h2=>⟨h1.1,RenL.append' h1.2 h2⟩
 |[],_::_,_,_,h,_=>h.elim
 |_::_,[],_,_,h,_=>h.elim
theorem ue {lk:List (Nat × Nat)} {wh:mi} {b b':Blk} (h:mj lk wh b b'):eb lk b b':=by
 cases b with
 | cells l=>cases b' with
  | cells l'=>
   simp only[mj] at h
   split at h
   ·obtain ⟨rfl,hc⟩:=h;exact RenL.same lk hc
   ·exact ml h
   ·exact h.out
   ·obtain ⟨⟨rfl,rfl⟩,hc,h⟩:=h
    exact RenL.append' (RenL.same lk hc) (ml h)
  |_=>exact h.elim
 |siter s p=>cases b' with
  |siter s' p'=>exact h
  |_=>exact h.elim
 |miter m a b c'=>cases b' with
  |miter m' a' b' c'=>exact h
  |_=>exact h.elim
 | mapb c s l=>cases b' with
  |mapb c' s' l'=>
   obtain ⟨⟨rfl,rfl,rfl⟩,hc⟩:=h
   exact ⟨rfl,rfl,RenP.same lk hc⟩
  |_=>exact h.elim
abbrev Heap2:=List (Nat × Blk × mi)
def Heap2.heap:Heap2→aa
 |[]=>[]
 |(i,b,_)::t=>(i,some b)::Heap2.heap t
def mm (lk:List (Nat × Nat)) (g:Nat→Option AV):List (Nat × AV)→Prop
 |[]=>True
 |(k,v)::t=>(match g k with
  |some u=>mh lk v u
  |none=>False)∧mm lk g t
def mn (g:Nat→Option AV):List (Nat × AV)→Prop
 |[]=>True
 |(k,v)::t=>(match g k with
  |some u=>u=v∧ad v=true
  |none=>False)∧mn g t
def mo (lk:List (Nat × Nat)) (g:Nat→Option Blk):Heap2→Prop
 |[]=>True
 | (i,b,wh)::t=>(match aw lk i with
  |some j=>match g j with
   |some c=>mj lk wh b c
   |none=>False
  |none=>False)∧mo lk g t
structure View where
 slots:List (Nat × AV)
 refs:List (Nat × AV)
 heap:Heap2
 nx:Nat
 n:Nat
noncomputable def View.st (V:View):St:=⟨sl (V.slots++V.refs),V.heap.heap,V.nx,V.n⟩
def jH:List Nat→Bool
 |[]=>true
 |a::t=> !a7 t a&&jH t
def qI (nx0 nx:Nat) (lk:List (Nat × Nat)):Bool:=jH (lk.map (·.2))&&(eC (lk.map (·.1)) nx&&Nat.ble nx0 nx)
def jI (lk:List (Nat × Nat)):Nat→Bool
 |0=>true
 |n+1=>(match aw lk n with
  |some j=>Nat.beq j n
  |none=>false)&&jI lk n
def dt (nx0:Nat) (lk:List (Nat × Nat)) (V:View) (s:St):Prop:=
 aS (qI nx0 V.nx lk&&(jI lk nx0&&Nat.beq V.n s.n)) (mn s.slots.get V.slots∧(mm lk s.slots.get V.refs∧mo lk (hget s.heap) V.heap))
def Says2 (G:ag) (nx0:Nat) (s s2:St):Prop:=
 ∀w0 I0 α0 H0 D a w,(∀id,nx0≤id→α0 id=none)→CR G w0 I0 α0 H0 nx0 D s a w→CR G w0 I0 α0 H0 nx0 D s2 a w
theorem qJ:∀ {l:List Nat},jH l=true→l.Nodup
 |[],_=> .nil
 |a::t,h=>by
  simp only[jH,Bool.and_eq_true,Bool.not_eq_true'] at h
  refine List.nodup_cons.2 ⟨fun hm=> ?_,qJ h.2⟩
  rw[memN_iff.2 hm] at h;exact Bool.noConfusion h.1
theorem qK {lk:List (Nat × Nat)}:∀ {n:Nat},jI lk n=true→∀i,i<n→aw lk i=some i
 |0,_=>by simp
 | n+1,h=>fun i hi=>by
  simp only[jI,Bool.and_eq_true] at h
  rcases Nat.lt_or_ge i n with h'|h'
  ·exact qK h.2 i h'
  ·have:i=n:=by omega
   subst this
   have h1:=h.1
   split at h1
   ·rename_i j hj;rw[hj,beq_iff.1 h1]
   ·cases h1
theorem qL {H2:Heap2} {i:Nat} {b:Blk} (h:hget H2.heap i=some b):∃wh,(i,b,wh)∈H2:=by
 induction H2 with
 |nil=>simp[Heap2.heap,hget] at h
 | cons p t ih=>
  obtain ⟨j,c,wh⟩:=p
  simp only[Heap2.heap,hget] at h
  split at h
  ·rename_i he
   have he:=beq_iff.1 he
   simp only[Option.some.injEq] at h
   subst he;subst h
   exact ⟨wh,by simp⟩
  ·obtain ⟨wh,hm⟩:=ih h
   exact ⟨wh,by simp[hm]⟩
theorem qM {lk:List (Nat × Nat)} {g:Nat→Option AV}:∀ {L:List (Nat × AV)},mm lk g L→∀k v,(k,v)∈L→∃u,g k=some u∧RenV lk v u
 |[],_,_,_,h=>by cases h
 | (k',v')::t,h,k,v,hm=>by
  rcases List.mem_cons.1 hm with e|hm
  ·cases e
   have h1:=h.1
   split at h1
   ·rename_i u hu;exact ⟨u,hu,uc h1⟩
   ·exact h1.elim
  ·exact qM h.2 k v hm
theorem qN {lk:List (Nat × Nat)} {g:Nat→Option AV}:∀ {L:List (Nat × AV)},mn g L→∀k v,(k,v)∈L→∃u,g k=some u∧RenV lk v u
 |[],_,_,_,h=>by cases h
 | (k',v')::t,h,k,v,hm=>by
  rcases List.mem_cons.1 hm with e|hm
  ·cases e
   have h1:=h.1
   split at h1
   ·rename_i u hu
    obtain ⟨rfl,hc⟩:=h1
    exact ⟨u,hu,.same _ hc⟩
   ·exact h1.elim
  ·exact qN h.2 k v hm
theorem qO {lk:List (Nat × Nat)} {g:Nat→Option Blk}:∀ {H2:Heap2},mo lk g H2→∀i b wh,(i,b,wh)∈H2→∃j b1,aw lk i=some j∧g j=some b1∧eb lk b b1
 |[],_,_,_,_,h=>by cases h
 | (i',b',wh')::t,h,i,b,wh,hm=>by
  rcases List.mem_cons.1 hm with e|hm
  ·cases e
   have h1:=h.1
   split at h1
   ·rename_i j hj
    split at h1
    ·rename_i c hc;exact ⟨j,c,hj,hc,ue h1⟩
    ·exact h1.elim
   ·exact h1.elim
  ·exact qO h.2 i b wh hm
theorem ce {G:ag} {nx0:Nat} {lk:List (Nat × Nat)} {V:View} {s:St} (hg:∀g l,G g=some l→af l=true) (h:dt nx0 lk V s):Says2 G nx0 s V.st:=by
 obtain ⟨hb,h0,h1,h2⟩:=oblB_iff.1 h
 simp only[qI,Bool.and_eq_true] at hb
 obtain ⟨⟨b1,b2,b3⟩,b4,b5⟩:=hb
 intro w0 I0 α0 H0 D a w hα hr
 refine hr.turnIn lk hg hα (beq_iff.1 b5) (fun k v hv=>by
   rcases List.mem_append.1 (jp hv) with hm|hm
   ·exact qN h0 k v hm
   ·exact qM h1 k v hm) (fun i b hi=> ?_) (qJ b1) (fun i hi=> ?_) (qK b4) (Nat.le_of_ble_eq_true b3)
 ·obtain ⟨wh,hm⟩:=qL hi
  exact qO h2 i b wh hm
 ·cases hl:aw lk i with
  |none=>rfl
  |some j=>
   have:=dE b2 i (List.mem_map.2 ⟨_,e6 hl,rfl⟩)
   have hi:V.nx≤i:=hi
   omega
def mq (m:Nat) (h:aa) (g:Nat→Option AV):List (Nat × AV)→Prop
 |[]=>True
 |(k,v)::t=>(match g k with
  |some u=>Frz m h u v
  |none=>False)∧mq m h g t
def mr (m:Nat) (h:aa):Heap2→Prop
 |[]=>True
 |(i,b,_)::t=>(aS (Nat.blt i m) (match hget h i with
  |some c=>iu m h c b
  |none=>False))∧mr m h t
def qP (m:Nat) (V:View) (s:St):Prop:=aS (Nat.beq V.n s.n&&Nat.beq V.nx s.nx) (mq m s.heap s.slots.get (V.slots++V.refs)∧mr m s.heap V.heap)
theorem qQ {m:Nat} {h:aa} {g:Nat→Option AV}:∀ {L:List (Nat × AV)},mq m h g L→∀k v,(k,v)∈L→∃u,g k=some u∧Frz m h u v
 |[],_,_,_,h=>by cases h
 | (k',v')::t,h,k,v,hm=>by
  rcases List.mem_cons.1 hm with e|hm
  ·cases e
   have h1:=h.1
   split at h1
   ·rename_i u hu;exact ⟨u,hu,h1⟩
   ·exact h1.elim
  ·exact qQ h.2 k v hm
theorem qR {m:Nat} {h:aa}:∀ {H2:Heap2},mr m h H2→∀i b wh,(i,b,wh)∈H2→i<m∧∃b1,hget h i=some b1∧iu m h b1 b
 |[],_,_,_,_,h=>by cases h
 | (i',b',wh')::t,h,i,b,wh,hm=>by
  rcases List.mem_cons.1 hm with e|hm
  ·cases e
   obtain ⟨hb,h1⟩:=oblB_iff.1 h.1
   refine ⟨blt_iff.1 hb, ?_⟩
   split at h1
   ·rename_i c hc;exact ⟨c,hc,h1⟩
   ·exact h1.elim
  ·exact qR h.2 i b wh hm
theorem uf {G:ag} {nx0 m:Nat} {V:View} {s:St} (h:qP m V s):Says2 G nx0 s V.st:=by
 obtain ⟨hb,h1,h2⟩:=oblB_iff.1 h
 rw[Bool.and_eq_true] at hb
 intro w0 I0 α0 H0 D a w _ hr
 refine hr.freeze m (beq_iff.1 hb.1) (beq_iff.1 hb.2) (fun k v hv=>qQ h1 k v (jp hv)) fun i b hi=> ?_
 obtain ⟨wh,hm⟩:=qL hi
 exact qR h2 i b wh hm
theorem Says2.trans {G:ag} {nx0:Nat} {s s1 s2:St} (h1:Says2 G nx0 s s1) (h2:Says2 G nx0 s1 s2):Says2 G nx0 s s2:=fun w0 I0 α0 H0 D a w hα hr=>h2 w0 I0 α0 H0 D a w hα (h1 w0 I0 α0 H0 D a w hα hr)
theorem Says2.refl {G:ag} {nx0:Nat} {s:St}:Says2 G nx0 s s:=fun _ _ _ _ _ _ _ _ h=>h
section
variable {P:Program} {G:ag} {nx0:Nat} {s s2:St} {Q Q':AExit→St→Prop}
theorem AWp.says {c:Code} (hs:Says2 G nx0 s s2) (h:AWp P G nx0 c s2 Q):AWp P G nx0 c s Q:=
 ⟨fun w0 I0 α0 H0 D a w hα hr=>h.out w0 I0 α0 H0 D a w hα (hs w0 I0 α0 H0 D a w hα hr)⟩
theorem AWp.saysEnd {c:Code} (h:AWp P G nx0 c s Q) (hq:∀e s',Q e s'→∃s2,Says2 G nx0 s' s2∧Q' e s2):AWp P G nx0 c s Q':=
 ⟨fun w0 I0 α0 H0 D a w hα hr=>wp_mono (h.out w0 I0 α0 H0 D a w hα hr) fun _ _ _ ⟨x,s',h1,h2,h3⟩=>by
  obtain ⟨s2,k1,k2⟩:=hq x s' h3
  exact ⟨x,s2,h1,k1 w0 I0 α0 H0 D _ _ hα h2,k2⟩⟩
theorem AWp.loopN {body:Code} (S:Nat→St):∀ (k j:Nat),(∀i,j≤i→i≤j+k→AWp P G nx0 body (S i) (fun e s'=>(e= .normal∧i<j+k∧Says2 G nx0 s' (S (i+1)))∨(e≠ .normal∧∃s2,Says2 G nx0 s' s2∧Q e s2)))→
  AWp P G nx0 (.loop body) (S j) Q:=fun k j h=>by
 refine .loop (k+1) ?_
 induction k generalizing j with
 | zero=>
  refine (h j (Nat.le_refl _) (Nat.le_refl _)).saysEnd fun e s' hq=> ?_
  rcases hq with ⟨_,h1,_⟩|⟨hne,s2,h1,h2⟩
  ·omega
  ·refine ⟨s2,h1, ?_⟩
   cases e with
   |normal=>exact absurd rfl hne
   |exit i=>exact h2
   |ret=>exact h2
 | succ k ih=>
  refine (h j (Nat.le_refl _) (by omega)).saysEnd fun e s' hq=> ?_
  rcases hq with ⟨rfl,h1,h2⟩|⟨hne,s2,h1,h2⟩
  ·exact ⟨_,h2,ih (j+1) fun i h3 h4=>(h i (by omega) (by omega)).mono fun e s'' hq=>by
    rcases hq with ⟨h5,h6,h7⟩|h5
    ·exact .inl ⟨h5,by omega,h7⟩
    ·exact .inr h5⟩
  ·refine ⟨s2,h1, ?_⟩
   cases e with
   |normal=>exact absurd rfl hne
   |exit i=>exact h2
   |ret=>exact h2
end
def f9 (nx0:Nat) (lk:List (Nat × Nat)) (V:View) (lk':List (Nat × Nat)) (F:View) (go:Bool) (Q:AExit→St→Prop):AExit→St→Prop:=fun e s=>match e with
 | .normal=>aS go (dt nx0 lk V s)
 |e=>dt nx0 lk' F s∧Q e F.st
theorem AWp.loopV {P:Program} {O:al} {n:Nat} {nx0:Nat} {Q:AExit→St→Prop} {body:Code} (B:bt P O n) (A:Nat→bu) (V F:Nat→View) (lk lk':Nat→List (Nat × Nat)) (k j:Nat) (hA:∀i,bK P O (A i)) (hls:∀i,LsOk P O.glob nx0 (A i) body)
  (h:∀i,j≤i→i≤j+k→bg P O n (A i) body (V i).st (f9 nx0 (lk i) (V (i+1)) (lk' i) (F i) (Nat.blt i (j+k)) Q)):AWp P O.glob nx0 (.loop body) (V j).st Q:=by
 refine AWp.loopN (fun i=>(V i).st) k j fun i h1 h2=>(jE B (hA i) body _ _ (hls i) (h i h1 h2)).mono fun e s hq=> ?_
 cases e with
 |normal=>
  obtain ⟨hb,hs⟩:=oblB_iff.1 hq
  exact .inl ⟨rfl,blt_iff.1 hb,ce B.glob hs⟩
 |exit x=>exact .inr ⟨(fun h=>by cases h),(F i).st,ce B.glob hq.1,hq.2⟩
 |ret=>exact .inr ⟨(fun h=>by cases h),(F i).st,ce B.glob hq.1,hq.2⟩
theorem AWp.loopM {P:Program} {O:al} {n:Nat} {nx0:Nat} {Q:AExit→St→Prop} {body:Code} (B:bt P O n) (A:Nat→bu) (V M F:Nat→View) (lk lk':Nat→List (Nat × Nat)) (k j:Nat) (hA:∀i,bK P O (A i)) (hls:∀i,LsOk P O.glob nx0 (A i) body)
  (hM:∀i,j≤i→i<j+k→Says2 O.glob nx0 (M i).st (V (i+1)).st)
  (h:∀i,j≤i→i≤j+k→bg P O n (A i) body (V i).st (f9 nx0 (lk i) (M i) (lk' i) (F i) (Nat.blt i (j+k)) Q)):AWp P O.glob nx0 (.loop body) (V j).st Q:=by
 refine AWp.loopN (fun i=>(V i).st) k j fun i h1 h2=>(jE B (hA i) body _ _ (hls i) (h i h1 h2)).mono fun e s hq=> ?_
 cases e with
 |normal=>
  obtain ⟨hb,hs⟩:=oblB_iff.1 hq
  exact .inl ⟨rfl,blt_iff.1 hb,(ce B.glob hs).trans (hM i h1 (blt_iff.1 hb))⟩
 |exit x=>exact .inr ⟨(fun h=>by cases h),(F i).st,ce B.glob hq.1,hq.2⟩
 |ret=>exact .inr ⟨(fun h=>by cases h),(F i).st,ce B.glob hq.1,hq.2⟩
def ga (r0:Nat) (L:bJ):Nat→Option bJ:=fun r=>match Nat.beq r r0 with
 |true=>some L
 |false=>none
def ug (r0 i0:Nat) (h:bU):Nat→Nat→Option bU:=fun r i=>match Nat.beq r r0&&Nat.beq i i0 with
 |true=>some h
 |false=>none
def iw:ah:=fun _ _ _ _ _=>none
noncomputable def dM (hint:Nat→Nat→Option bU) (ls:Nat→Option bJ):bu:=⟨hint,ls,iw,jy,qv,dq⟩
theorem jJ {P:Program} {O:al} {hint:Nat→Nat→Option bU} {ls:Nat→Option bJ} (h:∀f args v,O.summ f args=some v→SemCall P O.glob f args v):bK P O (dM hint ls):=⟨l7,h,fun _ _ h=>(by cases h),fun _ _ h=>(by cases h)⟩
theorem LsOk.none {P:Program} {G:ag} {nx0:Nat} {c:Code} {hint:Nat→Nat→Option bU}:LsOk P G nx0 (dM hint (fun _=>Option.none)) c:=fun r L hL=>by cases hL
theorem LsOk.one {P:Program} {G:ag} {nx0 r0:Nat} {L0:bJ} {c b:Code} {hint:Nat→Nat→Option bU} (hat:bH c r0=[b]) (h:∀s Q,L0 s Q→AWp P G nx0 (.loop b) s Q):LsOk P G nx0 (dM hint (ga r0 L0)) c:=by
 intro r L hL x hx s Q hs
 simp only[dM,ga] at hL
 split at hL
 ·rename_i hr
  have hr:=beq_iff.1 hr
  simp only[Option.some.injEq] at hL
  rw[hr,hat,List.mem_singleton] at hx
  rw[hx]
  rw[←hL] at hs
  exact h s Q hs
 ·cases hL
def gb:List (Nat × bJ)→Nat→Option bJ
 |[],_=>none
 |(r,L)::t,k=>match Nat.beq k r with
  |true=>some L
  |false=>gb t k
def qS:List (Nat × Nat × bU)→Nat→Nat→Option bU
 |[],_,_=>none
 |(r,i,h)::t,k,j=>match Nat.beq k r&&Nat.beq j i with
  |true=>some h
  |false=>qS t k j
theorem LsOk.no {P:Program} {G:ag} {nx0:Nat} {c:Code} {A:bu} (h:A.ls=fun _=>Option.none):LsOk P G nx0 A c:=fun r L hL=>by rw[h] at hL;cases hL
theorem qT:∀ {l:List (Nat × bJ)} {r:Nat} {L:bJ},gb l r=some L→(r,L)∈l
 |[],_,_,h=>by cases h
 | (r0,L0)::t,r,L,h=>by
  simp only[gb] at h
  split at h
  ·rename_i hr
   have hr:=beq_iff.1 hr
   simp only[Option.some.injEq] at h
   subst hr;subst h;exact List.mem_cons_self ..
  ·exact List.mem_cons_of_mem _ (qT h)
theorem LsOk.many {P:Program} {G:ag} {nx0:Nat} {l:List (Nat × bJ)} {c:Code} {A:bu} (hA:A.ls=gb l) (h:∀p∈l,∀b∈bH c p.1,∀s Q,p.2 s Q→AWp P G nx0 (.loop b) s Q):LsOk P G nx0 A c:=by
 intro r L hL x hx s Q hs
 rw[hA] at hL
 exact h (r,L) (qT hL) x hx s Q hs
def fe (P:Program) (f:FuncId):Code:=match P.funcs[f]? with
 |some fn=>match fn.body with
  |some c=>c
  |none=> .skip
 |none=> .skip
def bX (P:Program) (f r:Nat):Code:=match bH (fe P f) r with
 |b::_=>b
 |[]=> .skip
theorem uh {P:Program} {f:FuncId} {fn:Func} {c:Code} (h1:P.funcs[f]? =some fn) (h2:fn.body=some c):c=fe P f:=by
 unfold fe;rw[h1];simp only;rw[h2]
theorem cf {P:Program} {G:ag} {nx0:Nat} {A:bu} {f:FuncId} (h:LsOk P G nx0 A (fe P f)):fb P G nx0 A f:=fun fn c h1 h2=>by rw[uh h1 h2];exact h
end Go.Proofs.Abs
/- Calls that make blocks, known from a heap of their own. -/
namespace Go.Proofs.Abs
open Go
def shl (nx m:Nat):List (Nat × Nat):=(List.range m).map fun k=>(nx+k,k)
theorem ui {l:List (Nat × Nat)} (h:(l.map (·.1)).Nodup) {i j:Nat} (hm:(i,j)∈l):aw l i=some j:=by
 induction l with
 |nil=>cases hm
 | cons p t ih=>
  obtain ⟨a,b⟩:=p
  simp only[List.map_cons,List.nodup_cons] at h
  simp only[aw]
  rcases List.mem_cons.1 hm with e|hm
  ·cases e;simp
  ·split
   ·rename_i he
    have he:=beq_iff.1 he
    exact absurd (List.mem_map.2 ⟨_,hm,by simp[he]⟩) h.1
   ·exact ih h.2 hm
theorem ff {nx m i:Nat}:aw (shl nx m) i=if nx≤i∧i<nx+m then some (i-nx) else none:=by
 split
 ·rename_i h
  refine ui ?_ ?_
  ·unfold shl
   rw[List.map_map]
   rw[List.nodup_iff_pairwise_ne,List.pairwise_map]
   refine (List.nodup_range (n:=m)).imp fun {a b} h=> ?_
   simpa using h
  ·unfold shl
   exact List.mem_map.2 ⟨i-nx,by simp;omega,by simp;omega⟩
 ·rename_i h
  cases hl:aw (shl nx m) i with
  |none=>rfl
  |some j=>
   have:=e6 hl
   unfold shl at this
   obtain ⟨k,hk,e⟩:=List.mem_map.1 this
   simp at hk e
   omega
section
variable {P:Program} {G:ag} {f:FuncId} {args:List AV} {v v2:AV} {H' H2:aa} {m nx:Nat}
theorem uj (hg:∀g l,G g=some l→af l=true) (hcl:af args=true) (h:aH P G f args [] 0 v H' m) (hV:RenV (shl nx m) v2 v)
    (hH:∀i b2,hget H2 i=some b2→∃j b,aw (shl nx m) i=some j∧hget H' j=some b∧eb (shl nx m) b2 b):aH P G f args [] nx v2 H2 (nx+m):=by
  intro w I α vs r ha hf
  obtain ⟨e1,e2⟩:=h w I (fun _=>none) vs (eV hg r) (dG ha hcl) (fun _ _=>rfl)
  refine ⟨e1,e2.mono ?_⟩
  rintro e w' ⟨u,rfl,⟨⟨I',α',ev,rel,rep,hnew⟩,_⟩⟩
  refine ⟨u,rfl,⟨I',fun i=>match aw (shl nx m) i with|some j=>α' j|none=>α i, ?_, ?_, ?_, ?_⟩,by omega⟩
  · have hown:∀b,aO (fun i=>match aw (shl nx m) i with|some j=>α' j|none=>α i) H2 b→aO α' H' b:=fun b ⟨i,h1,h2⟩=>by
      cases hi:hget H2 i with
      |none=>exact absurd hi h1
      | some blk=>
        obtain ⟨j,b1,k1,k2,_⟩:=hH i blk hi
        exact ⟨j,by rw[k2];simp,by simpa [k1] using h2⟩
    refine ⟨ev.os,ev.I_mono,fun id b hb=> ?_,ev.size,fun b hb _=>ev.frame b hb cA,ev.shape,fun b hb=> ?_,fun b hb=> ?_⟩
    · have:aw (shl nx m) id=none:=by
        rw[ff,if_neg]
        intro hc
        rw[hf id hc.1] at hb;cases hb
      simp only[this];exact hb
    · rcases ev.Inew b hb with h|h|h
      · exact .inl h
      · exact .inr (.inl h)
      · exact absurd h cA
    · rcases ev.own b (hown b hb) with h|h
      · exact .inl h
      · exact absurd h cA
  · exact
    { live:=fun i blk hi=>by
        obtain ⟨j,b1,k1,k2,k3⟩:=hH i blk hi
        obtain ⟨b,q1,q2,q3⟩:=rel.live j b1 k2
        exact ⟨b,by simpa [k1] using q1,q2,brel_ext (lL k3 q3)⟩
      inj :=fun i i' b h1 h2 h3 h4=>by
        cases hi:hget H2 i with
        |none=>exact absurd hi h1
        | some blk=>
          cases hi':hget H2 i' with
          |none=>exact absurd hi' h2
          | some blk'=>
            obtain ⟨j,b1,k1,k2,_⟩:=hH i blk hi
            obtain ⟨j',b1',k1',k2',_⟩:=hH i' blk' hi'
            have hj:j=j':=rel.inj j j' b (by rw[k2];simp) (by rw[k2'];simp) (by simpa [k1] using h3) (by simpa [k1'] using h4)
            rw[ff] at k1 k1'
            split at k1<;>split at k1'<;>simp_all<;>omega
      imm:=rel.imm
      dom:=fun i b hb=>by
        split at hb
        · exact rel.dom _ b hb
        · exact Nat.lt_of_lt_of_le (r.dom i b hb) ev.size
      glob:=fun g l hgl=>by
        obtain ⟨h1,h2⟩:=rel.glob g l hgl
        refine ⟨h1,fun j x hx=> ?_⟩
        obtain ⟨y,k1,k2⟩:=h2 j x hx
        exact ⟨y,k1,rep_closed k2 (hQ (hg g l hgl) hx)⟩}
  · exact rep_ext (fW hV rep)
  · intro i hi
    simp only at hi
    split at hi
    · rename_i j hj
      right
      rw[ff] at hj
      split at hj
      · assumption
      · cases hj
    · exact .inl hi
 where
  sub {α α':Nat→Option Nat} {nx m:Nat}:∀id b,((aw (shl nx m) id).bind α')=some b→(match aw (shl nx m) id with|some j=>α' j|none=>α id)=some b:=fun id b hb=>by
    cases hl:aw (shl nx m) id with
    |none=>rw[hl] at hb;cases hb
    |some j=>simpa [hl] using hb
  rep_ext {w:World} {I:Nat→Prop} {α α':Nat→Option Nat} {nx m:Nat} {a:AV} {v:Value} (h:Rep w I (fun i=>(aw (shl nx m) i).bind α') a v):Rep w I (fun i=>match aw (shl nx m) i with|some j=>α' j|none=>α i) a v:=
    h.mono (fun _ h=>h) sub (fun _ _ _=>rfl) (fun _ _ _=>rfl)
  brel_ext {w:World} {I:Nat→Prop} {α α':Nat→Option Nat} {nx m b:Nat} {blk:Blk} (h:BRel w I (fun i=>(aw (shl nx m) i).bind α') b blk):BRel w I (fun i=>match aw (shl nx m) i with|some j=>α' j|none=>α i) b blk:=by
    cases blk with
    |cells l=>obtain ⟨c,e,h1,h2,h3⟩:=h;exact ⟨c,e,h1,h2,h3.1,fun i x y hx hy=>rep_ext (h3.2 i x y hx hy)⟩
    |siter s p=>exact h
    |mapb c s es=>obtain ⟨en,h1,h2,h4,h3⟩:=h;exact ⟨en,h1,h2,h4,fun i x y hx hy=>⟨rep_ext (h3 i x y hx hy).1,rep_ext (h3 i x y hx hy).2⟩⟩
    |miter q a b c=>obtain ⟨mb,h1,h2⟩:=h;exact ⟨mb,sub _ _ h1,h2⟩
def eh (tbl:FuncId→List AV→Nat→Option (AV × aa × Nat)):ah:=fun f args _ h nx=>match tbl f args nx with
 |some (v,H2,m)=>some (v,Mods.app (cT (ca H2 []) (bW nx H2 H2)) h,nx+m,⟨true,[],[nx]⟩)
 |none=>none
theorem mt {tbl:FuncId→List AV→Nat→Option (AV × aa × Nat)} (h:∀f args nx v H2 m,tbl f args nx=some (v,H2,m)→aH P G f args [] nx v H2 (nx+m)):an P G (eh tbl)∧ao (eh tbl):=by
 refine ⟨?_, ?_⟩
 ·intro f args rid H nx v H' nx' ft hc w I α vs hr ha hrid hlt hf
  unfold eh at hc
  split at hc
  ·rename_i v0 H2 m ht
   simp only[Option.some.injEq,Prod.mk.injEq] at hc
   obtain ⟨rfl,rfl,rfl,rfl⟩:=hc
   have hcut:aD H []=[]:=rfl
   obtain ⟨e1,e2⟩:=h f args nx v0 H2 m ht w I α vs (hcut▸eU hr []) ha hf
   rw[e1]
   refine Calls.mono e2 ?_
   rintro e w' ⟨u,rfl,hp⟩
   exact ⟨u,rfl,jk (L:=[]) hr hf hp⟩
  ·cases hc
 ·intro f args id hp nx v h' nx' ft hc
  unfold eh at hc
  split at hc
  ·rename_i v0 H2 m ht
   simp only[Option.some.injEq,Prod.mk.injEq] at hc
   obtain ⟨rfl,rfl,rfl,rfl⟩:=hc
   refine ⟨fun hall=>(by cases hall),fun _ n l hw=> ?_⟩
   simp only[List.cons.injEq] at hw
   obtain ⟨rfl,rfl⟩:=hw
   refine ⟨rfl,by omega,_,rfl,fun p hp=> ?_,fun h2 _=> ?_⟩
   ·right
    rw[fO] at hp
    rcases List.mem_append.1 hp with hp|hp
    ·cases hp
    ·exact (eX hp).1
   ·unfold eh;rw[ht]
  ·cases hc
theorem uk {O:al} {n:Nat} {w:World} (hm:P.follows .mixedOrders=true) (hsum:∀f args v,O.summ f args=some v→SemCall P O.glob f args v) (hcx:an P O.glob O.cx∧ao O.cx) (hg:O.glob=fun _=>none) (h:lD P O n f=true):
  Calls P f #[] w fun e w'=>e= .returned (.bool true)∧RowKit.Below w.heap.size w w':=by
 unfold lD at h
 generalize hr:bR P O (ap P O n) f [] [] 1=r at h
 unfold d8 at h
 split at h
 ·rename_i b hp
  obtain ⟨H',nx'⟩:=hp
  subst h
  obtain ⟨h1,h2⟩:=dH (P:=P) (O:=O) hm hsum (by intro g l hl;rw[hg] at hl;cases hl) hcx n
  obtain ⟨_,h3⟩:=dF (w:=w) (vs:= #[]) hm h1 h2 hr (by rw[hg];exact tv) .nil (fun _ _=>rfl)
  refine Calls.mono h3 ?_
  rintro e w' ⟨u,rfl,⟨⟨I',α',ev,_,hv,_⟩,_⟩⟩
  cases hv
  exact ⟨rfl,ev.os.1,ev.os.2.1,ev.os.2.2,ev.size,fun k hk=>ev.frame k hk cA⟩
 ·cases h
theorem ul {O:al} {n:Nat} (hm:P.follows .mixedOrders=true) (hsum:∀f args v,O.summ f args=some v→SemCall P O.glob f args v) (hcx:an P O.glob O.cx∧ao O.cx) (hg:∀g l,O.glob g=some l→af l=true)
  (h:d8 (bR P O (ap P O n) f [] [] 0)=true):SemCall P O.glob f [] (.bool true):=by
 generalize hr:bR P O (ap P O n) f [] [] 0=r at h
 unfold d8 at h
 split at h
 ·rename_i b hp
  obtain ⟨H',nx'⟩:=hp
  subst h
  obtain ⟨h1,h2⟩:=dH (P:=P) (O:=O) hm hsum hg hcx n
  refine ⟨fun w I α H rid nx vs r ha hrid hlt hf=> ?_⟩
  obtain ⟨e1,e2⟩:=dF (w:=w) (vs:=vs) hm h1 h2 hr (eV hg r) (dG ha rfl) (fun _ _=>rfl)
  rw[e1]
  refine Calls.mono e2 ?_
  rintro e w' ⟨u,rfl,hp⟩
  exact ⟨u,rfl,fN (d:=1) r hp rfl rfl⟩
 ·cases h
end
end Go.Proofs.Abs
/- Calls that look at rows and answer plainly, known for closed arguments. -/
namespace Go.Proofs.Abs
open Go
def qU:AV→Bool
 | .int _ _| .bool _| .str _=>true
 |_=>false
def gc (S:FuncId→List AV→Option AV):ah:=fun f args _ h nx=>
 match aI (aj 0 (aD h (aB h 3 (aA args []))) 40) args with
 | some args'=>match af args',S f args' with
  |true,some r=>match qU r with
   |true=>some (r,h,nx,⟨false,aB h 3 (aA args []),[]⟩)
   |false=>none
  |_,_=>none
 |none=>none
section
variable {P:Program} {G:ag}
theorem um {w w':World} {I I':Nat→Prop} {α α':Nat→Option Nat} {r:AV} {u:Value} (h:qU r=true) (hr:Rep w I α r u):Rep w' I' α' r u:=by
 cases r with
 |int k n=>cases hr;exact .int _ _
 |bool b=>cases hr;exact .bool _
 |str s=>cases hr with|str _ b hb=>exact .str s b hb
 |_=>cases h
theorem un {S:FuncId→List AV→Option AV} (hg:∀g l,G g=some l→af l=true) (hS:∀f args r,af args=true→S f args=some r→SemCall P G f args r):an P G (gc S)∧ao (gc S):=by
  refine ⟨?_, ?_⟩
  · intro f args rid H nx v H' nx' ft hc w I α vs hr ha hrid hlt hf
    unfold gc at hc
    split at hc
    · rename_i args' hfz
      split at hc
      · rename_i r hcl hsm
        split at hc
        · rename_i hsc
          simp only[Option.some.injEq,Prod.mk.injEq] at hc
          obtain ⟨rfl,rfl,rfl,rfl⟩:=hc
          have hcut:=eU hr (aB H 3 (aA args []))
          have h1:RepL w (br I α (aD H (aB H 3 (aA args []))) 0) α args' vs.toList:=(dn hcut 0 40).list hfz ha
          have h2:Rel G w (br I α (aD H (aB H 3 (aA args []))) 0) (fun _=>none) []:=
            { live:=fun id blk h=>by simp[hget] at h
              inj:=fun id id' b h=>absurd rfl h
              imm:=fun b hb=>by
                rcases hb with hb|⟨id,_,_,h3⟩
                · exact hcut.imm b hb
                · exact hcut.dom id b h3
              dom:=fun id b h=>by cases h
              glob:=fun g l hgl=>by
                obtain ⟨h1,h2⟩:=hcut.glob g l hgl
                refine ⟨.inl h1,fun j x hx=> ?_⟩
                obtain ⟨y,e1,e2⟩:=h2 j x hx
                exact ⟨y,e1,(rep_closed e2 (hQ (hg g l hgl) hx)).mono (fun _ h=> .inl h) (fun _ _ h=>h) (fun _ _ _=>rfl) (fun _ _ _=>rfl)⟩}
          have h3:=(hS f args' _ hcl hsm).out w _ (fun _=>none) [] rid nx vs h2 (dG h1 hcl) rfl hlt (fun _ _=>rfl)
          refine out_mono h3 fun u w' ⟨⟨I',α',ev,_,hv,_⟩,_⟩=> ?_
          have eo:Ev w I α H w' I α H:=
            { os:=ev.os
              I_mono:=fun _ h=>h
              α_mono:=fun _ _ h=>h
              size:=ev.size
              frame:=fun b hb _=>ev.frame b hb cA
              shape:=ev.shape
              Inew:=fun _ h=> .inl h
              own:=fun _ h=> .inr h}
          have hsame:∀b,b<w.heap.size→w'.heap[b]? =w.heap[b]? :=fun b hb=>ev.frame b hb cA
          refine ⟨⟨I,α,eo,⟨fun id blk h=> ?_,hr.inj,fun b hb=>Nat.lt_of_lt_of_le (hr.imm b hb) ev.size,fun id b hb=>Nat.lt_of_lt_of_le (hr.dom id b hb) ev.size,cU hr eo⟩,um hsc hv,fun id h=> .inl h⟩,Nat.le_refl _⟩
          obtain ⟨b,k1,k2,k3⟩:=hr.live id blk h
          exact ⟨b,k1,k2,k3.ev hr eo (hsame b (hr.dom id b k1))⟩
        · cases hc
      · cases hc
    · cases hc
  · intro f args id h nx v h' nx' ft hc
    unfold gc at hc
    split at hc
    · rename_i args' hfz
      split at hc
      · rename_i r hcl hsm
        split at hc
        · rename_i hsc
          simp only[Option.some.injEq,Prod.mk.injEq] at hc
          obtain ⟨rfl,rfl,rfl,rfl⟩:=hc
          refine .one rfl ⟨rfl,[],rfl,by simp,fun h2 nx2 hk=> ?_⟩
          have hk':∀i∈aB h 3 (aA args []),hget h2 i=hget h i:=fun i hi=>hk i (by simp[hi])
          have e1:=g8 3 (aA args []) hk'
          have e2:=eW (aB h 3 (aA args [])) hk'
          unfold gc
          rw[e1,e2]
          simp only[hfz,hcl,hsm,hsc]
          rfl
        · cases hc
      · cases hc
    · cases hc
 where
  out_mono {Q Q':Value→World→Prop} {m:Result Next} (h:bS P Q m) (hq:∀v w,Q v w→Q' v w):bS P Q' m:=by
    cases m with
    | ok n w=>
      cases n with
      |value v=>exact hq v w h
      |skip=>exact hq _ w h
      |enter f args=>exact Calls.mono h fun e w' ⟨v,h1,h2⟩=>⟨v,h1,hq v w' h2⟩
      |_=>exact h.elim
    |_=>exact h.elim
def bL (p:FuncId→Bool) (c1 c2:ah):ah:=fun f=>match p f with
 |true=>c1 f
 |false=>c2 f
theorem ix {p:FuncId→Bool} {c1 c2:ah} (h1:an P G c1∧ao c1) (h2:an P G c2∧ao c2):an P G (bL p c1 c2)∧ao (bL p c1 c2):=by
 refine ⟨?_, ?_⟩
 ·intro f args rid H nx v H' nx' ft hc
  cases hp:p f with
  |true=>
   have e:bL p c1 c2 f=c1 f:=by unfold bL;rw[hp]
   rw[e] at hc
   exact h1.1 f args rid H nx v H' nx' ft hc
  |false=>
   have e:bL p c1 c2 f=c2 f:=by unfold bL;rw[hp]
   rw[e] at hc
   exact h2.1 f args rid H nx v H' nx' ft hc
 ·intro f args id h nx v h' nx' ft hc
  cases hp:p f with
  |true=>
   have e:bL p c1 c2 f=c1 f:=by unfold bL;rw[hp]
   rw[e] at hc⊢
   exact h1.2 f args id h nx v h' nx' ft hc
  |false=>
   have e:bL p c1 c2 f=c2 f:=by unfold bL;rw[hp]
   rw[e] at hc⊢
   exact h2.2 f args id h nx v h' nx' ft hc
end
end Go.Proofs.Abs
/- The abstract machine, written so that the kernel runs it with less ado; it is the same machine. -/
namespace Go.Proofs.Abs
open Go
noncomputable section
def asInt (x:AV):Option (IntKind × Int):=AV.rec (motive_1:=fun _=>Option (IntKind × Int)) (motive_2:=fun _=>Unit) (fun _=>none) (fun k n=>some (k,n)) (fun _=>none) (fun _ _=>none) (none) (fun _ _ _=>none) (fun _ _=>none) (fun _ _ _=>none) (fun _ _ _ _ _=>none) (none) (none) (fun _=>none) (none) (fun _ _ _ _ _=>none) (none) (fun _ _ _=>none) (none) (fun _ _=>none) (fun _ _=>none) () (fun _ _ _ _=>()) x
def asBool (x:AV):Option Bool:=AV.rec (motive_1:=fun _=>Option Bool) (motive_2:=fun _=>Unit) (fun b=>some b) (fun _ _=>none) (fun _=>none) (fun _ _=>none) (none) (fun _ _ _=>none) (fun _ _=>none) (fun _ _ _=>none) (fun _ _ _ _ _=>none) (none) (none) (fun _=>none) (none) (fun _ _ _ _ _=>none) (none) (fun _ _ _=>none) (none) (fun _ _=>none) (fun _ _=>none) () (fun _ _ _ _=>()) x
inductive VP where
 |ptr (i o:Nat)
 |fptr (cs:List AV) (o:Nat)
 |gptr (g o:Nat)
 |oth
def jK (x:AV):VP:=AV.rec (motive_1:=fun _=>VP) (motive_2:=fun _=>Unit) (fun _=>VP.oth) (fun _ _=>VP.oth) (fun _=>VP.oth) (fun i o=>VP.ptr i o) (VP.oth) (fun cs o _=>VP.fptr cs o) (fun g o=>VP.gptr g o) (fun _ _ _=>VP.oth) (fun _ _ _ _ _=>VP.oth) (VP.oth) (VP.oth) (fun _=>VP.oth) (VP.oth) (fun _ _ _ _ _=>VP.oth) (VP.oth) (fun _ _ _=>VP.oth) (VP.oth) (fun _ _=>VP.oth) (fun _ _=>VP.oth) () (fun _ _ _ _=>()) x
def uo (x:AV):Option (List AV):=AV.rec (motive_1:=fun _=>Option (List AV)) (motive_2:=fun _=>Unit) (fun _=>none) (fun _ _=>none) (fun _=>none) (fun _ _=>none) (none) (fun _ _ _=>none) (fun _ _=>none) (fun _ _ _=>none) (fun _ _ _ _ _=>none) (none) (none) (fun _=>none) (none) (fun _ _ _ _ _=>none) (none) (fun _ _ _=>none) (none) (fun _ _=>none) (fun cs _=>some cs) () (fun _ _ _ _=>()) x
inductive VS where
 |fsl (f:Bool) (es:List AV)
 |rsl (w:Bool) (i o l z:Nat)
 |oth
def iy (x:AV):VS:=AV.rec (motive_1:=fun _=>VS) (motive_2:=fun _=>Unit) (fun _=>VS.oth) (fun _ _=>VS.oth) (fun _=>VS.oth) (fun _ _=>VS.oth) (VS.oth) (fun _ _ _=>VS.oth) (fun _ _=>VS.oth) (fun f es _=>VS.fsl f es) (fun w i o l z=>VS.rsl w i o l z) (VS.oth) (VS.oth) (fun _=>VS.oth) (VS.oth) (fun _ _ _ _ _=>VS.oth) (VS.oth) (fun _ _ _=>VS.oth) (VS.oth) (fun _ _=>VS.oth) (fun _ _=>VS.oth) () (fun _ _ _ _=>()) x
def jL (x:AV):List AV:=AV.rec (motive_1:=fun _=>List AV) (motive_2:=fun _=>Unit) (fun b=>[.bool b]) (fun k n=>[.int k n]) (fun s=>[.str s]) (fun i o=>[.ptr i o]) ([.nilp]) (fun cs o _=>[.fptr cs o]) (fun g o=>[.gptr g o]) (fun f es _=>[.fsl f es]) (fun w i o l z=>[.rsl w i o l z]) ([.nilsl]) ([.nesl]) (fun i=>[.map i]) ([.nilmap]) (fun fn a c _ _=>[.func fn a c]) ([.nilFunc]) (fun t v _=>[.iface t v]) ([.nilIface]) (fun cs _=>cs) (fun cs _=>[.tuple cs]) () (fun _ _ _ _=>()) x
def mu (x:AV):Bool:=AV.rec (motive_1:=fun _=>Bool) (motive_2:=fun _=>Unit) (fun _=>true) (fun _ _=>true) (fun _=>true) (fun _ _=>true) (true) (fun _ _ _=>true) (fun _ _=>true) (fun _ _ _=>true) (fun _ _ _ _ _=>true) (true) (true) (fun _=>true) (true) (fun _ _ _ _ _=>true) (true) (fun _ _ _=>true) (true) (fun _ _=>false) (fun _ _=>false) () (fun _ _ _ _=>()) x
def mv (l:List AV):Bool:=List.rec true (fun a _ ih=>mu a&&ih) l
theorem mw {x:AV} {p:IntKind × Int} (h:asInt x=some p):x= .int p.1 p.2:=by cases x<;>simp[asInt] at h<;>(subst h;rfl)
theorem uq:jL=AV.cells:=by funext x;cases x<;>rfl
theorem ur:mu=AV.one:=by funext x;cases x<;>rfl
theorem ut:mv=aV:=by
 funext l
 induction l with
 |nil=>rfl
 |cons a t ih=>show (mu a&&mv t)=_;rw[ih,ur];rfl
def qV:BinOp→IntKind→Int→Int→Option (Option AV)
 | .add=>fun k a b=>some (some (.int k (ai k (a+b))))
 | .sub=>fun k a b=>some (some (.int k (ai k (a-b))))
 | .mul=>fun k a b=>some (some (.int k (ai k (a*b))))
 | .eql=>fun _ a b=>some (some (.bool (bo a b)))
 | .neq=>fun _ a b=>some (some (.bool (!bo a b)))
 | .lss=>fun _ a b=>some (some (.bool (aW a b)))
 | .leq=>fun _ a b=>some (some (.bool (!aW b a)))
 | .gtr=>fun _ a b=>some (some (.bool (aW b a)))
 | .geq=>fun _ a b=>some (some (.bool (!aW a b)))
 |_=>fun _ _ _=>none
def uu (k k':IntKind):Bool:=decide (k=k')
section
variable (P:Program)
def my (op:BinOp) (t:TypeId) (xo yo:Operand) (x y:AV):Option AV:=
 match asInt x with
 | some p=>match asInt y with
  | some q=>match uu p.1 q.1 with
   |true=>match qV op p.1 p.2 q.2 with
    |some r=>r
    |none=>bd P op t xo yo x y
   |false=>bd P op t xo yo x y
  |none=>bd P op t xo yo x y
 |none=>bd P op t xo yo x y
theorem uv:my P=bd P:=by
 funext op t xo yo x y
 unfold my
 split
 ·rename_i p hx
  split
  ·rename_i q hy
   split
   ·rename_i hk
    have hk:p.1=q.1:=of_decide_eq_true hk
    split
    ·rename_i r hr
     rw[mw hx,mw hy]
     rw[←hk]
     unfold qV at hr
     split at hr<;>simp only[Option.some.injEq] at hr<;>first|(subst hr;simp[bd];done)|(cases hr;done)
    ·rfl
   ·rfl
  ·rfl
 ·rfl
def qW (t:TypeId) (glob:Nat→Option (List AV)) (a:AV):Option Eff:=
 match jK a with
 | .ptr id off=>some<| .read id fun
  | .cells l=>(bc P t l off).map .val
  |_=>none
 | .fptr cs off=>(bc P t cs off).map .val
 | .gptr g off=>match glob g with
  |some l=>(bc P t l off).map .val
  |none=>none
 | .oth=>none
theorem uw (t:TypeId) (glob:Nat→Option (List AV)) (a:AV):qW P t glob a=bZ P t a glob:=by cases a<;>rfl
def mz (t:TypeId) (a v:AV):Option Eff:=
 match jK a with
 | .ptr id off=>match aF P t with
  |some n=>match Nat.beq (ac (jL v)) n&&mv (jL v) with
   | true=>some<| .upd id fun
     | .cells l=>(splice l off (jL v)).map fun l'=>(.cells l',ci)
     |_=>none
   |false=>none
  |none=>none
 |_=>none
theorem ux (t:TypeId) (a v:AV):mz P t a v=er P t a v:=by
 unfold mz
 rw[uq,ut]
 cases a<;>first|rfl|skip
 rename_i id off
 show (match aF P t with
  |some n=>(match Nat.beq (ac v.cells) n&&aV v.cells with
   | true=>some<|Eff.upd id fun
     | .cells l=>(splice l off v.cells).map fun l'=>(Blk.cells l',ci)
     |_=>none
   |false=>none)
  |none=>none)=_
 unfold er
 simp only
 cases aF P t with
 |none=>rfl
 |some n=>
  simp only
  cases Nat.beq (ac v.cells) n&&aV v.cells<;>rfl
def qX (a:AV):Option AV:=match jK a with
 | .ptr i o=>some (.ptr i o)
 | .fptr c o=>some (.fptr c o)
 | .gptr g o=>some (.gptr g o)
 | .oth=>gn a
theorem uy (a:AV):qX a=gn a:=by cases a<;>rfl
def mA (t:TypeId) (x:AV) (f:Nat):Option AV:=
 match ew P t f with
 | some fd=>match aF P fd.type with
  |some (_+1)=>match jK x with
   | .ptr id off=>some (.ptr id (off+fd.offset))
   | .fptr cs off=>some (.fptr cs (off+fd.offset))
   | .gptr g off=>some (.gptr g (off+fd.offset))
   | .oth=>none
  |_=>none
 |none=>none
theorem uz (t:TypeId) (x:AV) (f:Nat):mA P t x f=gv P t x f:=by
 unfold mA gv
 cases ew P t f with
 |none=>rfl
 | some fd=>
  simp only
  cases aF P fd.type with
  |none=>rfl
  |some n=>
   cases n with
   |zero=>rfl
   |succ n=>cases x<;>rfl
def qY (a:AV):Option Nat:=match asInt a with
 |some p=>Int.rec (fun n=>some n) (fun _=>none) p.2
 |none=>none
theorem uA (a:AV):qY a=cq a:=by
 cases a<;>try rfl
 rename_i k n
 cases n<;>rfl
def mB (t:TypeId) (x i:AV):Option AV:=
 match bw P t,iy x,qY i with
 | some e,.rsl _ id off len sz',some i=>match aF P e with
  |some sz=>match Nat.blt i len&&Nat.beq sz sz' with
   |true=>some (.ptr id (off+i*sz))
   |false=>none
  |none=>none
 |_,_,_=>df P t x i
theorem uB (t:TypeId) (x i:AV):mB P t x i=df P t x i:=by
 unfold mB
 split
 ·rename_i e w id off len sz' k he hx hi
  rw[uA] at hi
  have hu:P.underlying t=some (.slice e):=by
   unfold bw at he
   split at he
   ·simp only[Option.some.injEq] at he;subst he;assumption
   ·cases he
  have hx:x= .rsl w id off len sz':=by cases x<;>simp[iy] at hx<;>simp[hx]
  subst hx
  simp only[df,hi,hu,Option.bind_eq_bind,Option.bind_some]
  split
  ·rename_i sz hs
   simp only[hs,Option.bind_some]
   split
   ·rename_i h;simp only[h,if_true]
   ·rename_i h;simp only[h,Bool.false_eq_true,if_false]
  ·rename_i hs
   simp only[hs,Option.bind_none]
 ·rfl
def qZ (v:Option AV) (i:Nat):Option Eff:=
 match v with
 |some a=>match uo a with
  |some vs=>aC (aU vs i)
  |none=>none
 |none=>none
def mC (s d:TypeId) (x:AV):Option Eff:=
 match asInt x with
 |some p=>match P.underlying s,P.underlying d with
  |some _,some (.int k)=>some (.val (.int k (ai k p.2)))
  |_,_=>dd P s d x
 |none=>dd P s d x
theorem uC (s d:TypeId) (x:AV):mC P s d x=dd P s d x:=by
 unfold mC
 split
 ·rename_i p hx
  split
  ·rename_i k h1 h2
   rw[mw hx]
   unfold dd
   simp only[h1,h2]
  ·rfl
 ·rfl
def mD (argTypes:Array TypeId) (x:AV):Option Eff:=
 match argTypes[0]?,iy x with
 |some t,.rsl _ _ _ n _=>match bw P t with
  |some _=>some (.val (.int .i64 (.ofNat n)))
  |none=>dA P argTypes x
 |some t,.fsl _ es=>match bw P t with
  |some _=>some (.val (.int .i64 (.ofNat (ac es))))
  |none=>dA P argTypes x
 |_,_=>dA P argTypes x
theorem uD (argTypes:Array TypeId) (x:AV):mD P argTypes x=dA P argTypes x:=by
 have he:∀ {t e},bw P t=some e→P.underlying t=some (.slice e):=fun {t e} he=>by
  unfold bw at he
  split at he
  ·simp only[Option.some.injEq] at he;subst he;assumption
  ·cases he
 unfold mD
 split
 ·rename_i t w i o n z ht hx
  split
  ·rename_i e h
   have hx:x= .rsl w i o n z:=by cases x<;>simp[iy] at hx<;>simp[hx]
   subst hx
   simp only[dA,ht,he h]
  ·rfl
 ·rename_i t f es ht hx
  split
  ·rename_i e h
   have hx:x= .fsl f es:=by cases x<;>simp[iy] at hx<;>simp[hx]
   subst hx
   simp only[dA,ht,he h]
  ·rfl
 ·rfl
def mE (glob:Nat→Option (List AV)) (ev:Operand→Option AV) (c:Call):Option Eff:=
 match c.callee with
 | .builtin .len=>match ct ev c.args.toList with
  |some [x]=>mD P c.argTypes x
  |_=>dh P glob ev c
 |_=>dh P glob ev c
theorem uE (glob:Nat→Option (List AV)) (ev:Operand→Option AV) (c:Call):mE P glob ev c=dh P glob ev c:=by
 unfold mE
 split
 ·rename_i hc
  split
  ·rename_i x hx
   simp only[dh,hx,hc,eD,uD]
  ·rfl
 ·rfl
end
def q0 (o:Op):Program→(Nat→Option (List AV))→(Operand→Option AV)→Option (Option Eff):=
 Op.rec (motive:=fun _=>Program→(Nat→Option (List AV))→(Operand→Option AV)→Option (Option Eff))
  (fun x _ _ ev=>some (aC (ev x))) (fun x _ _ ev=>some (aC (ev x))) (fun _ _ _ _ _ _=>none) (fun _ _ _ _=>none) (fun _ _ _ _ _=>none) (fun _ _ _ _ _=>none) (fun _ _ _ _ _ _=>none) (fun _ _ _ _ _ _ _=>none) (fun t a P glob ev=>some (e1 ev a fun a=>qW P t glob a)) (fun t a x P _ ev=>some (e2 ev a x (mz P t))) (fun _ _ _ _=>none) (fun _ _ _ _=>none) (fun x _ _ ev=>some (e1 ev x fun v=>aC (qX v))) (fun op t x y _ P _ ev=>some (e2 ev x y fun v w=>aC (my P op t x y v w))) (fun _ _ _ _ _ _=>none) (fun s d x P _ ev=>some (e1 ev x (mC P s d))) (fun _ _ _ _ _=>none) (fun _ _ _ _ _=>none) (fun _ _ _ _ _ _=>none) (fun _ _ _ _ _=>none) (fun _ _ _ _ _=>none) (fun _ _ _ _ _ _=>none) (fun _ _ _ _ _ _ _ _=>none) (fun t x f P _ ev=>some (e1 ev x fun v=>aC (mA P t v f))) (fun _ _ _ _ _ _=>none) (fun t x i P _ ev=>some (e2 ev x i fun v w=>aC (mB P t v w))) (fun _ _ _ _ _ _=>none) (fun _ _ _ _ _ _ _=>none) (fun _ _ _ _ _ _ _=>none) (fun _ _ _ _ _ _=>none) (fun _ _ _ _ _ _ _=>none) (fun _ _ _ _ _=>none) (fun _ _ _ _ _=>none) (fun _ _ _ _=>none) (fun _ _ _ _ _ _ _=>none) (fun t i _ _ ev=>some (qZ (ev t) i)) (fun c P glob ev=>some (mE P glob ev c)) (fun _ _ _ _=>none) (fun _ _ _ _=>none) (fun _ _ _ _=>none) (fun _ _ _ _ _=>none) (fun _ _ _ _ _ _=>none) (fun _ _ _ _ _=>none) o
def mF (P:Program) (glob:Nat→Option (List AV)) (ev:Operand→Option AV) (o:Oper):Option Eff:=match q0 o.op P glob ev with
 |some r=>r
 |none=>az P glob ev o
theorem uF (P:Program) (glob:Nat→Option (List AV)) (ev:Operand→Option AV) (o:Oper):mF P glob ev o=az P glob ev o:=by
  unfold mF
  split
  · rename_i r hr
    cases ho:o.op<;>rw[ho] at hr<;>simp only[q0,Option.some.injEq,reduceCtorEq] at hr<;>(subst hr;simp only[az,ho,uv,uw,uy,uz,uB,uE])<;>first
      |rfl
      | (unfold qZ iR;rename_i t i;cases ev t with
         |none=>rfl
         |some a=>cases a<;>rfl)
      |(congr 1;funext a b;exact ux P _ a b)
      |(congr 1;funext a;exact uC P _ _ a)
  · rfl
def uG (o:Op):Bool:=Op.rec (motive:=fun _=>Bool) (fun _=>false) (fun _=>false) (fun _ _ _=>false) (fun _=>false) (fun _ _=>false) (fun _ _=>false) (fun _ _ _=>true) (fun _ _ _ _=>false) (fun _ _=>false) (fun _ _ _=>false) (fun _=>false) (fun _=>false) (fun _=>false) (fun _ _ _ _ _=>false) (fun _ _ _=>false) (fun _ _ _=>false) (fun _ _=>false) (fun _ _=>false) (fun _ _ _=>false) (fun _ _=>false) (fun _ _=>false) (fun _ _ _=>false) (fun _ _ _ _ _=>false) (fun _ _ _=>false) (fun _ _ _=>false) (fun _ _ _=>false) (fun _ _ _=>false) (fun _ _ _ _=>false) (fun _ _ _ _=>false) (fun _ _ _=>false) (fun _ _ _ _=>false) (fun _ _=>false) (fun _ _=>false) (fun _=>false) (fun _ _ _ _=>false) (fun _ _=>false) (fun _=>false) (fun _=>false) (fun _=>false) (fun _=>false) (fun _ _=>false) (fun _ _ _=>false) (fun _ _=>false) o
def mG (P:Program) (glob:Nat→Option (List AV)) (ops:List Oper) (ev:Operand→Option AV) (o:Oper):Option Eff:=match uG o.op with
 |true=>aK P glob ops ev o
 |false=>mF P glob ev o
theorem uH (P:Program) (glob:Nat→Option (List AV)) (ops:List Oper) (ev:Operand→Option AV) (o:Oper):mG P glob ops ev o=aK P glob ops ev o:=by
 unfold mG
 split
 ·rfl
 ·rename_i h
  rw[uF,a6]
  cases ho:o.op<;>first|rfl|(rw[ho] at h;cases h)
def mH (e:Eff):Option AV:=match e with
 | .val v=>some v
 |_=>none
theorem uI {e:Eff} {v:AV} (h:mH e=some v):e= .val v:=by cases e<;>simp[mH] at h<;>(subst h;rfl)
def mI (call:ah) (id:Nat) (e:Eff) (h:aa) (nx:Nat):Option (AV × aa × Nat × Foot):=match mH e with
 |some v=>some (v,h,nx,⟨false,[],[]⟩)
 |none=>ak call id 2 e h nx
theorem uJ (call:ah) (id:Nat) (e:Eff) (h:aa) (nx:Nat):mI call id e h nx=ak call id 2 e h nx:=by
 unfold mI
 split
 ·rename_i v hv;rw[uI hv];rfl
 ·rfl
section
variable (P:Program) (glob:Nat→Option (List AV)) (call:ah)
def mJ (ops:List Oper) (id:Nat) (o:Oper) (s:St):Option (St × Foot):=
 match a0 ops o s.slots with
 | some true=>match mG P glob ops (ar s.slots) o with
  |some e=>match mI call id e s.heap s.nx with
   |some (v,h,nx,ft)=>some (⟨aL s.n s.slots o.dst v,h,nx,s.n⟩,ft)
   |none=>none
  |none=>none
 |some false=>some (⟨aL s.n s.slots o.dst ci,s.heap,s.nx,s.n⟩,⟨false,[],[]⟩)
 |none=>none
theorem uK (ops:List Oper) (id:Nat) (o:Oper) (s:St):mJ P glob call ops id o s=bh P glob call ops id o s:=by
 unfold mJ bh
 simp only[uH,uJ]
 rfl
def jM (all:List Oper) (base:Nat):List Oper→Nat→St→List (Nat × Foot)→Option (St × List (Nat × Foot))
 |[],_,s,acc=>some (s,acc)
 |o::rest,i,s,acc=>match mJ P glob call all (base+i) o s with
  |some (s',ft)=>jM all base rest (i+1) s' (match ft.none with|true=>acc|false=>(i,ft)::acc)
  |none=>none
theorem q5 (all:List Oper) (base:Nat):∀ (l:List Oper) (i:Nat) (s:St) (acc:List (Nat × Foot)),jM P glob call all base l i s acc=a8 P glob call all base l i s acc
 |[],_,_,_=>rfl
 |o::rest,i,s,acc=>by
  simp only[jM,a8,uK]
  split
  ·rename_i s' ft h;simp only[h];exact q5 all base rest (i+1) s' _
  ·rename_i h;simp only[h]
def uL (v:Option AV):Option Bool:=match v with
 |some a=>asBool a
 |none=>none
def cC (lf:Nat):Code→St→Option (AExit × St)
 | .skip,s| .label _,s=>some (.normal,s)
 | .region _ ops draw,s=>
  match jM P glob call ops.toList s.nx ops.toList 0 ⟨s.slots,s.heap,s.nx+ac ops.toList,s.n⟩ [] with
  | some (s',feet)=>match draw with
   |false=>some (.normal,s')
   |true=>match dB ops.toList&&di (bI ops.toList []) feet with
    |true=>some (.normal,s')
    |false=>none
  |none=>none
 | .seq a b,s=>match cC lf a s with
  |some (.normal,s')=>cC lf b s'
  |r=>r
 | .cond c a b,s=>match uL (ar s.slots c) with
  |some true=>cC lf a s
  |some false=>cC lf b s
  |_=>none
 | .block id body,s=>match cC lf body s with
  |some (.exit i,s')=>match Nat.beq i id with
   |true=>some (.normal,s')
   |false=>some (.exit i,s')
  |r=>r
 | .loop body,s=>fC (cC lf body) lf s
 | .exit id,s=>some (.exit id,s)
 | .ret,s=>some (.ret,s)
 |_,_=>none
theorem uM (lf:Nat) (c:Code):cC P glob call lf c=aR P glob call lf c:=by
 induction c with
 |region id ops draw=>funext s;simp only[cC,aR,q5];rfl
 |seq a b iha ihb=>funext s;simp only[cC,aR,iha,ihb];rfl
 | cond c a b iha ihb=>
  funext s
  simp only[cC,aR,iha,ihb]
  cases ar s.slots c with
  |none=>rfl
  |some v=>
   cases v<;>first|rfl|skip
   rename_i b;cases b<;>rfl
 |block id body ih=>funext s;simp only[cC,aR,ih];rfl
 |loop body ih=>funext s;simp only[cC,aR,ih]
 |_=>rfl
end
def bY (P:Program) (O:al) (call:ah) (f:FuncId) (args:List AV) (h:aa) (nx:Nat):Option (AV × aa × Nat):=
  match P.funcs[f]? with
  | some fn=>match fn.body with
    | some c=>match fn.name== "runtime.NumGoroutine" with
      |true=>none
      | false=>match Nat.ble (ac args) fn.ntmps&&Nat.ble fn.ntmps 4095 with
       |false=>none
       |true=>match cC P O.glob call O.lf c ⟨bE args 0 .tip,h,nx,fn.ntmps⟩ with
        | some (.normal,s)|some (.ret,s)=>match bx P O.glob s fn.results.toList with
          |some l=>some (bD l,s.heap,s.nx)
          |none=>none
        |_=>none
    |none=>none
  |none=>none
theorem q6 (P:Program) (O:al) (call:ah) (f:FuncId) (args:List AV) (h:aa) (nx:Nat):bY P O call f args h nx=bR P O call f args h nx:=by
 unfold bY bR
 simp only[uM]
 rfl
def q7 (P:Program) (O:al) (call:ah) (d:Nat) (f:FuncId) (args:List AV) (id:Nat) (h:aa) (nx:Nat):Option (AV × aa × Nat × Foot):=
 match bY P O call f args (aD h (aB h d (aA args []))) nx with
 |some (v,h1,_)=>match lookEnd (aB h d (aA args [])) id nx h v h1 with
  |some r=>some (b8 (aB h d (aA args [])) id nx h r)
  |none=>none
 |none=>none
def q8 (P:Program) (O:al) (call:ah) (d:Nat) (f:FuncId) (args:List AV) (h:aa) (nx:Nat):Option (AV × aa × Nat × Foot):=
  match bY P O call f args (aD h (aB h d (aA args []))) nx with
  |some (v,h1,nx')=>match Nat.ble nx nx' with
   |false=>none
   |true=>some (v,Mods.app (cT (ca h1 (aB h d (aA args []))) (bW nx h1 h1)) h,nx',⟨true,aB h d (aA args []),nx::aB h d (aA args [])⟩)
  |none=>none
def bv (P:Program) (O:al):Nat→ah
 |0,_,_,_,_,_=>none
 | n +1,f,args,id,h,nx=>
  match O.how f,af args with
  | .look d,_=>q7 P O (bv P O n) d f args id h nx
  | .each d,_=>eK P O (bv P O n) d f args id h nx
  | .clone,_=>dX P f args id h nx
  | .part d,_=>q8 P O (bv P O n) d f args h nx
  | .cmp,_=>dY P f args h nx
  | .known,_=>O.cx f args id h nx
  | .pure,true=>match O.summ f args with
   |some v=>some (v,h,nx,⟨false,[],[]⟩)
   | none=>match bY P O (bv P O n) f args [] 0 with
    | some (v,h',_)=>match aj 0 h' 40 v with
     |some v'=>match ad v' with
      |true=>some (v',h,nx,⟨false,[],[]⟩)
      |false=>none
     |none=>none
    |none=>none
  | .fresh,true=>match bY P O (bv P O n) f args [] 0 with
   |some (v,h',_)=>cH h' v id h nx
   |none=>none
  | .pure,false=>match bY P O (bv P O n) f args h nx with
   |some (v,h',nx')=>match aj nx h' 40 v with
    |some v'=>some (v',cu nx h',nx',⟨true,[],[]⟩)
    |none=>none
   |none=>none
  |_,_=>match bY P O (bv P O n) f args h nx with
   |some (v,h',nx')=>some (v,h',nx',⟨true,[],[]⟩)
   |none=>none
theorem mK (P:Program) (O:al):∀n,bv P O n=ap P O n
 |0=>rfl
 |n+1=>by
  funext f args id h nx
  simp only[bv,ap,mK P O n,q6,q7,q8,eJ,eL]
  rfl
theorem iz (P:Program) (O:al) (n:Nat) (f:FuncId) (args:List AV) (h:aa) (nx:Nat):bY P O (bv P O n) f args h nx=bR P O (ap P O n) f args h nx:=by
 rw[q6,mK]
end
theorem uN {P:Program} {O:al} {n:Nat} {f:FuncId} {w:World} (hm:P.follows .mixedOrders=true) (hsum:∀f args v,O.summ f args=some v→SemCall P O.glob f args v) (hcx:an P O.glob O.cx∧ao O.cx) (hg:O.glob=fun _=>none)
  (h:d8 (bY P O (bv P O n) f [] [] 1)=true):Calls P f #[] w fun e w'=>e= .returned (.bool true)∧RowKit.Below w.heap.size w w':=
 uk (n:=n) hm hsum hcx hg (by unfold lD;rw[←iz];exact h)
theorem uO {P:Program} {O:al} {n:Nat} {f:FuncId} (hm:P.follows .mixedOrders=true) (hsum:∀f args v,O.summ f args=some v→SemCall P O.glob f args v) (hcx:an P O.glob O.cx∧ao O.cx) (hg:∀g l,O.glob g=some l→af l=true)
  (h:d8 (bY P O (bv P O n) f [] [] 0)=true):SemCall P O.glob f [] (.bool true):=
 ul (n:=n) hm hsum hcx hg (by rw[←iz];exact h)
end Go.Proofs.Abs
/- Calls with closed arguments, run by themselves: what they answer, what blocks they make. -/
namespace Go.Proofs.Abs
open Go
noncomputable def bn (P:Program) (O:al) (n:Nat) (f:FuncId) (args:List AV) (r:AV):Bool:=match bY P O (bv P O n) f args [] 0 with
 |some (v,h,_)=>match aj 0 h 40 v with
  |some v'=>dj v' r&&ad r
  |none=>false
 |none=>false
def gd (h1:aa):aa→Bool
 |[]=>true
 |(i,some b)::t=>(match hget h1 i with
  |some c=>gM c b
  |none=>false)&&gd h1 t
 |(_,none)::_=>false
noncomputable def gf (P:Program) (O:al) (n:Nat) (f:FuncId) (args:List AV) (nx:Nat) (v:AV) (H2:aa) (m:Nat):Bool:=match bY P O (bv P O n) f args [] nx with
 |some (v',h1,nx')=>dj v' v&&(gd h1 H2&&Nat.beq nx' (nx+m))
 |none=>false
section
variable {P:Program} {O:al} {n:Nat} {f:FuncId} {args:List AV}
theorem cn {r:AV} (hm:P.follows .mixedOrders=true) (hsum:∀f args v,O.summ f args=some v→SemCall P O.glob f args v) (hcx:an P O.glob O.cx∧ao O.cx) (hg:∀g l,O.glob g=some l→af l=true)
  (hcl:af args=true) (h:bn P O n f args r=true):SemCall P O.glob f args r:=by
 unfold bn at h
 rw[iz] at h
 split at h
 ·rename_i v H1 m hr
  split at h
  ·rename_i v' hfz
   rw[Bool.and_eq_true] at h
   have e:=d5 _ _ h.1
   subst e
   obtain ⟨h1,h2⟩:=dH (P:=P) (O:=O) hm hsum hg hcx n
   refine ⟨fun w I α H rid nx vs r ha hrid hlt hf=> ?_⟩
   obtain ⟨e1,e2⟩:=dF (w:=w) (vs:=vs) hm h1 h2 hr (eV hg r) (dG ha hcl) (fun _ _=>rfl)
   rw[e1]
   refine Calls.mono e2 ?_
   rintro e w' ⟨u,rfl,hp⟩
   exact ⟨u,rfl,fN r hp hfz h.2⟩
  ·cases h
 ·cases h
theorem iA {h1:aa}:∀ {H2:aa},gd h1 H2=true→∀i b,hget H2 i=some b→hget h1 i=some b
 |[],_,i,b,hi=>by simp[hget] at hi
 | (j,some c)::t,h,i,b,hi=>by
  simp only[gd,Bool.and_eq_true] at h
  simp only[hget] at hi
  split at hi
  ·rename_i he
   have he:=beq_iff.1 he
   simp only[Option.some.injEq] at hi
   subst he;subst hi
   have h0:=h.1
   split at h0
   ·rename_i d hd
    rw[hd,lu h0]
   ·cases h0
  ·exact iA h.2 i b hi
 |(j,none)::t,h,_,_,_=>by simp[gd] at h
theorem jN {nx m:Nat} {v:AV} {H2:aa} (hm:P.follows .mixedOrders=true) (hsum:∀f args v,O.summ f args=some v→SemCall P O.glob f args v) (hcx:an P O.glob O.cx∧ao O.cx) (hg:∀g l,O.glob g=some l→af l=true)
  (h:gf P O n f args nx v H2 m=true):aH P O.glob f args [] nx v H2 (nx+m):=by
 unfold gf at h
 rw[iz] at h
 split at h
 ·rename_i v' H1 nx' hr
  simp only[Bool.and_eq_true] at h
  obtain ⟨k1,k2,k3⟩:=h
  have e:=d5 _ _ k1
  have e':=beq_iff.1 k3
  subst e;subst e'
  obtain ⟨h1,h2⟩:=dH (P:=P) (O:=O) hm hsum hg hcx n
  intro w I α vs r ha hf
  obtain ⟨e1,e2⟩:=dF (w:=w) (vs:=vs) hm h1 h2 hr r ha hf
  refine ⟨e1,e2.mono ?_⟩
  rintro e w' ⟨u,rfl,⟨⟨I',α',ev,rel,rep,hnew⟩,hle⟩⟩
  have hsub:∀i,hget H2 i≠none→hget H1 i≠none:=fun i hi=>by
   cases hb:hget H2 i with
   |none=>exact absurd hb hi
   |some b=>rw[iA k2 i b hb];simp
  refine ⟨u,rfl,⟨I',α',⟨ev.os,ev.I_mono,ev.α_mono,ev.size,ev.frame,ev.shape,ev.Inew,fun b ⟨i,q1,q2⟩=>ev.own b ⟨i,hsub i q1,q2⟩⟩, ?_,rep,hnew⟩,hle⟩
  exact
   {live:=fun i blk hi=>rel.live i blk (iA k2 i blk hi)
    inj:=fun i i' b q1 q2=>rel.inj i i' b (hsub i q1) (hsub i' q2)
    imm:=rel.imm
    dom:=rel.dom
    glob:=rel.glob}
 ·cases h
end
end Go.Proofs.Abs
/- A law whose answer is known: the call. -/
namespace Go.Proofs.Abs
open Go
theorem SemCall.calls {P:Program} {G:ag} {f:FuncId} {fn:Func} {c:Code} {args:List AV} {vs:Array Value} {w:World} (hfn:P.funcs[f]? =some fn) (hc:fn.body=some c) (hname:(fn.name== "runtime.NumGoroutine")=false)
  (h:SemCall P G f args (.bool true)) (hr:Rel G w (fun b=>b<w.heap.size) (fun _=>none) []) (ha:RepL w (fun b=>b<w.heap.size) (fun _=>none) args vs.toList):
  Calls P f vs w fun e w'=>e= .returned (.bool true)∧RowKit.Below w.heap.size w w':=by
 have e1:(callFunc f vs).run P w= .ok (.enter f vs) w:=by
  unfold callFunc
  simp only[Sem.run_bind,run_program,Result.andThen_ok,hfn,hname,hc,Bool.false_eq_true,if_false,Option.isNone_some,Sem.run_pure]
 have:=h.out w _ _ [] 0 1 vs hr ha rfl (by omega) (fun _ _=>rfl)
 rw[e1] at this
 refine Calls.mono this ?_
 rintro e w' ⟨v,rfl,⟨⟨I',α',ev,_,hv,_⟩,_⟩⟩
 cases hv
 exact ⟨rfl,ev.os.1,ev.os.2.1,ev.os.2.2,ev.size,fun k hk=>ev.frame k hk cA⟩
end Go.Proofs.Abs
/- A run in continuation form leads to one end: so calls may be followed where they stand. -/
namespace Go.Proofs.Abs
open Go
def fg (F:(AV→aa→Nat→Foot→Prop)→Prop):Prop:=∀K,F K→∃v h nx ft,K v h nx ft∧∀K',K' v h nx ft→F K'
def jO (F:(AV→aa→Nat→Prop)→Prop):Prop:=∀K,F K→∃v h nx,K v h nx∧∀K',K' v h nx→F K'
def mL (F:(Kn→St→Foot→Prop)→Prop):Prop:=∀K,F K→∃kn s ft,K kn s ft∧∀K',K' kn s ft→F K'
def uP (F:(St→List (Nat × Foot)→Prop)→Prop):Prop:=∀K,F K→∃s ft,K s ft∧∀K',K' s ft→F K'
def iB (F:(AExit→St→Prop)→Prop):Prop:=∀Q,F Q→∃e s,Q e s∧∀Q',Q' e s→F Q'
section
variable {P:Program} {O:al} {n:Nat} {A:bu}
theorem jP {id d:Nat} {e:Eff} {h:aa} {nx:Nat}:fg (cm P O n id d e h nx):=by
 intro K hk
 unfold cm at hk⊢
 split at hk
 ·rename_i v h' nx' ft hr
  refine ⟨v,h',nx',ft,hk,fun K' h=> ?_⟩
  exact h
 ·exact hk.elim
def du (A:bu):Prop:=∀f T,A.inl f=some T→∀args h nx,jO (T.run args h nx)
theorem uQ {f:FuncId} {args:List AV} {h:aa} {nx:Nat} (r:jx):fg (fun K=>f5 P O f args h nx K r):=by
 intro K hk
 cases r with
 |val v=>exact ⟨v,h,nx,_,hk.2,fun K' h=>⟨hk.1,h⟩⟩
 |part L v H2 m=>exact ⟨v,_,_,_,hk.2,fun K' h=>⟨hk.1,h⟩⟩
theorem uR {args:List AV} {h:aa} {nx:Nat} {T:ib} (hT:∀args h nx,jO (T.run args h nx)):fg (fun K=>ic args h nx K T):=by
 intro K hk
 obtain ⟨v,H2,nx2,h1,h2⟩:=hT _ _ _ _ hk
 obtain ⟨hle,h1⟩:=oblB_iff.1 h1
 exact ⟨v,_,_,_,h1,fun K' h=>h2 _ (oblB_iff.2 ⟨hle,h⟩)⟩
theorem q9 (hi:du A) {id d:Nat} {f:FuncId} {args:List AV} {h:aa} {nx:Nat}:fg (fun K=>match A.cx f args id h nx with
      |some (v,h',nx',ft)=>K v h' nx' ft
      | none=>match A.sem f args h nx with
       |some r=>f5 P O f args h nx K r
       | none=>match A.inl f with
        |some T=>ic args h nx K T
        |none=>match O.how f with
         | .pure=>match O.summ f args with
           |some v=>aS (af args) (K v h nx ⟨false,[],[]⟩)
           |none=>cm P O n id d (.call f args) h nx K
         |_=>cm P O n id d (.call f args) h nx K):=by
  intro K hk
  simp only at hk⊢
  split at hk
  · rename_i v h' nx' ft hc
    exact ⟨v,h',nx',ft,hk,fun K' h=>by first|(rw[hc];exact h)|exact h⟩
  · rename_i hc
    split at hk
    · rename_i r hr
      obtain ⟨v,h',nx',ft,h1,h2⟩:=uQ r K hk
      exact ⟨v,h',nx',ft,h1,fun K' h=>by first|exact h2 K' h|(rw[hc,hr];exact h2 K' h)⟩
    · rename_i hr
      split at hk
      · rename_i T hT
        obtain ⟨v,h',nx',ft,h1,h2⟩:=uR (hi f T hT) K hk
        exact ⟨v,h',nx',ft,h1,fun K' h=>by first|exact h2 K' h|(rw[hc,hr,hT];exact h2 K' h)⟩
      · rename_i hT
        split at hk
        · rename_i ho
          split at hk
          · rename_i v hs
            obtain ⟨hb,hk⟩:=oblB_iff.1 hk
            exact ⟨v,h,nx,_,hk,fun K' h=>by first|exact oblB_iff.2 ⟨hb,h⟩|(rw[hc,hr,hT,ho,hs];exact oblB_iff.2 ⟨hb,h⟩)⟩
          · rename_i hs
            obtain ⟨v,h',nx',ft,h1,h2⟩:=jP K hk
            exact ⟨v,h',nx',ft,h1,fun K' h=>by first|exact h2 K' h|(rw[hc,hr,hT,ho,hs];exact h2 K' h)⟩
        · obtain ⟨v,h',nx',ft,h1,h2⟩:=jP K hk
          exact ⟨v,h',nx',ft,h1,fun K' h=>h2 K' h⟩
theorem mM (hi:du A) {id:Nat}:∀ (d:Nat) (e:Eff) {h:aa} {nx:Nat},fg (cd P O n A id d e h nx):=by
 intro d
 induction d with
 | zero=>
  intro e h nx K hk
  unfold cd at hk
  split at hk
  ·obtain ⟨v,h',nx',ft,h1,h2⟩:=q9 hi K hk
   exact ⟨v,h',nx',ft,h1,fun K' h=>by unfold cd;exact h2 K' h⟩
  ·rename_i hne
   obtain ⟨v,h',nx',ft,h1,h2⟩:=jP K hk
   refine ⟨v,h',nx',ft,h1,fun K' h=> ?_⟩
   unfold cd
   split
   ·exact absurd rfl (hne _ _)
   ·exact h2 K' h
 | succ d ih=>
  intro e h nx K hk
  unfold cd at hk
  split at hk
  ·obtain ⟨v,h',nx',ft,h1,h2⟩:=q9 hi K hk
   exact ⟨v,h',nx',ft,h1,fun K' h=>by unfold cd;exact h2 K' h⟩
  ·rename_i i k
   split at hk
   ·rename_i b hb
    split at hk
    ·rename_i e' he
     obtain ⟨v,h',nx',ft,h1,h2⟩:=ih e' _ hk
     exact ⟨v,h',nx',_,h1,fun K' h=>by unfold cd;simp only[hb,he];exact h2 _ h⟩
    ·exact hk.elim
   ·exact hk.elim
  ·rename_i hne hnr
   obtain ⟨v,h',nx',ft,h1,h2⟩:=jP K hk
   refine ⟨v,h',nx',ft,h1,fun K' h=> ?_⟩
   unfold cd
   split
   ·exact absurd rfl (hne _ _)
   ·exact absurd rfl (hnr _ _)
   ·exact h2 K' h
theorem uS (hi:du A) {id:Nat} {h:aa} {nx:Nat} (oe:Option ES):fg (fun K=>ig P O n A id h nx K oe):=by
 intro K hk
 cases oe with
 |none=>exact hk.elim
 | some es=>cases es with
  |eff e=>exact mM hi 2 e K hk
  |obl b e=>
   obtain ⟨hb,hk⟩:=oblB_iff.1 hk
   obtain ⟨v,h',nx',ft,h1,h2⟩:=mM hi 2 e K hk
   exact ⟨v,h',nx',ft,h1,fun K' h=>oblB_iff.2 ⟨hb,h2 K' h⟩⟩
  | app b i k v=>
   obtain ⟨hb,hk⟩:=oblB_iff.1 hk
   split at hk
   ·rename_i l hl
    obtain ⟨hq,hk⟩:=oblB_iff.1 hk
    refine ⟨_,_,_,_,hk,fun K' h=>oblB_iff.2 ⟨hb, ?_⟩⟩
    simp only[hl]
    exact oblB_iff.2 ⟨hq,h⟩
   ·exact hk.elim
  | put b i k v=>
   obtain ⟨hb,hk⟩:=oblB_iff.1 hk
   split at hk
   ·rename_i l hl
    obtain ⟨hq,hk⟩:=oblB_iff.1 hk
    refine ⟨_,_,_,_,hk,fun K' h=>oblB_iff.2 ⟨hb, ?_⟩⟩
    simp only[hl]
    exact oblB_iff.2 ⟨hq,h⟩
   ·exact hk.elim
  | pick b x y=>
   cases b with
   |true=>cases x with
    |none=>exact hk.elim
    |some v=>exact ⟨v,h,nx,_,hk,fun K' h=>h⟩
   |false=>cases y with
    |none=>exact hk.elim
    |some v=>exact ⟨v,h,nx,_,hk,fun K' h=>h⟩
theorem uT (hi:du A) {ops:List Oper} {id:Nat} {o:Oper} {s:St} (a:bU):fg (fun K=>c8 P O n A ops id o s K a):=by
 intro K hk
 cases a with
 | plain=>
  simp only[c8] at hk⊢
  split at hk
  ·rename_i e he
   exact mM hi 2 e K hk
  ·exact hk.elim
 |ans a=>
  simp only[c8] at hk⊢
  split at hk
  ·exact ⟨_,_,_,_,hk.2,fun K' h=>⟨hk.1,h⟩⟩
  ·exact hk.elim
 | el v=>
  simp only[c8] at hk⊢
  split at hk
  ·split at hk
   ·split at hk
    ·split at hk
     ·obtain ⟨hg,hk⟩:=hk
      obtain ⟨hb,hk⟩:=oblB_iff.1 hk
      exact ⟨_,_,_,_,hk,fun K' h=>⟨hg,oblB_iff.2 ⟨hb,h⟩⟩⟩
     ·exact hk.elim
    ·exact hk.elim
   ·exact hk.elim
  ·exact hk.elim
 | ld v=>
  simp only[c8] at hk⊢
  split at hk
  ·split at hk
   ·split at hk
    ·exact ⟨_,_,_,_,hk.2,fun K' h=>⟨hk.1,h⟩⟩
    ·exact hk.elim
   ·exact ⟨_,_,_,_,hk.2,fun K' h=>⟨hk.1,h⟩⟩
   ·exact ⟨_,_,_,_,hk.2,fun K' h=>⟨hk.1,h⟩⟩
   ·exact hk.elim
  ·exact hk.elim
 |res r=>
  simp only[c8] at hk⊢
  split at hk
  ·exact ⟨_,_,_,_,hk.2,fun K' h=>⟨hk.1,h⟩⟩
  ·exact hk.elim
theorem iC (hi:du A) {rid:Nat} {ops:List Oper} {id i:Nat} {o:Oper} {s:St} {kn:Kn}:mL (c9 P O n A rid ops id i o s kn):=by
 intro K hk
 unfold c9 at hk
 split at hk
 ·rename_i a ha
  obtain ⟨v,h',nx',ft,h1,h2⟩:=uT hi a _ hk
  exact ⟨_,_,_,h1,fun K' h=>by unfold c9;simp only[ha];exact h2 _ h⟩
 ·rename_i ha
  obtain ⟨v,h',nx',ft,h1,h2⟩:=uS hi _ _ hk
  exact ⟨_,_,_,h1,fun K' h=>by unfold c9;simp only[ha];exact h2 _ h⟩
theorem iD {o:Oper} {s:St} {kn:Kn}:mL (e8 o s kn):=fun _K hk=>⟨_,_,_,hk,fun _ h=>h⟩
theorem uU (hi:du A) {rid:Nat} {ops:List Oper} {id i:Nat} {o:Oper} {s:St} {kn:Kn}:mL (ij P O n A rid ops id i o s kn):=by
 intro K hk
 unfold ij at hk⊢
 split at hk
 ·exact iC hi K hk
 ·split at hk
  ·split at hk
   ·split at hk
    ·split at hk
     ·split at hk
      ·exact iC hi K hk
      ·exact iD K hk
     ·split at hk
      ·exact iD K hk
      ·exact iC hi K hk
    ·split at hk
     ·split at hk
      ·split at hk
       ·exact iC hi K hk
       ·exact iD K hk
      ·split at hk
       ·exact iD K hk
       ·exact iC hi K hk
     ·exact iD K hk
     ·exact hk.elim
   ·exact hk.elim
  ·exact hk.elim
theorem rc (hi:du A) {rid:Nat} {all:List Oper} {base:Nat}:∀ (rest:List Oper) (i:Nat) (s:St) (kn:Kn) (acc:List (Nat × Foot)),uP (il P O n A rid all base rest i s kn acc)
 |[],_,_,_,_=>fun _ hk=>⟨_,_,hk,fun _ h=>h⟩
 |o::rest,i,s,kn,acc=>fun K hk=>by
  obtain ⟨kn',s',ft,h1,h2⟩:=uU hi _ hk
  obtain ⟨s2,ft2,h3,h4⟩:=rc hi rest (i+1) s' kn' _ _ h1
  exact ⟨s2,ft2,h3,fun K' h=>h2 _ (h4 K' h)⟩
theorem re {B:St→(AExit→St→Prop)→Prop} (hB:∀s,iB (B s)):∀ (k:Nat) (s:St),iB (jz B k s)
 |0,_=>fun _ hk=>hk.elim
 | k+1,s=>fun Q hk=>by
  obtain ⟨e,s',h1,h2⟩:=hB s _ hk
  cases e with
  |normal=>
   obtain ⟨e,s2,h3,h4⟩:=re hB k s' Q h1
   exact ⟨e,s2,h3,fun Q' h=>h2 _ (h4 Q' h)⟩
  |exit i=>exact ⟨_,_,h1,fun Q' h=>h2 _ h⟩
  |ret=>exact ⟨_,_,h1,fun Q' h=>h2 _ h⟩
theorem uV (hi:du A) (hcut:A.cut=dq) (hls:∀r L,A.ls r=some L→∀s,iB (L s)):∀ (c:Code) (s:St),iB (bg P O n A c s):=by
 intro c
 induction c with
 |skip=>exact fun s Q hk=>⟨_,_,hk,fun _ h=>h⟩
 |label l=>exact fun s Q hk=>⟨_,_,hk,fun _ h=>h⟩
 |exit i=>exact fun s Q hk=>⟨_,_,hk,fun _ h=>h⟩
 |ret=>exact fun s Q hk=>⟨_,_,hk,fun _ h=>h⟩
 | region rid ops draw=>
  intro s Q hk
  simp only[bg,hcut,dq,im] at hk⊢
  obtain ⟨s',ft,h1,h2⟩:=rc hi _ _ _ _ _ _ hk
  cases draw with
  |false=>exact ⟨_,_,h1,fun Q' h=>h2 _ h⟩
  |true=>
   obtain ⟨hb,h1⟩:=oblB_iff.1 h1
   exact ⟨_,_,h1,fun Q' h=>h2 _ (oblB_iff.2 ⟨hb,h⟩)⟩
 | seq a b iha ihb=>
  intro s Q hk
  simp only[bg] at hk⊢
  obtain ⟨e,s',h1,h2⟩:=iha s _ hk
  cases e with
  |normal=>
   obtain ⟨e,s2,h3,h4⟩:=ihb s' Q h1
   exact ⟨e,s2,h3,fun Q' h=>h2 _ (h4 Q' h)⟩
  |exit i=>exact ⟨_,_,h1,fun Q' h=>h2 _ h⟩
  |ret=>exact ⟨_,_,h1,fun Q' h=>h2 _ h⟩
 | cond c a b iha ihb=>
  intro s Q hk
  simp only[bg] at hk⊢
  split at hk
  ·split at hk
   ·exact iha _ Q hk
   ·exact ihb _ Q hk
  ·exact hk.elim
 | block id body ih=>
  intro s Q hk
  simp only[bg] at hk⊢
  obtain ⟨e,s',h1,h2⟩:=ih s _ hk
  cases e with
  |normal=>exact ⟨_,_,h1,fun Q' h=>h2 _ h⟩
  |ret=>exact ⟨_,_,h1,fun Q' h=>h2 _ h⟩
  | exit i=>
   simp only[fX] at h1
   split at h1
   ·rename_i hb
    exact ⟨_,_,h1,fun Q' h=>h2 _ (by simp only[fX,hb];exact h)⟩
   ·rename_i hb
    exact ⟨_,_,h1,fun Q' h=>h2 _ (by simp only[fX,hb];exact h)⟩
 | loop body ih=>
  intro s Q hk
  simp only[bg] at hk⊢
  split at hk
  ·rename_i L hL
   exact hls _ L hL s Q hk
  ·exact re ih _ s Q hk
 |_=>exact fun s Q hk=>hk.elim
theorem rf (hi:du A) (hcut:A.cut=dq) (hls:∀r L,A.ls r=some L→∀s,iB (L s)) {f:FuncId} {args:List AV} {H:aa} {nx:Nat}:jO (aZ P O n A f args H nx):=by
 intro K hk
 unfold aZ at hk
 split at hk
 ·rename_i fn hfn
  split at hk
  ·rename_i c hc
   split at hk
   ·exact hk.elim
   ·rename_i hname
    split at hk
    ·exact hk.elim
    ·rename_i hsz
     obtain ⟨e,s,h1,h2⟩:=uV hi hcut hls c _ _ hk
     have fin:∀ {e:AExit},(∀i,e≠ .exit i)→(match e with
       | .exit _=>False
       |_=>match bx P O.glob s fn.results.toList with
        |some l=>K (bD l) s.heap s.nx
        |none=>False)→∃l,bx P O.glob s fn.results.toList=some l∧K (bD l) s.heap s.nx:=fun {e} hne h=>by
      split at h
      ·exact h.elim
      ·split at h
       ·rename_i l hl
        exact ⟨l,hl,h⟩
       ·exact h.elim
     have back:∀ {l:List AV},bx P O.glob s fn.results.toList=some l→(∀i,e≠ .exit i)→∀K':AV→aa→Nat→Prop,K' (bD l) s.heap s.nx→aZ P O n A f args H nx K':=fun {l} hl hne K' h=>by
      unfold aZ
      simp only[hfn,hc,hname,hsz]
      refine h2 _ ?_
      split
      ·exact absurd rfl (hne _)
      ·simp only[hl];exact h
     cases e with
     |exit i=>exact h1.elim
     |normal=>
      obtain ⟨l,hl,hK⟩:=fin (e:= .normal) (fun _ h=>by cases h) h1
      exact ⟨_,_,_,hK,fun K' h=>back hl (fun _ h=>by cases h) K' h⟩
     |ret=>
      obtain ⟨l,hl,hK⟩:=fin (e:= .ret) (fun _ h=>by cases h) h1
      exact ⟨_,_,_,hK,fun K' h=>back hl (fun _ h=>by cases h) K' h⟩
  ·exact hk.elim
 ·exact hk.elim
theorem uW (B:bt P O n) (hA:bK P O A) (hi:du A) (hcut:A.cut=dq) (hls:A.ls=fun _=>none) {f:FuncId} {args:List AV} {h:aa} {nx:Nat} {K:AV→aa→Nat→Prop} (hk:aZ P O n A f args h nx K):
  ∃v h' nx',K v h' nx'∧aH P O.glob f args h nx v h' nx':=by
 obtain ⟨v,h',nx',h1,h2⟩:=rf hi hcut (fun r L hL=>by rw[hls] at hL;cases hL) K hk
 exact ⟨v,h',nx',h1,qE B hA (qD fun r=>by rw[hls]) (h2 _ ⟨rfl,rfl,rfl⟩)⟩
end
noncomputable def ei (P:Program) (O:al) (n:Nat) (sem:ef) (isI:FuncId→Option (List AV→aa→List Nat)):Nat→FuncId→Option ib
 |0=>fun _=>none
 |d+1=>fun f=>match isI f with
  |some see=>some ⟨see,aZ P O n ⟨fun _ _=>none,fun _=>none,iw,sem,ei P O n sem isI d,dq⟩ f⟩
  |none=>none
section
variable {P:Program} {O:al} {n:Nat} {sem:ef} {isI:FuncId→Option (List AV→aa→List Nat)}
theorem rg:∀ (d:Nat) f T,ei P O n sem isI d f=some T→∀args h nx,jO (T.run args h nx)
 |0,_,_,h=>by cases h
 | d+1,f,T,h=>by
  simp only[ei] at h
  split at h
  ·simp only[Option.some.injEq] at h
   subst h
   exact fun args h nx=>rf (A:=⟨fun _ _=>none,fun _=>none,iw,sem,ei P O n sem isI d,dq⟩) (fun f T hT=>rg d f T hT) rfl (fun r L hL=>by cases hL)
  ·cases h
theorem rh (B:bt P O n) (hsum:∀f args v,O.summ f args=some v→SemCall P O.glob f args v):∀ (d:Nat) f T,ei P O n sem isI d f=some T→∀args h nx K,T.run args h nx K→∃v h' nx',K v h' nx'∧aH P O.glob f args h nx v h' nx'
 |0,_,_,h=>by cases h
 | d+1,f,T,h=>by
  simp only[ei] at h
  split at h
  ·simp only[Option.some.injEq] at h
   subst h
   exact fun args h nx K hk=>uW B (A:=⟨fun _ _=>none,fun _=>none,iw,sem,ei P O n sem isI d,dq⟩) ⟨l7,hsum,fun f T hT=>rh B hsum d f T hT,fun _ _ h=>(by cases h)⟩ (fun f T hT=>rg d f T hT) rfl rfl hk
  ·cases h
end
def uX:List AV→aa→List Nat:=fun _ h=>h.map (·.1)
def uY:List AV→aa→List Nat:=fun _ _=>[]
def uZ:List FuncId→List FuncId→FuncId→Option (List AV→aa→List Nat):=fun pure all f=>match a7 pure f with
 |true=>some uY
 |false=>match a7 all f with
  |true=>some uX
  |false=>none
noncomputable def ri (P:Program) (O:al) (n:Nat) (hint:Nat→Nat→Option bU) (ls:Nat→Option bJ) (sem:ef) (isI:FuncId→Option (List AV→aa→List Nat)):bu:=⟨hint,ls,iw,sem,ei P O n sem isI 8,dq⟩
theorem u0 {P:Program} {O:al} {n:Nat} {hint:Nat→Nat→Option bU} {ls:Nat→Option bJ} {sem:ef} {isI:FuncId→Option (List AV→aa→List Nat)} (B:bt P O n) (h:∀f args v,O.summ f args=some v→SemCall P O.glob f args v):bK P O (ri P O n hint ls sem isI):=
 ⟨l7,h,fun f T hT=>rh B h 8 f T hT,fun _ _ h=>(by cases h)⟩
end Go.Proofs.Abs
/- What calls answer, by their numbers; values that say less; items as trees. -/
namespace Go.Proofs.Abs
open Go
noncomputable section
structure Wk (v v':AV):Prop where
 out:∀w I α x,Rep w I α v x→Rep w I α v' x
structure WkL (l l':List AV):Prop where
 out:∀w I α x,RepL w I α l x→RepL w I α l' x
 len:l.length=l'.length
 at_:∀ (i:Nat) x y,l[i]? =some x→l'[i]? =some y→Wk x y
theorem Wk.refl (v:AV):Wk v v:=⟨fun _ _ _ _ h=>h⟩
theorem Wk.trans {u v w:AV} (h:Wk u v) (h':Wk v w):Wk u w:=⟨fun _ _ _ _ r=>h'.out _ _ _ _ (h.out _ _ _ _ r)⟩
theorem WkL.nil:WkL [] []:=⟨fun _ _ _ _ h=>h,rfl,by simp⟩
theorem WkL.refl (l:List AV):WkL l l:=⟨fun _ _ _ _ h=>h,rfl,fun i x y h1 h2=>by rw[h1] at h2;cases h2;exact .refl x⟩
theorem WkL.cons {a b:AV} {t u:List AV} (h:Wk a b) (ht:WkL t u):WkL (a::t) (b::u):=
 ⟨fun w I α x r=>by
  obtain ⟨y,v',rfl,h1,h2⟩:=RepL.cons_inv r
  exact .cons (h.out _ _ _ _ h1) (ht.out _ _ _ _ h2),by simp[ht.len],fun i x y h1 h2=>by
  cases i with
  |zero=>simp at h1 h2;subst h1;subst h2;exact h
  |succ i=>simp at h1 h2;exact ht.at_ i x y h1 h2⟩
theorem WkL.append {a b c d:List AV} (h:WkL a b) (h':WkL c d):WkL (a++c) (b++d):=by
 have hl:=h.len
 have hl':=h'.len
 refine ⟨fun w I α x r=>⟨by have:=r.1;simp only[List.length_append] at this⊢;omega,fun i p q e1 e2=> ?_⟩,by simp only[List.length_append];omega,fun i p q e1 e2=> ?_⟩
 ·have hi:i<(a++c).length:=by
   have:i<(b++d).length:=by
    rcases Nat.lt_or_ge i (b++d).length with h|h
    ·exact h
    ·rw[List.getElem?_eq_none h] at e1;cases e1
   simp only[List.length_append] at this⊢;omega
  have r':=r.2 i _ q (List.getElem?_eq_getElem hi) e2
  have key:Wk ((a++c)[i]) p:=by
   have e3:=List.getElem?_eq_getElem hi
   by_cases hlt:i<a.length
   ·rw[List.getElem?_append_left hlt] at e3
    rw[List.getElem?_append_left (by omega)] at e1
    exact h.at_ i _ _ e3 e1
   ·rw[List.getElem?_append_right (by omega)] at e3 e1
    rw[hl] at e3
    exact h'.at_ _ _ _ e3 e1
  exact key.out _ _ _ _ r'
 ·by_cases hlt:i<a.length
  ·rw[List.getElem?_append_left hlt] at e1
   rw[List.getElem?_append_left (by omega)] at e2
   exact h.at_ i _ _ e1 e2
  ·rw[List.getElem?_append_right (by omega)] at e1 e2
   rw[hl] at e1
   exact h'.at_ _ _ _ e1 e2
theorem Wk.nil {f:Bool}:Wk .nilsl (.fsl f []):=⟨fun w I α x h=>by
 cases h
 exact .fsl f [] none 0 0 0 0 0 (fun _ _=>undef) rfl (Nat.le_refl _) (fun _=>rfl) (.inr ⟨rfl,rfl⟩) (fun h=>absurd rfl h) (by simp) (by simp) (by simp)⟩
theorem Wk.full {l:List AV}:Wk (.fsl true l) (.fsl false l):=⟨fun w I α x h=>by
 cases h with
 |fsl _ _ a len cap sz b base g hl hc hf ha hI hs hg hr=>
  exact .fsl false l a len cap sz b base g hl hc (fun h=>by cases h) ha hI hs hg hr⟩
theorem Wk.row {f:Bool} {l:List AV}:Wk (.fsl f l) (.fsl false l):=by
 cases f with
 |true=>exact .full
 |false=>exact .refl _
theorem Wk.els {l l':List AV} (hlen:l.length=l'.length) (h:∀ (i:Nat) (x y:AV),l[i]? =some x→l'[i]? =some y→WkL x.cells y.cells):Wk (.fsl false l) (.fsl false l'):=⟨fun w I α x hx=>by
 have get:∀ (i:Nat) (y:AV),l'[i]? =some y→∃x:AV,l[i]? =some x∧WkL x.cells y.cells:=fun i y hy=>by
  have hi:i<l.length:=by
   rw[hlen]
   rcases Nat.lt_or_ge i l'.length with h|h
   ·exact h
   ·rw[List.getElem?_eq_none h] at hy;cases hy
  exact ⟨_,List.getElem?_eq_getElem hi,h i _ _ (List.getElem?_eq_getElem hi) hy⟩
 cases hx with
 | fsl _ _ a len cap sz b base g hl hc hf ha hI hs hg hr=>
  have cell:∀ (i:Nat) (e:AV) (j:Nat) (c:AV),l'[i]? =some e→e.cells[j]? =some c→∃ (e0 c0:AV),l[i]? =some e0∧e0.cells[j]? =some c0∧Wk c0 c:=fun i e j c h1 h2=>by
   obtain ⟨e0,k1,k2⟩:=get i e h1
   have hj:j<e0.cells.length:=by
    rw[k2.len]
    rcases Nat.lt_or_ge j e.cells.length with h|h
    ·exact h
    ·rw[List.getElem?_eq_none h] at h2;cases h2
   exact ⟨e0,_,k1,List.getElem?_eq_getElem hj,k2.at_ j _ _ (List.getElem?_eq_getElem hj) h2⟩
  refine .fsl false l' a len cap sz b base g (by omega) hc (fun h=>by cases h) ?_ (fun hne=>hI fun h0=>hne ?_) (fun e he=> ?_) (fun i e j c h1 h2=> ?_) (fun i e j c h1 h2=> ?_)
  ·exact ha
  ·subst h0;exact List.eq_nil_of_length_eq_zero hlen.symm
  ·obtain ⟨i,hi⟩:=List.getElem?_of_mem he
   obtain ⟨e0,k1,k2⟩:=get i e hi
   rw[←k2.len]
   exact hs e0 (List.mem_of_getElem? k1)
  ·obtain ⟨e0,c0,k1,k2,_⟩:=cell i e j c h1 h2
   exact hg i e0 j c0 k1 k2
  ·obtain ⟨e0,c0,k1,k2,k3⟩:=cell i e j c h1 h2
   exact k3.out _ _ _ _ (hr i e0 j c0 k1 k2)⟩
structure WkE (l l':List AV):Prop where
 len:l.length=l'.length
 at_:∀ (i:Nat) (x y:AV),l[i]? =some x→l'[i]? =some y→WkL x.cells y.cells
theorem WkE.nil:WkE [] []:=⟨rfl,by simp⟩
theorem WkE.refl (l:List AV):WkE l l:=⟨rfl,fun i x y h1 h2=>by rw[h1] at h2;cases h2;exact .refl _⟩
theorem WkE.cons {x y:AV} {l l':List AV} (h:WkL x.cells y.cells) (t:WkE l l'):WkE (x::l) (y::l'):=
 ⟨by simp[t.len],fun i x' y' h1 h2=>by
  cases i with
  |zero=>simp at h1 h2;subst h1;subst h2;exact h
  |succ i=>simp at h1 h2;exact t.at_ i x' y' h1 h2⟩
theorem WkE.map {α:Type} {f g:α→AV} {l:List α} (h:∀x∈l,WkL (f x).cells (g x).cells):WkE (l.map f) (l.map g):=
 ⟨by simp,fun i x y h1 h2=>by
  rw[List.getElem?_map,Option.map_eq_some_iff] at h1 h2
  obtain ⟨a,ha,rfl⟩:=h1
  obtain ⟨b,hb,rfl⟩:=h2
  rw[ha] at hb;cases hb
  exact h a (List.mem_of_getElem? ha)⟩
theorem Wk.rows {f:Bool} {l l':List AV} (h:WkE l l'):Wk (.fsl f l) (.fsl false l'):=Wk.row.trans (.els h.len h.at_)
theorem Wk.agg {l l':List AV} (h:WkL l l'):Wk (.agg l) (.agg l'):=⟨fun w I α x r=>by
 obtain ⟨a',rfl,h1⟩:=Rep.agg_iff.1 r
 exact Rep.agg_iff.2 ⟨a',rfl,h.out _ _ _ _ h1⟩⟩
theorem Wk.tuple {l l':List AV} (h:WkL l l'):Wk (.tuple l) (.tuple l'):=⟨fun w I α x r=>by
 obtain ⟨a',rfl,h1⟩:=Rep.tuple_iff.1 r
 exact Rep.tuple_iff.2 ⟨a',rfl,h.out _ _ _ _ h1⟩⟩
theorem Wk.iface {t:TypeId} {v v':AV} (h:Wk v v'):Wk (.iface t v) (.iface t v'):=⟨fun w I α x r=>by
 cases r with
 |iface _ _ v'' hv=>exact .iface t _ _ (h.out _ _ _ _ hv)⟩
theorem Wk.func {fn:Fn} {a c a' c':List AV} (h1:WkL a a') (h2:WkL c c'):Wk (.func fn a c) (.func fn a' c'):=⟨fun w I α x r=>by
 obtain ⟨u,v,rfl,k1,k2⟩:=Rep.func_iff.1 r
 exact Rep.func_iff.2 ⟨u,v,rfl,h1.out _ _ _ _ k1,h2.out _ _ _ _ k2⟩⟩
theorem Wk.fptr {l l':List AV} {o:Nat} (h:WkL l l'):Wk (.fptr l o) (.fptr l' o):=⟨fun w I α x r=>by
 cases r with
 | fptr _ _ b base g hI hg hr=>
  have cell:∀ (j:Nat) (c:AV),l'[j]? =some c→∃c0:AV,l[j]? =some c0∧Wk c0 c:=fun j c h2=>by
   have hj:j<l.length:=by
    rw[h.len]
    rcases Nat.lt_or_ge j l'.length with h|h
    ·exact h
    ·rw[List.getElem?_eq_none h] at h2;cases h2
   exact ⟨_,List.getElem?_eq_getElem hj,h.at_ j _ _ (List.getElem?_eq_getElem hj) h2⟩
  refine .fptr l' o b base g hI (fun j c hc=> ?_) (fun j c hc=> ?_)
  ·obtain ⟨c0,k1,_⟩:=cell j c hc
   exact hg j c0 k1
  ·obtain ⟨c0,k1,k2⟩:=cell j c hc
   exact k2.out _ _ _ _ (hr j c0 k1)⟩
theorem u1 {f:Bool} {w:World} {I:Nat→Prop} {α:Nat→Option Nat} {x:Value} (h:Rep w I α (.fsl f []) x):Rep w I α .nilsl x∨Rep w I α .nesl x:=by
 cases h with
 |fsl _ _ a len cap sz b base g hl hc hf ha hI hs hg hr=>
  obtain rfl:len=0:=by simpa using hl.symm
  rcases ha with rfl|⟨rfl,rfl⟩
  ·exact .inr (.nesl _ _)
  ·exact .inl .nilsl
section
variable {P:Program} {G:ag} {f:FuncId} {args args':List AV} {v v':AV}
theorem SemCall.wkA (h:SemCall P G f args' v) (hw:WkL args args'):SemCall P G f args v:=
 ⟨fun w I α H rid nx vs r hr=>h.out w I α H rid nx vs r (hw.out _ _ _ _ hr)⟩
theorem u3 {Q Q':Value→World→Prop} {r:Result Next} (h:bS P Q r) (hq:∀v w,Q v w→Q' v w):bS P Q' r:=by
 unfold bS at h⊢
 split at h
 ·exact hq _ _ h
 ·exact hq _ _ h
 ·exact Calls.mono h fun e w' ⟨v,h1,h2⟩=>⟨v,h1,hq _ _ h2⟩
 ·exact h
theorem SemCall.wk (h:SemCall P G f args' v) (ha:WkL args args') (hv:Wk v v'):SemCall P G f args v':=
 ⟨fun w I α H rid nx vs r hr h1 h2 h3=>u3 (h.out w I α H rid nx vs r (ha.out _ _ _ _ hr) h1 h2 h3) fun _ _ ⟨⟨I',α',q1,q2,q3,q4⟩,hle⟩=>⟨⟨I',α',q1,q2,hv.out _ _ _ _ q3,q4⟩,hle⟩⟩
theorem SemCall.res (h:SemCall P G f args v) (hv:Wk v v'):SemCall P G f args v':=h.wk (.refl _) hv
theorem SemCall.empty (h1:SemCall P G f [.nilsl] v) (h2:SemCall P G f [.nesl] v):SemCall P G f [.fsl false []] v:=
 ⟨fun w I α H rid nx vs r hr k1 k2 k3=>by
  obtain ⟨y,v',e,hy,ht⟩:=RepL.cons_inv hr
  have:RepL w I α [.nilsl] vs.toList∨RepL w I α [.nesl] vs.toList:=by
   rw[e]
   rcases u1 hy with h|h
   ·exact .inl (.cons h ht)
   ·exact .inr (.cons h ht)
  rcases this with h|h
  ·exact h1.out w I α H rid nx vs r h k1 k2 k3
  ·exact h2.out w I α H rid nx vs r h k1 k2 k3⟩
end
inductive It where
 |mk (tag ty n:Int) (data:List UInt8) (kids:List It)
@[simp] theorem yH {k:IntKind} {n:Int}:(AV.int k n).one=true:=rfl
@[simp] theorem yI {s:List UInt8}:(AV.str s).one=true:=rfl
@[simp] theorem yJ {b:Bool}:(AV.bool b).one=true:=rfl
@[simp] theorem yK {f:Bool} {l:List AV}:(AV.fsl f l).one=true:=rfl
end
end Go.Proofs.Abs
/- Loops, round by round; what hints ask. -/
namespace Go.Proofs.Abs
open Go
section
variable {P:Program} {G:ag} {nx0:Nat} {s s2:St} {Q:AExit→St→Prop} {body:Code}
structure ALp (P:Program) (G:ag) (nx0:Nat) (body:Code) (s:St) (Q:AExit→St→Prop):Prop where
 out:∃k,ARnd P G nx0 body Q k s
theorem ALp.loop (h:ALp P G nx0 body s Q):AWp P G nx0 (.loop body) s Q:=by
 obtain ⟨k,h⟩:=h
 exact .loop k h
theorem ARnd.says (hs:Says2 G nx0 s s2):∀ {k:Nat},ARnd P G nx0 body Q k s2→ARnd P G nx0 body Q k s
 |0,h=>h
 |_+1,h=>AWp.says hs h
theorem ALp.says (hs:Says2 G nx0 s s2) (h:ALp P G nx0 body s2 Q):ALp P G nx0 body s Q:=by
 obtain ⟨k,h⟩:=h
 exact ⟨k,h.says hs⟩
end
def rj (nx0:Nat) (lk:List (Nat × Nat)) (V:View) (N:Prop) (lk':List (Nat × Nat)) (F:View) (Q:AExit→St→Prop):AExit→St→Prop:=fun e s=>match e with
 | .normal=>dt nx0 lk V s∧N
 |e=>dt nx0 lk' F s∧Q e F.st
theorem ALp.round {P:Program} {O:al} {n:Nat} {nx0:Nat} {Q:AExit→St→Prop} {body:Code} {A:bu} {V0 V1 V2 F:View} {lk lk':List (Nat × Nat)} (B:bt P O n) (hA:bK P O A) (hls:LsOk P O.glob nx0 A body)
  (hM:Says2 O.glob nx0 V1.st V2.st) (h:bg P O n A body V0.st (rj nx0 lk V1 (ALp P O.glob nx0 body V2.st Q) lk' F Q)):ALp P O.glob nx0 body V0.st Q:=by
 have h:=jE B hA body _ _ hls h
 by_cases hN:ALp P O.glob nx0 body V2.st Q
 ·obtain ⟨k,hk⟩:=hN
  refine ⟨k+1,h.saysEnd fun e s hq=> ?_⟩
  cases e with
  |normal=>exact ⟨_,(ce B.glob hq.1).trans hM,hk⟩
  |exit i=>exact ⟨_,ce B.glob hq.1,hq.2⟩
  |ret=>exact ⟨_,ce B.glob hq.1,hq.2⟩
 ·refine ⟨1,h.saysEnd fun e s hq=> ?_⟩
  cases e with
  |normal=>exact absurd hq.2 hN
  |exit i=>exact ⟨_,ce B.glob hq.1,hq.2⟩
  |ret=>exact ⟨_,ce B.glob hq.1,hq.2⟩
theorem LsOk.at1 {P:Program} {G:ag} {nx0 r1:Nat} {L1:bJ} {b1:Code} {c:Code} {A:bu} (hA:A.ls=gb [(r1,L1)]) (a1:bH c r1=[b1]) (h1:∀s Q,L1 s Q→AWp P G nx0 (.loop b1) s Q):LsOk P G nx0 A c:=
 LsOk.many hA fun p hp b hb s Q hs=>by
  simp only[List.mem_singleton] at hp;subst hp
  rw[a1,List.mem_singleton] at hb;subst hb;exact h1 s Q hs
theorem AWp.seen {P:Program} {G:ag} {nx0:Nat} {lk:List (Nat × Nat)} {V:View} {s:St} {Q:AExit→St→Prop} {body:Code} (hg:∀g l,G g=some l→af l=true) (hs:dt nx0 lk V s) (h:ALp P G nx0 body V.st Q):AWp P G nx0 (.loop body) s Q:=(h.says (ce hg hs)).loop
def u4 (v u:AV) (H:aa):Prop:=∃r,(∃d,aj 0 H d u=some r)∧ad r=true∧Wk r v
def rk (v u:AV):Prop:=ad u=true∧Wk u v
theorem u5 {P:Program} {O:al} {n:Nat} (B:bt P O n) {f:FuncId} {fn:Func} {c:Code} {args:List AV} {v:AV} (hfn:P.funcs[f]? =some fn) (hc:fn.body=some c) (hname:(fn.name== "runtime.NumGoroutine")=false) (hsz:(Nat.ble (ac args) fn.ntmps&&Nat.ble fn.ntmps 4095)=true)
  (hcl:af args=true) (h:∀w I a,CR O.glob w I (fun _=>none) [] 0 [] ⟨bE args 0 .tip,[],0,fn.ntmps⟩ a w→
   c.wp P (fun e a' w'=>∃s l,(aY .normal=e∨aY .ret=e)∧CR O.glob w I (fun _=>none) [] 0 [] s a' w'∧bx P O.glob s fn.results.toList=some l∧u4 v (bD l) s.heap) a w):
  SemCall P O.glob f args v:=by
 refine ⟨?_⟩
 intro w I α H rid nx vs r ha hrid hlt hf
 rw[Bool.and_eq_true,Nat.ble_eq,Nat.ble_eq,am] at hsz
 have e1:(callFunc f vs).run P w= .ok (.enter f vs) w:=by
  unfold callFunc
  simp only[Sem.run_bind,run_program,Result.andThen_ok,hfn,hname,hc,Bool.false_eq_true,if_false,Option.isNone_some,Sem.run_pure]
 rw[e1]
 refine calls_of_wp hfn hc ?_
 have hra:RepL w I (fun _=>none) args vs.toList:=dG ha hcl
 have hvs:args.length=vs.size:=by rw[hra.1];simp
 have hr0:CR O.glob w I (fun _=>none) [] 0 [] ⟨bE args 0 .tip,[],0,fn.ntmps⟩ {tmps:=vs++Array.replicate (fn.ntmps-vs.size) undef,defers:=[]} w:=
  ⟨⟨I,fun _=>none,.refl,eV B.glob r,fL hra (by omega),fun i hi=>absurd hi (Nat.not_lt_zero i),fun _ _=>rfl,fun id h=>absurd rfl h⟩,Nat.le_refl _,Nat.le_refl _,rfl,by simp;omega,hsz.2⟩
 refine wp_mono (h w I _ hr0) fun e a' w' hq=> ?_
 obtain ⟨s,l,he,hr,hl,v0,⟨d,hfz⟩,hcv,hwk⟩:=hq
 obtain ⟨⟨I',α',h1,h2,h3,_,_,h6⟩,_,h8,h9,_,_⟩:=hr
 obtain ⟨u,e1,e2⟩:=fM (P:=P) (fn:=fn) h2 h3 hl
 have hp:cL O.glob w I (fun _=>none) [] 0 (bD l) s.heap s.nx u w':=⟨⟨I',α',h1,h2,e2,h6⟩,h8⟩
 have hpost:Post O.glob w I α H rid nx v H nx u w':=by
  obtain ⟨⟨I2,α2,q1,q2,q3,q4⟩,hle⟩:=fN r hp hfz hcv
  exact ⟨⟨I2,α2,q1,q2,hwk.out _ _ _ _ q3,q4⟩,hle⟩
 rcases he with rfl|rfl<;>exact ⟨h9,u,e1,u,rfl,hpost⟩
theorem u6 {P:Program} {O:al} {n:Nat} {A:bu} {f:FuncId} {args:List AV} {v:AV} (B:bt P O n) (hA:bK P O A) (hl:fb P O.glob 0 A f) (hcl:af args=true)
  (h:aZ P O n A f args [] 0 (fun u _ _=>rk v u)):SemCall P O.glob f args v:=by
 obtain ⟨fn,c,hfn,hc,hname,hsz,hw⟩:=l9 B hA hl h
 refine u5 B hfn hc hname hsz hcl fun w I a hr=>wp_mono (hw.out w I _ [] [] a w (fun _ _=>rfl) hr) ?_
 rintro e a' w' ⟨x,s',rfl,h2,hx,l,hl,hq⟩
 refine ⟨s',l, ?_,h2,hl,_,(Frz.closed _ hq.1).out,hq.1,hq.2⟩
 rcases hx with rfl|rfl
 ·exact .inl rfl
 ·exact .inr rfl
theorem u7 {v:AV} (h:ad v=true):rk v v:=⟨h,.refl v⟩
theorem ej {n:Nat} {H:aa} {v:AV} (h:ad v=true):(∃d,aj n H d v=some v)∧ad v=true:=⟨(Frz.closed v h).out,h⟩
theorem jQ {n:Nat} {H:aa} {v r:AV} (h:Frz n H v r) (hc:ad r=true):(∃d,aj n H d v=some r)∧ad r=true:=⟨h.out,hc⟩
theorem CR.up {G:ag} {w0:World} {I0:Nat→Prop} {α0:Nat→Option Nat} {H0:aa} {nx0:Nat} {D:List Deferred} {s:St} {a:Act} {w:World} {m:Nat} (h:CR G w0 I0 α0 H0 nx0 D s a w) (hm:s.nx≤m):CR G w0 I0 α0 H0 nx0 D ⟨s.slots,s.heap,m,s.n⟩ a w:=by
 obtain ⟨⟨I,α,ev,rel,hs,_,hf,hnew⟩,h7,h8,h9,h10,h11⟩:=h
 refine ⟨⟨I,α,ev,rel,hs,fun i hi=>absurd hi (Nat.not_lt_zero i),fun id hid=>hf id (Nat.le_trans hm hid),fun id hid=> ?_⟩,Nat.le_refl _,Nat.le_trans h8 hm,h9,h10,h11⟩
 rcases hnew id hid with h|h
 ·exact .inl h
 ·exact .inr ⟨h.1,Nat.lt_of_lt_of_le h.2 hm⟩
section
variable {P:Program} {G:ag}
end
end Go.Proofs.Abs
/- Objects as values. -/
namespace Go.Proofs.Abs
open Go
noncomputable section
end
end Go.Proofs.Abs
/- Calls with closed arguments, run by themselves, whose answers say enough; bodies that say less. -/
namespace Go.Proofs.Abs
open Go
noncomputable section
section
variable {P:Program} {O:al} {n:Nat} {f:FuncId} {args:List AV} {v r:AV}
end
def WkB:Blk→Blk→Prop
 | .cells l,.cells l'=>WkL l l'
 |b,b'=>b=b'
theorem WkB.rel {w:World} {I:Nat→Prop} {α:Nat→Option Nat} {b:Nat} {x y:Blk} (h:WkB x y) (r:BRel w I α b x):BRel w I α b y:=by
 cases x with
 | cells l=>cases y with
  |cells l'=>
   obtain ⟨c,e,h1,h2,h3⟩:=r
   have h:WkL l l':=h
   exact ⟨c,e,h1,by rw[←h.len];exact h2,by rw[←h.len];exact h.out _ _ _ _ h3⟩
  |_=>cases h
 |_=>cases y<;>first|(cases h;done)|(cases h;exact r)
def rl (k:Nat) (h:aa):aa→Prop
 |[]=>True
 |(i,some b)::t=>(Nat.blt i k=true∧∃b0 b1,hget h i=some b0∧iu k h b0 b1∧WkB b1 b)∧rl k h t
 |(_,none)::_=>False
def rm (k:Nat) (v:AV) (H2:aa) (nx2:Nat) (u:AV) (h:aa) (m:Nat):Prop:=Nat.ble m nx2=true∧(∃r,Frz k h u r∧Wk r v)∧rl k h H2
end
end Go.Proofs.Abs
/- States with blocks that may be there or not. -/
namespace Go.Proofs.Abs
open Go
noncomputable section
end
end Go.Proofs.Abs
/- States that say less: fewer blocks. -/
namespace Go.Proofs.Abs
open Go
noncomputable section
theorem Says2.sub {G:ag} {nx0:Nat} {s s2:St} (hs:s2.slots=s.slots) (hh:∀i b,hget s2.heap i=some b→hget s.heap i=some b) (hnx:s2.nx=s.nx) (hn:s2.n=s.n):Says2 G nx0 s s2:=by
 intro w0 I0 α0 H0 D a w hα h
 obtain ⟨⟨I,α,ev,rel,hsl,h4,hf,hnew⟩,h7,h8,h9,h10,h11⟩:=h
 have hne:∀i,hget s2.heap i≠none→hget s.heap i≠none:=fun i h=>by
  cases hi:hget s2.heap i with
  |none=>exact absurd hi h
  |some b=>rw[hh i b hi];simp
 refine ⟨⟨I,α,⟨ev.os,ev.I_mono,ev.α_mono,ev.size,ev.frame,ev.shape,ev.Inew,fun b ⟨i,h1,h2⟩=>ev.own b ⟨i,hne i h1,h2⟩⟩, ?_, ?_,fun i hi=>absurd hi (Nat.not_lt_zero i),fun id hid=>hf id (by rw[←hnx];exact hid),fun id hid=> ?_⟩,Nat.le_refl _,by rw[hnx];exact h8,h9,by rw[hn];exact h10,by rw[hn];exact h11⟩
 ·exact ⟨fun i blk hi=>rel.live i blk (hh i blk hi),fun i i' b h1 h2=>rel.inj i i' b (hne i h1) (hne i' h2),rel.imm,rel.dom,rel.glob⟩
 ·rw[hs];exact hsl
 ·rw[hnx];exact hnew id hid
end
end Go.Proofs.Abs
/- What a body comes to, under other numbers: of the blocks that it is handed, and of those that are new. -/
namespace Go.Proofs.Abs
open Go
section
variable {P:Program} {G:ag} {f:FuncId} {args args2:List AV} {v v2:AV} {H H' H2 H2':aa} {nx nx' nx2 nx2':Nat} {lk:List (Nat × Nat)}
end
end Go.Proofs.Abs
/- Ends that are said in other words; closed answers of bodies; pointers of the caller's under other numbers. -/
namespace Go.Proofs.Abs
open Go
def EndC (r:AV) (nx2:Nat) (u:AV) (_:aa) (m:Nat):Prop:=Nat.ble m nx2=true∧u=r
theorem EndC.b {r v:AV} {nx2 k:Nat} (hc:ad r=true) (hw:Wk r v):∀u h m,EndC r nx2 u h m→rm k v [] nx2 u h m:=fun _ _ _ h=>⟨h.1,⟨r,by rw[h.2];exact .closed r hc,hw⟩,trivial⟩
def EndF (r:AV) (k nx2:Nat) (u:AV) (h:aa) (m:Nat):Prop:=Nat.ble m nx2=true∧aj k h 40 u=some r
theorem EndF.b {r v:AV} {nx2 k:Nat} (hw:Wk r v):∀u h m,EndF r k nx2 u h m→rm k v [] nx2 u h m:=fun _ _ _ h=>⟨h.1,⟨r,⟨40,h.2⟩,hw⟩,trivial⟩
end Go.Proofs.Abs
/- Calls whose answers are known by their arguments alone, others run as they stand. -/
namespace Go.Proofs.Abs
open Go
def cD (S:FuncId→List AV→Option AV) (c:ah):ah:=fun f args id h nx=>match S f args with
 |some v=>some (v,h,nx,⟨false,[],[]⟩)
 |none=>c f args id h nx
theorem u9 {P:Program} {G:ag} {S:FuncId→List AV→Option AV} {c:ah} (hS:∀f args v,S f args=some v→SemCall P G f args v) (hc:an P G c∧ao c):an P G (cD S c)∧ao (cD S c):=by
 refine ⟨?_, ?_⟩
 ·intro f args rid H nx v H' nx' ft h w I α vs hr ha hrid hlt hf
  unfold cD at h
  split at h
  ·rename_i v0 hv
   simp only[Option.some.injEq,Prod.mk.injEq] at h
   obtain ⟨rfl,rfl,rfl,rfl⟩:=h
   exact (hS f args _ hv).out w I α H rid nx vs hr ha hrid hlt hf
  ·exact hc.1 f args rid H nx v H' nx' ft h w I α vs hr ha hrid hlt hf
 ·intro f args id h nx v h' nx' ft hk
  cases hv:S f args with
  |none=>
   have he:cD S c f args id=c f args id:=by funext h nx;unfold cD;rw[hv]
   rw[he] at hk⊢
   exact hc.2 f args id h nx v h' nx' ft hk
  |some v0=>
   have he:∀h nx,cD S c f args id h nx=some (v0,h,nx,⟨false,[],[]⟩):=fun h nx=>by unfold cD;rw[hv]
   rw[he] at hk
   simp only[Option.some.injEq,Prod.mk.injEq] at hk
   obtain ⟨rfl,rfl,rfl,rfl⟩:=hk
   exact .one rfl ⟨rfl,[],rfl,by simp,fun h2 nx2 _=>by rw[he];rfl⟩
noncomputable def cE (P:Program) (O:al) (n:Nat) (f:FuncId) (args:List AV) (H:aa) (nx:Nat) (v:AV) (H2:aa) (m:Nat):Bool:=match bY P O (bv P O n) f args H nx with
 |some (v',h1,nx')=>dj v' v&&(gd h1 H2&&Nat.beq nx' (nx+m))
 |none=>false
theorem da {P:Program} {O:al} {n:Nat} {f:FuncId} {args:List AV} {H:aa} {nx m:Nat} {v:AV} {H2:aa} (hm:P.follows .mixedOrders=true) (hsum:∀f args v,O.summ f args=some v→SemCall P O.glob f args v) (hcx:an P O.glob O.cx∧ao O.cx) (hg:∀g l,O.glob g=some l→af l=true)
  (h:cE P O n f args H nx v H2 m=true):aH P O.glob f args H nx v H2 (nx+m):=by
 unfold cE at h
 rw[iz] at h
 split at h
 ·rename_i v' H1 nx' hr
  simp only[Bool.and_eq_true] at h
  obtain ⟨k1,k2,k3⟩:=h
  have e:=d5 _ _ k1
  have e':=beq_iff.1 k3
  subst e;subst e'
  obtain ⟨h1,h2⟩:=dH (P:=P) (O:=O) hm hsum hg hcx n
  intro w I α vs r ha hf
  obtain ⟨e1,e2⟩:=dF (w:=w) (vs:=vs) hm h1 h2 hr r ha hf
  refine ⟨e1,e2.mono ?_⟩
  rintro e w' ⟨u,rfl,⟨⟨I',α',ev,rel,rep,hnew⟩,hle⟩⟩
  have hsub:∀i,hget H2 i≠none→hget H1 i≠none:=fun i hi=>by
   cases hb:hget H2 i with
   |none=>exact absurd hb hi
   |some b=>rw[iA k2 i b hb];simp
  refine ⟨u,rfl,⟨I',α',⟨ev.os,ev.I_mono,ev.α_mono,ev.size,ev.frame,ev.shape,ev.Inew,fun b ⟨i,q1,q2⟩=>ev.own b ⟨i,hsub i q1,q2⟩⟩, ?_,rep,hnew⟩,hle⟩
  exact
   {live:=fun i blk hi=>rel.live i blk (iA k2 i blk hi)
    inj:=fun i i' b q1 q2=>rel.inj i i' b (hsub i q1) (hsub i' q2)
    imm:=rel.imm
    dom:=rel.dom
    glob:=rel.glob}
 ·cases h
def dv:aa→aa→Bool
 |[],[]=>true
 |(i,some b)::t,(j,some c)::u=>Nat.beq i j&&(gM b c&&dv t u)
 |(i,none)::t,(j,none)::u=>Nat.beq i j&&dv t u
 |_,_=>false
theorem mN:∀ {a b:aa},dv a b=true→a=b
 |[],[],_=>rfl
 |(i,some b)::t,(j,some c)::u,h=>by
  simp only[dv,Bool.and_eq_true] at h
  rw[beq_iff.1 h.1,lu h.2.1,mN h.2.2]
 |(i,none)::t,(j,none)::u,h=>by
  simp only[dv,Bool.and_eq_true] at h
  rw[beq_iff.1 h.1,mN h.2]
 |[],_::_,h=>by simp[dv] at h
 |_::_,[],h=>by simp[dv] at h
 |(i,some b)::t,(j,none)::u,h=>by simp[dv] at h
 |(i,none)::t,(j,some c)::u,h=>by simp[dv] at h
def gg (tbl:FuncId→List AV→Nat→Option (List Nat × aa × AV × aa × Nat)):ah:=fun f args _ h nx=>match tbl f args nx with
 |some (L,H0,v,H2,m)=>match dv (aD h L) H0 with
  |true=>some (v,Mods.app (cT (ca H2 L) (bW nx H2 H2)) h,nx+m,⟨true,L,nx::L⟩)
  |false=>none
 |none=>none
theorem va {P:Program} {G:ag} {tbl:FuncId→List AV→Nat→Option (List Nat × aa × AV × aa × Nat)} (h:∀f args nx L H0 v H2 m,tbl f args nx=some (L,H0,v,H2,m)→aH P G f args H0 nx v H2 (nx+m)):an P G (gg tbl)∧ao (gg tbl):=by
 refine ⟨?_, ?_⟩
 ·intro f args rid H nx v H' nx' ft hc w I α vs hr ha hrid hlt hf
  unfold gg at hc
  split at hc
  ·rename_i L H0 v0 H2 m ht
   split at hc
   ·rename_i hs
    have hs:=mN hs
    simp only[Option.some.injEq,Prod.mk.injEq] at hc
    obtain ⟨rfl,rfl,rfl,rfl⟩:=hc
    obtain ⟨e1,e2⟩:=h f args nx L H0 v0 H2 m ht w I α vs (hs▸eU hr L) ha hf
    rw[e1]
    refine Calls.mono e2 ?_
    rintro e w' ⟨u,rfl,hp⟩
    exact ⟨u,rfl,jk (L:=L) hr hf (hs▸hp)⟩
   ·cases hc
  ·cases hc
 ·intro f args id hp nx v h' nx' ft hc
  unfold gg at hc
  split at hc
  ·rename_i L H0 v0 H2 m ht
   split at hc
   ·rename_i hs
    simp only[Option.some.injEq,Prod.mk.injEq] at hc
    obtain ⟨rfl,rfl,rfl,rfl⟩:=hc
    refine ⟨fun hall=>(by cases hall),fun _ n l hw=> ?_⟩
    simp only[List.cons.injEq] at hw
    obtain ⟨rfl,rfl⟩:=hw
    refine ⟨rfl,by omega,_,rfl,fun p hp=> ?_,fun h2 hk=> ?_⟩
    ·rw[fO] at hp
     rcases List.mem_append.1 hp with hp|hp
     ·exact .inl (g9 hp).1
     ·exact .inr (eX hp).1
    ·have hC:aD h2 L=aD hp L:=eW _ fun i hi=>hk i (by simp[hi])
     unfold gg
     rw[ht]
     simp only[hC,hs]
   ·cases hc
  ·cases hc
end Go.Proofs.Abs
