import Derived.Test.YthikljbjnlibiaaGreatDoorG4
import Derived.OpenShut
import Derived.LaidMore
namespace Go.Proofs.Abs
open Go
noncomputable section
def aP (b:Bool) (K:Prop):Prop:=match b with
 |true=>K
 |false=>False
def dV (b:Bool) (T F:Prop):Prop:=match b with
 |true=>T
 |false=>F
inductive ES where
 |eff (e:Eff)
 |obl (b:Bool) (e:Eff)
 |app (b:Bool) (i:Nat) (k:List AV→Bool × List AV) (v:Nat→AV)
 |pick (b:Bool) (x y:Option AV)
 |put (b:Bool) (i:Nat) (k:List AV→Bool × List AV) (v:AV)
def ES.ok (oe:Option Eff):ES→Prop
 | .eff e=>oe=some e
 | .obl b e=>b=true→oe=some e
 | .app b i k v=>b=true→∃kk,oe=some (.repl i kk)∧∀l,(k l).1=true→kk (.cells l)=some (.cells (k l).2,v)
 | .pick b x y=>(b=true→oe=aC x)∧(b=false→oe=aC y)
 | .put b i k v=>b=true→∃kk,oe=some (.upd i kk)∧∀l,(k l).1=true→kk (.cells l)=some (.cells (k l).2,v)
inductive df where
 |plain
 |ans (a:fB)
 |el (v:AV)
 |ld (v:AV)
 |res (r:AV)
 |lk (r:Option AV)
 |up (es:List (AV × AV)) (same:Bool)
 |dl (i:Option Nat)
def gV:Int→Bool
 | .ofNat _=>true
 |_=>false
def dW:AV→Option (Bool × Nat)
 | .int _ n=>some (gV n,n.toNat)
 |_=>none
def gW:Option AV→Option (Bool × Option Nat)
 |none=>some (true,none)
 |some v=>match dW v with
  |some (b,n)=>some (b,some n)
  |none=>none
def i7 (es:List AV):List UInt8:=(bO es).getD []
def gX (l:List AV) (o:Nat) (vs:List AV):List AV:=l.take o++(vs++l.drop (o+ab vs))
def cU (s:List UInt8) (i:Nat):UInt8:=s[i]?.getD 0
section
variable (P:Program)
def fJ (eq:TypeId→AV→AV→Option Bool):List Field→List AV→List AV→Option Bool
 |[],_,_=>some true
 | f::fs,xs,ys=>match f.name== "_" with
  |true=>fJ eq fs xs ys
  | false=>match a5 P f.type xs f.offset,a5 P f.type ys f.offset with
   |some a,some b=>match eq f.type a b,fJ eq fs xs ys with
    |some p,some q=>some (p&&q)
    |_,_=>none
   |_,_=>none
def gY (eq:TypeId→AV→AV→Option Bool) (e:TypeId) (sz:Nat) (xs ys:List AV):List Nat→Option Bool
 |[]=>some true
 | i::is=>match a5 P e xs (i*sz),a5 P e ys (i*sz) with
  |some a,some b=>match eq e a b,gY eq e sz xs ys is with
   |some p,some q=>some (p&&q)
   |_,_=>none
  |_,_=>none
def eN:Nat→TypeId→AV→AV→Option Bool
 |0,_,_,_=>none
 | d+1,t,x,y=>match x,y with
  | .agg xs,.agg ys=>match P.underlying t with
   |some (.struct fs)=>match P.stoodInHeld t with
    |true=>none
    |false=>fJ P (eN d) fs.toList xs ys
   |some (.array n e)=>match aE P e with
    |some sz=>gY P (eN d) e sz xs ys (List.range n)
    |none=>none
   |_=>none
  |x,y=>bn P (d+1) t x y
def dX (sz:Nat) (x:AV):Option (Bool × Nat × List AV):=match x with
 | .fsl _ es=>some (bf sz es,ab es,flat es)
 | .nilsl=>some (true,0,[])
 | .nesl=>some (true,0,[])
 | .str s=>some (Nat.beq sz 1,ab s,aw s)
 |_=>none
def oY (i:TypeInfo) (s:AV) (b:Bool) (n:Nat) (cs:List AV):Option ES:=match s with
 | .nilsl=>match Nat.beq n 0 with
  |true=>some (.obl b (.val .nilsl))
  |false=>some (.obl (b&&Nat.ble (n*i.bytes) 140737488355328) (.new (.cells cs) fun id=> .rsl true id 0 n i.size))
 | .fsl true es=>match Nat.beq n 0 with
  |true=>some (.obl b (.val (.fsl true es)))
  |false=>some (.obl (b&&(Nat.ble ((ab es+n)*i.bytes) 140737488355328&&bf i.size es)) (.new (.cells (flat es++cs)) fun id=> .rsl true id 0 (ab es+n) i.size))
 | .rsl true id 0 len sz=>some (.app (b&&(Nat.ble ((len+n)*i.bytes) 140737488355328&&(aR cs&&Nat.beq sz i.size))) id (fun l=>(Nat.beq (ab l) (len*i.size),l++cs)) fun id'=> .rsl true id' 0 (len+n) i.size)
 |_=>none
def oZ:TypeDesc→Bool
 | .slice _| .string=>true
 |_=>false
def lj (argTypes:Array TypeId) (s x:AV):Option ES:=
 match argTypes[0]?,argTypes[1]? with
 | some st,some xt=>match P.underlying st,P.underlying xt with
  | some (.slice e),some xd=>match oZ xd,P.info? e,bt P e with
   | true,some i,some z=>match Nat.beq i.size 0||Nat.beq i.bytes 0|| !Nat.beq (ab z.cells) i.size with
    |true=>none
    |false=>match dX i.size x with
     |some (b,n,cs)=>oY i s b n cs
     |none=>none
   |_,_,_=>none
  |_,_=>none
 |_,_=>none
def ll (t:TypeId) (x:AV) (lo hi mx:Option AV):Option ES:=
 match gW lo,gW hi,mx with
 | some (b1,lo),some (b2,hi),none=>match x with
  | .str s=>match P.underlying t with
   |some .string=>some (.obl (b1&&(b2&&(Nat.ble (lo.getD 0) (hi.getD (ab s))&&Nat.ble (hi.getD (ab s)) (ab s)))) (.val (.str ((s.drop (lo.getD 0)).take (hi.getD (ab s)-lo.getD 0)))))
   |_=>none
  | .fsl full es=>match bh P t with
   |some e=>match aE P e with
    |some sz=>some (.obl (b1&&(b2&&(ii sz es&&(Nat.ble (lo.getD 0) (hi.getD (ab es))&&Nat.ble (hi.getD (ab es)) (ab es))))) (.val (.fsl (f6 full none (hi.getD (ab es)) (ab es)) ((es.drop (lo.getD 0)).take (hi.getD (ab es)-lo.getD 0)))))
    |none=>none
   |none=>none
  | .rsl own id off len sz'=>match lo,hi with
   | none,some h=>match bh P t with
    |some e=>match aE P e with
     |some sz=>some (.obl (b2&&(Nat.beq sz sz'&&Nat.ble h len)) (.val (.rsl own id off h sz)))
     |none=>none
    |none=>none
   |_,_=>none
  |_=>none
 |_,_,_=>none
def lm (src dst:TypeId) (x:AV):Option ES:=
 match P.underlying src,P.underlying dst,x with
 |some (.slice e),some .string,.fsl _ es=>match e7 P e with
  |true=>some (.obl (bO es).isSome (.val (.str (i7 es))))
  |false=>none
 |_,_,_=>none
def ln (t:TypeId) (l c:AV):Option ES:=
 match bh P t,dW l,dW c with
 | some e,some (b1,l),some (b2,c)=>match P.info? e,bt P e with
  |some i,some z=>
   some (.obl (b1&&(b2&&(Nat.ble l c&&Nat.ble (i.bytes*c) 281474976710656&&Nat.ble c 9223372036854775807&&Nat.beq (ab z.cells) i.size&&Nat.blt 0 i.size))) (.new (.cells (flat (a7 z c))) fun id=> .rsl true id 0 l i.size))
  |_,_=>none
 |_,_,_=>none
def lp (argTypes:Array TypeId) (d x:AV):Option ES:=
 match argTypes[0]? with
 | some t=>match bh P t with
  | some e=>match aE P e with
   | some sz=>match d with
    | .rsl _ id off len _=>match dX sz x with
     |some (b,n,cs)=>some (.put (b&&aR cs) id (fun l=>(Nat.ble (off+ab (cs.take (min n len*sz))) (ab l),gX l off (cs.take (min n len*sz)))) (.int .i64 (.ofNat (min n len))))
     |none=>none
    |_=>none
   |none=>none
  |none=>none
 |none=>none
def i8 (t:TypeId) (v:AV):List AV:=match eZ P t with
 |some false=>[v]
 |_=>v.cells
def i9 (t:TypeId) (v:AV) (n:Nat):Bool:=match eZ P t with
 |some false=>v.one&&Nat.beq n 1
 |_=>Nat.beq (ab v.cells) n&&aR v.cells
def lq (t:TypeId) (a v:AV):Option ES:=
 match a with
 | .ptr id off=>match aE P t with
  |some n=>some (.put (i9 P t v n) id (fun l=>(Nat.ble (off+n) (ab l),gX l off (i8 P t v))) bN)
  |none=>none
 |_=>none
def lr (t:TypeId) (v:AV):Option ES:=match eZ P t with
 |some false=>some (.obl v.one (.new (.cells [v]) fun id=> .ptr id 0))
 |_=>none
def gZ (fs:List Field) (pl:List (Nat × Nat)):List AV→List (Nat × AV)→Option (Bool × List AV)
 |cells,[]=>some (true,cells)
 | cells,(i,v)::rest=>match aT fs i,aT pl i with
  | some f,some (off,s)=>match Nat.blt 0 s&&Nat.ble (off+s) (ab cells) with
   |true=>match gZ fs pl (gX cells off (i8 P f.type v)) rest with
    |some (b,c)=>some (i9 P f.type v s&&b,c)
    |none=>none
   |false=>none
  |_,_=>none
def lu (t:TypeId) (parts:List (Nat × AV)):Option ES:=
 match bt P t,P.underlying t with
 | some z,some (.struct fs)=>match e8 P fs.toList with
  |some pl=>match gZ P fs.toList pl z.cells parts with
   |some (b,c)=>some (.obl b (.val (.agg c)))
   |none=>none
  |none=>none
 |_,_=>none
def lv (t:TypeId) (x i:AV):Option ES:=
 match P.underlying t,x,dW i with
 |some (.slice e),.rsl _ id off len sz',some (b,i)=>match aE P e with
  |some sz=>some (.obl (b&&(Nat.blt i len&&Nat.beq sz sz')) (.val (.ptr id (off+i*sz))))
  |none=>none
 |_,_,_=>none
def fK (glob:Nat→Option (List AV)) (ops:List Oper) (ev:Operand→Option AV) (o:Oper):Option ES:=
 match o.op with
 | .pick c a b=>match ev c with
  |some (.bool t)=>some (.pick t (ev a) (ev b))
  |_=>none
 | .binOp op t x y _=>match op,ev x,ev y with
  | .add,some (.str a),some (.str b)=>some (.obl (Nat.ble (ab a+ab b) 9223372036854775807) (.val (.str (a++b))))
  | .eql,some (.agg a),some (.agg b)=>match P.eqGuardType P.depth t,eN P 16 t (.agg a) (.agg b) with
   |false,some r=>some (.eff (.val (.bool r)))
   |_,_=>none
  | .neq,some (.agg a),some (.agg b)=>match P.eqGuardType P.depth t,eN P 16 t (.agg a) (.agg b) with
   |false,some r=>some (.eff (.val (.bool !r)))
   |_,_=>none
  | .quo,some (.int k a),some (.int k' b)=>match decide (k=k') with
   |true=>some (.obl (!bK b 0) (.val (.int k (al k (a.tdiv b)))))
   |false=>none
  | .rem,some (.int k a),some (.int k' b)=>match decide (k=k') with
   |true=>some (.obl (!bK b 0) (.val (.int k (a.tmod b))))
   |false=>none
  |_,_,_=>match aF P glob ops ev o with
   |some e=>some (.eff e)
   |none=>none
 | .store t a x=>match ev a,ev x with
  |some a,some x=>lq P t a x
  |_,_=>none
 | .box t x=>match ev x with
  | some v=>match lr P t v with
   |some e=>some e
   |none=>match aF P glob ops ev o with
    |some e=>some (.eff e)
    |none=>none
  |none=>none
 | .build t parts=>match c8 ev parts.toList with
  | some ps=>match lu P t ps with
   |some e=>some e
   |none=>match aF P glob ops ev o with
    |some e=>some (.eff e)
    |none=>none
  |none=>none
 | .indexAddr t x i=>match ev x,ev i with
  | some x,some i=>match lv P t x i with
   |some e=>some e
   |none=>match aF P glob ops ev o with
    |some e=>some (.eff e)
    |none=>none
  |_,_=>none
 | .convert s d x=>match ev x with
  | some (.fsl f es)=>match lm P s d (.fsl f es) with
   |some e=>some e
   |none=>match aF P glob ops ev o with
    |some e=>some (.eff e)
    |none=>none
  |_=>match aF P glob ops ev o with
   |some e=>some (.eff e)
   |none=>none
 | .index t x i=>match P.underlying t,ev x,ev i with
  |some .string,some (.str s),some w=>match dW w with
   |some (b,k)=>some (.obl (b&&Nat.blt k (ab s)) (.val (.int .u8 (.ofNat (cU s k).toNat))))
   |none=>none
  |_,_,_=>match aF P glob ops ev o with
   |some e=>some (.eff e)
   |none=>none
 | .makeSlice t l c=>match ev l,ev c with
  |some l,some c=>ln P t l c
  |_,_=>none
 | .slice t x lo hi mx=>match ev x,bT ev lo,bT ev hi,bT ev mx with
  | some x,some lo,some hi,some mx=>match ll P t x lo hi mx with
   |some e=>some e
   |none=>match c6 P t x lo hi mx with
    |some e=>some (.eff e)
    |none=>none
  |_,_,_,_=>none
 | .call c=>match c.callee,cd ev c.args.toList with
  | .builtin .append,some [s,x]=>match lj P c.argTypes s x with
   |some e=>some e
   |none=>match ec P c.argTypes s x with
    |some e=>some (.eff e)
    |none=>none
  | .builtin .copy,some [d,x]=>match lp P c.argTypes d x with
   |some e=>some e
   |none=>match ed P c.argTypes d x with
    |some e=>some (.eff e)
    |none=>none
  |_,_=>match aF P glob ops ev o with
   |some e=>some (.eff e)
   |none=>none
 |_=>match aF P glob ops ev o with
  |some e=>some (.eff e)
  |none=>none
variable (O:ar) (n:Nat)
abbrev cf:=St→(AExit→St→Prop)→Prop
inductive lw where
 |val (v:AV)
 |part (L:List Nat) (v:AV) (H2:aa) (m:Nat)
abbrev lx:=FuncId→List AV→aa→Nat→Option lw
def o0:lx:=fun _ _ _ _=>none
structure ly where
 see:List AV→aa→List Nat
 run:List AV→aa→Nat→(AV→aa→Nat→Prop)→Prop
def o1:FuncId→Option ly:=fun _=>none
def o2:Nat→Option (St→(St→Prop)→Prop):=fun _=>none
structure bH where
 hint:Nat→Nat→Option df:=fun _ _=>none
 ls:Nat→Option cf:=fun _=>none
 cx:af:=fun _ _ _ _ _=>none
 sem:lx:=o0
 inl:FuncId→Option ly:=o1
 cut:Nat→Option (St→(St→Prop)→Prop):=o2
def lz (L:List Nat) (H2:aa) (nx:Nat) (h:aa):aa:=Mods.app (cM (bY H2 L) (bQ nx H2 H2)) h
def lA (args:List AV) (h:aa) (nx:Nat) (K:AV→aa→Nat→Foot→Prop) (T:ly):Prop:=
 T.run args (aD h (T.see args h)) nx fun v H2 nx2=>aP (Nat.ble nx nx2) (K v (lz (T.see args h) H2 nx h) nx2 ⟨true,T.see args h,nx::T.see args h⟩)
def ja (f:FuncId) (args:List AV) (h:aa) (nx:Nat) (K:AV→aa→Nat→Foot→Prop):lw→Prop
 | .val v=>SemCall P O.glob f args v∧K v h nx ⟨false,[],[]⟩
 | .part L v H2 m=>bw P O.glob f args (aD h L) nx v H2 (nx+m)∧K v (lz L H2 nx h) (nx+m) ⟨true,L,nx::L⟩
variable (A:bH)
def dg (id d:Nat) (e:Eff) (h:aa) (nx:Nat) (K:AV→aa→Nat→Foot→Prop):Prop:=
 match ai (ap P O n) id d e h nx with
 |some (v,h',nx',ft)=>K v h' nx' ft
 |none=>False
def eO (id:Nat):Nat→Eff→aa→Nat→(AV→aa→Nat→Foot→Prop)→Prop
  | 0, e,h,nx,K=>match e with
    | .call f args=>match A.cx f args id h nx with
      |some (v,h',nx',ft)=>K v h' nx' ft
      | none=>match A.sem f args h nx with
       |some r=>ja P O f args h nx K r
       | none=>match A.inl f with
        |some T=>lA args h nx K T
        |none=>match O.how f with
         | .pure=>match O.summ f args with
           |some v=>aP (ag args) (K v h nx ⟨false,[],[]⟩)
           |none=>dg P O n id 0 (.call f args) h nx K
         |_=>dg P O n id 0 (.call f args) h nx K
    |e=>dg P O n id 0 e h nx K
  | d + 1, e,h,nx,K=>match e with
    | .call f args=>match A.cx f args id h nx with
      |some (v,h',nx',ft)=>K v h' nx' ft
      | none=>match A.sem f args h nx with
       |some r=>ja P O f args h nx K r
       | none=>match A.inl f with
        |some T=>lA args h nx K T
        |none=>match O.how f with
         | .pure=>match O.summ f args with
           |some v=>aP (ag args) (K v h nx ⟨false,[],[]⟩)
           |none=>dg P O n id (d+1) (.call f args) h nx K
         |_=>dg P O n id (d+1) (.call f args) h nx K
    | .read i k=>match hget h i with
      | some b=>match k b with
        |some e=>eO id d e h nx fun v h' nx' ft=>K v h' nx' ⟨ft.all,i::ft.r,ft.w⟩
        |none=>False
      |none=>False
    |e=>dg P O n id (d+1) e h nx K
def jb (id:Nat) (h:aa) (nx:Nat) (K:AV→aa→Nat→Foot→Prop):Option ES→Prop
 |none=>False
 |some (.eff e)=>eO P O n A id 2 e h nx K
 |some (.obl b e)=>aP b (eO P O n A id 2 e h nx K)
 |some (.app b i k v)=>aP b (match hget h i with
  |some (.cells l)=>aP (k l).1 (K (v id) (an (ao h i) id (.cells (k l).2)) nx ⟨false,[],[i,id]⟩)
  |_=>False)
 |some (.put b i k v)=>aP b (match hget h i with
  |some (.cells l)=>aP (k l).1 (K v (an h i (.cells (k l).2)) nx ⟨false,[],[i]⟩)
  |_=>False)
 | some (.pick b x y)=>match b with
  |true=>match x with
   |some v=>K v h nx ⟨false,[],[]⟩
   |none=>False
  |false=>match y with
   |some v=>K v h nx ⟨false,[],[]⟩
   |none=>False
def lB (ev:Operand→Option AV) (o:Oper) (r:AV):Option Prop:=
 match o.op with
 | .convert s d x=>match ev x with
  |some v=>some (cZ P s d v=some (.val r))
  |none=>none
 | .indexAddr t x i=>match ev x,ev i with
  |some v,some w=>some (c7 P t v w=some r)
  |_,_=>none
 | .index t x i=>match ev x,ev i with
  |some v,some w=>some (ga P t v w=some r)
  |_,_=>none
 | .slice t x lo hi mx=>match ev x,bT ev lo,bT ev hi,bT ev mx with
  |some x,some lo,some hi,some mx=>some (c6 P t x lo hi mx=some (.val r))
  |_,_,_,_=>none
 | .binOp op t x y _=>match ev x,ev y with
  |some v,some w=>some (a6 P op t x y v w=some r)
  |_,_=>none
 | .call c=>match c.callee,cd ev c.args.toList with
  | .builtin b,some args=>some (dG P b c.argTypes args=some (.val r))
  |_,_=>none
 |_=>none
def jc (t:TypeId) (k:AV):Option AV:=match P.underlying t with
 |some (.map kt et)=>match dm P kt k with
  |true=>bt P et
  |false=>none
 |_=>none
def lC (argTypes:Array TypeId) (k:AV):Bool:=match argTypes[0]? with
 |some t=>match P.underlying t with
  |some (.map kt _)=>dm P kt k
  |_=>false
 |none=>false
def o3 (same:Bool) (cl:Nat) (st:List Nat) (es:List (AV × AV)):Blk:=match same with
 |true=> .mapb cl st es
 |false=> .mapb (cl+1) (st++[cl]) es
def o4 (j:Option Nat) (cl:Nat) (st:List Nat) (es:List (AV × AV)):Blk:=match j with
 |some i=> .mapb cl (st.eraseIdx i) (es.eraseIdx i)
 |none=> .mapb cl st es
def g0 (ops:List Oper) (id:Nat) (o:Oper) (s:St) (K:AV→aa→Nat→Foot→Prop):df→Prop
 | .plain=>match aF P O.glob ops (aj s.slots) o with
  |some e=>eO P O n A id 2 e s.heap s.nx K
  |none=>False
 | .ans a=>match iY P O n (fun _ _ _ _ _=>none) ops id o s a with
  |some ((v,h,nx,ft),F)=>bA P O F∧K v h nx ft
  |none=>False
 | .el v=>match o.op with
  | .indexAddr t x i=>match aj s.slots x,aj s.slots i with
   | some (.fsl _ es),some w=>match dW w,bh P t with
    |some (b,k),some e=>match aE P e with
     |some sz=>aT es k=some v∧aP (b&&Nat.beq (ab v.cells) sz) (K (.fptr v.cells 0) s.heap s.nx ⟨false,[],[]⟩)
     |none=>False
    |_,_=>False
   |_,_=>False
  |_=>False
 | .ld v=>match o.op with
  | .load t a=>match aj s.slots a with
   |some (.ptr i off)=>match hget s.heap i with
    |some (.cells l)=>a5 P t l off=some v∧K v s.heap s.nx ⟨false,[i],[]⟩
    |_=>False
   |some (.fptr cs off)=>a5 P t cs off=some v∧K v s.heap s.nx ⟨false,[],[]⟩
   |some (.gptr g off)=>bS P t (.gptr g off) O.glob=some (.val v)∧K v s.heap s.nx ⟨false,[],[]⟩
   |_=>False
  |_=>False
 | .res r=>match lB P (aj s.slots) o r with
  |some p=>p∧K r s.heap s.nx ⟨false,[],[]⟩
  |none=>False
 | .lk r=>match o.op with
  | .lookup t m k ok=>match aj s.slots m,aj s.slots k with
   | some (.map i),some kv=>match hget s.heap i with
    |some (.mapb _ _ es)=>match jc P t kv with
     |some z=>fa kv es=some r∧K (fc ok z r) s.heap s.nx ⟨false,[i],[]⟩
     |none=>False
    |_=>False
   |_,_=>False
  |_=>False
 | .up es' same=>match o.op with
  | .mapUpdate t m k v=>match aj s.slots m,aj s.slots k,aj s.slots v with
   | some (.map i),some kv,some vv=>match hget s.heap i with
    |some (.mapb cl st es)=>match jc P t kv with
     |some _=>(fb kv vv es=some es'∧Nat.beq (ab es') (ab es)=same)∧K bN (an s.heap i (o3 same cl st es')) s.nx ⟨false,[],[i]⟩
     |none=>False
    |_=>False
   |_,_,_=>False
  |_=>False
 | .dl j=>match o.op with
  | .call c=>match c.callee,cd (aj s.slots) c.args.toList with
   | .builtin .delete,some [.map i,kv]=>match hget s.heap i with
    |some (.mapb cl st es)=>match lC P c.argTypes kv with
     |true=>fe kv es 0=some j∧K (.tuple []) (an s.heap i (o4 j cl st es)) s.nx ⟨false,[],[i]⟩
     |false=>False
    |_=>False
   |_,_=>False
  |_=>False
abbrev Kn:=List (Nat × Bool)
def dx:Kn→Nat→Option Bool
 |[],_=>none
 |(d,b)::t,k=>match Nat.beq d k with
  |true=>some b
  |false=>dx t k
def g4:Kn→Nat→Kn
 |[],_=>[]
 |(d,b)::t,k=>match Nat.beq d k with
  |true=>g4 t k
  |false=>(d,b)::g4 t k
def dy (kn:Kn):Option Tmp→Kn
 |some d=>g4 kn d
 |none=>kn
def lD (kn:Kn) (slots:Tr) (x:Operand):Option AV:=match x with
 | .tmp t=>match dx kn t with
  |some b=>some (.bool b)
  |none=>aj slots (.tmp t)
 |x=>aj slots x
def eP (rid:Nat) (ops:List Oper) (id i:Nat) (o:Oper) (s:St) (kn:Kn) (K:Kn→St→Foot→Prop):Prop:=
 match A.hint rid i with
 |some a=>g0 P O n A ops id o s (fun v h nx ft=>K (dy kn o.dst) ⟨aI s.n s.slots o.dst v,h,nx,s.n⟩ ft) a
 |none=>jb P O n A id s.heap s.nx (fun v h nx ft=>K (dy kn o.dst) ⟨aI s.n s.slots o.dst v,h,nx,s.n⟩ ft) (fK P O.glob ops (lD kn s.slots) o)
def fL (o:Oper) (s:St) (kn:Kn) (K:Kn→St→Foot→Prop):Prop:=K (dy kn o.dst) ⟨aI s.n s.slots o.dst bN,s.heap,s.nx,s.n⟩ ⟨false,[],[]⟩
def lE (rid:Nat) (ops:List Oper) (id i:Nat) (o:Oper) (s:St) (kn:Kn) (K:Kn→St→Foot→Prop):Prop:=
 match o.guard with
 |none=>eP P O n A rid ops id i o s kn K
 | some (j,want)=>match aT ops j with
  | some g=>match g.dst with
   | some d=>match dx kn d with
    | some b=>match want with
     |true=>match b with
      |true=>eP P O n A rid ops id i o s kn K
      |false=>fL o s kn K
     |false=>match b with
      |true=>fL o s kn K
      |false=>eP P O n A rid ops id i o s kn K
    | none=>match s.slots.get d with
     | some (.bool b)=>match want with
      |true=>match b with
       |true=>eP P O n A rid ops id i o s ((d,true)::kn) K
       |false=>fL o s ((d,false)::kn) K
      |false=>match b with
       |true=>fL o s ((d,true)::kn) K
       |false=>eP P O n A rid ops id i o s ((d,false)::kn) K
     |some (.tuple [])=>fL o s kn K
     |_=>False
   |none=>False
  |none=>False
def jd (rid:Nat) (all:List Oper) (base:Nat):List Oper→Nat→St→Kn→List (Nat × Foot)→(St→List (Nat × Foot)→Prop)→Prop
 |[],_,s,_,acc,K=>K s acc
 |o::rest,i,s,kn,acc,K=>lE P O n A rid all (base+i) i o s kn fun kn' s' ft=>jd rid all base rest (i+1) s' kn' (match ft.none with|true=>acc|false=>(i,ft)::acc) K
def lF (B:St→(AExit→St→Prop)→Prop):Nat→St→(AExit→St→Prop)→Prop
 |0,_,_=>False
 |k+1,s,Q=>B s (i6 (fun s'=>lF B k s' Q) Q)
end
def dY:Code→Nat
 | .region id _ _=>id+1
 | .seq a b=>match dY a with
  |0=>dY b
  |k+1=>k+1
 | .cond _ a b=>match dY a with
  |0=>dY b
  |k+1=>k+1
 | .block _ c=>dY c
 | .loop c=>dY c
 |_=>0
def bB:Code→Nat→List Code
 | .seq a b,r=>bB a r++bB b r
 | .cond _ a b,r=>bB a r++bB b r
 | .block _ c,r=>bB c r
 | .loop c,r=>(match Nat.beq (dY c) r with
  |true=>[c]
  |false=>[])++bB c r
 |_,_=>[]
section
variable (P:Program) (O:ar) (n:Nat) (A:bH)
def je (rid:Nat) (ops:Array Oper) (draw:Bool) (s:St) (Q:AExit→St→Prop):Prop:=
 jd P O n A rid ops.toList s.nx ops.toList 0 ⟨s.slots,s.heap,s.nx+ab ops.toList,s.n⟩ [] [] fun s' feet=>match draw with
  |false=>Q .normal s'
  |true=>aP (dn ops.toList&&c9 (bv ops.toList []) feet) (Q .normal s')
def lG (c:Operand) (b:Bool) (s:St):St:=match c with
 | .tmp d=>⟨aI s.n s.slots (some d) (.bool b),s.heap,s.nx,s.n⟩
 |_=>s
def bI:Code→St→(AExit→St→Prop)→Prop
 | .skip,s,Q=>Q .normal s
 | .label _,s,Q=>Q .normal s
 | .exit i,s,Q=>Q (.exit i) s
 | .ret,s,Q=>Q .ret s
 | .region rid ops draw,s,Q=>match A.cut rid with
  |some C=>C s fun s=>je P O n A rid ops draw s Q
  |none=>je P O n A rid ops draw s Q
 | .seq a b,s,Q=>bI a s (i6 (fun s'=>bI b s' Q) Q)
 | .cond c a b,s,Q=>match aj s.slots c with
  |some (.bool t)=>match t with
   |true=>bI a (lG c true s) Q
   |false=>bI b (lG c false s) Q
  |_=>False
 | .block id body,s,Q=>bI body s (li id Q)
 | .loop body,s,Q=>match A.ls (dY body) with
  |some L=>L s Q
  |none=>lF (bI body) O.lf s Q
 |_,_,_=>False
def bx (f:FuncId) (args:List AV) (H:aa) (nx:Nat) (Q:AV→aa→Nat→Prop):Prop:=
  match P.funcs[f]? with
  | some fn=>match fn.body with
    | some c=>match fn.name== "runtime.NumGoroutine" with
      |true=>False
      | false=>match Nat.ble (ab args) fn.ntmps&&Nat.ble fn.ntmps 4095 with
       |false=>False
       |true=>bI P O n A c ⟨bz args 0 .tip,H,nx,fn.ntmps⟩ fun e s=>match e with
        | .exit _=>False
        | _=>match bD P O.glob s fn.results.toList with
          |some l=>Q (bP l) s.heap s.nx
          |none=>False
    |none=>False
  |none=>False
end
end
end Go.Proofs.Abs
/- The abstract machine in continuation form says but what is so. -/
namespace Go.Proofs.Abs
open Go
theorem oblB_iff {b:Bool} {K:Prop}:aP b K↔b=true∧K:=by cases b<;>simp[aP]
theorem fM {b:Bool} {T F:Prop} (ht:b=true→T) (hf:b=false→F):dV b T F:=by cases b<;>simp_all [dV]
section
variable {P:Program}
theorem lH {eq eq':TypeId→AV→AV→Option Bool} (h:∀t x y r,eq t x y=some r→eq' t x y=some r):∀ (fs:List Field) (xs ys:List AV) (r:Bool),fJ P eq fs xs ys=some r→dj P eq' fs xs ys=some r
 |[],xs,ys,r,hr=>by simpa [fJ,dj] using hr
 | f ::fs,xs,ys,r,hr=>by
  simp only[fJ] at hr
  simp only[dj]
  split at hr
  ·rename_i hn;simp only[hn];exact lH h fs xs ys r hr
  ·rename_i hn
   simp only[hn]
   split at hr
   ·rename_i a b ha hb
    simp only[ha,hb]
    split at hr
    ·rename_i p q hp hq
     simp only[Option.some.injEq] at hr
     subst hr
     rw[h _ _ _ _ hp]
     cases p with
     |true=>simpa using lH h fs xs ys q hq
     |false=>rfl
    ·cases hr
   ·cases hr
theorem o5 {eq eq':TypeId→AV→AV→Option Bool} (h:∀t x y r,eq t x y=some r→eq' t x y=some r) {e:TypeId} {sz:Nat} {xs ys:List AV}:∀ (is:List Nat) (r:Bool),gY P eq e sz xs ys is=some r→dE P eq' e sz xs ys is=some r
 |[],r,hr=>by simpa [gY,dE] using hr
 | i::is,r,hr=>by
  simp only[gY] at hr
  simp only[dE]
  split at hr
  ·rename_i a b ha hb
   simp only[ha,hb]
   split at hr
   ·rename_i p q hp hq
    simp only[Option.some.injEq] at hr
    subst hr
    rw[h _ _ _ _ hp]
    cases p with
    |true=>simpa using o5 h is q hq
    |false=>rfl
   ·cases hr
  ·cases hr
theorem jf:∀ (d:Nat) (t:TypeId) (x y:AV) (r:Bool),eN P d t x y=some r→bn P d t x y=some r
 |0,_,_,_,_,h=>by simp[eN] at h
 | d +1,t,x,y,r,h=>by
  unfold eN at h
  split at h
  ·rename_i xs ys
   split at h
   ·rename_i fs hu
    split at h
    ·cases h
    ·rename_i hs
     unfold bn
     simp only[hu,hs]
     exact lH (jf d) _ _ _ _ h
   ·rename_i n e hu
    split at h
    ·rename_i sz hs
     unfold bn
     simp only[hu,hs]
     exact o5 (jf d) _ _ h
    ·cases h
   ·cases h
  ·exact h
theorem fN {w:AV} {b:Bool} {k:Nat} (h:dW w=some (b,k)) (hb:b=true):ck w=some k:=by
 unfold dW at h
 split at h
 ·rename_i kd n
  simp only[Option.some.injEq,Prod.mk.injEq] at h
  obtain ⟨rfl,rfl⟩:=h
  cases n with
  |ofNat m=>rfl
  |negSucc m=>cases hb
 ·cases h
theorem fO {w:Option AV} {b:Bool} {k:Option Nat} (h:gW w=some (b,k)) (hb:b=true):cI w=some k:=by
 unfold gW at h
 split at h
 ·simp only[Option.some.injEq,Prod.mk.injEq] at h
  obtain ⟨_,rfl⟩:=h;rfl
 ·rename_i v
  split at h
  ·rename_i b' n hn
   simp only[Option.some.injEq,Prod.mk.injEq] at h
   obtain ⟨rfl,rfl⟩:=h
   simp[cI,fN hn hb]
  ·cases h
theorem jg:∀ (l:List AV) (o n:Nat),o+n≤l.length→chunk l o n=some ((l.drop o).take n)
 |l,o,0,_=>by cases l<;>simp[chunk]
 |[],o,n+1,h=>by simp at h
 |a::t,0,n+1,h=>by
  simp only[List.length_cons] at h
  simp[chunk,jg t 0 n (by omega)]
 |a::t,o+1,n+1,h=>by
  simp only[List.length_cons] at h
  simp[chunk,jg t o (n+1) (by omega)]
theorem r7 {i:TypeInfo} {xd:TypeDesc} {z x:AV} {b:Bool} {m:Nat} {cs:List AV} {k:Nat→List AV→Option Eff} (hx:oZ xd=true) (h:dX i.size x=some (b,m,cs)) (hb:b=true):e9 xd i.size i.bytes z x k=k m cs:=by
 have e:e9 xd i.size i.bytes z x k=cm i.size x k:=by
  cases xd<;>first|(cases hx;done)|rfl
 rw[e]
 unfold dX at h
 split at h
 ·simp only[Option.some.injEq,Prod.mk.injEq] at h
  obtain ⟨rfl,rfl,rfl⟩:=h
  simp[cm,hb]
 ·simp only[Option.some.injEq,Prod.mk.injEq] at h
  obtain ⟨rfl,rfl,rfl⟩:=h;rfl
 ·simp only[Option.some.injEq,Prod.mk.injEq] at h
  obtain ⟨rfl,rfl,rfl⟩:=h;rfl
 ·simp only[Option.some.injEq,Prod.mk.injEq] at h
  obtain ⟨rfl,rfl,rfl⟩:=h
  simp only[cm,hb,if_true]
 ·cases h
theorem r8 {sz:Nat} {x:AV} {b:Bool} {cs:List AV} (h:dX sz x=some (b,0,cs)):cs=[]:=by
 unfold dX at h
 split at h
 ·rename_i es
  simp only[Option.some.injEq,Prod.mk.injEq] at h
  obtain ⟨_,h1,rfl⟩:=h
  cases es with
  |nil=>rfl
  |cons a r=>simp[ab] at h1
 ·simp only[Option.some.injEq,Prod.mk.injEq] at h
  exact h.2.2.symm
 ·simp only[Option.some.injEq,Prod.mk.injEq] at h
  exact h.2.2.symm
 ·rename_i s
  simp only[Option.some.injEq,Prod.mk.injEq] at h
  obtain ⟨_,h1,rfl⟩:=h
  cases s with
  |nil=>rfl
  |cons a r=>simp[ab] at h1
 ·cases h
theorem r9 (l:List AV) (k:Nat):splice l k []=some l:=by cases l<;>cases k<;>rfl
theorem sc {argTypes:Array TypeId} {s x:AV} {es:ES} (h:lj P argTypes s x=some es):es.ok (ec P argTypes s x):=by
 unfold lj at h
 split at h
 ·rename_i st xt h1 h2
  split at h
  ·rename_i e xd h3 h4
   split at h
   ·rename_i i z hx hi hz
    split at h
    ·cases h
    ·rename_i hc
     split at h
     ·rename_i b m cs hsrc
      have hA:∀k,b=true→e9 xd i.size i.bytes z x k=k m cs:=fun k hb=>r7 hx hsrc hb
      unfold ec
      simp only[h1,h2,h3,h4,hi,hz]
      rw[Bool.or_eq_false_iff,Bool.or_eq_false_iff] at hc
      obtain ⟨⟨c1,c2⟩,c3⟩:=hc
      simp only[c1,c2,c3,Bool.or_self,Bool.false_eq_true,if_false]
      unfold oY at h
      split at h
      ·split at h
       ·rename_i hm
        simp only[Option.some.injEq] at h;subst h
        intro hb
        rw[hA _ hb];simp[hm]
       ·rename_i hm
        simp only[Option.some.injEq] at h;subst h
        intro hb
        rw[Bool.and_eq_true] at hb
        rw[hA _ hb.1];simp only[hm,hb.2,Bool.false_eq_true,if_false,if_true]
      ·split at h
       ·rename_i hm
        simp only[Option.some.injEq] at h;subst h
        intro hb
        rw[hA _ hb];simp[hm]
       ·rename_i hm
        simp only[Option.some.injEq] at h;subst h
        intro hb
        rw[Bool.and_eq_true] at hb
        rw[hA _ hb.1];simp only[hm,hb.2,Bool.false_eq_true,if_false,if_true]
      ·rename_i id len sz
       simp only[Option.some.injEq] at h;subst h
       intro hb
       rw[Bool.and_eq_true,Bool.and_eq_true] at hb
       obtain ⟨hb,hb1,hb2⟩:=hb
       rw[hA _ hb]
       simp only[hb1,hb2,Bool.true_and,if_true]
       refine ⟨_,rfl,fun l hl=> ?_⟩
       have hl:=beq_iff.1 hl
       have hs:i.size≠0:=beq_false_iff.1 c1
       cases hm:Nat.beq m 0 with
       | false=>
        have hm:m≠0:=beq_false_iff.1 hm
        have:¬ ((len+m)*i.size≤ab l):=by
         rw[hl]
         intro hle
         have:=Nat.le_of_mul_le_mul_right hle (Nat.pos_of_ne_zero hs)
         omega
        simp only
        rw[if_neg (by simpa using this),if_pos (by simp[hl])]
        rw[List.take_of_length_le (by rw[←ak];omega)]
       |true=>
        obtain rfl:=beq_iff.1 hm
        obtain rfl:=r8 hsrc
        simp only[Nat.add_zero]
        rw[if_pos (by simp[hl]),r9,List.append_nil]
      ·cases h
     ·cases h
   ·cases h
  ·cases h
 ·cases h
theorem sd {t:TypeId} {x:AV} {lo hi mx:Option AV} {es:ES} (h:ll P t x lo hi mx=some es):es.ok (c6 P t x lo hi mx):=by
 unfold ll at h
 split at h
 ·rename_i b1 l b2 hh hl hhi
  split at h
  ·rename_i s
   split at h
   ·rename_i hu
    simp only[Option.some.injEq] at h;subst h
    intro hb
    simp only[Bool.and_eq_true] at hb
    obtain ⟨k1,k2,k3,k4⟩:=hb
    have q1:=fO hl k1
    have q2:=fO hhi k2
    have q3:cI none=some none:=rfl
    simp only[c6,q1,q2,q3,jF,hu,k3,k4,Option.isNone_none,Bool.and_self]
   ·cases h
  ·rename_i full es'
   split at h
   ·rename_i e he
    split at h
    ·rename_i sz hsz
     simp only[Option.some.injEq] at h;subst h
     intro hb
     simp only[Bool.and_eq_true] at hb
     obtain ⟨k1,k2,k3,k4,k5⟩:=hb
     have q1:=fO hl k1
     have q2:=fO hhi k2
     have q3:cI none=some none:=rfl
     simp only[c6,q1,q2,q3,jG,he,hsz,k3,k4,k5,Bool.and_self,jE]
     rw[jg _ _ _ (by rw[←ak];rw[Nat.ble_eq] at k4 k5;omega)]
    ·cases h
   ·cases h
  ·rename_i own id off len sz'
   split at h
   ·rename_i h0
    split at h
    ·rename_i e he
     split at h
     ·rename_i sz hsz
      simp only[Option.some.injEq] at h;subst h
      intro hb
      simp only[Bool.and_eq_true] at hb
      obtain ⟨k2,k3,k4⟩:=hb
      have e1:b1=true:=by
       unfold gW at hl
       split at hl
       ·simp only[Option.some.injEq,Prod.mk.injEq] at hl;exact hl.1.symm
       ·split at hl
        ·simp at hl
        ·cases hl
      have q1:=fO hl e1
      have q2:=fO hhi k2
      have q3:cI none=some none:=rfl
      simp only[c6,q1,q2,q3,jH,he,hsz,k3,Option.getD_none,Option.getD_some,k4,Option.isNone_none,Bool.and_true]
      have k5:Nat.ble 0 h0=true:=by simp
      simp[f7,beq_iff.1 k3,k5]
     ·cases h
    ·cases h
   ·cases h
  ·cases h
 ·cases h
theorem se {src dst:TypeId} {x:AV} {es:ES} (h:lm P src dst x=some es):es.ok (cZ P src dst x):=by
 unfold lm at h
 split at h
 ·rename_i e f l hs hd
  split at h
  ·rename_i hb
   simp only[Option.some.injEq] at h;subst h
   intro hi
   unfold cZ
   simp only[hs,hd,hb,jD]
   cases hl:bO l with
   |none=>rw[hl] at hi;cases hi
   |some s=>simp[d8,i7,hl]
  ·cases h
 ·cases h
theorem sf {t:TypeId} {l c:AV} {es:ES} (h:ln P t l c=some es):es.ok (f5 P t l c):=by
 unfold ln at h
 split at h
 ·rename_i e b1 l' b2 c' he hl hc
  split at h
  ·rename_i i z hi hz
   simp only[Option.some.injEq] at h;subst h
   intro hb
   rw[Bool.and_eq_true,Bool.and_eq_true] at hb
   obtain ⟨k1,k2,k3⟩:=hb
   simp only[f5,he,fN hl k1,fN hc k2,hi,hz,k3]
  ·cases h
 ·cases h
theorem lI {l:List AV} {o:Nat} {vs:List AV} (h:o+vs.length≤l.length):splice l o vs=some (gX l o vs):=by
  unfold gX
  rw[ak]
  exact go l o vs h
 where
  go:∀ (l:List AV) (o:Nat) (vs:List AV),o+vs.length≤l.length→splice l o vs=some (l.take o++(vs++l.drop (o+vs.length)))
    |l,o,[],_=>by cases l<;>simp[splice]
    |[],o,_::_,h=>by simp at h
    | a::t,0,v::vs,h=>by
      simp only[List.length_cons] at h
      have:=go t 0 vs (by omega)
      simp only[splice,this]
      simp
    | a::t,o+1,v::vs,h=>by
      simp only[List.length_cons] at h
      have:=go t o (v::vs) (by simp only[List.length_cons];omega)
      simp only[splice,this]
      simp[show o+1+(vs.length+1)=o+(vs.length+1)+1 by omega]
theorem sg {sz:Nat} {x:AV} {b:Bool} {m:Nat} {cs:List AV} {k:Nat→List AV→Option Eff} (h:dX sz x=some (b,m,cs)) (hb:b=true):cm sz x k=k m cs:=by
 unfold dX at h
 split at h
 ·simp only[Option.some.injEq,Prod.mk.injEq] at h
  obtain ⟨rfl,rfl,rfl⟩:=h
  simp[cm,hb]
 ·simp only[Option.some.injEq,Prod.mk.injEq] at h
  obtain ⟨rfl,rfl,rfl⟩:=h;rfl
 ·simp only[Option.some.injEq,Prod.mk.injEq] at h
  obtain ⟨rfl,rfl,rfl⟩:=h;rfl
 ·simp only[Option.some.injEq,Prod.mk.injEq] at h
  obtain ⟨rfl,rfl,rfl⟩:=h
  simp only[cm,hb,if_true]
 ·cases h
theorem sk {argTypes:Array TypeId} {d x:AV} {es:ES} (h:lp P argTypes d x=some es):es.ok (ed P argTypes d x):=by
 unfold lp at h
 split at h
 ·rename_i t ht
  split at h
  ·rename_i e he
   split at h
   ·rename_i sz hsz
    split at h
    ·rename_i own id off len s'
     split at h
     ·rename_i b m cs hsrc
      simp only[Option.some.injEq] at h;subst h
      intro hb
      rw[Bool.and_eq_true] at hb
      unfold ed
      simp only[ht,he,hsz,sg hsrc hb.1,hb.2,if_true]
      refine ⟨_,rfl,fun l hl=> ?_⟩
      have hl:off+(cs.take (min m len*sz)).length≤l.length:=by simpa [ak] using hl
      simp only[lI hl]
     ·cases h
    ·cases h
   ·cases h
  ·cases h
 ·cases h
theorem o6 {t:TypeId} {v:AV} {n:Nat} (h:i9 P t v n=true):(Nat.beq (ab v.cells) n&&aR v.cells)=true∧i8 P t v=v.cells:=by
 unfold i9 at h
 unfold i8
 split at h
 ·rename_i ht
  rw[Bool.and_eq_true] at h
  have e:=iL h.1
  have hn:=beq_iff.1 h.2
  subst hn
  exact ⟨by rw[e];simp[ab,aR,h.1],e.symm⟩
 ·rename_i hne
  exact ⟨h,rfl⟩
theorem sm {t:TypeId} {a v:AV} {es:ES} (h:lq P t a v=some es):es.ok (d7 P t a v):=by
 unfold lq at h
 split at h
 ·rename_i id off
  split at h
  ·rename_i n hn
   simp only[Option.some.injEq] at h;subst h
   intro hb
   obtain ⟨hb,hc⟩:=o6 hb
   have hb1:=(Bool.and_eq_true _ _▸hb:_∧_).1
   refine ⟨_,by simp only[d7,hn,hb,if_true];rfl,fun l hl=> ?_⟩
   have hl:off+v.cells.length≤l.length:=by
    have h1:=beq_iff.1 hb1
    rw[ak] at h1
    simpa [ak,h1] using hl
   simp only[hc,lI hl,Option.map_some]
  ·cases h
 ·cases h
theorem sn {t:TypeId} {v:AV} {es:ES} (h:lr P t v=some es):es.ok (fh v):=by
 unfold lr at h
 split at h
 ·simp only[Option.some.injEq] at h;subst h
  intro hb
  simp only[fh,iL hb]
 ·cases h
theorem o7 {fs:List Field} {pl:List (Nat × Nat)}:∀ {parts:List (Nat × AV)} {cells c:List AV} {b:Bool},gZ P fs pl cells parts=some (b,c)→b=true→cJ (aT pl) cells parts=some c
 |[],_,_,_,h,_=>by
  simp only[gZ,Option.some.injEq,Prod.mk.injEq] at h
  simp only[cJ,h.2]
 | (i,v)::rest,cells,c,b,h,hb=>by
  unfold gZ at h
  split at h
  ·rename_i f off s hf hp
   split at h
   ·rename_i hs
    split at h
    ·rename_i b' c' hr
     simp only[Option.some.injEq,Prod.mk.injEq] at h
     obtain ⟨rfl,rfl⟩:=h
     rw[Bool.and_eq_true] at hb hs
     obtain ⟨h1,h2⟩:=o6 hb.1
     rw[Bool.and_eq_true] at h1
     have hl:=beq_iff.1 h1.1
     rw[ak] at hl
     have hle:=Nat.le_of_ble_eq_true hs.2
     rw[ak] at hle
     have:=o7 hr hb.2
     rw[h2] at this
     simp only[cJ,hp,h1.1,hs.1,Bool.and_self,if_true,lI (show off+v.cells.length≤cells.length by omega),this]
    ·cases h
   ·cases h
  ·cases h
theorem so {t:TypeId} {parts:List (Nat × AV)} {es:ES} (h:lu P t parts=some es):es.ok (aC (gb P t parts)):=by
 unfold lu at h
 split at h
 ·rename_i z fs hz hu
  split at h
  ·rename_i pl hpl
   split at h
   ·rename_i b c hc
    simp only[Option.some.injEq] at h;subst h
    intro hb
    simp only[gb,hz,hu,hpl,o7 hc hb,ea,aC]
   ·cases h
  ·cases h
 ·cases h
theorem sp {t:TypeId} {x i:AV} {es:ES} (h:lv P t x i=some es):es.ok (aC (c7 P t x i)):=by
 unfold lv at h
 split at h
 ·rename_i e own id off len sz' b k hu hn
  split at h
  ·rename_i sz hsz
   simp only[Option.some.injEq] at h;subst h
   intro hb
   rw[Bool.and_eq_true] at hb
   have q1:=fN hn hb.1
   simp only[c7,q1,hu,hsz,hb.2,Option.bind_eq_bind,Option.bind_some,if_true,aC]
  ·cases h
 ·cases h
theorem aS {G:ae} {ops:List Oper} {ev:Operand→Option AV} {o:Oper} (h:fE o.op=true):aF P G ops ev o=aq P G ev o:=by
 unfold aF
 split
 ·rename_i ho _;rw[ho] at h;cases h
 ·rfl
theorem sq {G:ae} {ops:List Oper} {ev:Operand→Option AV} {o:Oper} {es:ES} (h:fK P G ops ev o=some es):es.ok (aF P G ops ev o):=by
 have plain:(match aF P G ops ev o with
   |some e=>some (ES.eff e)
   |none=>none)=some es→es.ok (aF P G ops ev o):=fun h=>by
  split at h
  ·rename_i e he
   simp only[Option.some.injEq] at h;subst h
   exact he
  ·cases h
 unfold fK at h
 split at h
 ·rename_i c a b ho
  rw[aS (by rw[ho];rfl)]
  split at h
  ·rename_i t ht
   simp only[Option.some.injEq] at h;subst h
   refine ⟨?_, ?_⟩<;>rintro rfl<;>simp[aq,ho,ir,ht]
  ·cases h
 ·rename_i op t x y t' ho
  split at h
  ·rename_i a b hx hy
   simp only[Option.some.injEq] at h;subst h
   intro hb
   rw[aS (by rw[ho];rfl)]
   simp only[aq,ho,e2,hx,hy,aC,a6,hb,if_true]
  ·rename_i a b hx hy
   split at h
   ·rename_i r hg hr
    simp only[Option.some.injEq] at h;subst h
    show _=some _
    rw[aS (by rw[ho];rfl)]
    simp only[aq,ho,e2,hx,hy,aC,a6,hg,jf _ _ _ _ _ hr,Bool.false_eq_true,if_false,Option.map_some]
   ·cases h
  ·rename_i a b hx hy
   split at h
   ·rename_i r hg hr
    simp only[Option.some.injEq] at h;subst h
    show _=some _
    rw[aS (by rw[ho];rfl)]
    simp only[aq,ho,e2,hx,hy,aC,a6,hg,jf _ _ _ _ _ hr,Bool.false_eq_true,if_false,Option.map_some]
   ·cases h
  ·rename_i k a k' b hx hy
   split at h
   ·rename_i hk
    have hk:=of_decide_eq_true hk
    subst hk
    simp only[Option.some.injEq] at h;subst h
    intro hb
    have hb:bK b 0=false:=by simpa using hb
    rw[aS (by rw[ho];rfl)]
    simp[aq,ho,e2,hx,hy,aC,a6,hb]
   ·cases h
  ·rename_i k a k' b hx hy
   split at h
   ·rename_i hk
    have hk:=of_decide_eq_true hk
    subst hk
    simp only[Option.some.injEq] at h;subst h
    intro hb
    have hb:bK b 0=false:=by simpa using hb
    rw[aS (by rw[ho];rfl)]
    simp[aq,ho,e2,hx,hy,aC,a6,hb]
   ·cases h
  ·exact plain h
 ·rename_i t a x ho
  split at h
  ·rename_i a' x' ha hx
   rw[aS (by rw[ho];rfl)]
   have:=sm h
   simpa only[aq,ho,e2,ha,hx] using this
  ·cases h
 ·rename_i t x ho
  split at h
  ·rename_i v hx
   split at h
   ·rename_i e he
    simp only[Option.some.injEq] at h;subst h
    rw[aS (by rw[ho];rfl)]
    have:=sn he
    simpa only[aq,ho,e1,hx] using this
   ·exact plain h
  ·cases h
 ·rename_i t parts ho
  split at h
  ·rename_i ps hps
   split at h
   ·rename_i e he
    simp only[Option.some.injEq] at h;subst h
    rw[aS (by rw[ho];rfl)]
    have:=so he
    simpa only[aq,ho,iu,hps] using this
   ·exact plain h
  ·cases h
 ·rename_i t x i ho
  split at h
  ·rename_i x' i' hx hi
   split at h
   ·rename_i e he
    simp only[Option.some.injEq] at h;subst h
    rw[aS (by rw[ho];rfl)]
    have:=sp he
    simpa only[aq,ho,e2,hx,hi] using this
   ·exact plain h
  ·cases h
 ·rename_i s d x ho
  split at h
  ·rename_i f l hx
   split at h
   ·rename_i e he
    simp only[Option.some.injEq] at h;subst h
    rw[aS (by rw[ho];rfl)]
    have:=se he
    simpa only[aq,ho,e1,hx] using this
   ·exact plain h
  ·exact plain h
 ·rename_i t x i ho
  split at h
  ·rename_i s w hu hx hi
   split at h
   ·rename_i b k hk
    simp only[Option.some.injEq] at h;subst h
    intro hb
    rw[Bool.and_eq_true] at hb
    rw[aS (by rw[ho];rfl)]
    have hlt:k<s.length:=by rw[←ak];exact blt_iff.1 hb.2
    have hg:aT s k=some (cU s k):=by rw[cq];simp[cU,hlt]
    simp[aq,ho,e2,hx,hi,ga,fN hk hb.1,hu,hg,aC]
   ·cases h
  ·exact plain h
 ·rename_i t l c ho
  split at h
  ·rename_i l' c' hl hc
   rw[aS (by rw[ho];rfl)]
   have:=sf h
   simpa only[aq,ho,e2,hl,hc] using this
  ·cases h
 ·rename_i t x lo hi mx ho
  split at h
  ·rename_i x' lo' hi' mx' h1 h2 h3 h4
   rw[aS (by rw[ho];rfl)]
   have e:aq P G ev o=c6 P t x' lo' hi' mx':=by simp only[aq,ho,gj,h1,h2,h3,h4]
   rw[e]
   split at h
   ·rename_i es' he
    simp only[Option.some.injEq] at h;subst h
    exact sd he
   ·split at h
    ·rename_i e' he
     simp only[Option.some.injEq] at h;subst h
     exact he
    ·cases h
  ·cases h
 ·rename_i c ho
  split at h
  ·rename_i s x hc hargs
   rw[aS (by rw[ho];rfl)]
   have e:aq P G ev o=ec P c.argTypes s x:=by simp only[aq,ho,cK,hargs,hc,dG]
   rw[e]
   split at h
   ·rename_i es' he
    simp only[Option.some.injEq] at h;subst h
    exact sc he
   ·split at h
    ·rename_i e' he
     simp only[Option.some.injEq] at h;subst h
     exact he
    ·cases h
  ·rename_i d x hc hargs
   rw[aS (by rw[ho];rfl)]
   have e:aq P G ev o=ed P c.argTypes d x:=by simp only[aq,ho,cK,hargs,hc,dG]
   rw[e]
   split at h
   ·rename_i es' he
    simp only[Option.some.injEq] at h;subst h
    exact sk he
   ·split at h
    ·rename_i e' he
     simp only[Option.some.injEq] at h;subst h
     exact he
    ·cases h
  ·exact plain h
 ·exact plain h
variable {O:ar} {n:Nat} {A:bH}
structure bR (P:Program) (O:ar) (A:bH):Prop where
 cx:ax P O.glob A.cx∧ay A.cx
 sum:∀f args v,O.summ f args=some v→SemCall P O.glob f args v
 inl:∀f T,A.inl f=some T→∀args h nx K,T.run args h nx K→∃v h' nx',K v h' nx'∧bw P O.glob f args h nx v h' nx'
 cut:∀r C,A.cut r=some C→∀nx0 s K,C s K→∃s2,(∀w0 I0 α0 H0 D a w,(∀id,nx0≤id→α0 id=none)→CR O.glob w0 I0 α0 H0 nx0 D s a w→CR O.glob w0 I0 α0 H0 nx0 D s2 a w)∧K s2
theorem sr {G:ae}:ax P G (fun _ _ _ _ _=>none)∧ay (fun _ _ _ _ _=>none):=by
 refine ⟨?_, ?_⟩
 ·intro f args rid H nx v H' nx' ft h;cases h
 ·intro f args id h nx v h' nx' ft hc;cases hc
abbrev eQ (P:Program) (G:ae) (call:af):Prop:=ax P G call∧ay call
theorem jh (B:bG P O n) {id d:Nat} {e:Eff} {h:aa} {nx:Nat} {K:AV→aa→Nat→Foot→Prop} (hk:dg P O n id d e h nx K):
  ∃call,eQ P O.glob call∧∃v h' nx' ft,ai call id d e h nx=some (v,h',nx',ft)∧K v h' nx' ft:=by
 unfold dg at hk
 split at hk
 ·rename_i v h' nx' ft hr
  exact ⟨_,B.calls,v,h',nx',ft,hr,hk⟩
 ·exact hk.elim
theorem g5 {call:af} {id d:Nat} {f:FuncId} {args:List AV} {h:aa} {nx:Nat}:ai call id d (.call f args) h nx=call f args id h nx:=by cases d<;>rfl
noncomputable def eR (f0:FuncId) (args0:List AV) (L:List Nat) (H0:aa) (nx0:Nat) (v:AV) (H2:aa) (m:Nat):af:=by
 classical exact fun f args _ h nx=>if f=f0∧args=args0∧nx=nx0∧aD h L=H0 then some (v,lz L H2 nx h,nx+m,⟨true,L,nx::L⟩) else none
theorem o8 {G:ae} {f0:FuncId} {args0:List AV} {L:List Nat} {H0:aa} {nx0:Nat} {v:AV} {H2:aa} {m:Nat} (hB:bw P G f0 args0 H0 nx0 v H2 (nx0+m)):ax P G (eR f0 args0 L H0 nx0 v H2 m)∧ay (eR f0 args0 L H0 nx0 v H2 m):=by
 refine ⟨?_, ?_⟩
 ·intro f args rid H nx v1 H' nx' ft hc w I α vs hr ha hrid hlt hf
  unfold eR at hc
  split at hc
  ·rename_i he
   obtain ⟨rfl,rfl,rfl,rfl⟩:=he
   simp only[Option.some.injEq,Prod.mk.injEq] at hc
   obtain ⟨rfl,rfl,rfl,rfl⟩:=hc
   obtain ⟨e1,e2⟩:=hB w I α vs (eG hr L) ha hf
   rw[e1]
   refine Calls.mono e2 ?_
   rintro e w' ⟨u,rfl,hp⟩
   exact ⟨u,rfl,iV hr hf hp⟩
  ·cases hc
 ·intro f args id hp nx v1 h' nx' ft hc
  unfold eR at hc
  split at hc
  ·rename_i he
   obtain ⟨rfl,rfl,rfl,rfl⟩:=he
   simp only[Option.some.injEq,Prod.mk.injEq] at hc
   obtain ⟨rfl,rfl,rfl,rfl⟩:=hc
   refine ⟨fun h=>(by cases h),fun _ n l hw=> ?_⟩
   simp only[List.cons.injEq] at hw
   obtain ⟨rfl,rfl⟩:=hw
   refine ⟨rfl,by omega,_,rfl,fun p hp=> ?_,fun h2 hk=> ?_⟩
   ·rw[fA] at hp
    rcases List.mem_append.1 hp with hp|hp
    ·exact .inl (gQ hp).1
    ·exact .inr (eI hp).1
   ·have hC:aD h2 L=aD hp L:=eH _ fun i hi=>hk i (by simp[hi])
    unfold eR
    rw[if_pos ⟨rfl,rfl,rfl,hC⟩]
    rfl
  ·cases hc
theorem ss {f:FuncId} {args:List AV} {h:aa} {nx id d:Nat} {K:AV→aa→Nat→Foot→Prop} {r:lw} (hk:ja P O f args h nx K r):
  ∃call,eQ P O.glob call∧∃v h' nx' ft,ai call id d (.call f args) h nx=some (v,h',nx',ft)∧K v h' nx' ft:=by
 cases r with
 |val v=>exact ⟨_,kU hk.1,v,h,nx,_,by rw[g5];unfold dT;rw[if_pos ⟨rfl,rfl⟩],hk.2⟩
 |part L v H2 m=>exact ⟨_,o8 (L:=L) hk.1,v,_,_,_,by rw[g5];unfold eR;rw[if_pos ⟨rfl,rfl,rfl,rfl⟩],hk.2⟩
theorem lJ (B:bG P O n) (hA:bR P O A) {id:Nat}:∀ (d:Nat) (e:Eff) {h:aa} {nx:Nat} {K:AV→aa→Nat→Foot→Prop},eO P O n A id d e h nx K→
    ∃call,eQ P O.glob call∧∃v h' nx' ft,ai call id d e h nx=some (v,h',nx',ft)∧K v h' nx' ft:=by
  have callCase:∀ (d:Nat) (f:FuncId) (args:List AV) {h:aa} {nx:Nat} {K:AV→aa→Nat→Foot→Prop},(match A.cx f args id h nx with
      |some (v,h',nx',ft)=>K v h' nx' ft
      | none=>match A.sem f args h nx with
       |some r=>ja P O f args h nx K r
       | none=>match A.inl f with
        |some T=>lA args h nx K T
        |none=>match O.how f with
         | .pure=>match O.summ f args with
           |some v=>aP (ag args) (K v h nx ⟨false,[],[]⟩)
           |none=>dg P O n id d (.call f args) h nx K
         |_=>dg P O n id d (.call f args) h nx K)→∃call,eQ P O.glob call∧∃v h' nx' ft,ai call id d (.call f args) h nx=some (v,h',nx',ft)∧K v h' nx' ft:=by
    intro d f args h nx K hk
    split at hk
    · rename_i v h' nx' ft hc
      exact ⟨_,hA.cx,v,h',nx',ft,by rw[g5];exact hc,hk⟩
    · split at hk
      · exact ss hk
      split at hk
      · rename_i T hT
        obtain ⟨v,H2,nx2,hK,hB⟩:=hA.inl f T hT _ _ _ _ hk
        obtain ⟨hle,hK⟩:=oblB_iff.1 hK
        have hle:=Nat.le_of_ble_eq_true hle
        obtain ⟨m,rfl⟩:∃m,nx2=nx+m:=⟨nx2-nx,by omega⟩
        exact ⟨_,o8 (L:=T.see args h) hB,v,_,_,_,by rw[g5];unfold eR;rw[if_pos ⟨rfl,rfl,rfl,rfl⟩],hK⟩
      split at hk
      · split at hk
        · rename_i v hs
          obtain ⟨_,hk⟩:=oblB_iff.1 hk
          exact ⟨_,kU (hA.sum f args v hs),v,h,nx,_,by rw[g5];unfold dT;rw[if_pos ⟨rfl,rfl⟩],hk⟩
        · exact jh B hk
      · exact jh B hk
  intro d
  induction d with
  | zero=>
    intro e h nx K hk
    unfold eO at hk
    split at hk
    · exact callCase 0 _ _ hk
    · exact jh B hk
  | succ d ih=>
    intro e h nx K hk
    unfold eO at hk
    split at hk
    · exact callCase (d+1) _ _ hk
    · rename_i i k
      split at hk
      · rename_i b hb
        split at hk
        · rename_i e' he
          obtain ⟨call,hc,v,h',nx',ft,hr,hK⟩:=ih e' hk
          exact ⟨call,hc,v,h',nx',_,by simp only[ai,hb,he,hr],hK⟩
        · exact hk.elim
      · exact hk.elim
    · exact jh B hk
def g6 (P:Program) (G:ae) (ops:List Oper) (id:Nat) (o:Oper) (s:St) (K:St→Foot→Prop):Prop:=
 ∃call,eQ P G call∧∃s' ft,bc P G call ops id o s=some (s',ft)∧K s' ft
theorem b6 {ops:List Oper} {id:Nat} {o:Oper} {s:St} {K:St→Foot→Prop} (hw:aW ops o s.slots=some true) {call:af} (hc:eQ P O.glob call) {e:Eff} (he:aF P O.glob ops (aj s.slots) o=some e)
  {v:AV} {h:aa} {nx:Nat} {ft:Foot} (hr:ai call id 2 e s.heap s.nx=some (v,h,nx,ft)) (hk:K ⟨aI s.n s.slots o.dst v,h,nx,s.n⟩ ft):g6 P O.glob ops id o s K:=
 ⟨call,hc,_,ft,by unfold bc;simp only[hw,he,hr],hk⟩
theorem su (B:bG P O n) (hA:bR P O A) {ops:List Oper} {id:Nat} {o:Oper} {s:St} {K:St→Foot→Prop} (hw:aW ops o s.slots=some true)
  (hk:jb P O n A id s.heap s.nx (fun v h nx ft=>K ⟨aI s.n s.slots o.dst v,h,nx,s.n⟩ ft) (fK P O.glob ops (aj s.slots) o)):g6 P O.glob ops id o s K:=by
 cases hs:fK P O.glob ops (aj s.slots) o with
 |none=>rw[hs] at hk;exact hk.elim
 | some es=>
  rw[hs] at hk
  have hok:=sq hs
  cases es with
  |eff e=>
   obtain ⟨call,hc,v,h',nx',ft,hr,hK⟩:=lJ B hA 2 e hk
   exact b6 hw hc hok hr hK
  |obl b e=>
   obtain ⟨hb,hk⟩:=oblB_iff.1 hk
   obtain ⟨call,hc,v,h',nx',ft,hr,hK⟩:=lJ B hA 2 e hk
   exact b6 hw hc (hok hb) hr hK
  | app b i k v=>
   obtain ⟨hb,hk⟩:=oblB_iff.1 hk
   obtain ⟨kk,he,hkk⟩:=hok hb
   split at hk
   ·rename_i l hl
    obtain ⟨hb2,hk⟩:=oblB_iff.1 hk
    exact b6 hw B.calls he (by simp only[ai,hl,hkk l hb2]) hk
   ·exact hk.elim
  | put b i k v=>
   obtain ⟨hb,hk⟩:=oblB_iff.1 hk
   obtain ⟨kk,he,hkk⟩:=hok hb
   split at hk
   ·rename_i l hl
    obtain ⟨hb2,hk⟩:=oblB_iff.1 hk
    exact b6 hw B.calls he (by simp only[ai,hl,hkk l hb2]) hk
   ·exact hk.elim
  | pick b x y=>
   simp only[jb] at hk
   split at hk
   ·split at hk
    ·exact b6 hw B.calls ((hok.1 rfl).trans rfl) rfl hk
    ·exact hk.elim
   ·split at hk
    ·exact b6 hw B.calls ((hok.2 rfl).trans rfl) rfl hk
    ·exact hk.elim
theorem sv:eL P O (fun _ _ _ _ _=>none):=fun _ _ _ _ _ _ _ _ _ h=>by cases h
theorem sw {G:ae} {ops:List Oper} {ev:Operand→Option AV} {o:Oper} {r:AV} {p:Prop} (h:lB P ev o r=some p) (hp:p):aF P G ops ev o=some (.val r):=by
 unfold lB at h
 split at h
 ·rename_i s d x ho
  split at h
  ·rename_i v hx
   simp only[Option.some.injEq] at h;subst h
   rw[aS (by rw[ho];rfl)]
   simp only[aq,ho,e1,hx,hp]
  ·cases h
 ·rename_i t x i ho
  split at h
  ·rename_i v w hx hi
   simp only[Option.some.injEq] at h;subst h
   rw[aS (by rw[ho];rfl)]
   simp only[aq,ho,e2,hx,hi,hp,aC]
  ·cases h
 ·rename_i t x i ho
  split at h
  ·rename_i v w hx hi
   simp only[Option.some.injEq] at h;subst h
   rw[aS (by rw[ho];rfl)]
   simp only[aq,ho,e2,hx,hi,hp,aC]
  ·cases h
 ·rename_i t x lo hi mx ho
  split at h
  ·rename_i x' lo' hi' mx' h1 h2 h3 h4
   simp only[Option.some.injEq] at h;subst h
   rw[aS (by rw[ho];rfl)]
   simp only[aq,ho,gj,h1,h2,h3,h4,hp]
  ·cases h
 ·rename_i op t x y g ho
  split at h
  ·rename_i v w hx hi
   simp only[Option.some.injEq] at h;subst h
   rw[aS (by rw[ho];rfl)]
   simp only[aq,ho,e2,hx,hi,hp,aC]
  ·cases h
 ·rename_i c ho
  split at h
  ·rename_i b args hc ha
   simp only[Option.some.injEq] at h;subst h
   rw[aS (by rw[ho];rfl)]
   simp only[aq,ho,cK,ha,hc,hp]
  ·cases h
 ·cases h
theorem o9 {t:TypeId} {k z:AV} (h:jc P t k=some z):∃kt et,P.underlying t=some (.map kt et)∧dm P kt k=true∧bt P et=some z:=by
 unfold jc at h
 split at h
 ·rename_i kt et hu
  split at h
  ·rename_i hk
   exact ⟨kt,et,hu,hk,h⟩
  ·cases h
 ·cases h
theorem sx {a:Array TypeId} {k:AV} (h:lC P a k=true):∃t kt et,a[0]? =some t∧P.underlying t=some (.map kt et)∧dm P kt k=true:=by
 unfold lC at h
 split at h
 ·rename_i t ht
  split at h
  ·rename_i kt et hu
   exact ⟨t,kt,et,ht,hu,h⟩
  ·cases h
 ·cases h
theorem sy (B:bG P O n) (hA:bR P O A) {ops:List Oper} {id:Nat} {o:Oper} {s:St} {K:St→Foot→Prop} {a:df} (hw:aW ops o s.slots=some true)
  (hk:g0 P O n A ops id o s (fun v h nx ft=>K ⟨aI s.n s.slots o.dst v,h,nx,s.n⟩ ft) a):g6 P O.glob ops id o s K:=by
 unfold g0 at hk
 split at hk
 ·split at hk
  ·rename_i e he
   obtain ⟨call,hc,v,h',nx',ft,hr,hK⟩:=lJ B hA 2 e hk
   exact b6 hw hc he hr hK
  ·exact hk.elim
 ·split at hk
  ·rename_i a v h nx ft F ha
   obtain ⟨call,hc,hs⟩:=oN B.calls B.glob sv hw ha hk.1
   exact ⟨call,hc,_,_,hs,hk.2⟩
  ·exact hk.elim
 ·rename_i v
  split at hk
  ·rename_i t x i ho
   split at hk
   ·rename_i f es w hx hi
    split at hk
    ·rename_i b k e hn he
     split at hk
     ·rename_i sz hsz
      obtain ⟨hg,hk⟩:=hk
      obtain ⟨hb,hk⟩:=oblB_iff.1 hk
      rw[Bool.and_eq_true] at hb
      refine b6 (e:= .val (.fptr v.cells 0)) hw B.calls ?_ rfl hk
      rw[aS (by rw[ho];rfl)]
      have hu:P.underlying t=some (.slice e):=by
       unfold bh at he
       split at he
       ·simp only[Option.some.injEq] at he;subst he;assumption
       ·cases he
      have q1:=fN hn hb.1
      simp only[aq,ho,e2,hx,hi,c7,q1,hu,hsz,hg,hb.2,aC,Option.bind_eq_bind,Option.bind_some,if_true]
     ·exact hk.elim
    ·exact hk.elim
   ·exact hk.elim
  ·exact hk.elim
 ·rename_i v
  split at hk
  ·rename_i t a ho
   split at hk
   ·rename_i i off hx
    split at hk
    ·rename_i l hl
     obtain ⟨hp,hk⟩:=hk
     have he:∃k,aF P O.glob ops (aj s.slots) o=some (.read i k)∧k (.cells l)=some (.val v):=by
      rw[aS (by rw[ho];rfl)]
      simp only[aq,ho,e1,hx,bS]
      exact ⟨_,rfl,by simp only[hp,Option.map_some]⟩
     obtain ⟨k,he,hkl⟩:=he
     exact b6 hw B.calls he (by simp only[ai,hl,hkl]) hk
    ·exact hk.elim
   ·rename_i cs off hx
    obtain ⟨hp,hk⟩:=hk
    refine b6 (e:= .val v) hw B.calls ?_ rfl hk
    rw[aS (by rw[ho];rfl)]
    simp only[aq,ho,e1,hx,bS,hp,Option.map_some]
   ·rename_i g off hx
    obtain ⟨hp,hk⟩:=hk
    refine b6 (e:= .val v) hw B.calls ?_ rfl hk
    rw[aS (by rw[ho];rfl)]
    simp only[aq,ho,e1,hx,hp]
   ·exact hk.elim
  ·exact hk.elim
 ·rename_i r
  split at hk
  ·rename_i p hp
   exact b6 (e:= .val r) hw B.calls (sw hp hk.1) rfl hk.2
  ·exact hk.elim
 ·rename_i r
  split at hk
  ·rename_i t m k ok ho
   split at hk
   ·rename_i i kv hm hk'
    split at hk
    ·rename_i cl st es hl
     split at hk
     ·rename_i z hz
      obtain ⟨hr,hk⟩:=hk
      obtain ⟨kt,et,h1,h2,h3⟩:=o9 hz
      have he:∃f,aF P O.glob ops (aj s.slots) o=some (.read i f)∧f (.mapb cl st es)=some (.val (fc ok z r)):=by
       rw[aS (by rw[ho];rfl)]
       simp only[aq,ho,e2,hm,hk',il,h1,h2,h3]
       exact ⟨_,rfl,by simp only[hr]⟩
      obtain ⟨f,he,hf⟩:=he
      exact b6 hw B.calls he (by simp only[ai,hl,hf]) hk
     ·exact hk.elim
    ·exact hk.elim
   ·exact hk.elim
  ·exact hk.elim
 ·rename_i es' same
  split at hk
  ·rename_i t m k v ho
   split at hk
   ·rename_i i kv vv hm hk' hv
    split at hk
    ·rename_i cl st es hl
     split at hk
     ·rename_i z hz
      obtain ⟨⟨hr,hs⟩,hk⟩:=hk
      obtain ⟨kt,et,h1,h2,_⟩:=o9 hz
      have he:∃f,aF P O.glob ops (aj s.slots) o=some (.upd i f)∧f (.mapb cl st es)=some (o3 same cl st es',bN):=by
       rw[aS (by rw[ho];rfl)]
       simp only[aq,ho,e3,hm,hk',hv,im,h1,h2]
       refine ⟨_,rfl, ?_⟩
       simp only[hr,hs]
       cases same<;>rfl
      obtain ⟨f,he,hf⟩:=he
      exact b6 hw B.calls he (by simp only[ai,hl,hf]) hk
     ·exact hk.elim
    ·exact hk.elim
   ·exact hk.elim
  ·exact hk.elim
 ·rename_i j
  split at hk
  ·rename_i c ho
   split at hk
   ·rename_i i kv hc hargs
    split at hk
    ·rename_i cl st es hl
     split at hk
     ·rename_i hz
      obtain ⟨hr,hk⟩:=hk
      obtain ⟨t,kt,et,h1,h2,h3⟩:=sx hz
      have he:∃f,aF P O.glob ops (aj s.slots) o=some (.upd i f)∧f (.mapb cl st es)=some (o4 j cl st es,.tuple []):=by
       rw[aS (by rw[ho];rfl)]
       simp only[aq,ho,cK,hargs,hc,dG,io,h1,h2,h3]
       refine ⟨_,rfl, ?_⟩
       simp only[hr]
       cases j<;>rfl
      obtain ⟨f,he,hf⟩:=he
      exact b6 hw B.calls he (by simp only[ai,hl,hf]) hk
     ·exact hk.elim
    ·exact hk.elim
   ·exact hk.elim
  ·exact hk.elim
def KnOk (kn:Kn) (slots:Tr):Prop:=∀d b,dx kn d=some b→slots.get d=some (.bool b)
theorem sA {kn:Kn} {slots:Tr} (h:KnOk kn slots):lD kn slots=aj slots:=by
 funext x
 unfold lD
 split
 ·split
  ·rename_i b hb
   simp only[aj,h _ b hb]
  ·rfl
 ·rfl
theorem sB {kn:Kn} {k d:Nat} {b:Bool} (h:dx (g4 kn k) d=some b):d≠k∧dx kn d=some b:=by
  induction kn with
  |nil=>cases h
  | cons p t ih=>
    obtain ⟨e,c⟩:=p
    simp only[g4] at h
    split at h
    · rename_i he
      have he:=beq_iff.1 he
      obtain ⟨h1,h2⟩:=ih h
      refine ⟨h1, ?_⟩
      simp only[dx]
      rw[beq_false_of (by rw[he];exact fun h=>h1 h.symm)]
      exact h2
    · rename_i he
      have he:=beq_false_iff.1 he
      simp only[dx] at h⊢
      split at h
      · rename_i hd
        have hd':=beq_iff.1 hd
        exact ⟨fun h'=>he (by omega),h⟩
      · exact ih h
 where
  beq_false_of {a b:Nat} (h:a≠b):Nat.beq a b=false:=beq_false_iff.2 h
theorem KnOk.put {kn:Kn} {slots:Tr} {n:Nat} {dst:Option Tmp} {v:AV} (h:KnOk kn slots):KnOk (dy kn dst) (aI n slots dst v):=by
 intro d b hd
 cases dst with
 |none=>exact h d b hd
 |some e=>
  simp only[dy] at hd
  obtain ⟨h1,h2⟩:=sB hd
  simp only[aI]
  split
  ·rw[Tr.get_set_ne 12 slots v h1];exact h d b h2
  ·exact h d b h2
theorem KnOk.cons {kn:Kn} {slots:Tr} {d:Nat} {b:Bool} (h:KnOk kn slots) (hd:slots.get d=some (.bool b)):KnOk ((d,b)::kn) slots:=by
 intro k c hk
 simp only[dx] at hk
 split at hk
 ·rename_i he
  have he:=beq_iff.1 he
  subst he
  simp only[Option.some.injEq] at hk
  subst hk;exact hd
 ·exact h k c hk
def ji (P:Program) (G:ae) (ops:List Oper) (id:Nat) (o:Oper) (s:St) (K:Kn→St→Foot→Prop):Prop:=
 g6 P G ops id o s (fun s' ft=>∃kn',KnOk kn' s'.slots∧K kn' s' ft)
theorem sC {ops:List Oper} {id:Nat} {o:Oper} {s:St} {K K':AV→aa→Nat→Foot→Prop} (h:K=K') {a:df} (hk:g0 P O n A ops id o s K a):g0 P O n A ops id o s K' a:=h▸hk
theorem g7 (B:bG P O n) (hA:bR P O A) {rid:Nat} {ops:List Oper} {id i:Nat} {o:Oper} {s:St} {kn:Kn} {K:Kn→St→Foot→Prop} (hkn:KnOk kn s.slots) (hw:aW ops o s.slots=some true) (hk:eP P O n A rid ops id i o s kn K):
  ji P O.glob ops id o s K:=by
 have fin:g6 P O.glob ops id o s (fun s' ft=>s'.slots=s'.slots∧(∃v,s'.slots=aI s.n s.slots o.dst v)∧K (dy kn o.dst) s' ft)→ji P O.glob ops id o s K:=fun ⟨c,h1,s',ft,h2,_,⟨v,hv⟩,h3⟩=>
  ⟨c,h1,s',ft,h2,dy kn o.dst,by rw[hv];exact hkn.put,h3⟩
 refine fin ?_
 unfold eP at hk
 split at hk
 ·refine sy B hA hw (sC ?_ hk)
  funext v h nx ft
  simp only[true_and,eq_iff_iff]
  exact ⟨fun h=>⟨⟨v,rfl⟩,h⟩,fun h=>h.2⟩
 ·rw[sA hkn] at hk
  refine su B hA hw (?_:jb P O n A id s.heap s.nx _ (fK P O.glob ops (aj s.slots) o))
  have:(fun v h nx ft=>K (dy kn o.dst) ⟨aI s.n s.slots o.dst v,h,nx,s.n⟩ ft)=(fun v h nx ft=>(fun (s':St) (ft:Foot)=>s'.slots=s'.slots∧(∃v,s'.slots=aI s.n s.slots o.dst v)∧K (dy kn o.dst) s' ft) ⟨aI s.n s.slots o.dst v,h,nx,s.n⟩ ft):=by
   funext v h nx ft
   simp only[true_and,eq_iff_iff]
   exact ⟨fun h=>⟨⟨v,rfl⟩,h⟩,fun h=>h.2⟩
  rw[←this]
  exact hk
theorem sD (B:bG P O n) (hA:bR P O A) {rid:Nat} {ops:List Oper} {id i:Nat} {o:Oper} {s:St} {kn:Kn} {K:Kn→St→Foot→Prop} (hkn:KnOk kn s.slots) (hk:lE P O n A rid ops id i o s kn K):ji P O.glob ops id o s K:=by
 have no:∀ {kn:Kn},KnOk kn s.slots→aW ops o s.slots=some false→fL o s kn K→ji P O.glob ops id o s K:=fun {kn} hkn hw hk=>
  ⟨_,B.calls,_,_,by unfold bc;simp only[hw],_,hkn.put,hk⟩
 unfold lE at hk
 split at hk
 ·rename_i hg
  exact g7 B hA hkn (by unfold aW;simp only[hg]) hk
 ·rename_i j want hg
  split at hk
  ·rename_i g hj
   split at hk
   ·rename_i d hd
    split at hk
    ·rename_i b hkb
     have hb:=hkn d b hkb
     split at hk
     ·split at hk
      ·exact g7 B hA hkn (by unfold aW;simp[hg,hj,hd,hb]) hk
      ·exact no hkn (by unfold aW;simp[hg,hj,hd,hb]) hk
     ·split at hk
      ·exact no hkn (by unfold aW;simp[hg,hj,hd,hb]) hk
      ·exact g7 B hA hkn (by unfold aW;simp[hg,hj,hd,hb]) hk
    ·split at hk
     ·rename_i b hb
      split at hk
      ·split at hk
       ·exact g7 B hA (hkn.cons hb) (by unfold aW;simp[hg,hj,hd,hb]) hk
       ·exact no (hkn.cons hb) (by unfold aW;simp[hg,hj,hd,hb]) hk
      ·split at hk
       ·exact no (hkn.cons hb) (by unfold aW;simp[hg,hj,hd,hb]) hk
       ·exact g7 B hA (hkn.cons hb) (by unfold aW;simp[hg,hj,hd,hb]) hk
     ·rename_i hb
      exact no hkn (by unfold aW;simp[hg,hj,hd,hb]) hk
     ·exact hk.elim
   ·exact hk.elim
  ·exact hk.elim
theorem pa (B:bG P O n) (hA:bR P O A) {rid:Nat} {all:List Oper} {base:Nat}:∀ (rest:List Oper) (i:Nat) (s:St) (kn:Kn) (acc:List (Nat × Foot)) {K:St→List (Nat × Foot)→Prop},KnOk kn s.slots→jd P O n A rid all base rest i s kn acc K→
  ∃call,eQ P O.glob call∧∃s' feet,aY P O.glob call all base rest i s acc=some (s',feet)∧K s' feet
 |[],i,s,kn,acc,K,_,hk=>⟨_,B.calls,s,acc,rfl,hk⟩
 |o::rest,i,s,kn,acc,K,hkn,hk=>by
  simp only[jd] at hk
  obtain ⟨c1,h1,s1,ft,hs,kn',hkn',hk⟩:=sD B hA hkn hk
  obtain ⟨c2,h2,s',feet,hr,hK⟩:=pa B hA rest (i+1) s1 kn' _ hkn' hk
  refine ⟨cu (base+i) c1 c2,oO h1 h2,s',feet, ?_,hK⟩
  simp only[aY]
  rw[kW (call':=c1) (fun f args hp nx=>by unfold cu;rw[if_pos rfl]),hs]
  simp only
  rw[kX (call':=c2) rest (i+1) _ _ fun f args id hp nx hid=>by unfold cu;rw[if_neg (by omega)]]
  exact hr
def LsOk (P:Program) (G:ae) (nx0:Nat) (A:bH) (c:Code):Prop:=
 ∀r L,A.ls r=some L→∀b∈bB c r,∀s Q,L s Q→AWp P G nx0 (.loop b) s Q
theorem pb {nx0:Nat} {body:Code} {W:St→(AExit→St→Prop)→Prop} (h:∀s Q,W s Q→AWp P O.glob nx0 body s Q):∀ (k:Nat) (s:St) (Q:AExit→St→Prop),lF W k s Q→ARnd P O.glob nx0 body Q k s
 |0,_,_,hk=>hk
 |k+1,s,Q,hk=>(h s _ hk).mono fun e s' hq=>by
  cases e with
  |normal=>exact pb h k s' Q hq
  |exit i=>exact hq
  |ret=>exact hq
theorem pc {nx0:Nat} {c:Operand} {b:Bool} {s:St} {code:Code} {G:ae} {Q:AExit→St→Prop} (hc:aj s.slots c=some (.bool b)) (h:AWp P G nx0 code (lG c b s) Q):AWp P G nx0 code s Q:=by
 cases c with
 | tmp d=>
  have hg:∀k,(aI s.n s.slots (some d) (.bool b)).get k=s.slots.get k:=fun k=>by
   have hc:s.slots.get d=some (.bool b):=hc
   simp only[aI]
   split
   ·by_cases hk:k=d
    ·subst hk
     rcases Tr.get_set_self 12 s.slots (k:=k) (.bool b) with h|h
     ·rw[h,hc]
     ·exact h
    ·exact Tr.get_set_ne 12 s.slots _ hk
   ·rfl
  refine ⟨fun w0 I0 α0 H0 D a w hα hr=>h.out w0 I0 α0 H0 D a w hα ?_⟩
  obtain ⟨⟨I,α,ev,rel,hs,q1,q2,q3⟩,h7,h8,h9,h10,h11⟩:=hr
  exact ⟨⟨I,α,ev,rel,fun k v hv=>hs k v (by rw[←hg k];exact hv),q1,q2,q3⟩,h7,h8,h9,h10,h11⟩
 |_=>exact h
theorem jj {nx0:Nat} (B:bG P O n) (hA:bR P O A):∀ (c:Code) (s:St) (Q:AExit→St→Prop),LsOk P O.glob nx0 A c→bI P O n A c s Q→AWp P O.glob nx0 c s Q:=by
 intro c
 induction c with
 |skip=>exact fun s Q _ h=> .skip h
 |label l=>exact fun s Q _ h=> .label h
 |exit i=>exact fun s Q _ h=> .exit h
 |ret=>exact fun s Q _ h=> .ret h
 | region rid ops draw=>
  intro s Q _ h
  simp only[bI] at h
  have reg:∀ {s:St},je P O n A rid ops draw s Q→AWp P O.glob nx0 (.region rid ops draw) s Q:=fun {s} h=>by
   unfold je at h
   obtain ⟨call,⟨h1,h2⟩,s',feet,hr,hk⟩:=pa B hA _ _ _ _ _ (fun _ _ h=>by cases h) h
   cases draw with
   |false=>exact .region B.mixed h1 h2 hr (fun h=>by cases h) hk
   |true=>
    obtain ⟨hb,hk⟩:=oblB_iff.1 hk
    rw[Bool.and_eq_true] at hb
    exact .region B.mixed h1 h2 hr (fun _=>hb) hk
  split at h
  ·rename_i C hC
   obtain ⟨s2,hs,hk⟩:=hA.cut rid C hC nx0 s _ h
   exact ⟨fun w0 I0 α0 H0 D a w hα hr=>(reg hk).out w0 I0 α0 H0 D a w hα (hs w0 I0 α0 H0 D a w hα hr)⟩
  ·exact reg h
 |seq a b iha ihb=>
  intro s Q hl h
  refine .seq ((iha s _ (fun r L hL b' hb=>hl r L hL b' (by simp[bB,hb])) h).mono fun e s' hq=> ?_)
  cases e with
  |normal=>exact ihb s' Q (fun r L hL b' hb=>hl r L hL b' (by simp[bB,hb])) hq
  |exit i=>exact hq
  |ret=>exact hq
 | cond c a b iha ihb=>
  intro s Q hl h
  simp only[bI] at h
  split at h
  ·rename_i t hc
   split at h
   ·exact .cond_true hc (pc hc (iha _ Q (fun r L hL b' hb=>hl r L hL b' (by simp[bB,hb])) h))
   ·exact .cond_false hc (pc hc (ihb _ Q (fun r L hL b' hb=>hl r L hL b' (by simp[bB,hb])) h))
  ·exact h.elim
 |block id body ih=>exact fun s Q hl h=> .block (ih s _ hl h)
 | loop body ih=>
  intro s Q hl h
  simp only[bI] at h
  split at h
  ·rename_i L hL
   exact hl _ L hL body (by simp[bB]) s Q h
  ·exact .loop O.lf (pb (fun s Q h=>ih s Q (fun r L hL b' hb=>hl r L hL b' (by simp[bB,hb])) h) _ _ _ h)
 |rangeFunc f p x y _ _=>exact fun s Q _ h=>h.elim
 |scope c _=>exact fun s Q _ h=>h.elim
 |goto l=>exact fun s Q _ h=>h.elim
 |refuse y=>exact fun s Q _ h=>h.elim
def fP (P:Program) (G:ae) (nx0:Nat) (A:bH) (f:FuncId):Prop:=∀fn c,P.funcs[f]? =some fn→fn.body=some c→LsOk P G nx0 A c
theorem sE {G:ae} {nx0:Nat} {f:FuncId} (h:∀r,A.ls r=none):fP P G nx0 A f:=fun _ _ _ _ r L hL=>by rw[h] at hL;cases hL
theorem pd {f:FuncId} {args:List AV} {H:aa} {nx:Nat} {Q:AV→aa→Nat→Prop} (B:bG P O n) (hA:bR P O A) (hl:fP P O.glob nx A f) (h:bx P O n A f args H nx Q):
  ∃fn c,P.funcs[f]? =some fn∧fn.body=some c∧(fn.name== "runtime.NumGoroutine")=false∧(Nat.ble (ab args) fn.ntmps&&Nat.ble fn.ntmps 4095)=true∧
   AWp P O.glob nx c ⟨bz args 0 .tip,H,nx,fn.ntmps⟩ (fun e s=>(e= .normal∨e= .ret)∧∃l,bD P O.glob s fn.results.toList=some l∧Q (bP l) s.heap s.nx):=by
 unfold bx at h
 split at h
 ·rename_i fn hfn
  split at h
  ·rename_i c hc
   split at h
   ·exact h.elim
   ·rename_i hname
    split at h
    ·exact h.elim
    ·rename_i hsz
     refine ⟨fn,c,hfn,hc,hname,hsz,(jj B hA c _ _ (hl fn c hfn hc) h).mono fun e s hq=> ?_⟩
     split at hq
     ·exact hq.elim
     ·rename_i hne
      split at hq
      ·rename_i l hl
       refine ⟨?_,l,hl,hq⟩
       cases e with
       |normal=>exact .inl rfl
       |ret=>exact .inr rfl
       |exit i=>exact absurd rfl (hne i)
      ·exact hq.elim
  ·exact h.elim
 ·exact h.elim
theorem lK {f:FuncId} {args:List AV} {v:AV} (B:bG P O n) (hA:bR P O A) (hl:fP P O.glob 0 A f) (hcl:ag args=true)
  (h:bx P O n A f args [] 0 (fun u H _=>(∃d,ah 0 H d u=some v)∧ac v=true)):SemCall P O.glob f args v:=by
 obtain ⟨fn,c,hfn,hc,hname,hsz,hw⟩:=pd B hA hl h
 refine r5 B hfn hc hname hsz hcl fun w I a hr=>wp_mono (hw.out w I _ [] [] a w (fun _ _=>rfl) hr) ?_
 rintro e a' w' ⟨x,s',rfl,h2,hx,l,hl,hq⟩
 refine ⟨s',l, ?_,h2,hl,hq.1,hq.2⟩
 rcases hx with rfl|rfl
 ·exact .inl rfl
 ·exact .inr rfl
theorem sF {f:FuncId} {args:List AV} {H:aa} {nx:Nat} {v:AV} {H':aa} {nx':Nat} (B:bG P O n) (hA:bR P O A) (hl:fP P O.glob nx A f)
    (h:bx P O n A f args H nx (fun u h m=>u=v∧h=H'∧m=nx')):bw P O.glob f args H nx v H' nx':=by
  obtain ⟨fn,c,hfn,hc,hname,hsz,hw⟩:=pd B hA hl h
  intro w I α vs r ha hf
  refine body_of_wp' hfn hc hname hsz (fun w I α a hα hr=>wp_mono (hw.out w I α H [] a w hα hr) ?_) w I α vs r ha hf
  rintro e a' w' ⟨x,s',rfl,h2,hx,l,hl,rfl,rfl,rfl⟩
  refine ⟨s',l, ?_,h2,hl,rfl,rfl,rfl⟩
  rcases hx with rfl|rfl
  · exact .inl rfl
  · exact .inr rfl
 where
  body_of_wp' {f:FuncId} {fn:Func} {c:Code} {args:List AV} {H:aa} {nx:Nat} {v:AV} {H':aa} {nx':Nat} (hfn:P.funcs[f]? =some fn) (hc:fn.body=some c) (hname:(fn.name== "runtime.NumGoroutine")=false) (hsz:(Nat.ble (ab args) fn.ntmps&&Nat.ble fn.ntmps 4095)=true)
    (h:∀w I α a,(∀id,nx≤id→α id=none)→CR O.glob w I α H nx [] ⟨bz args 0 .tip,H,nx,fn.ntmps⟩ a w→c.wp P (fun e a' w'=>∃s l,(aZ .normal=e∨aZ .ret=e)∧CR O.glob w I α H nx [] s a' w'∧bD P O.glob s fn.results.toList=some l∧bP l=v∧s.heap=H'∧s.nx=nx') a w):
    bw P O.glob f args H nx v H' nx':=by
    intro w I α vs r ha hf
    rw[Bool.and_eq_true,Nat.ble_eq,Nat.ble_eq,ak] at hsz
    refine ⟨?_, ?_⟩
    · unfold callFunc
      simp only[Sem.run_bind,run_program,Result.andThen_ok,hfn,hname,hc,Bool.false_eq_true,if_false,Option.isNone_some,Sem.run_pure]
    · refine calls_of_wp hfn hc ?_
      have hvs:args.length=vs.size:=by rw[ha.1];simp
      have hr0:CR O.glob w I α H nx [] ⟨bz args 0 .tip,H,nx,fn.ntmps⟩ {tmps:=vs++Array.replicate (fn.ntmps-vs.size) undef,defers:=[]} w:=
        ⟨⟨I,α,.refl,r,gJ ha (by omega),fun i hi=>absurd hi (Nat.not_lt_zero i),hf,fun id h=> .inl h⟩,Nat.le_refl _,Nat.le_refl _,rfl,by simp;omega,hsz.2⟩
      refine wp_mono (h w I α _ hf hr0) fun e a' w' hq=> ?_
      obtain ⟨s,l,he,hr,hl,rfl,rfl,rfl⟩:=hq
      obtain ⟨⟨I',α',h1,h2,h3,_,_,h6⟩,_,h8,h9,_,_⟩:=hr
      obtain ⟨u,e1,e2⟩:=gK (P:=P) (fn:=fn) h2 h3 hl
      rcases he with rfl|rfl<;>exact ⟨h9,u,e1,u,rfl,⟨I',α',h1,h2,e2,h6⟩,h8⟩
end
end Go.Proofs.Abs
/- Small laws of the abstract machine's functions: bytes, rows, numbers, what becomes part of a value. -/
namespace Go.Proofs.Abs
open Go
mutual
theorem lL {n:Nat} {h:aa}:∀ {d:Nat} {v r:AV},ah n h d v=some r→ah n h (d+1) v=some r
 |0,_,_,hv=>by simp[ah] at hv
 | d +1,v,r,hv=>by
  have L:∀ {l l':List AV},aH (ah n h d) l=some l'→aH (ah n h (d+1)) l=some l':=fun {l l'} hl=>lM hl
  cases v with
  | ptr id off=>
   rw[ah] at hv⊢
   split at hv
   ·exact hv
   ·rename_i hb
    split at hv
    ·rename_i l hl
     try rw[hl]
     try simp only
     split at hv
     ·rename_i l' hl';rw[L hl'];exact hv
     ·cases hv
    ·cases hv
  | rsl own id off len sz=>
   rw[ah] at hv⊢
   split at hv
   ·exact hv
   ·rename_i hb
    split at hv
    ·rename_i l hl
     try rw[hl]
     try simp only
     split at hv
     ·rename_i es hes
      split at hv
      ·rename_i l' hl';rw[L hl'];exact hv
      ·cases hv
     ·cases hv
    ·cases hv
  |fptr cs off=>
   rw[ah] at hv⊢
   split at hv
   ·rename_i l' hl';rw[L hl'];exact hv
   ·cases hv
  |fsl f es=>
   rw[ah] at hv⊢
   split at hv
   ·rename_i l' hl';rw[L hl'];exact hv
   ·cases hv
  |agg cs=>
   rw[ah] at hv⊢
   split at hv
   ·rename_i l' hl';rw[L hl'];exact hv
   ·cases hv
  |tuple cs=>
   rw[ah] at hv⊢
   split at hv
   ·rename_i l' hl';rw[L hl'];exact hv
   ·cases hv
  |func fn a b=>
   rw[ah] at hv⊢
   split at hv
   ·rename_i a' b' ha hb;rw[L ha,L hb];exact hv
   ·cases hv
  |iface t v=>
   rw[ah] at hv⊢
   split at hv
   ·rename_i l' hl';rw[lL hl'];exact hv
   ·cases hv
  |_=>exact hv
theorem lM {n:Nat} {h:aa} {d:Nat}:∀ {l l':List AV},aH (ah n h d) l=some l'→aH (ah n h (d+1)) l=some l'
 |[],_,hl=>by simpa [aH] using hl
 | a::t,l',hl=>by
  simp only[aH] at hl⊢
  split at hl
  ·rename_i b hb
   split at hl
   ·rename_i u hu
    simp only[lL hb,lM hu];exact hl
   ·cases hl
  ·cases hl
end
theorem sG {n:Nat} {h:aa} {d e:Nat} {v r:AV} (hd:d≤e) (hv:ah n h d v=some r):ah n h e v=some r:=by
 induction hd with
 |refl=>exact hv
 |step _ ih=>exact lL ih
theorem lN {n:Nat} {h:aa} {d e:Nat} {l l':List AV} (hd:d≤e) (hl:aH (ah n h d) l=some l'):aH (ah n h e) l=some l':=by
 induction hd with
 |refl=>exact hl
 |step _ ih=>exact lM ih
structure Frz (n:Nat) (h:aa) (v r:AV):Prop where
 out:∃d,ah n h d v=some r
structure FrzL (n:Nat) (h:aa) (l l':List AV):Prop where
 out:∃d,aH (ah n h d) l=some l'
theorem FrzL.nil {n:Nat} {h:aa}:FrzL n h [] []:=⟨0,rfl⟩
theorem FrzL.cons {n:Nat} {h:aa} {a b:AV} {t u:List AV} (h1:Frz n h a b) (h2:FrzL n h t u):FrzL n h (a::t) (b::u):=by
 obtain ⟨d,h1⟩:=h1
 obtain ⟨e,h2⟩:=h2
 exact ⟨max d e,by simp only[aH,sG (Nat.le_max_left d e) h1,lN (Nat.le_max_right d e) h2]⟩
theorem FrzL.append {n:Nat} {h:aa}:∀ {a b c d:List AV},FrzL n h a b→FrzL n h c d→FrzL n h (a++c) (b++d)
 |[],b,_,_,h1,h2=>by
  obtain ⟨e,h1⟩:=h1
  simp only[aH,Option.some.injEq] at h1
  subst h1;exact h2
 | x::t,b,c,d,h1,h2=>by
  obtain ⟨e,h1⟩:=h1
  simp only[aH] at h1
  split at h1
  ·rename_i y hy
   split at h1
   ·rename_i u hu
    simp only[Option.some.injEq] at h1
    subst h1
    exact FrzL.cons ⟨e,hy⟩ (FrzL.append ⟨e,hu⟩ h2)
   ·cases h1
  ·cases h1
theorem Frz.agg {n:Nat} {h:aa} {l l':List AV} (hl:FrzL n h l l'):Frz n h (.agg l) (.agg l'):=by
 obtain ⟨d,hl⟩:=hl;exact ⟨d+1,by simp only[ah,hl]⟩
theorem Frz.tuple {n:Nat} {h:aa} {l l':List AV} (hl:FrzL n h l l'):Frz n h (.tuple l) (.tuple l'):=by
 obtain ⟨d,hl⟩:=hl;exact ⟨d+1,by simp only[ah,hl]⟩
theorem Frz.fsl {n:Nat} {h:aa} {f:Bool} {l l':List AV} (hl:FrzL n h l l'):Frz n h (.fsl f l) (.fsl f l'):=by
 obtain ⟨d,hl⟩:=hl;exact ⟨d+1,by simp only[ah,hl]⟩
theorem Frz.fptr {n:Nat} {h:aa} {o:Nat} {l l':List AV} (hl:FrzL n h l l'):Frz n h (.fptr l o) (.fptr l' o):=by
 obtain ⟨d,hl⟩:=hl;exact ⟨d+1,by simp only[ah,hl]⟩
theorem Frz.rsl {n:Nat} {h:aa} {own:Bool} {id off len sz:Nat} {c es l':List AV} (hn:Nat.blt id n=false) (hg:hget h id=some (.cells c)) (hc:dF sz len (c.drop off)=some es) (hl:FrzL n h es l'):Frz n h (.rsl own id off len sz) (.fsl false l'):=by
 obtain ⟨d,hl⟩:=hl;exact ⟨d+1,by simp only[ah,hn,hg,hc,hl]⟩
theorem Frz.ptr {n:Nat} {h:aa} {id off:Nat} {c l':List AV} (hn:Nat.blt id n=false) (hg:hget h id=some (.cells c)) (hl:FrzL n h c l'):Frz n h (.ptr id off) (.fptr l' off):=by
 obtain ⟨d,hl⟩:=hl;exact ⟨d+1,by simp only[ah,hn,hg,hl]⟩
mutual
theorem Frz.closed {n:Nat} {h:aa}:∀ (v:AV),ac v=true→Frz n h v v
 | .ptr _ _,hc=>by simp[ac] at hc
 | .rsl _ _ _ _ _,hc=>by simp[ac] at hc
 | .map _,hc=>by simp[ac] at hc
 | .fptr cs _,hc=> .fptr (FrzL.closed cs (by simpa [ac] using hc))
 | .fsl _ cs,hc=> .fsl (FrzL.closed cs (by simpa [ac] using hc))
 | .agg cs,hc=> .agg (FrzL.closed cs (by simpa [ac] using hc))
 | .tuple cs,hc=> .tuple (FrzL.closed cs (by simpa [ac] using hc))
 | .func fn a b,hc=>by
  simp only[ac,Bool.and_eq_true] at hc
  obtain ⟨d,h1⟩:=FrzL.closed (n:=n) (h:=h) a hc.1
  obtain ⟨e,h2⟩:=FrzL.closed (n:=n) (h:=h) b hc.2
  exact ⟨max d e+1,by simp only[ah,lN (Nat.le_max_left d e) h1,lN (Nat.le_max_right d e) h2]⟩
 | .iface t v,hc=>by
  obtain ⟨d,h1⟩:=Frz.closed (n:=n) (h:=h) v (by simpa [ac] using hc)
  exact ⟨d+1,by simp only[ah,h1]⟩
 | .bool _,_=>⟨1,rfl⟩
 | .int _ _,_=>⟨1,rfl⟩
 | .str _,_=>⟨1,rfl⟩
 | .nilp,_=>⟨1,rfl⟩
 | .gptr _ _,_=>⟨1,rfl⟩
 | .nilsl,_=>⟨1,rfl⟩
 | .nesl,_=>⟨1,rfl⟩
 | .nilmap,_=>⟨1,rfl⟩
 | .nilFunc,_=>⟨1,rfl⟩
 | .nilIface,_=>⟨1,rfl⟩
theorem FrzL.closed {n:Nat} {h:aa}:∀ (l:List AV),ag l=true→FrzL n h l l
 |[],_=> .nil
 |a::t,hc=>by
  simp only[ag,Bool.and_eq_true] at hc
  exact .cons (Frz.closed a hc.1) (FrzL.closed t hc.2)
end
def eS (sz:Nat) (e:AV):Prop:=e.cells.length=sz∧ij e.cells=e
theorem pe {sz:Nat}:∀ {es:List AV} (r:List AV),(∀e∈es,eS sz e)→dF sz es.length (flat es++r)=some es
 |[],r,_=>rfl
 | e::t,r,h=>by
  obtain ⟨h1,h2⟩:=h e (by simp)
  have ih:=pe (es:=t) r fun x hx=>h x (by simp[hx])
  have hc:chunk (flat (e::t)++r) 0 sz=some e.cells:=by
   rw[jg _ _ _ (by simp only[flat,List.length_append];omega)]
   simp only[flat,List.drop_zero,List.append_assoc]
   rw[List.take_left' h1]
  simp only[List.length_cons,dF,hc]
  have hd:(flat (e::t)++r).drop sz=flat t++r:=by
   simp only[flat,List.append_assoc]
   rw[List.drop_left' h1]
  rw[hd,ih,h2]
  rfl
theorem Frz.row {n:Nat} {h:aa} {own:Bool} {id len sz:Nat} {c es:List AV} (hn:Nat.blt id n=false) (hg:hget h id=some (.cells c)) (hc:c=flat es) (hl:len=es.length) (hes:∀e∈es,eS sz e) (hcl:ag es=true):Frz n h (.rsl own id 0 len sz) (.fsl false es):=by
 subst hc hl
 refine .rsl hn hg ?_ (FrzL.closed es hcl)
 have:=pe (es:=es) [] hes
 simpa using this
theorem g8:∀s:List UInt8,aw s=s.map fun b=> .int .u8 (.ofNat b.toNat)
 |[]=>rfl
 |b::t=>by simp only[aw,List.map_cons,g8 t]
@[simp] theorem vV (s:List UInt8):ab (aw s)=s.length:=by rw[ak,g8];simp
@[simp] theorem sH (s:List UInt8):flat (aw s)=aw s:=(ko s).1
@[simp] theorem sI:∀s:List UInt8,bO (aw s)=some s
 |[]=>rfl
 | b::t=>by
  have e:UInt8.ofNat (Int.ofNat b.toNat).toNat=b:=by
   show UInt8.ofNat b.toNat=b
   exact UInt8.ofNat_toNat
  simp only[aw,bO,sI t,Option.map_some,e]
@[simp] theorem vW (s:List UInt8):i7 (aw s)=s:=by simp[i7]
@[simp] theorem pg:∀s:List UInt8,ag (aw s)=true
 |[]=>rfl
 |b::t=>by simp only[aw,ag,ac,pg t,Bool.and_self]
@[simp] theorem sJ:∀s:List UInt8,aR (aw s)=true
 |[]=>rfl
 |b::t=>by simp only[aw,aR,AV.one,sJ t,Bool.and_self]
@[simp] theorem sK:∀s:List UInt8,bf 1 (aw s)=true
 |[]=>rfl
 |b::t=>by
  have e:ab (AV.int .u8 (.ofNat b.toNat)).cells=1:=rfl
  simp only[aw,bf,sK t,e,Nat.beq_refl,Bool.and_self]
@[simp] theorem vX (s:List UInt8):ii 1 (aw s)=true:=by cases s<;>rfl
theorem sL {s:List UInt8}:∀e∈aw s,eS 1 e:=by
 intro e he
 rw[g8,List.mem_map] at he
 obtain ⟨b,_,rfl⟩:=he
 exact ⟨rfl,rfl⟩
theorem sM (s:List UInt8) (i:Nat):aT (aw s) i=(s[i]?).map fun b=> .int .u8 (.ofNat b.toNat):=by rw[cq,g8,List.getElem?_map]
theorem Frz.bytes {n:Nat} {h:aa} {own:Bool} {id len:Nat} {c:List AV} {s:List UInt8} (hn:Nat.blt id n=false) (hg:hget h id=some (.cells c)) (hc:c=aw s) (hl:len=s.length):Frz n h (.rsl own id 0 len 1) (.fsl false (aw s)):=
 .row hn hg (by rw[hc,sH]) (by rw[hl,g8];simp) sL (pg s)
theorem allSize_iff {sz:Nat}:∀ {l:List AV},bf sz l=true↔∀e∈l,e.cells.length=sz
 |[]=>by simp[bf]
 |a::t=>by simp only[bf,Bool.and_eq_true,beq_iff,ak,allSize_iff (l:=t),List.forall_mem_cons]
theorem ltInt_iff {a b:Int}:aV a b=true↔a<b:=by rw[dc];simp
theorem ltInt_false {a b:Int}:aV a b=false↔b≤a:=by rw[dc];simp
theorem lO {n:Int} (h1: -9223372036854775808≤n) (h2:n≤9223372036854775807):al .i64 n=n:=by
 rw[dq];exact IntWalk.i64_in _ ⟨by omega,by omega⟩
end Go.Proofs.Abs
/- What arguments are: numbers, texts, slices of plain elements. -/
namespace Go.Proofs.Abs
open Go
section
variable {H:Type} {enc:TypeId × Value→H} {P:Program} {w:World} {base:Nat} {spare:Nat→Bool} {held:Bool} {t e:TypeId} {v:Value} {d:DataW H} {ps:List MemPlace}
end
end Go.Proofs.Abs
/- States seen anew, with rows that are written no more made part of the values. -/
namespace Go.Proofs.Abs
open Go
def g9 (m:Nat) (h:aa):Blk→Blk→Prop
 | .cells l,.cells l'=>FrzL m h l l'
 | .siter s p,.siter s' p'=>s=s'∧p=p'
 | .mapb c s l,.mapb c' s' l'=>c=c'∧s=s'∧∃d,fu (ah m h d) l=some l'
 | .miter m a b c,.miter m' a' b' c'=>m=m'∧a=a'∧b=b'∧c=c'
 |_,_=>False
section
variable {G:ae} {w:World} {I:Nat→Prop} {α:Nat→Option Nat} {H:aa}
theorem sN {m b:Nat} {b0 b1:Blk} (r:Rel G w I α H) (hf:g9 m H b0 b1) (h:BRel w I α b b0):BRel w (bg I α H m) α b b1:=by
 cases b0 with
 | cells l=>cases b1 with
  |cells l'=>
   obtain ⟨d,hl'⟩:=hf
   obtain ⟨c,e,h1,h2,h3⟩:=h
   have hlen:=(dO hl').1
   have h4:=(dd r m d).list hl' h3
   exact ⟨c,e,h1,by rw[hlen];exact h2,by rw[hlen];exact h4⟩
  |_=>exact hf.elim
 |siter s p=>cases b1 with
  |siter s' p'=>obtain ⟨rfl,rfl⟩:=hf;exact h
  |_=>exact hf.elim
 |miter m a b c=>cases b1 with
  |miter m' a' b' c'=>obtain ⟨rfl,rfl,rfl,rfl⟩:=hf;exact h
  |_=>exact hf.elim
 | mapb c s l=>cases b1 with
  |mapb c' s' l'=>
   obtain ⟨rfl,rfl,d,hes⟩:=hf
   obtain ⟨en,h1,h2,h4,h3⟩:=h
   obtain ⟨k1,k2⟩:=kL (dd r m d) hes
   refine ⟨en,h1,by rw[k1];exact h2,h4,fun i x' y e1 e2=> ?_⟩
   obtain ⟨x,g1,g2,g3⟩:=k2 i x' e1
   obtain ⟨q1,q2⟩:=h3 i x y g1 e2
   exact ⟨g2 _ q1,g3 _ q2⟩
  |_=>exact hf.elim
end
section
variable {G:ae} {w0:World} {I0:Nat→Prop} {α0:Nat→Option Nat} {H0:aa} {nx0:Nat} {D:List Deferred}
theorem CR.freeze {s s2:St} {a:Act} {w:World} (m:Nat) (h:CR G w0 I0 α0 H0 nx0 D s a w) (hn:s2.n=s.n) (hnx:s2.nx=s.nx)
  (hS:∀k v,s2.slots.get k=some v→∃u,s.slots.get k=some u∧Frz m s.heap u v)
  (hH:∀i b,hget s2.heap i=some b→i<m∧∃b1,hget s.heap i=some b1∧g9 m s.heap b1 b):CR G w0 I0 α0 H0 nx0 D s2 a w:=by
 obtain ⟨⟨I,α,ev,rel,hs,_,hf,hnew⟩,h7,h8,h9,h10,h11⟩:=h
 have hlive:∀i,hget s2.heap i≠none→i<m∧hget s.heap i≠none:=fun i hi=>by
  cases hb:hget s2.heap i with
  |none=>exact absurd hb hi
  |some b=>
   obtain ⟨h1,b1,h2,_⟩:=hH i b hb
   exact ⟨h1,by rw[h2];simp⟩
 have hown:∀b,aK α s2.heap b→aK α s.heap b:=fun b ⟨i,h1,h2⟩=>⟨i,(hlive i h1).2,h2⟩
 refine ⟨⟨bg I α s.heap m,α,⟨ev.os,fun b hb=> .inl (ev.I_mono b hb),ev.α_mono,ev.size,ev.frame,ev.shape,fun b hb=> ?_,fun b hb=>ev.own b (hown b hb)⟩, ?_, ?_,fun i hi=>absurd hi (Nat.not_lt_zero i),fun id hid=>hf id (by rw[hnx] at hid;exact hid),fun id hid=> ?_⟩,Nat.le_refl _,by rw[hnx];exact h8,h9,by rw[hn];exact h10,by rw[hn];exact h11⟩
 ·rcases hb with hb|⟨id,_,h2,h3⟩
  ·exact ev.Inew b hb
  ·rcases ev.own b ⟨id,h2,h3⟩ with h|h
   ·exact .inr (.inl h)
   ·exact .inr (.inr h)
 ·exact
  {live:=fun i blk hi=>by
    obtain ⟨hm,b1,e2,e3⟩:=hH i blk hi
    obtain ⟨b,k1,k2,k3⟩:=rel.live i b1 e2
    refine ⟨b,k1, ?_,sN rel e3 k3⟩
    rintro (hb|⟨id,h1,h2,h3⟩)
    ·exact k2 hb
    ·have:=rel.inj id i b h2 (by rw[e2];simp) h3 k1
     omega
   inj:=fun i i' b h1 h2 h3 h4=>rel.inj i i' b (hlive i h1).2 (hlive i' h2).2 h3 h4
   imm:=fun b hb=>by
    rcases hb with hb|⟨id,_,_,h3⟩
    ·exact rel.imm b hb
    ·exact rel.dom id b h3
   dom:=rel.dom
   glob:=fun g l hgl=>by
    obtain ⟨h1,h2⟩:=rel.glob g l hgl
    refine ⟨.inl h1,fun j x hx=> ?_⟩
    obtain ⟨y,e1,e2⟩:=h2 j x hx
    exact ⟨y,e1,e2.mono (fun _ h=> .inl h) (fun _ _ h=>h) (fun _ _ _=>rfl) (fun _ _ _=>rfl)⟩}
 ·intro k v hv
  obtain ⟨u,e1,d,e2⟩:=hS k v hv
  obtain ⟨y,e3,e4⟩:=hs k u e1
  exact ⟨y,e3,dd rel m d _ _ _ e2 e4⟩
 ·rw[hnx];exact hnew id hid
end
end Go.Proofs.Abs
/- Loops: states by number, seen anew behind each round. -/
namespace Go.Proofs.Abs
open Go
def hJ (lk:List (Nat × Nat)):AV→AV→Prop
 | .ptr i o,u=>match u with
  | .ptr j p=>au lk i=some j∧o=p
  |_=>False
 | .rsl w i o l z,u=>match u with
  | .rsl w' j o' l' z'=>w=w'∧au lk i=some j∧o=o'∧l=l'∧z=z'
  |_=>False
 | .map i,u=>match u with
  | .map j=>au lk i=some j
  |_=>False
 |v,u=>u=v∧ac v=true
theorem jk {lk:List (Nat × Nat)} {v u:AV} (h:hJ lk v u):RenV lk v u:=by
 unfold hJ at h
 split at h
 ·split at h
  ·obtain ⟨h1,rfl⟩:=h;exact .ptr _ _ _ h1
  ·exact h.elim
 ·split at h
  ·obtain ⟨rfl,h1,rfl,rfl,rfl⟩:=h;exact .rsl _ _ _ _ _ _ h1
  ·exact h.elim
 ·split at h
  ·exact .map _ _ h
  ·exact h.elim
 ·obtain ⟨rfl,hc⟩:=h;exact .same _ hc
def fQ (lk:List (Nat × Nat)):List AV→List AV→Prop
 |[],[]=>True
 |a::t,b::u=>hJ lk a b∧fQ lk t u
 |_,_=>False
theorem ph {lk:List (Nat × Nat)}:∀ {l l':List AV},fQ lk l l'→l.length=l'.length∧∀ (i:Nat) x y,l[i]? =some x→l'[i]? =some y→RenV lk x y
 |[],[],_=>⟨rfl,fun i x y h=>by simp at h⟩
 |a::t,b::u,h=>by
  obtain ⟨h1,h2⟩:=ph h.2
  refine ⟨by simp[h1],fun i x y hx hy=> ?_⟩
  cases i with
  |zero=>simp only[List.getElem?_cons_zero,Option.some.injEq] at hx hy;subst hx;subst hy;exact jk h.1
  |succ i=>exact h2 i x y (by simpa using hx) (by simpa using hy)
 |[],_::_,h=>h.elim
 |_::_,[],h=>h.elim
def lP (lk:List (Nat × Nat)):AV→AV→Prop
 | .func fn f c,u=>match u with
  | .func fn' f' c'=>(fn=fn'∧f=f'∧ag f=true)∧fQ lk c c'
  |_=>False
 | .iface t v,u=>match u with
  | .iface t' v'=>t=t'∧hJ lk v v'
  |_=>False
 |v,u=>hJ lk v u
theorem sO {lk:List (Nat × Nat)} {v u:AV} (h:lP lk v u):RenV lk v u:=by
 unfold lP at h
 split at h
 ·split at h
  ·obtain ⟨⟨rfl,rfl,hf⟩,hc⟩:=h
   obtain ⟨h1,h2⟩:=ph hc
   exact .func _ _ _ _ hf h1 h2
  ·exact h.elim
 ·split at h
  ·obtain ⟨rfl,h⟩:=h;exact .iface _ (jk h)
  ·exact h.elim
 ·exact jk h
inductive lQ where
 |whole
 |each
 |rel
 |split (pre suf old:List AV)
structure sP (lk:List (Nat × Nat)) (l l':List AV):Prop where
 out:RenL lk l l'
def jl:List (AV × AV)→Bool
 |[]=>true
 |(a,b)::t=>ac a&&(ac b&&jl t)
theorem RenP.same (lk:List (Nat × Nat)):∀ {l:List (AV × AV)},jl l=true→RenP lk l l
 |[],_=>trivial
 |(a,b)::t,h=>by
  simp only[jl,Bool.and_eq_true] at h
  exact ⟨.same a h.1,.same b h.2.1,RenP.same lk h.2.2⟩
def lR (lk:List (Nat × Nat)) (mode:lQ):Blk→Blk→Prop
 | .cells l,.cells l'=>match mode with
  | .whole=>l'=l∧ag l=true
  | .each=>fQ lk l l'
  | .rel=>sP lk l l'
  | .split pre suf old=>(l=pre++suf∧l'=pre++old)∧(ag pre=true∧fQ lk suf old)
 | .siter s p,.siter s' p'=>s=s'∧p=p'
 | .miter m a b c,.miter m' a' b' c'=>a=a'∧b=b'∧c=c'∧au lk m=some m'
 | .mapb c s l,.mapb c' s' l'=>(c=c'∧s=s'∧l'=l)∧jl l=true
 |_,_=>False
theorem lS {lk:List (Nat × Nat)}:∀ {l l':List AV},fQ lk l l'→RenL lk l l'
 |[],[],_=>trivial
 |_a::_t,_b::_u,h=>⟨jk h.1,lS h.2⟩
 |[],_::_,h=>h.elim
 |_::_,[],h=>h.elim
theorem RenL.append' {lk:List (Nat × Nat)}:∀ {a b c d:List AV},RenL lk a b→RenL lk c d→RenL lk (a++c) (b++d)
 |[],[],_,_,_,h=>h
 |_::_,_::_,_,_,h1,h2=>⟨h1.1,RenL.append' h1.2 h2⟩
 |[],_::_,_,_,h,_=>h.elim
 |_::_,[],_,_,h,_=>h.elim
theorem sQ {lk:List (Nat × Nat)} {wh:lQ} {b b':Blk} (h:lR lk wh b b'):dU lk b b':=by
 cases b with
 | cells l=>cases b' with
  | cells l'=>
   simp only[lR] at h
   split at h
   ·obtain ⟨rfl,hc⟩:=h;exact RenL.same lk hc
   ·exact lS h
   ·exact h.out
   ·obtain ⟨⟨rfl,rfl⟩,hc,h⟩:=h
    exact RenL.append' (RenL.same lk hc) (lS h)
  |_=>exact h.elim
 |siter s p=>cases b' with
  |siter s' p'=>exact h
  |_=>exact h.elim
 |miter m a b c'=>cases b' with
  |miter m' a' b' c'=>exact h
  |_=>exact h.elim
 | mapb c s l=>cases b' with
  |mapb c' s' l'=>
   obtain ⟨⟨rfl,rfl,rfl⟩,hc⟩:=h
   exact ⟨rfl,rfl,RenP.same lk hc⟩
  |_=>exact h.elim
abbrev Heap2:=List (Nat × Blk × lQ)
def Heap2.heap:Heap2→aa
 |[]=>[]
 |(i,b,_)::t=>(i,some b)::Heap2.heap t
def lT (lk:List (Nat × Nat)) (g:Nat→Option AV):List (Nat × AV)→Prop
 |[]=>True
 |(k,v)::t=>(match g k with
  |some u=>lP lk v u
  |none=>False)∧lT lk g t
def lU (g:Nat→Option AV):List (Nat × AV)→Prop
 |[]=>True
 |(k,v)::t=>(match g k with
  |some u=>u=v∧ac v=true
  |none=>False)∧lU g t
def lV (lk:List (Nat × Nat)) (g:Nat→Option Blk):Heap2→Prop
 |[]=>True
 | (i,b,wh)::t=>(match au lk i with
  |some j=>match g j with
   |some c=>lR lk wh b c
   |none=>False
  |none=>False)∧lV lk g t
structure View where
 slots:List (Nat × AV)
 refs:List (Nat × AV)
 heap:Heap2
 nx:Nat
 n:Nat
noncomputable def View.st (V:View):St:=⟨sl (V.slots++V.refs),V.heap.heap,V.nx,V.n⟩
def jm:List Nat→Bool
 |[]=>true
 |a::t=> !bu t a&&jm t
def pj (nx0 nx:Nat) (lk:List (Nat × Nat)):Bool:=jm (lk.map (·.2))&&(ef (lk.map (·.1)) nx&&Nat.ble nx0 nx)
def jn (lk:List (Nat × Nat)):Nat→Bool
 |0=>true
 |n+1=>(match au lk n with
  |some j=>Nat.beq j n
  |none=>false)&&jn lk n
def dz (nx0:Nat) (lk:List (Nat × Nat)) (V:View) (s:St):Prop:=
 aP (pj nx0 V.nx lk&&(jn lk nx0&&Nat.beq V.n s.n)) (lU s.slots.get V.slots∧(lT lk s.slots.get V.refs∧lV lk (hget s.heap) V.heap))
def Says2 (G:ae) (nx0:Nat) (s s2:St):Prop:=
 ∀w0 I0 α0 H0 D a w,(∀id,nx0≤id→α0 id=none)→CR G w0 I0 α0 H0 nx0 D s a w→CR G w0 I0 α0 H0 nx0 D s2 a w
theorem pk:∀ {l:List Nat},jm l=true→l.Nodup
 |[],_=> .nil
 |a::t,h=>by
  simp only[jm,Bool.and_eq_true,Bool.not_eq_true'] at h
  refine List.nodup_cons.2 ⟨fun hm=> ?_,pk h.2⟩
  rw[memN_iff.2 hm] at h;exact Bool.noConfusion h.1
theorem pm {lk:List (Nat × Nat)}:∀ {n:Nat},jn lk n=true→∀i,i<n→au lk i=some i
 |0,_=>by simp
 | n+1,h=>fun i hi=>by
  simp only[jn,Bool.and_eq_true] at h
  rcases Nat.lt_or_ge i n with h'|h'
  ·exact pm h.2 i h'
  ·have:i=n:=by omega
   subst this
   have h1:=h.1
   split at h1
   ·rename_i j hj;rw[hj,beq_iff.1 h1]
   ·cases h1
theorem pn {H2:Heap2} {i:Nat} {b:Blk} (h:hget H2.heap i=some b):∃wh,(i,b,wh)∈H2:=by
 induction H2 with
 |nil=>simp[Heap2.heap,hget] at h
 | cons p t ih=>
  obtain ⟨j,c,wh⟩:=p
  simp only[Heap2.heap,hget] at h
  split at h
  ·rename_i he
   have he:=beq_iff.1 he
   simp only[Option.some.injEq] at h
   subst he;subst h
   exact ⟨wh,by simp⟩
  ·obtain ⟨wh,hm⟩:=ih h
   exact ⟨wh,by simp[hm]⟩
theorem po {lk:List (Nat × Nat)} {g:Nat→Option AV}:∀ {L:List (Nat × AV)},lT lk g L→∀k v,(k,v)∈L→∃u,g k=some u∧RenV lk v u
 |[],_,_,_,h=>by cases h
 | (k',v')::t,h,k,v,hm=>by
  rcases List.mem_cons.1 hm with e|hm
  ·cases e
   have h1:=h.1
   split at h1
   ·rename_i u hu;exact ⟨u,hu,sO h1⟩
   ·exact h1.elim
  ·exact po h.2 k v hm
theorem pp {lk:List (Nat × Nat)} {g:Nat→Option AV}:∀ {L:List (Nat × AV)},lU g L→∀k v,(k,v)∈L→∃u,g k=some u∧RenV lk v u
 |[],_,_,_,h=>by cases h
 | (k',v')::t,h,k,v,hm=>by
  rcases List.mem_cons.1 hm with e|hm
  ·cases e
   have h1:=h.1
   split at h1
   ·rename_i u hu
    obtain ⟨rfl,hc⟩:=h1
    exact ⟨u,hu,.same _ hc⟩
   ·exact h1.elim
  ·exact pp h.2 k v hm
theorem pq {lk:List (Nat × Nat)} {g:Nat→Option Blk}:∀ {H2:Heap2},lV lk g H2→∀i b wh,(i,b,wh)∈H2→∃j b1,au lk i=some j∧g j=some b1∧dU lk b b1
 |[],_,_,_,_,h=>by cases h
 | (i',b',wh')::t,h,i,b,wh,hm=>by
  rcases List.mem_cons.1 hm with e|hm
  ·cases e
   have h1:=h.1
   split at h1
   ·rename_i j hj
    split at h1
    ·rename_i c hc;exact ⟨j,c,hj,hc,sQ h1⟩
    ·exact h1.elim
   ·exact h1.elim
  ·exact pq h.2 i b wh hm
theorem b7 {G:ae} {nx0:Nat} {lk:List (Nat × Nat)} {V:View} {s:St} (hg:∀g l,G g=some l→ag l=true) (h:dz nx0 lk V s):Says2 G nx0 s V.st:=by
 obtain ⟨hb,h0,h1,h2⟩:=oblB_iff.1 h
 simp only[pj,Bool.and_eq_true] at hb
 obtain ⟨⟨b1,b2,b3⟩,b4,b5⟩:=hb
 intro w0 I0 α0 H0 D a w hα hr
 refine hr.turnIn lk hg hα (beq_iff.1 b5) (fun k v hv=>by
   rcases List.mem_append.1 (i3 hv) with hm|hm
   ·exact pp h0 k v hm
   ·exact po h1 k v hm) (fun i b hi=> ?_) (pk b1) (fun i hi=> ?_) (pm b4) (Nat.le_of_ble_eq_true b3)
 ·obtain ⟨wh,hm⟩:=pn hi
  exact pq h2 i b wh hm
 ·cases hl:au lk i with
  |none=>rfl
  |some j=>
   have:=du b2 i (List.mem_map.2 ⟨_,eM hl,rfl⟩)
   have hi:V.nx≤i:=hi
   omega
def lW (m:Nat) (h:aa) (g:Nat→Option AV):List (Nat × AV)→Prop
 |[]=>True
 |(k,v)::t=>(match g k with
  |some u=>Frz m h u v
  |none=>False)∧lW m h g t
def lX (m:Nat) (h:aa):Heap2→Prop
 |[]=>True
 |(i,b,_)::t=>(aP (Nat.blt i m) (match hget h i with
  |some c=>g9 m h c b
  |none=>False))∧lX m h t
def pr (m:Nat) (V:View) (s:St):Prop:=aP (Nat.beq V.n s.n&&Nat.beq V.nx s.nx) (lW m s.heap s.slots.get (V.slots++V.refs)∧lX m s.heap V.heap)
theorem pt {m:Nat} {h:aa} {g:Nat→Option AV}:∀ {L:List (Nat × AV)},lW m h g L→∀k v,(k,v)∈L→∃u,g k=some u∧Frz m h u v
 |[],_,_,_,h=>by cases h
 | (k',v')::t,h,k,v,hm=>by
  rcases List.mem_cons.1 hm with e|hm
  ·cases e
   have h1:=h.1
   split at h1
   ·rename_i u hu;exact ⟨u,hu,h1⟩
   ·exact h1.elim
  ·exact pt h.2 k v hm
theorem pu {m:Nat} {h:aa}:∀ {H2:Heap2},lX m h H2→∀i b wh,(i,b,wh)∈H2→i<m∧∃b1,hget h i=some b1∧g9 m h b1 b
 |[],_,_,_,_,h=>by cases h
 | (i',b',wh')::t,h,i,b,wh,hm=>by
  rcases List.mem_cons.1 hm with e|hm
  ·cases e
   obtain ⟨hb,h1⟩:=oblB_iff.1 h.1
   refine ⟨blt_iff.1 hb, ?_⟩
   split at h1
   ·rename_i c hc;exact ⟨c,hc,h1⟩
   ·exact h1.elim
  ·exact pu h.2 i b wh hm
theorem sR {G:ae} {nx0 m:Nat} {V:View} {s:St} (h:pr m V s):Says2 G nx0 s V.st:=by
 obtain ⟨hb,h1,h2⟩:=oblB_iff.1 h
 rw[Bool.and_eq_true] at hb
 intro w0 I0 α0 H0 D a w _ hr
 refine hr.freeze m (beq_iff.1 hb.1) (beq_iff.1 hb.2) (fun k v hv=>pt h1 k v (i3 hv)) fun i b hi=> ?_
 obtain ⟨wh,hm⟩:=pn hi
 exact pu h2 i b wh hm
theorem Says2.trans {G:ae} {nx0:Nat} {s s1 s2:St} (h1:Says2 G nx0 s s1) (h2:Says2 G nx0 s1 s2):Says2 G nx0 s s2:=fun w0 I0 α0 H0 D a w hα hr=>h2 w0 I0 α0 H0 D a w hα (h1 w0 I0 α0 H0 D a w hα hr)
theorem Says2.refl {G:ae} {nx0:Nat} {s:St}:Says2 G nx0 s s:=fun _ _ _ _ _ _ _ _ h=>h
section
variable {P:Program} {G:ae} {nx0:Nat} {s s2:St} {Q Q':AExit→St→Prop}
theorem AWp.says {c:Code} (hs:Says2 G nx0 s s2) (h:AWp P G nx0 c s2 Q):AWp P G nx0 c s Q:=
 ⟨fun w0 I0 α0 H0 D a w hα hr=>h.out w0 I0 α0 H0 D a w hα (hs w0 I0 α0 H0 D a w hα hr)⟩
theorem AWp.saysEnd {c:Code} (h:AWp P G nx0 c s Q) (hq:∀e s',Q e s'→∃s2,Says2 G nx0 s' s2∧Q' e s2):AWp P G nx0 c s Q':=
 ⟨fun w0 I0 α0 H0 D a w hα hr=>wp_mono (h.out w0 I0 α0 H0 D a w hα hr) fun _ _ _ ⟨x,s',h1,h2,h3⟩=>by
  obtain ⟨s2,k1,k2⟩:=hq x s' h3
  exact ⟨x,s2,h1,k1 w0 I0 α0 H0 D _ _ hα h2,k2⟩⟩
theorem AWp.loopN {body:Code} (S:Nat→St):∀ (k j:Nat),(∀i,j≤i→i≤j+k→AWp P G nx0 body (S i) (fun e s'=>(e= .normal∧i<j+k∧Says2 G nx0 s' (S (i+1)))∨(e≠ .normal∧∃s2,Says2 G nx0 s' s2∧Q e s2)))→
  AWp P G nx0 (.loop body) (S j) Q:=fun k j h=>by
 refine .loop (k+1) ?_
 induction k generalizing j with
 | zero=>
  refine (h j (Nat.le_refl _) (Nat.le_refl _)).saysEnd fun e s' hq=> ?_
  rcases hq with ⟨_,h1,_⟩|⟨hne,s2,h1,h2⟩
  ·omega
  ·refine ⟨s2,h1, ?_⟩
   cases e with
   |normal=>exact absurd rfl hne
   |exit i=>exact h2
   |ret=>exact h2
 | succ k ih=>
  refine (h j (Nat.le_refl _) (by omega)).saysEnd fun e s' hq=> ?_
  rcases hq with ⟨rfl,h1,h2⟩|⟨hne,s2,h1,h2⟩
  ·exact ⟨_,h2,ih (j+1) fun i h3 h4=>(h i (by omega) (by omega)).mono fun e s'' hq=>by
    rcases hq with ⟨h5,h6,h7⟩|h5
    ·exact .inl ⟨h5,by omega,h7⟩
    ·exact .inr h5⟩
  ·refine ⟨s2,h1, ?_⟩
   cases e with
   |normal=>exact absurd rfl hne
   |exit i=>exact h2
   |ret=>exact h2
end
def fR (nx0:Nat) (lk:List (Nat × Nat)) (V:View) (lk':List (Nat × Nat)) (F:View) (go:Bool) (Q:AExit→St→Prop):AExit→St→Prop:=fun e s=>match e with
 | .normal=>aP go (dz nx0 lk V s)
 |e=>dz nx0 lk' F s∧Q e F.st
theorem AWp.loopV {P:Program} {O:ar} {n:Nat} {nx0:Nat} {Q:AExit→St→Prop} {body:Code} (B:bG P O n) (A:Nat→bH) (V F:Nat→View) (lk lk':Nat→List (Nat × Nat)) (k j:Nat) (hA:∀i,bR P O (A i)) (hls:∀i,LsOk P O.glob nx0 (A i) body)
  (h:∀i,j≤i→i≤j+k→bI P O n (A i) body (V i).st (fR nx0 (lk i) (V (i+1)) (lk' i) (F i) (Nat.blt i (j+k)) Q)):AWp P O.glob nx0 (.loop body) (V j).st Q:=by
 refine AWp.loopN (fun i=>(V i).st) k j fun i h1 h2=>(jj B (hA i) body _ _ (hls i) (h i h1 h2)).mono fun e s hq=> ?_
 cases e with
 |normal=>
  obtain ⟨hb,hs⟩:=oblB_iff.1 hq
  exact .inl ⟨rfl,blt_iff.1 hb,b7 B.glob hs⟩
 |exit x=>exact .inr ⟨(fun h=>by cases h),(F i).st,b7 B.glob hq.1,hq.2⟩
 |ret=>exact .inr ⟨(fun h=>by cases h),(F i).st,b7 B.glob hq.1,hq.2⟩
theorem AWp.loopM {P:Program} {O:ar} {n:Nat} {nx0:Nat} {Q:AExit→St→Prop} {body:Code} (B:bG P O n) (A:Nat→bH) (V M F:Nat→View) (lk lk':Nat→List (Nat × Nat)) (k j:Nat) (hA:∀i,bR P O (A i)) (hls:∀i,LsOk P O.glob nx0 (A i) body)
  (hM:∀i,j≤i→i<j+k→Says2 O.glob nx0 (M i).st (V (i+1)).st)
  (h:∀i,j≤i→i≤j+k→bI P O n (A i) body (V i).st (fR nx0 (lk i) (M i) (lk' i) (F i) (Nat.blt i (j+k)) Q)):AWp P O.glob nx0 (.loop body) (V j).st Q:=by
 refine AWp.loopN (fun i=>(V i).st) k j fun i h1 h2=>(jj B (hA i) body _ _ (hls i) (h i h1 h2)).mono fun e s hq=> ?_
 cases e with
 |normal=>
  obtain ⟨hb,hs⟩:=oblB_iff.1 hq
  exact .inl ⟨rfl,blt_iff.1 hb,(b7 B.glob hs).trans (hM i h1 (blt_iff.1 hb))⟩
 |exit x=>exact .inr ⟨(fun h=>by cases h),(F i).st,b7 B.glob hq.1,hq.2⟩
 |ret=>exact .inr ⟨(fun h=>by cases h),(F i).st,b7 B.glob hq.1,hq.2⟩
def fS (r0:Nat) (L:cf):Nat→Option cf:=fun r=>match Nat.beq r r0 with
 |true=>some L
 |false=>none
def sS (r0 i0:Nat) (h:df):Nat→Nat→Option df:=fun r i=>match Nat.beq r r0&&Nat.beq i i0 with
 |true=>some h
 |false=>none
def sT:af:=fun _ _ _ _ _=>none
noncomputable def dA (hint:Nat→Nat→Option df) (ls:Nat→Option cf):bH:=⟨hint,ls,sT,o0,o1,o2⟩
theorem jo {P:Program} {O:ar} {hint:Nat→Nat→Option df} {ls:Nat→Option cf} (h:∀f args v,O.summ f args=some v→SemCall P O.glob f args v):bR P O (dA hint ls):=⟨sr,h,fun _ _ h=>(by cases h),fun _ _ h=>(by cases h)⟩
theorem LsOk.none {P:Program} {G:ae} {nx0:Nat} {c:Code} {hint:Nat→Nat→Option df}:LsOk P G nx0 (dA hint (fun _=>Option.none)) c:=fun r L hL=>by cases hL
theorem LsOk.one {P:Program} {G:ae} {nx0 r0:Nat} {L0:cf} {c b:Code} {hint:Nat→Nat→Option df} (hat:bB c r0=[b]) (h:∀s Q,L0 s Q→AWp P G nx0 (.loop b) s Q):LsOk P G nx0 (dA hint (fS r0 L0)) c:=by
 intro r L hL x hx s Q hs
 simp only[dA,fS] at hL
 split at hL
 ·rename_i hr
  have hr:=beq_iff.1 hr
  simp only[Option.some.injEq] at hL
  rw[hr,hat,List.mem_singleton] at hx
  rw[hx]
  rw[←hL] at hs
  exact h s Q hs
 ·cases hL
def jp:List (Nat × cf)→Nat→Option cf
 |[],_=>none
 |(r,L)::t,k=>match Nat.beq k r with
  |true=>some L
  |false=>jp t k
theorem LsOk.no {P:Program} {G:ae} {nx0:Nat} {c:Code} {A:bH} (h:A.ls=fun _=>Option.none):LsOk P G nx0 A c:=fun r L hL=>by rw[h] at hL;cases hL
theorem pv:∀ {l:List (Nat × cf)} {r:Nat} {L:cf},jp l r=some L→(r,L)∈l
 |[],_,_,h=>by cases h
 | (r0,L0)::t,r,L,h=>by
  simp only[jp] at h
  split at h
  ·rename_i hr
   have hr:=beq_iff.1 hr
   simp only[Option.some.injEq] at h
   subst hr;subst h;exact List.mem_cons_self ..
  ·exact List.mem_cons_of_mem _ (pv h)
theorem LsOk.many {P:Program} {G:ae} {nx0:Nat} {l:List (Nat × cf)} {c:Code} {A:bH} (hA:A.ls=jp l) (h:∀p∈l,∀b∈bB c p.1,∀s Q,p.2 s Q→AWp P G nx0 (.loop b) s Q):LsOk P G nx0 A c:=by
 intro r L hL x hx s Q hs
 rw[hA] at hL
 exact h (r,L) (pv hL) x hx s Q hs
def fT (P:Program) (f:FuncId):Code:=match P.funcs[f]? with
 |some fn=>match fn.body with
  |some c=>c
  |none=> .skip
 |none=> .skip
def cv (P:Program) (f r:Nat):Code:=match bB (fT P f) r with
 |b::_=>b
 |[]=> .skip
theorem sU {P:Program} {f:FuncId} {fn:Func} {c:Code} (h1:P.funcs[f]? =some fn) (h2:fn.body=some c):c=fT P f:=by
 unfold fT;rw[h1];simp only;rw[h2]
theorem cg {P:Program} {G:ae} {nx0:Nat} {A:bH} {f:FuncId} (h:LsOk P G nx0 A (fT P f)):fP P G nx0 A f:=fun fn c h1 h2=>by rw[sU h1 h2];exact h
end Go.Proofs.Abs
/- Calls that make blocks, known from a heap of their own. -/
namespace Go.Proofs.Abs
open Go
def shl (nx m:Nat):List (Nat × Nat):=(List.range m).map fun k=>(nx+k,k)
theorem sV {l:List (Nat × Nat)} (h:(l.map (·.1)).Nodup) {i j:Nat} (hm:(i,j)∈l):au l i=some j:=by
 induction l with
 |nil=>cases hm
 | cons p t ih=>
  obtain ⟨a,b⟩:=p
  simp only[List.map_cons,List.nodup_cons] at h
  simp only[au]
  rcases List.mem_cons.1 hm with e|hm
  ·cases e;simp
  ·split
   ·rename_i he
    have he:=beq_iff.1 he
    exact absurd (List.mem_map.2 ⟨_,hm,by simp[he]⟩) h.1
   ·exact ih h.2 hm
theorem eT {nx m i:Nat}:au (shl nx m) i=if nx≤i∧i<nx+m then some (i-nx) else none:=by
 split
 ·rename_i h
  refine sV ?_ ?_
  ·unfold shl
   rw[List.map_map]
   rw[List.nodup_iff_pairwise_ne,List.pairwise_map]
   refine (List.nodup_range (n:=m)).imp fun {a b} h=> ?_
   simpa using h
  ·unfold shl
   exact List.mem_map.2 ⟨i-nx,by simp;omega,by simp;omega⟩
 ·rename_i h
  cases hl:au (shl nx m) i with
  |none=>rfl
  |some j=>
   have:=eM hl
   unfold shl at this
   obtain ⟨k,hk,e⟩:=List.mem_map.1 this
   simp at hk e
   omega
section
variable {P:Program} {G:ae} {f:FuncId} {args:List AV} {v v2:AV} {H' H2:aa} {m nx:Nat}
theorem sW (hg:∀g l,G g=some l→ag l=true) (hcl:ag args=true) (h:bw P G f args [] 0 v H' m) (hV:RenV (shl nx m) v2 v)
    (hH:∀i b2,hget H2 i=some b2→∃j b,au (shl nx m) i=some j∧hget H' j=some b∧dU (shl nx m) b2 b):bw P G f args [] nx v2 H2 (nx+m):=by
  intro w I α vs r ha hf
  obtain ⟨e1,e2⟩:=h w I (fun _=>none) vs (fz hg r) (dP ha hcl) (fun _ _=>rfl)
  refine ⟨e1,e2.mono ?_⟩
  rintro e w' ⟨u,rfl,⟨⟨I',α',ev,rel,rep,hnew⟩,_⟩⟩
  refine ⟨u,rfl,⟨I',fun i=>match au (shl nx m) i with|some j=>α' j|none=>α i, ?_, ?_, ?_, ?_⟩,by omega⟩
  · have hown:∀b,aK (fun i=>match au (shl nx m) i with|some j=>α' j|none=>α i) H2 b→aK α' H' b:=fun b ⟨i,h1,h2⟩=>by
      cases hi:hget H2 i with
      |none=>exact absurd hi h1
      | some blk=>
        obtain ⟨j,b1,k1,k2,_⟩:=hH i blk hi
        exact ⟨j,by rw[k2];simp,by simpa [k1] using h2⟩
    refine ⟨ev.os,ev.I_mono,fun id b hb=> ?_,ev.size,fun b hb _=>ev.frame b hb cE,ev.shape,fun b hb=> ?_,fun b hb=> ?_⟩
    · have:au (shl nx m) id=none:=by
        rw[eT,if_neg]
        intro hc
        rw[hf id hc.1] at hb;cases hb
      simp only[this];exact hb
    · rcases ev.Inew b hb with h|h|h
      · exact .inl h
      · exact .inr (.inl h)
      · exact absurd h cE
    · rcases ev.own b (hown b hb) with h|h
      · exact .inl h
      · exact absurd h cE
  · exact
    { live:=fun i blk hi=>by
        obtain ⟨j,b1,k1,k2,k3⟩:=hH i blk hi
        obtain ⟨b,q1,q2,q3⟩:=rel.live j b1 k2
        exact ⟨b,by simpa [k1] using q1,q2,brel_ext (kZ k3 q3)⟩
      inj :=fun i i' b h1 h2 h3 h4=>by
        cases hi:hget H2 i with
        |none=>exact absurd hi h1
        | some blk=>
          cases hi':hget H2 i' with
          |none=>exact absurd hi' h2
          | some blk'=>
            obtain ⟨j,b1,k1,k2,_⟩:=hH i blk hi
            obtain ⟨j',b1',k1',k2',_⟩:=hH i' blk' hi'
            have hj:j=j':=rel.inj j j' b (by rw[k2];simp) (by rw[k2'];simp) (by simpa [k1] using h3) (by simpa [k1'] using h4)
            rw[eT] at k1 k1'
            split at k1<;>split at k1'<;>simp_all<;>omega
      imm:=rel.imm
      dom:=fun i b hb=>by
        split at hb
        · exact rel.dom _ b hb
        · exact Nat.lt_of_lt_of_le (r.dom i b hb) ev.size
      glob:=fun g l hgl=>by
        obtain ⟨h1,h2⟩:=rel.glob g l hgl
        refine ⟨h1,fun j x hx=> ?_⟩
        obtain ⟨y,k1,k2⟩:=h2 j x hx
        exact ⟨y,k1,rep_closed k2 (gU (hg g l hgl) hx)⟩}
  · exact rep_ext (fI hV rep)
  · intro i hi
    simp only at hi
    split at hi
    · rename_i j hj
      right
      rw[eT] at hj
      split at hj
      · assumption
      · cases hj
    · exact .inl hi
 where
  sub {α α':Nat→Option Nat} {nx m:Nat}:∀id b,((au (shl nx m) id).bind α')=some b→(match au (shl nx m) id with|some j=>α' j|none=>α id)=some b:=fun id b hb=>by
    cases hl:au (shl nx m) id with
    |none=>rw[hl] at hb;cases hb
    |some j=>simpa [hl] using hb
  rep_ext {w:World} {I:Nat→Prop} {α α':Nat→Option Nat} {nx m:Nat} {a:AV} {v:Value} (h:Rep w I (fun i=>(au (shl nx m) i).bind α') a v):Rep w I (fun i=>match au (shl nx m) i with|some j=>α' j|none=>α i) a v:=
    h.mono (fun _ h=>h) sub (fun _ _ _=>rfl) (fun _ _ _=>rfl)
  brel_ext {w:World} {I:Nat→Prop} {α α':Nat→Option Nat} {nx m b:Nat} {blk:Blk} (h:BRel w I (fun i=>(au (shl nx m) i).bind α') b blk):BRel w I (fun i=>match au (shl nx m) i with|some j=>α' j|none=>α i) b blk:=by
    cases blk with
    |cells l=>obtain ⟨c,e,h1,h2,h3⟩:=h;exact ⟨c,e,h1,h2,h3.1,fun i x y hx hy=>rep_ext (h3.2 i x y hx hy)⟩
    |siter s p=>exact h
    |mapb c s es=>obtain ⟨en,h1,h2,h4,h3⟩:=h;exact ⟨en,h1,h2,h4,fun i x y hx hy=>⟨rep_ext (h3 i x y hx hy).1,rep_ext (h3 i x y hx hy).2⟩⟩
    |miter q a b c=>obtain ⟨mb,h1,h2⟩:=h;exact ⟨mb,sub _ _ h1,h2⟩
def fU (tbl:FuncId→List AV→Nat→Option (AV × aa × Nat)):af:=fun f args _ h nx=>match tbl f args nx with
 |some (v,H2,m)=>some (v,Mods.app (cM (bY H2 []) (bQ nx H2 H2)) h,nx+m,⟨true,[],[nx]⟩)
 |none=>none
theorem sX {tbl:FuncId→List AV→Nat→Option (AV × aa × Nat)} (h:∀f args nx v H2 m,tbl f args nx=some (v,H2,m)→bw P G f args [] nx v H2 (nx+m)):ax P G (fU tbl)∧ay (fU tbl):=by
 refine ⟨?_, ?_⟩
 ·intro f args rid H nx v H' nx' ft hc w I α vs hr ha hrid hlt hf
  unfold fU at hc
  split at hc
  ·rename_i v0 H2 m ht
   simp only[Option.some.injEq,Prod.mk.injEq] at hc
   obtain ⟨rfl,rfl,rfl,rfl⟩:=hc
   have hcut:aD H []=[]:=rfl
   obtain ⟨e1,e2⟩:=h f args nx v0 H2 m ht w I α vs (hcut▸eG hr []) ha hf
   rw[e1]
   refine Calls.mono e2 ?_
   rintro e w' ⟨u,rfl,hp⟩
   exact ⟨u,rfl,iV (L:=[]) hr hf hp⟩
  ·cases hc
 ·intro f args id hp nx v h' nx' ft hc
  unfold fU at hc
  split at hc
  ·rename_i v0 H2 m ht
   simp only[Option.some.injEq,Prod.mk.injEq] at hc
   obtain ⟨rfl,rfl,rfl,rfl⟩:=hc
   refine ⟨fun hall=>(by cases hall),fun _ n l hw=> ?_⟩
   simp only[List.cons.injEq] at hw
   obtain ⟨rfl,rfl⟩:=hw
   refine ⟨rfl,by omega,_,rfl,fun p hp=> ?_,fun h2 _=> ?_⟩
   ·right
    rw[fA] at hp
    rcases List.mem_append.1 hp with hp|hp
    ·cases hp
    ·exact (eI hp).1
   ·unfold fU;rw[ht]
  ·cases hc
theorem sY {O:ar} {n:Nat} (hm:P.follows .mixedOrders=true) (hsum:∀f args v,O.summ f args=some v→SemCall P O.glob f args v) (hcx:ax P O.glob O.cx∧ay O.cx) (hg:∀g l,O.glob g=some l→ag l=true)
  (h:gR (bU P O (ap P O n) f [] [] 0)=true):SemCall P O.glob f [] (.bool true):=by
 generalize hr:bU P O (ap P O n) f [] [] 0=r at h
 unfold gR at h
 split at h
 ·rename_i b hp
  obtain ⟨H',nx'⟩:=hp
  subst h
  obtain ⟨h1,h2⟩:=eJ (P:=P) (O:=O) hm hsum hg hcx n
  refine ⟨fun w I α H rid nx vs r ha hrid hlt hf=> ?_⟩
  obtain ⟨e1,e2⟩:=eE (w:=w) (vs:=vs) hm h1 h2 hr (fz hg r) (dP ha rfl) (fun _ _=>rfl)
  rw[e1]
  refine Calls.mono e2 ?_
  rintro e w' ⟨u,rfl,hp⟩
  exact ⟨u,rfl,gO (d:=1) r hp rfl rfl⟩
 ·cases h
end
end Go.Proofs.Abs
/- Calls that look at rows and answer plainly, known for closed arguments. -/
namespace Go.Proofs.Abs
open Go
def pw:AV→Bool
 | .int _ _| .bool _| .str _=>true
 |_=>false
def fV (S:FuncId→List AV→Option AV):af:=fun f args _ h nx=>
 match aH (ah 0 (aD h (aB h 3 (aA args []))) 40) args with
 | some args'=>match ag args',S f args' with
  |true,some r=>match pw r with
   |true=>some (r,h,nx,⟨false,aB h 3 (aA args []),[]⟩)
   |false=>none
  |_,_=>none
 |none=>none
section
variable {P:Program} {G:ae}
theorem sZ {w w':World} {I I':Nat→Prop} {α α':Nat→Option Nat} {r:AV} {u:Value} (h:pw r=true) (hr:Rep w I α r u):Rep w' I' α' r u:=by
 cases r with
 |int k n=>cases hr;exact .int _ _
 |bool b=>cases hr;exact .bool _
 |str s=>cases hr with|str _ b hb=>exact .str s b hb
 |_=>cases h
theorem s3 {S:FuncId→List AV→Option AV} (hg:∀g l,G g=some l→ag l=true) (hS:∀f args r,ag args=true→S f args=some r→SemCall P G f args r):ax P G (fV S)∧ay (fV S):=by
  refine ⟨?_, ?_⟩
  · intro f args rid H nx v H' nx' ft hc w I α vs hr ha hrid hlt hf
    unfold fV at hc
    split at hc
    · rename_i args' hfz
      split at hc
      · rename_i r hcl hsm
        split at hc
        · rename_i hsc
          simp only[Option.some.injEq,Prod.mk.injEq] at hc
          obtain ⟨rfl,rfl,rfl,rfl⟩:=hc
          have hcut:=eG hr (aB H 3 (aA args []))
          have h1:RepL w (bg I α (aD H (aB H 3 (aA args []))) 0) α args' vs.toList:=(dd hcut 0 40).list hfz ha
          have h2:Rel G w (bg I α (aD H (aB H 3 (aA args []))) 0) (fun _=>none) []:=
            { live:=fun id blk h=>by simp[hget] at h
              inj:=fun id id' b h=>absurd rfl h
              imm:=fun b hb=>by
                rcases hb with hb|⟨id,_,_,h3⟩
                · exact hcut.imm b hb
                · exact hcut.dom id b h3
              dom:=fun id b h=>by cases h
              glob:=fun g l hgl=>by
                obtain ⟨h1,h2⟩:=hcut.glob g l hgl
                refine ⟨.inl h1,fun j x hx=> ?_⟩
                obtain ⟨y,e1,e2⟩:=h2 j x hx
                exact ⟨y,e1,(rep_closed e2 (gU (hg g l hgl) hx)).mono (fun _ h=> .inl h) (fun _ _ h=>h) (fun _ _ _=>rfl) (fun _ _ _=>rfl)⟩}
          have h3:=(hS f args' _ hcl hsm).out w _ (fun _=>none) [] rid nx vs h2 (dP h1 hcl) rfl hlt (fun _ _=>rfl)
          refine out_mono h3 fun u w' ⟨⟨I',α',ev,_,hv,_⟩,_⟩=> ?_
          have eo:Ev w I α H w' I α H:=
            { os:=ev.os
              I_mono:=fun _ h=>h
              α_mono:=fun _ _ h=>h
              size:=ev.size
              frame:=fun b hb _=>ev.frame b hb cE
              shape:=ev.shape
              Inew:=fun _ h=> .inl h
              own:=fun _ h=> .inr h}
          have hsame:∀b,b<w.heap.size→w'.heap[b]? =w.heap[b]? :=fun b hb=>ev.frame b hb cE
          refine ⟨⟨I,α,eo,⟨fun id blk h=> ?_,hr.inj,fun b hb=>Nat.lt_of_lt_of_le (hr.imm b hb) ev.size,fun id b hb=>Nat.lt_of_lt_of_le (hr.dom id b hb) ev.size,cN hr eo⟩,sZ hsc hv,fun id h=> .inl h⟩,Nat.le_refl _⟩
          obtain ⟨b,k1,k2,k3⟩:=hr.live id blk h
          exact ⟨b,k1,k2,k3.ev hr eo (hsame b (hr.dom id b k1))⟩
        · cases hc
      · cases hc
    · cases hc
  · intro f args id h nx v h' nx' ft hc
    unfold fV at hc
    split at hc
    · rename_i args' hfz
      split at hc
      · rename_i r hcl hsm
        split at hc
        · rename_i hsc
          simp only[Option.some.injEq,Prod.mk.injEq] at hc
          obtain ⟨rfl,rfl,rfl,rfl⟩:=hc
          refine .one rfl ⟨rfl,[],rfl,by simp,fun h2 nx2 hk=> ?_⟩
          have hk':∀i∈aB h 3 (aA args []),hget h2 i=hget h i:=fun i hi=>hk i (by simp[hi])
          have e1:=gP 3 (aA args []) hk'
          have e2:=eH (aB h 3 (aA args [])) hk'
          unfold fV
          rw[e1,e2]
          simp only[hfz,hcl,hsm,hsc]
          rfl
        · cases hc
      · cases hc
    · cases hc
 where
  out_mono {Q Q':Value→World→Prop} {m:Result Next} (h:bL P Q m) (hq:∀v w,Q v w→Q' v w):bL P Q' m:=by
    cases m with
    | ok n w=>
      cases n with
      |value v=>exact hq v w h
      |skip=>exact hq _ w h
      |enter f args=>exact Calls.mono h fun e w' ⟨v,h1,h2⟩=>⟨v,h1,hq v w' h2⟩
      |_=>exact h.elim
    |_=>exact h.elim
def b8 (p:FuncId→Bool) (c1 c2:af):af:=fun f=>match p f with
 |true=>c1 f
 |false=>c2 f
theorem lY {p:FuncId→Bool} {c1 c2:af} (h1:ax P G c1∧ay c1) (h2:ax P G c2∧ay c2):ax P G (b8 p c1 c2)∧ay (b8 p c1 c2):=by
 refine ⟨?_, ?_⟩
 ·intro f args rid H nx v H' nx' ft hc
  cases hp:p f with
  |true=>
   have e:b8 p c1 c2 f=c1 f:=by unfold b8;rw[hp]
   rw[e] at hc
   exact h1.1 f args rid H nx v H' nx' ft hc
  |false=>
   have e:b8 p c1 c2 f=c2 f:=by unfold b8;rw[hp]
   rw[e] at hc
   exact h2.1 f args rid H nx v H' nx' ft hc
 ·intro f args id h nx v h' nx' ft hc
  cases hp:p f with
  |true=>
   have e:b8 p c1 c2 f=c1 f:=by unfold b8;rw[hp]
   rw[e] at hc⊢
   exact h1.2 f args id h nx v h' nx' ft hc
  |false=>
   have e:b8 p c1 c2 f=c2 f:=by unfold b8;rw[hp]
   rw[e] at hc⊢
   exact h2.2 f args id h nx v h' nx' ft hc
end
end Go.Proofs.Abs
/- The abstract machine, written so that the kernel runs it with less ado; it is the same machine. -/
namespace Go.Proofs.Abs
open Go
noncomputable section
def asInt (x:AV):Option (IntKind × Int):=AV.rec (motive_1:=fun _=>Option (IntKind × Int)) (motive_2:=fun _=>Unit) (fun _=>none) (fun k n=>some (k,n)) (fun _=>none) (fun _ _=>none) (none) (fun _ _ _=>none) (fun _ _=>none) (fun _ _ _=>none) (fun _ _ _ _ _=>none) (none) (none) (fun _=>none) (none) (fun _ _ _ _ _=>none) (none) (fun _ _ _=>none) (none) (fun _ _=>none) (fun _ _=>none) () (fun _ _ _ _=>()) x
def asBool (x:AV):Option Bool:=AV.rec (motive_1:=fun _=>Option Bool) (motive_2:=fun _=>Unit) (fun b=>some b) (fun _ _=>none) (fun _=>none) (fun _ _=>none) (none) (fun _ _ _=>none) (fun _ _=>none) (fun _ _ _=>none) (fun _ _ _ _ _=>none) (none) (none) (fun _=>none) (none) (fun _ _ _ _ _=>none) (none) (fun _ _ _=>none) (none) (fun _ _=>none) (fun _ _=>none) () (fun _ _ _ _=>()) x
inductive VP where
 |ptr (i o:Nat)
 |fptr (cs:List AV) (o:Nat)
 |gptr (g o:Nat)
 |oth
def jq (x:AV):VP:=AV.rec (motive_1:=fun _=>VP) (motive_2:=fun _=>Unit) (fun _=>VP.oth) (fun _ _=>VP.oth) (fun _=>VP.oth) (fun i o=>VP.ptr i o) (VP.oth) (fun cs o _=>VP.fptr cs o) (fun g o=>VP.gptr g o) (fun _ _ _=>VP.oth) (fun _ _ _ _ _=>VP.oth) (VP.oth) (VP.oth) (fun _=>VP.oth) (VP.oth) (fun _ _ _ _ _=>VP.oth) (VP.oth) (fun _ _ _=>VP.oth) (VP.oth) (fun _ _=>VP.oth) (fun _ _=>VP.oth) () (fun _ _ _ _=>()) x
def s4 (x:AV):Option (List AV):=AV.rec (motive_1:=fun _=>Option (List AV)) (motive_2:=fun _=>Unit) (fun _=>none) (fun _ _=>none) (fun _=>none) (fun _ _=>none) (none) (fun _ _ _=>none) (fun _ _=>none) (fun _ _ _=>none) (fun _ _ _ _ _=>none) (none) (none) (fun _=>none) (none) (fun _ _ _ _ _=>none) (none) (fun _ _ _=>none) (none) (fun _ _=>none) (fun cs _=>some cs) () (fun _ _ _ _=>()) x
inductive VS where
 |fsl (f:Bool) (es:List AV)
 |rsl (w:Bool) (i o l z:Nat)
 |oth
def hP (x:AV):VS:=AV.rec (motive_1:=fun _=>VS) (motive_2:=fun _=>Unit) (fun _=>VS.oth) (fun _ _=>VS.oth) (fun _=>VS.oth) (fun _ _=>VS.oth) (VS.oth) (fun _ _ _=>VS.oth) (fun _ _=>VS.oth) (fun f es _=>VS.fsl f es) (fun w i o l z=>VS.rsl w i o l z) (VS.oth) (VS.oth) (fun _=>VS.oth) (VS.oth) (fun _ _ _ _ _=>VS.oth) (VS.oth) (fun _ _ _=>VS.oth) (VS.oth) (fun _ _=>VS.oth) (fun _ _=>VS.oth) () (fun _ _ _ _=>()) x
def jr (x:AV):List AV:=AV.rec (motive_1:=fun _=>List AV) (motive_2:=fun _=>Unit) (fun b=>[.bool b]) (fun k n=>[.int k n]) (fun s=>[.str s]) (fun i o=>[.ptr i o]) ([.nilp]) (fun cs o _=>[.fptr cs o]) (fun g o=>[.gptr g o]) (fun f es _=>[.fsl f es]) (fun w i o l z=>[.rsl w i o l z]) ([.nilsl]) ([.nesl]) (fun i=>[.map i]) ([.nilmap]) (fun fn a c _ _=>[.func fn a c]) ([.nilFunc]) (fun t v _=>[.iface t v]) ([.nilIface]) (fun cs _=>cs) (fun cs _=>[.tuple cs]) () (fun _ _ _ _=>()) x
def lZ (x:AV):Bool:=AV.rec (motive_1:=fun _=>Bool) (motive_2:=fun _=>Unit) (fun _=>true) (fun _ _=>true) (fun _=>true) (fun _ _=>true) (true) (fun _ _ _=>true) (fun _ _=>true) (fun _ _ _=>true) (fun _ _ _ _ _=>true) (true) (true) (fun _=>true) (true) (fun _ _ _ _ _=>true) (true) (fun _ _ _=>true) (true) (fun _ _=>false) (fun _ _=>false) () (fun _ _ _ _=>()) x
def l3 (l:List AV):Bool:=List.rec true (fun a _ ih=>lZ a&&ih) l
theorem l4 {x:AV} {p:IntKind × Int} (h:asInt x=some p):x= .int p.1 p.2:=by cases x<;>simp[asInt] at h<;>(subst h;rfl)
theorem s5:jr=AV.cells:=by funext x;cases x<;>rfl
theorem s6:lZ=AV.one:=by funext x;cases x<;>rfl
theorem s7:l3=aR:=by
 funext l
 induction l with
 |nil=>rfl
 |cons a t ih=>show (lZ a&&l3 t)=_;rw[ih,s6];rfl
def px:BinOp→IntKind→Int→Int→Option (Option AV)
 | .add=>fun k a b=>some (some (.int k (al k (a+b))))
 | .sub=>fun k a b=>some (some (.int k (al k (a-b))))
 | .mul=>fun k a b=>some (some (.int k (al k (a*b))))
 | .eql=>fun _ a b=>some (some (.bool (bK a b)))
 | .neq=>fun _ a b=>some (some (.bool (!bK a b)))
 | .lss=>fun _ a b=>some (some (.bool (aV a b)))
 | .leq=>fun _ a b=>some (some (.bool (!aV b a)))
 | .gtr=>fun _ a b=>some (some (.bool (aV b a)))
 | .geq=>fun _ a b=>some (some (.bool (!aV a b)))
 |_=>fun _ _ _=>none
def s8 (k k':IntKind):Bool:=decide (k=k')
section
variable (P:Program)
def l5 (op:BinOp) (t:TypeId) (xo yo:Operand) (x y:AV):Option AV:=
 match asInt x with
 | some p=>match asInt y with
  | some q=>match s8 p.1 q.1 with
   |true=>match px op p.1 p.2 q.2 with
    |some r=>r
    |none=>a6 P op t xo yo x y
   |false=>a6 P op t xo yo x y
  |none=>a6 P op t xo yo x y
 |none=>a6 P op t xo yo x y
theorem s9:l5 P=a6 P:=by
 funext op t xo yo x y
 unfold l5
 split
 ·rename_i p hx
  split
  ·rename_i q hy
   split
   ·rename_i hk
    have hk:p.1=q.1:=of_decide_eq_true hk
    split
    ·rename_i r hr
     rw[l4 hx,l4 hy]
     rw[←hk]
     unfold px at hr
     split at hr<;>simp only[Option.some.injEq] at hr<;>first|(subst hr;simp[a6];done)|(cases hr;done)
    ·rfl
   ·rfl
  ·rfl
 ·rfl
def py (t:TypeId) (glob:Nat→Option (List AV)) (a:AV):Option Eff:=
 match jq a with
 | .ptr id off=>some<| .read id fun
  | .cells l=>(a5 P t l off).map .val
  |_=>none
 | .fptr cs off=>(a5 P t cs off).map .val
 | .gptr g off=>match glob g with
  |some l=>(a5 P t l off).map .val
  |none=>none
 | .oth=>none
theorem ta (t:TypeId) (glob:Nat→Option (List AV)) (a:AV):py P t glob a=bS P t a glob:=by cases a<;>rfl
def l6 (t:TypeId) (a v:AV):Option Eff:=
 match jq a with
 | .ptr id off=>match aE P t with
  |some n=>match Nat.beq (ab (jr v)) n&&l3 (jr v) with
   | true=>some<| .upd id fun
     | .cells l=>(splice l off (jr v)).map fun l'=>(.cells l',bN)
     |_=>none
   |false=>none
  |none=>none
 |_=>none
theorem tb (t:TypeId) (a v:AV):l6 P t a v=d7 P t a v:=by
 unfold l6
 rw[s5,s7]
 cases a<;>first|rfl|skip
 rename_i id off
 show (match aE P t with
  |some n=>(match Nat.beq (ab v.cells) n&&aR v.cells with
   | true=>some<|Eff.upd id fun
     | .cells l=>(splice l off v.cells).map fun l'=>(Blk.cells l',bN)
     |_=>none
   |false=>none)
  |none=>none)=_
 unfold d7
 simp only
 cases aE P t with
 |none=>rfl
 |some n=>
  simp only
  cases Nat.beq (ab v.cells) n&&aR v.cells<;>rfl
def pz (a:AV):Option AV:=match jq a with
 | .ptr i o=>some (.ptr i o)
 | .fptr c o=>some (.fptr c o)
 | .gptr g o=>some (.gptr g o)
 | .oth=>f4 a
theorem tc (a:AV):pz a=f4 a:=by cases a<;>rfl
def l7 (t:TypeId) (x:AV) (f:Nat):Option AV:=
 match d9 P t f with
 | some fd=>match aE P fd.type with
  |some (_+1)=>match jq x with
   | .ptr id off=>some (.ptr id (off+fd.offset))
   | .fptr cs off=>some (.fptr cs (off+fd.offset))
   | .gptr g off=>some (.gptr g (off+fd.offset))
   | .oth=>none
  |_=>none
 |none=>none
theorem td (t:TypeId) (x:AV) (f:Nat):l7 P t x f=f9 P t x f:=by
 unfold l7 f9
 cases d9 P t f with
 |none=>rfl
 | some fd=>
  simp only
  cases aE P fd.type with
  |none=>rfl
  |some n=>
   cases n with
   |zero=>rfl
   |succ n=>cases x<;>rfl
def pA (a:AV):Option Nat:=match asInt a with
 |some p=>Int.rec (fun n=>some n) (fun _=>none) p.2
 |none=>none
theorem te (a:AV):pA a=ck a:=by
 cases a<;>try rfl
 rename_i k n
 cases n<;>rfl
def l8 (t:TypeId) (x i:AV):Option AV:=
 match bh P t,hP x,pA i with
 | some e,.rsl _ id off len sz',some i=>match aE P e with
  |some sz=>match Nat.blt i len&&Nat.beq sz sz' with
   |true=>some (.ptr id (off+i*sz))
   |false=>none
  |none=>none
 |_,_,_=>c7 P t x i
theorem tf (t:TypeId) (x i:AV):l8 P t x i=c7 P t x i:=by
 unfold l8
 split
 ·rename_i e w id off len sz' k he hx hi
  rw[te] at hi
  have hu:P.underlying t=some (.slice e):=by
   unfold bh at he
   split at he
   ·simp only[Option.some.injEq] at he;subst he;assumption
   ·cases he
  have hx:x= .rsl w id off len sz':=by cases x<;>simp[hP] at hx<;>simp[hx]
  subst hx
  simp only[c7,hi,hu,Option.bind_eq_bind,Option.bind_some]
  split
  ·rename_i sz hs
   simp only[hs,Option.bind_some]
   split
   ·rename_i h;simp only[h,if_true]
   ·rename_i h;simp only[h,Bool.false_eq_true,if_false]
  ·rename_i hs
   simp only[hs,Option.bind_none]
 ·rfl
def pB (v:Option AV) (i:Nat):Option Eff:=
 match v with
 |some a=>match s4 a with
  |some vs=>aC (aT vs i)
  |none=>none
 |none=>none
def l9 (s d:TypeId) (x:AV):Option Eff:=
 match asInt x with
 |some p=>match P.underlying s,P.underlying d with
  |some _,some (.int k)=>some (.val (.int k (al k p.2)))
  |_,_=>cZ P s d x
 |none=>cZ P s d x
theorem tg (s d:TypeId) (x:AV):l9 P s d x=cZ P s d x:=by
 unfold l9
 split
 ·rename_i p hx
  split
  ·rename_i k h1 h2
   rw[l4 hx]
   unfold cZ
   simp only[h1,h2]
  ·rfl
 ·rfl
def ma (argTypes:Array TypeId) (x:AV):Option Eff:=
 match argTypes[0]?,hP x with
 |some t,.rsl _ _ _ n _=>match bh P t with
  |some _=>some (.val (.int .i64 (.ofNat n)))
  |none=>dk P argTypes x
 |some t,.fsl _ es=>match bh P t with
  |some _=>some (.val (.int .i64 (.ofNat (ab es))))
  |none=>dk P argTypes x
 |_,_=>dk P argTypes x
theorem th (argTypes:Array TypeId) (x:AV):ma P argTypes x=dk P argTypes x:=by
 have he:∀ {t e},bh P t=some e→P.underlying t=some (.slice e):=fun {t e} he=>by
  unfold bh at he
  split at he
  ·simp only[Option.some.injEq] at he;subst he;assumption
  ·cases he
 unfold ma
 split
 ·rename_i t w i o n z ht hx
  split
  ·rename_i e h
   have hx:x= .rsl w i o n z:=by cases x<;>simp[hP] at hx<;>simp[hx]
   subst hx
   simp only[dk,ht,he h]
  ·rfl
 ·rename_i t f es ht hx
  split
  ·rename_i e h
   have hx:x= .fsl f es:=by cases x<;>simp[hP] at hx<;>simp[hx]
   subst hx
   simp only[dk,ht,he h]
  ·rfl
 ·rfl
def mc (glob:Nat→Option (List AV)) (ev:Operand→Option AV) (c:Call):Option Eff:=
 match c.callee with
 | .builtin .len=>match cd ev c.args.toList with
  |some [x]=>ma P c.argTypes x
  |_=>cK P glob ev c
 |_=>cK P glob ev c
theorem ti (glob:Nat→Option (List AV)) (ev:Operand→Option AV) (c:Call):mc P glob ev c=cK P glob ev c:=by
 unfold mc
 split
 ·rename_i hc
  split
  ·rename_i x hx
   simp only[cK,hx,hc,dG,th]
  ·rfl
 ·rfl
end
def pC (o:Op):Program→(Nat→Option (List AV))→(Operand→Option AV)→Option (Option Eff):=
 Op.rec (motive:=fun _=>Program→(Nat→Option (List AV))→(Operand→Option AV)→Option (Option Eff))
  (fun x _ _ ev=>some (aC (ev x))) (fun x _ _ ev=>some (aC (ev x))) (fun _ _ _ _ _ _=>none) (fun _ _ _ _=>none) (fun _ _ _ _ _=>none) (fun _ _ _ _ _=>none) (fun _ _ _ _ _ _=>none) (fun _ _ _ _ _ _ _=>none) (fun t a P glob ev=>some (e1 ev a fun a=>py P t glob a)) (fun t a x P _ ev=>some (e2 ev a x (l6 P t))) (fun _ _ _ _=>none) (fun _ _ _ _=>none) (fun x _ _ ev=>some (e1 ev x fun v=>aC (pz v))) (fun op t x y _ P _ ev=>some (e2 ev x y fun v w=>aC (l5 P op t x y v w))) (fun _ _ _ _ _ _=>none) (fun s d x P _ ev=>some (e1 ev x (l9 P s d))) (fun _ _ _ _ _=>none) (fun _ _ _ _ _=>none) (fun _ _ _ _ _ _=>none) (fun _ _ _ _ _=>none) (fun _ _ _ _ _=>none) (fun _ _ _ _ _ _=>none) (fun _ _ _ _ _ _ _ _=>none) (fun t x f P _ ev=>some (e1 ev x fun v=>aC (l7 P t v f))) (fun _ _ _ _ _ _=>none) (fun t x i P _ ev=>some (e2 ev x i fun v w=>aC (l8 P t v w))) (fun _ _ _ _ _ _=>none) (fun _ _ _ _ _ _ _=>none) (fun _ _ _ _ _ _ _=>none) (fun _ _ _ _ _ _=>none) (fun _ _ _ _ _ _ _=>none) (fun _ _ _ _ _=>none) (fun _ _ _ _ _=>none) (fun _ _ _ _=>none) (fun _ _ _ _ _ _ _=>none) (fun t i _ _ ev=>some (pB (ev t) i)) (fun c P glob ev=>some (mc P glob ev c)) (fun _ _ _ _=>none) (fun _ _ _ _=>none) (fun _ _ _ _=>none) (fun _ _ _ _ _=>none) (fun _ _ _ _ _ _=>none) (fun _ _ _ _ _=>none) o
def me (P:Program) (glob:Nat→Option (List AV)) (ev:Operand→Option AV) (o:Oper):Option Eff:=match pC o.op P glob ev with
 |some r=>r
 |none=>aq P glob ev o
theorem tj (P:Program) (glob:Nat→Option (List AV)) (ev:Operand→Option AV) (o:Oper):me P glob ev o=aq P glob ev o:=by
  unfold me
  split
  · rename_i r hr
    cases ho:o.op<;>rw[ho] at hr<;>simp only[pC,Option.some.injEq,reduceCtorEq] at hr<;>(subst hr;simp only[aq,ho,s9,ta,tc,td,tf,ti])<;>first
      |rfl
      | (unfold pB iv;rename_i t i;cases ev t with
         |none=>rfl
         |some a=>cases a<;>rfl)
      |(congr 1;funext a b;exact tb P _ a b)
      |(congr 1;funext a;exact tg P _ _ a)
  · rfl
def tk (o:Op):Bool:=Op.rec (motive:=fun _=>Bool) (fun _=>false) (fun _=>false) (fun _ _ _=>false) (fun _=>false) (fun _ _=>false) (fun _ _=>false) (fun _ _ _=>true) (fun _ _ _ _=>false) (fun _ _=>false) (fun _ _ _=>false) (fun _=>false) (fun _=>false) (fun _=>false) (fun _ _ _ _ _=>false) (fun _ _ _=>false) (fun _ _ _=>false) (fun _ _=>false) (fun _ _=>false) (fun _ _ _=>false) (fun _ _=>false) (fun _ _=>false) (fun _ _ _=>false) (fun _ _ _ _ _=>false) (fun _ _ _=>false) (fun _ _ _=>false) (fun _ _ _=>false) (fun _ _ _=>false) (fun _ _ _ _=>false) (fun _ _ _ _=>false) (fun _ _ _=>false) (fun _ _ _ _=>false) (fun _ _=>false) (fun _ _=>false) (fun _=>false) (fun _ _ _ _=>false) (fun _ _=>false) (fun _=>false) (fun _=>false) (fun _=>false) (fun _=>false) (fun _ _=>false) (fun _ _ _=>false) (fun _ _=>false) o
def mf (P:Program) (glob:Nat→Option (List AV)) (ops:List Oper) (ev:Operand→Option AV) (o:Oper):Option Eff:=match tk o.op with
 |true=>aF P glob ops ev o
 |false=>me P glob ev o
theorem tl (P:Program) (glob:Nat→Option (List AV)) (ops:List Oper) (ev:Operand→Option AV) (o:Oper):mf P glob ops ev o=aF P glob ops ev o:=by
 unfold mf
 split
 ·rfl
 ·rename_i h
  rw[tj,aS]
  cases ho:o.op<;>first|rfl|(rw[ho] at h;cases h)
def mg (e:Eff):Option AV:=match e with
 | .val v=>some v
 |_=>none
theorem tm {e:Eff} {v:AV} (h:mg e=some v):e= .val v:=by cases e<;>simp[mg] at h<;>(subst h;rfl)
def mh (call:af) (id:Nat) (e:Eff) (h:aa) (nx:Nat):Option (AV × aa × Nat × Foot):=match mg e with
 |some v=>some (v,h,nx,⟨false,[],[]⟩)
 |none=>ai call id 2 e h nx
theorem tn (call:af) (id:Nat) (e:Eff) (h:aa) (nx:Nat):mh call id e h nx=ai call id 2 e h nx:=by
 unfold mh
 split
 ·rename_i v hv;rw[tm hv];rfl
 ·rfl
section
variable (P:Program) (glob:Nat→Option (List AV)) (call:af)
def mi (ops:List Oper) (id:Nat) (o:Oper) (s:St):Option (St × Foot):=
 match aW ops o s.slots with
 | some true=>match mf P glob ops (aj s.slots) o with
  |some e=>match mh call id e s.heap s.nx with
   |some (v,h,nx,ft)=>some (⟨aI s.n s.slots o.dst v,h,nx,s.n⟩,ft)
   |none=>none
  |none=>none
 |some false=>some (⟨aI s.n s.slots o.dst bN,s.heap,s.nx,s.n⟩,⟨false,[],[]⟩)
 |none=>none
theorem tp (ops:List Oper) (id:Nat) (o:Oper) (s:St):mi P glob call ops id o s=bc P glob call ops id o s:=by
 unfold mi bc
 simp only[tl,tn]
 rfl
def jt (all:List Oper) (base:Nat):List Oper→Nat→St→List (Nat × Foot)→Option (St × List (Nat × Foot))
 |[],_,s,acc=>some (s,acc)
 |o::rest,i,s,acc=>match mi P glob call all (base+i) o s with
  |some (s',ft)=>jt all base rest (i+1) s' (match ft.none with|true=>acc|false=>(i,ft)::acc)
  |none=>none
theorem pD (all:List Oper) (base:Nat):∀ (l:List Oper) (i:Nat) (s:St) (acc:List (Nat × Foot)),jt P glob call all base l i s acc=aY P glob call all base l i s acc
 |[],_,_,_=>rfl
 |o::rest,i,s,acc=>by
  simp only[jt,aY,tp]
  split
  ·rename_i s' ft h;simp only[h];exact pD all base rest (i+1) s' _
  ·rename_i h;simp only[h]
def tq (v:Option AV):Option Bool:=match v with
 |some a=>asBool a
 |none=>none
def cw (lf:Nat):Code→St→Option (AExit × St)
 | .skip,s| .label _,s=>some (.normal,s)
 | .region _ ops draw,s=>
  match jt P glob call ops.toList s.nx ops.toList 0 ⟨s.slots,s.heap,s.nx+ab ops.toList,s.n⟩ [] with
  | some (s',feet)=>match draw with
   |false=>some (.normal,s')
   |true=>match dn ops.toList&&c9 (bv ops.toList []) feet with
    |true=>some (.normal,s')
    |false=>none
  |none=>none
 | .seq a b,s=>match cw lf a s with
  |some (.normal,s')=>cw lf b s'
  |r=>r
 | .cond c a b,s=>match tq (aj s.slots c) with
  |some true=>cw lf a s
  |some false=>cw lf b s
  |_=>none
 | .block id body,s=>match cw lf body s with
  |some (.exit i,s')=>match Nat.beq i id with
   |true=>some (.normal,s')
   |false=>some (.exit i,s')
  |r=>r
 | .loop body,s=>fm (cw lf body) lf s
 | .exit id,s=>some (.exit id,s)
 | .ret,s=>some (.ret,s)
 |_,_=>none
theorem tr (lf:Nat) (c:Code):cw P glob call lf c=aN P glob call lf c:=by
 induction c with
 |region id ops draw=>funext s;simp only[cw,aN,pD];rfl
 |seq a b iha ihb=>funext s;simp only[cw,aN,iha,ihb];rfl
 | cond c a b iha ihb=>
  funext s
  simp only[cw,aN,iha,ihb]
  cases aj s.slots c with
  |none=>rfl
  |some v=>
   cases v<;>first|rfl|skip
   rename_i b;cases b<;>rfl
 |block id body ih=>funext s;simp only[cw,aN,ih];rfl
 |loop body ih=>funext s;simp only[cw,aN,ih]
 |_=>rfl
end
def ch (P:Program) (O:ar) (call:af) (f:FuncId) (args:List AV) (h:aa) (nx:Nat):Option (AV × aa × Nat):=
  match P.funcs[f]? with
  | some fn=>match fn.body with
    | some c=>match fn.name== "runtime.NumGoroutine" with
      |true=>none
      | false=>match Nat.ble (ab args) fn.ntmps&&Nat.ble fn.ntmps 4095 with
       |false=>none
       |true=>match cw P O.glob call O.lf c ⟨bz args 0 .tip,h,nx,fn.ntmps⟩ with
        | some (.normal,s)|some (.ret,s)=>match bD P O.glob s fn.results.toList with
          |some l=>some (bP l,s.heap,s.nx)
          |none=>none
        |_=>none
    |none=>none
  |none=>none
theorem pE (P:Program) (O:ar) (call:af) (f:FuncId) (args:List AV) (h:aa) (nx:Nat):ch P O call f args h nx=bU P O call f args h nx:=by
 unfold ch bU
 simp only[tr]
 rfl
def pF (P:Program) (O:ar) (call:af) (d:Nat) (f:FuncId) (args:List AV) (id:Nat) (h:aa) (nx:Nat):Option (AV × aa × Nat × Foot):=
 match ch P O call f args (aD h (aB h d (aA args []))) nx with
 |some (v,h1,_)=>match lookEnd (aB h d (aA args [])) id nx h v h1 with
  |some r=>some (bW (aB h d (aA args [])) id nx h r)
  |none=>none
 |none=>none
def pG (P:Program) (O:ar) (call:af) (d:Nat) (f:FuncId) (args:List AV) (h:aa) (nx:Nat):Option (AV × aa × Nat × Foot):=
  match ch P O call f args (aD h (aB h d (aA args []))) nx with
  |some (v,h1,nx')=>match Nat.ble nx nx' with
   |false=>none
   |true=>some (v,Mods.app (cM (bY h1 (aB h d (aA args []))) (bQ nx h1 h1)) h,nx',⟨true,aB h d (aA args []),nx::aB h d (aA args [])⟩)
  |none=>none
def bJ (P:Program) (O:ar):Nat→af
 |0,_,_,_,_,_=>none
 | n +1,f,args,id,h,nx=>
  match O.how f,ag args with
  | .look d,_=>pF P O (bJ P O n) d f args id h nx
  | .each d,_=>ep P O (bJ P O n) d f args id h nx
  | .clone,_=>dK P f args id h nx
  | .part d,_=>pG P O (bJ P O n) d f args h nx
  | .cmp,_=>dL P f args h nx
  | .known,_=>O.cx f args id h nx
  | .pure,true=>match O.summ f args with
   |some v=>some (v,h,nx,⟨false,[],[]⟩)
   | none=>match ch P O (bJ P O n) f args [] 0 with
    | some (v,h',_)=>match ah 0 h' 40 v with
     |some v'=>match ac v' with
      |true=>some (v',h,nx,⟨false,[],[]⟩)
      |false=>none
     |none=>none
    |none=>none
  | .fresh,true=>match ch P O (bJ P O n) f args [] 0 with
   |some (v,h',_)=>cA h' v id h nx
   |none=>none
  | .pure,false=>match ch P O (bJ P O n) f args h nx with
   |some (v,h',nx')=>match ah nx h' 40 v with
    |some v'=>some (v',cn nx h',nx',⟨true,[],[]⟩)
    |none=>none
   |none=>none
  |_,_=>match ch P O (bJ P O n) f args h nx with
   |some (v,h',nx')=>some (v,h',nx',⟨true,[],[]⟩)
   |none=>none
theorem mj (P:Program) (O:ar):∀n,bJ P O n=ap P O n
 |0=>rfl
 |n+1=>by
  funext f args id h nx
  simp only[bJ,ap,mj P O n,pE,pF,pG,em,er]
  rfl
theorem ml (P:Program) (O:ar) (n:Nat) (f:FuncId) (args:List AV) (h:aa) (nx:Nat):ch P O (bJ P O n) f args h nx=bU P O (ap P O n) f args h nx:=by
 rw[pE,mj]
end
theorem pH {P:Program} {O:ar} {n:Nat} {f:FuncId} (hm:P.follows .mixedOrders=true) (hsum:∀f args v,O.summ f args=some v→SemCall P O.glob f args v) (hcx:ax P O.glob O.cx∧ay O.cx) (hg:∀g l,O.glob g=some l→ag l=true)
  (h:gR (ch P O (bJ P O n) f [] [] 0)=true):SemCall P O.glob f [] (.bool true):=
 sY (n:=n) hm hsum hcx hg (by rw[←ml];exact h)
end Go.Proofs.Abs
/- Calls with closed arguments, run by themselves: what they answer, what blocks they make. -/
namespace Go.Proofs.Abs
open Go
noncomputable def dB (P:Program) (O:ar) (n:Nat) (f:FuncId) (args:List AV) (r:AV):Bool:=match ch P O (bJ P O n) f args [] 0 with
 |some (v,h,_)=>match ah 0 h 40 v with
  |some v'=>dp v' r&&ac r
  |none=>false
 |none=>false
def hQ (h1:aa):aa→Bool
 |[]=>true
 |(i,some b)::t=>(match hget h1 i with
  |some c=>gq c b
  |none=>false)&&hQ h1 t
 |(_,none)::_=>false
section
variable {P:Program} {O:ar} {n:Nat} {f:FuncId} {args:List AV}
theorem eU {r:AV} (hm:P.follows .mixedOrders=true) (hsum:∀f args v,O.summ f args=some v→SemCall P O.glob f args v) (hcx:ax P O.glob O.cx∧ay O.cx) (hg:∀g l,O.glob g=some l→ag l=true)
  (hcl:ag args=true) (h:dB P O n f args r=true):SemCall P O.glob f args r:=by
 unfold dB at h
 rw[ml] at h
 split at h
 ·rename_i v H1 m hr
  split at h
  ·rename_i v' hfz
   rw[Bool.and_eq_true] at h
   have e:=eF _ _ h.1
   subst e
   obtain ⟨h1,h2⟩:=eJ (P:=P) (O:=O) hm hsum hg hcx n
   refine ⟨fun w I α H rid nx vs r ha hrid hlt hf=> ?_⟩
   obtain ⟨e1,e2⟩:=eE (w:=w) (vs:=vs) hm h1 h2 hr (fz hg r) (dP ha hcl) (fun _ _=>rfl)
   rw[e1]
   refine Calls.mono e2 ?_
   rintro e w' ⟨u,rfl,hp⟩
   exact ⟨u,rfl,gO r hp hfz h.2⟩
  ·cases h
 ·cases h
theorem mm {h1:aa}:∀ {H2:aa},hQ h1 H2=true→∀i b,hget H2 i=some b→hget h1 i=some b
 |[],_,i,b,hi=>by simp[hget] at hi
 | (j,some c)::t,h,i,b,hi=>by
  simp only[hQ,Bool.and_eq_true] at h
  simp only[hget] at hi
  split at hi
  ·rename_i he
   have he:=beq_iff.1 he
   simp only[Option.some.injEq] at hi
   subst he;subst hi
   have h0:=h.1
   split at h0
   ·rename_i d hd
    rw[hd,kJ h0]
   ·cases h0
  ·exact mm h.2 i b hi
 |(j,none)::t,h,_,_,_=>by simp[hQ] at h
end
end Go.Proofs.Abs
/- A law whose answer is known: the call. -/
namespace Go.Proofs.Abs
open Go
theorem SemCall.calls {P:Program} {G:ae} {f:FuncId} {fn:Func} {c:Code} {args:List AV} {vs:Array Value} {w:World} (hfn:P.funcs[f]? =some fn) (hc:fn.body=some c) (hname:(fn.name== "runtime.NumGoroutine")=false)
  (h:SemCall P G f args (.bool true)) (hr:Rel G w (fun b=>b<w.heap.size) (fun _=>none) []) (ha:RepL w (fun b=>b<w.heap.size) (fun _=>none) args vs.toList):
  Calls P f vs w fun e w'=>e= .returned (.bool true)∧RowKit.Below w.heap.size w w':=by
 have e1:(callFunc f vs).run P w= .ok (.enter f vs) w:=by
  unfold callFunc
  simp only[Sem.run_bind,run_program,Result.andThen_ok,hfn,hname,hc,Bool.false_eq_true,if_false,Option.isNone_some,Sem.run_pure]
 have:=h.out w _ _ [] 0 1 vs hr ha rfl (by omega) (fun _ _=>rfl)
 rw[e1] at this
 refine Calls.mono this ?_
 rintro e w' ⟨v,rfl,⟨⟨I',α',ev,_,hv,_⟩,_⟩⟩
 cases hv
 exact ⟨rfl,ev.os.1,ev.os.2.1,ev.os.2.2,ev.size,fun k hk=>ev.frame k hk cE⟩
end Go.Proofs.Abs
/- A run in continuation form leads to one end: so calls may be followed where they stand. -/
namespace Go.Proofs.Abs
open Go
section
variable {P:Program} {O:ar} {n:Nat} {A:bH}
end
section
variable {P:Program} {O:ar} {n:Nat} {sem:lx} {isI:FuncId→Option (List AV→aa→List Nat)}
end
end Go.Proofs.Abs
/- What calls answer, by their numbers; values that say less; items as trees. -/
namespace Go.Proofs.Abs
open Go
noncomputable section
structure Wk (v v':AV):Prop where
 out:∀w I α x,Rep w I α v x→Rep w I α v' x
structure WkL (l l':List AV):Prop where
 out:∀w I α x,RepL w I α l x→RepL w I α l' x
 len:l.length=l'.length
 at_:∀ (i:Nat) x y,l[i]? =some x→l'[i]? =some y→Wk x y
theorem Wk.refl (v:AV):Wk v v:=⟨fun _ _ _ _ h=>h⟩
theorem Wk.trans {u v w:AV} (h:Wk u v) (h':Wk v w):Wk u w:=⟨fun _ _ _ _ r=>h'.out _ _ _ _ (h.out _ _ _ _ r)⟩
theorem WkL.nil:WkL [] []:=⟨fun _ _ _ _ h=>h,rfl,by simp⟩
theorem WkL.refl (l:List AV):WkL l l:=⟨fun _ _ _ _ h=>h,rfl,fun i x y h1 h2=>by rw[h1] at h2;cases h2;exact .refl x⟩
theorem WkL.cons {a b:AV} {t u:List AV} (h:Wk a b) (ht:WkL t u):WkL (a::t) (b::u):=
 ⟨fun w I α x r=>by
  obtain ⟨y,v',rfl,h1,h2⟩:=RepL.cons_inv r
  exact .cons (h.out _ _ _ _ h1) (ht.out _ _ _ _ h2),by simp[ht.len],fun i x y h1 h2=>by
  cases i with
  |zero=>simp at h1 h2;subst h1;subst h2;exact h
  |succ i=>simp at h1 h2;exact ht.at_ i x y h1 h2⟩
theorem WkL.append {a b c d:List AV} (h:WkL a b) (h':WkL c d):WkL (a++c) (b++d):=by
 have hl:=h.len
 have hl':=h'.len
 refine ⟨fun w I α x r=>⟨by have:=r.1;simp only[List.length_append] at this⊢;omega,fun i p q e1 e2=> ?_⟩,by simp only[List.length_append];omega,fun i p q e1 e2=> ?_⟩
 ·have hi:i<(a++c).length:=by
   have:i<(b++d).length:=by
    rcases Nat.lt_or_ge i (b++d).length with h|h
    ·exact h
    ·rw[List.getElem?_eq_none h] at e1;cases e1
   simp only[List.length_append] at this⊢;omega
  have r':=r.2 i _ q (List.getElem?_eq_getElem hi) e2
  have key:Wk ((a++c)[i]) p:=by
   have e3:=List.getElem?_eq_getElem hi
   by_cases hlt:i<a.length
   ·rw[List.getElem?_append_left hlt] at e3
    rw[List.getElem?_append_left (by omega)] at e1
    exact h.at_ i _ _ e3 e1
   ·rw[List.getElem?_append_right (by omega)] at e3 e1
    rw[hl] at e3
    exact h'.at_ _ _ _ e3 e1
  exact key.out _ _ _ _ r'
 ·by_cases hlt:i<a.length
  ·rw[List.getElem?_append_left hlt] at e1
   rw[List.getElem?_append_left (by omega)] at e2
   exact h.at_ i _ _ e1 e2
  ·rw[List.getElem?_append_right (by omega)] at e1 e2
   rw[hl] at e1
   exact h'.at_ _ _ _ e1 e2
theorem Wk.nil {f:Bool}:Wk .nilsl (.fsl f []):=⟨fun w I α x h=>by
 cases h
 exact .fsl f [] none 0 0 0 0 0 (fun _ _=>undef) rfl (Nat.le_refl _) (fun _=>rfl) (.inr ⟨rfl,rfl⟩) (fun h=>absurd rfl h) (by simp) (by simp) (by simp)⟩
theorem Wk.full {l:List AV}:Wk (.fsl true l) (.fsl false l):=⟨fun w I α x h=>by
 cases h with
 |fsl _ _ a len cap sz b base g hl hc hf ha hI hs hg hr=>
  exact .fsl false l a len cap sz b base g hl hc (fun h=>by cases h) ha hI hs hg hr⟩
theorem Wk.row {f:Bool} {l:List AV}:Wk (.fsl f l) (.fsl false l):=by
 cases f with
 |true=>exact .full
 |false=>exact .refl _
theorem Wk.els {l l':List AV} (hlen:l.length=l'.length) (h:∀ (i:Nat) (x y:AV),l[i]? =some x→l'[i]? =some y→WkL x.cells y.cells):Wk (.fsl false l) (.fsl false l'):=⟨fun w I α x hx=>by
 have get:∀ (i:Nat) (y:AV),l'[i]? =some y→∃x:AV,l[i]? =some x∧WkL x.cells y.cells:=fun i y hy=>by
  have hi:i<l.length:=by
   rw[hlen]
   rcases Nat.lt_or_ge i l'.length with h|h
   ·exact h
   ·rw[List.getElem?_eq_none h] at hy;cases hy
  exact ⟨_,List.getElem?_eq_getElem hi,h i _ _ (List.getElem?_eq_getElem hi) hy⟩
 cases hx with
 | fsl _ _ a len cap sz b base g hl hc hf ha hI hs hg hr=>
  have cell:∀ (i:Nat) (e:AV) (j:Nat) (c:AV),l'[i]? =some e→e.cells[j]? =some c→∃ (e0 c0:AV),l[i]? =some e0∧e0.cells[j]? =some c0∧Wk c0 c:=fun i e j c h1 h2=>by
   obtain ⟨e0,k1,k2⟩:=get i e h1
   have hj:j<e0.cells.length:=by
    rw[k2.len]
    rcases Nat.lt_or_ge j e.cells.length with h|h
    ·exact h
    ·rw[List.getElem?_eq_none h] at h2;cases h2
   exact ⟨e0,_,k1,List.getElem?_eq_getElem hj,k2.at_ j _ _ (List.getElem?_eq_getElem hj) h2⟩
  refine .fsl false l' a len cap sz b base g (by omega) hc (fun h=>by cases h) ?_ (fun hne=>hI fun h0=>hne ?_) (fun e he=> ?_) (fun i e j c h1 h2=> ?_) (fun i e j c h1 h2=> ?_)
  ·exact ha
  ·subst h0;exact List.eq_nil_of_length_eq_zero hlen.symm
  ·obtain ⟨i,hi⟩:=List.getElem?_of_mem he
   obtain ⟨e0,k1,k2⟩:=get i e hi
   rw[←k2.len]
   exact hs e0 (List.mem_of_getElem? k1)
  ·obtain ⟨e0,c0,k1,k2,_⟩:=cell i e j c h1 h2
   exact hg i e0 j c0 k1 k2
  ·obtain ⟨e0,c0,k1,k2,k3⟩:=cell i e j c h1 h2
   exact k3.out _ _ _ _ (hr i e0 j c0 k1 k2)⟩
structure WkE (l l':List AV):Prop where
 len:l.length=l'.length
 at_:∀ (i:Nat) (x y:AV),l[i]? =some x→l'[i]? =some y→WkL x.cells y.cells
theorem WkE.nil:WkE [] []:=⟨rfl,by simp⟩
theorem WkE.refl (l:List AV):WkE l l:=⟨rfl,fun i x y h1 h2=>by rw[h1] at h2;cases h2;exact .refl _⟩
theorem WkE.cons {x y:AV} {l l':List AV} (h:WkL x.cells y.cells) (t:WkE l l'):WkE (x::l) (y::l'):=
 ⟨by simp[t.len],fun i x' y' h1 h2=>by
  cases i with
  |zero=>simp at h1 h2;subst h1;subst h2;exact h
  |succ i=>simp at h1 h2;exact t.at_ i x' y' h1 h2⟩
theorem WkE.map {α:Type} {f g:α→AV} {l:List α} (h:∀x∈l,WkL (f x).cells (g x).cells):WkE (l.map f) (l.map g):=
 ⟨by simp,fun i x y h1 h2=>by
  rw[List.getElem?_map,Option.map_eq_some_iff] at h1 h2
  obtain ⟨a,ha,rfl⟩:=h1
  obtain ⟨b,hb,rfl⟩:=h2
  rw[ha] at hb;cases hb
  exact h a (List.mem_of_getElem? ha)⟩
theorem Wk.rows {f:Bool} {l l':List AV} (h:WkE l l'):Wk (.fsl f l) (.fsl false l'):=Wk.row.trans (.els h.len h.at_)
theorem Wk.agg {l l':List AV} (h:WkL l l'):Wk (.agg l) (.agg l'):=⟨fun w I α x r=>by
 obtain ⟨a',rfl,h1⟩:=Rep.agg_iff.1 r
 exact Rep.agg_iff.2 ⟨a',rfl,h.out _ _ _ _ h1⟩⟩
theorem Wk.tuple {l l':List AV} (h:WkL l l'):Wk (.tuple l) (.tuple l'):=⟨fun w I α x r=>by
 obtain ⟨a',rfl,h1⟩:=Rep.tuple_iff.1 r
 exact Rep.tuple_iff.2 ⟨a',rfl,h.out _ _ _ _ h1⟩⟩
theorem Wk.iface {t:TypeId} {v v':AV} (h:Wk v v'):Wk (.iface t v) (.iface t v'):=⟨fun w I α x r=>by
 cases r with
 |iface _ _ v'' hv=>exact .iface t _ _ (h.out _ _ _ _ hv)⟩
theorem Wk.func {fn:Fn} {a c a' c':List AV} (h1:WkL a a') (h2:WkL c c'):Wk (.func fn a c) (.func fn a' c'):=⟨fun w I α x r=>by
 obtain ⟨u,v,rfl,k1,k2⟩:=Rep.func_iff.1 r
 exact Rep.func_iff.2 ⟨u,v,rfl,h1.out _ _ _ _ k1,h2.out _ _ _ _ k2⟩⟩
theorem Wk.fptr {l l':List AV} {o:Nat} (h:WkL l l'):Wk (.fptr l o) (.fptr l' o):=⟨fun w I α x r=>by
 cases r with
 | fptr _ _ b base g hI hg hr=>
  have cell:∀ (j:Nat) (c:AV),l'[j]? =some c→∃c0:AV,l[j]? =some c0∧Wk c0 c:=fun j c h2=>by
   have hj:j<l.length:=by
    rw[h.len]
    rcases Nat.lt_or_ge j l'.length with h|h
    ·exact h
    ·rw[List.getElem?_eq_none h] at h2;cases h2
   exact ⟨_,List.getElem?_eq_getElem hj,h.at_ j _ _ (List.getElem?_eq_getElem hj) h2⟩
  refine .fptr l' o b base g hI (fun j c hc=> ?_) (fun j c hc=> ?_)
  ·obtain ⟨c0,k1,_⟩:=cell j c hc
   exact hg j c0 k1
  ·obtain ⟨c0,k1,k2⟩:=cell j c hc
   exact k2.out _ _ _ _ (hr j c0 k1)⟩
theorem ts {f:Bool} {w:World} {I:Nat→Prop} {α:Nat→Option Nat} {x:Value} (h:Rep w I α (.fsl f []) x):Rep w I α .nilsl x∨Rep w I α .nesl x:=by
 cases h with
 |fsl _ _ a len cap sz b base g hl hc hf ha hI hs hg hr=>
  obtain rfl:len=0:=by simpa using hl.symm
  rcases ha with rfl|⟨rfl,rfl⟩
  ·exact .inr (.nesl _ _)
  ·exact .inl .nilsl
section
variable {P:Program} {G:ae} {f:FuncId} {args args':List AV} {v v':AV}
theorem SemCall.wkA (h:SemCall P G f args' v) (hw:WkL args args'):SemCall P G f args v:=
 ⟨fun w I α H rid nx vs r hr=>h.out w I α H rid nx vs r (hw.out _ _ _ _ hr)⟩
theorem tt {Q Q':Value→World→Prop} {r:Result Next} (h:bL P Q r) (hq:∀v w,Q v w→Q' v w):bL P Q' r:=by
 unfold bL at h⊢
 split at h
 ·exact hq _ _ h
 ·exact hq _ _ h
 ·exact Calls.mono h fun e w' ⟨v,h1,h2⟩=>⟨v,h1,hq _ _ h2⟩
 ·exact h
theorem SemCall.wk (h:SemCall P G f args' v) (ha:WkL args args') (hv:Wk v v'):SemCall P G f args v':=
 ⟨fun w I α H rid nx vs r hr h1 h2 h3=>tt (h.out w I α H rid nx vs r (ha.out _ _ _ _ hr) h1 h2 h3) fun _ _ ⟨⟨I',α',q1,q2,q3,q4⟩,hle⟩=>⟨⟨I',α',q1,q2,hv.out _ _ _ _ q3,q4⟩,hle⟩⟩
theorem SemCall.res (h:SemCall P G f args v) (hv:Wk v v'):SemCall P G f args v':=h.wk (.refl _) hv
theorem SemCall.empty (h1:SemCall P G f [.nilsl] v) (h2:SemCall P G f [.nesl] v):SemCall P G f [.fsl false []] v:=
 ⟨fun w I α H rid nx vs r hr k1 k2 k3=>by
  obtain ⟨y,v',e,hy,ht⟩:=RepL.cons_inv hr
  have:RepL w I α [.nilsl] vs.toList∨RepL w I α [.nesl] vs.toList:=by
   rw[e]
   rcases ts hy with h|h
   ·exact .inl (.cons h ht)
   ·exact .inr (.cons h ht)
  rcases this with h|h
  ·exact h1.out w I α H rid nx vs r h k1 k2 k3
  ·exact h2.out w I α H rid nx vs r h k1 k2 k3⟩
end
inductive It where
 |mk (tag ty n:Int) (data:List UInt8) (kids:List It)
@[simp] theorem vY {k:IntKind} {n:Int}:(AV.int k n).one=true:=rfl
@[simp] theorem vZ {s:List UInt8}:(AV.str s).one=true:=rfl
@[simp] theorem v3 {b:Bool}:(AV.bool b).one=true:=rfl
@[simp] theorem v4 {f:Bool} {l:List AV}:(AV.fsl f l).one=true:=rfl
end
end Go.Proofs.Abs
/- Loops, round by round; what hints ask. -/
namespace Go.Proofs.Abs
open Go
section
variable {P:Program} {G:ae} {nx0:Nat} {s s2:St} {Q:AExit→St→Prop} {body:Code}
structure ALp (P:Program) (G:ae) (nx0:Nat) (body:Code) (s:St) (Q:AExit→St→Prop):Prop where
 out:∃k,ARnd P G nx0 body Q k s
theorem ALp.loop (h:ALp P G nx0 body s Q):AWp P G nx0 (.loop body) s Q:=by
 obtain ⟨k,h⟩:=h
 exact .loop k h
theorem ARnd.says (hs:Says2 G nx0 s s2):∀ {k:Nat},ARnd P G nx0 body Q k s2→ARnd P G nx0 body Q k s
 |0,h=>h
 |_+1,h=>AWp.says hs h
theorem ALp.says (hs:Says2 G nx0 s s2) (h:ALp P G nx0 body s2 Q):ALp P G nx0 body s Q:=by
 obtain ⟨k,h⟩:=h
 exact ⟨k,h.says hs⟩
end
def tu (nx0:Nat) (lk:List (Nat × Nat)) (V:View) (N:Prop) (lk':List (Nat × Nat)) (F:View) (Q:AExit→St→Prop):AExit→St→Prop:=fun e s=>match e with
 | .normal=>dz nx0 lk V s∧N
 |e=>dz nx0 lk' F s∧Q e F.st
theorem ALp.round {P:Program} {O:ar} {n:Nat} {nx0:Nat} {Q:AExit→St→Prop} {body:Code} {A:bH} {V0 V1 V2 F:View} {lk lk':List (Nat × Nat)} (B:bG P O n) (hA:bR P O A) (hls:LsOk P O.glob nx0 A body)
  (hM:Says2 O.glob nx0 V1.st V2.st) (h:bI P O n A body V0.st (tu nx0 lk V1 (ALp P O.glob nx0 body V2.st Q) lk' F Q)):ALp P O.glob nx0 body V0.st Q:=by
 have h:=jj B hA body _ _ hls h
 by_cases hN:ALp P O.glob nx0 body V2.st Q
 ·obtain ⟨k,hk⟩:=hN
  refine ⟨k+1,h.saysEnd fun e s hq=> ?_⟩
  cases e with
  |normal=>exact ⟨_,(b7 B.glob hq.1).trans hM,hk⟩
  |exit i=>exact ⟨_,b7 B.glob hq.1,hq.2⟩
  |ret=>exact ⟨_,b7 B.glob hq.1,hq.2⟩
 ·refine ⟨1,h.saysEnd fun e s hq=> ?_⟩
  cases e with
  |normal=>exact absurd hq.2 hN
  |exit i=>exact ⟨_,b7 B.glob hq.1,hq.2⟩
  |ret=>exact ⟨_,b7 B.glob hq.1,hq.2⟩
theorem AWp.seen {P:Program} {G:ae} {nx0:Nat} {lk:List (Nat × Nat)} {V:View} {s:St} {Q:AExit→St→Prop} {body:Code} (hg:∀g l,G g=some l→ag l=true) (hs:dz nx0 lk V s) (h:ALp P G nx0 body V.st Q):AWp P G nx0 (.loop body) s Q:=(h.says (b7 hg hs)).loop
theorem dZ {n:Nat} {H:aa} {v:AV} (h:ac v=true):(∃d,ah n H d v=some v)∧ac v=true:=⟨(Frz.closed v h).out,h⟩
theorem ju {n:Nat} {H:aa} {v r:AV} (h:Frz n H v r) (hc:ac r=true):(∃d,ah n H d v=some r)∧ac r=true:=⟨h.out,hc⟩
theorem CR.up {G:ae} {w0:World} {I0:Nat→Prop} {α0:Nat→Option Nat} {H0:aa} {nx0:Nat} {D:List Deferred} {s:St} {a:Act} {w:World} {m:Nat} (h:CR G w0 I0 α0 H0 nx0 D s a w) (hm:s.nx≤m):CR G w0 I0 α0 H0 nx0 D ⟨s.slots,s.heap,m,s.n⟩ a w:=by
 obtain ⟨⟨I,α,ev,rel,hs,_,hf,hnew⟩,h7,h8,h9,h10,h11⟩:=h
 refine ⟨⟨I,α,ev,rel,hs,fun i hi=>absurd hi (Nat.not_lt_zero i),fun id hid=>hf id (Nat.le_trans hm hid),fun id hid=> ?_⟩,Nat.le_refl _,Nat.le_trans h8 hm,h9,h10,h11⟩
 rcases hnew id hid with h|h
 ·exact .inl h
 ·exact .inr ⟨h.1,Nat.lt_of_lt_of_le h.2 hm⟩
section
variable {P:Program} {G:ae}
end
end Go.Proofs.Abs
/- Objects as values. -/
namespace Go.Proofs.Abs
open Go
noncomputable section
end
end Go.Proofs.Abs
/- Calls with closed arguments, run by themselves, whose answers say enough; bodies that say less. -/
namespace Go.Proofs.Abs
open Go
noncomputable section
section
variable {P:Program} {O:ar} {n:Nat} {f:FuncId} {args:List AV} {v r:AV}
end
def WkB:Blk→Blk→Prop
 | .cells l,.cells l'=>WkL l l'
 |b,b'=>b=b'
theorem WkB.rel {w:World} {I:Nat→Prop} {α:Nat→Option Nat} {b:Nat} {x y:Blk} (h:WkB x y) (r:BRel w I α b x):BRel w I α b y:=by
 cases x with
 | cells l=>cases y with
  |cells l'=>
   obtain ⟨c,e,h1,h2,h3⟩:=r
   have h:WkL l l':=h
   exact ⟨c,e,h1,by rw[←h.len];exact h2,by rw[←h.len];exact h.out _ _ _ _ h3⟩
  |_=>cases h
 |_=>cases y<;>first|(cases h;done)|(cases h;exact r)
def pI (k:Nat) (h:aa):aa→Prop
 |[]=>True
 |(i,some b)::t=>(Nat.blt i k=true∧∃b0 b1,hget h i=some b0∧g9 k h b0 b1∧WkB b1 b)∧pI k h t
 |(_,none)::_=>False
def pJ (k:Nat) (v:AV) (H2:aa) (nx2:Nat) (u:AV) (h:aa) (m:Nat):Prop:=Nat.ble m nx2=true∧(∃r,Frz k h u r∧Wk r v)∧pI k h H2
end
end Go.Proofs.Abs
/- States with blocks that may be there or not. -/
namespace Go.Proofs.Abs
open Go
noncomputable section
end
end Go.Proofs.Abs
/- States that say less: fewer blocks. -/
namespace Go.Proofs.Abs
open Go
noncomputable section
theorem Says2.sub {G:ae} {nx0:Nat} {s s2:St} (hs:s2.slots=s.slots) (hh:∀i b,hget s2.heap i=some b→hget s.heap i=some b) (hnx:s2.nx=s.nx) (hn:s2.n=s.n):Says2 G nx0 s s2:=by
 intro w0 I0 α0 H0 D a w hα h
 obtain ⟨⟨I,α,ev,rel,hsl,h4,hf,hnew⟩,h7,h8,h9,h10,h11⟩:=h
 have hne:∀i,hget s2.heap i≠none→hget s.heap i≠none:=fun i h=>by
  cases hi:hget s2.heap i with
  |none=>exact absurd hi h
  |some b=>rw[hh i b hi];simp
 refine ⟨⟨I,α,⟨ev.os,ev.I_mono,ev.α_mono,ev.size,ev.frame,ev.shape,ev.Inew,fun b ⟨i,h1,h2⟩=>ev.own b ⟨i,hne i h1,h2⟩⟩, ?_, ?_,fun i hi=>absurd hi (Nat.not_lt_zero i),fun id hid=>hf id (by rw[←hnx];exact hid),fun id hid=> ?_⟩,Nat.le_refl _,by rw[hnx];exact h8,h9,by rw[hn];exact h10,by rw[hn];exact h11⟩
 ·exact ⟨fun i blk hi=>rel.live i blk (hh i blk hi),fun i i' b h1 h2=>rel.inj i i' b (hne i h1) (hne i' h2),rel.imm,rel.dom,rel.glob⟩
 ·rw[hs];exact hsl
 ·rw[hnx];exact hnew id hid
end
end Go.Proofs.Abs
/- What a body comes to, under other numbers: of the blocks that it is handed, and of those that are new. -/
namespace Go.Proofs.Abs
open Go
section
variable {P:Program} {G:ae} {f:FuncId} {args args2:List AV} {v v2:AV} {H H' H2 H2':aa} {nx nx' nx2 nx2':Nat} {lk:List (Nat × Nat)}
end
end Go.Proofs.Abs
/- Ends that are said in other words; closed answers of bodies; pointers of the caller's under other numbers. -/
namespace Go.Proofs.Abs
open Go
def EndC (r:AV) (nx2:Nat) (u:AV) (_:aa) (m:Nat):Prop:=Nat.ble m nx2=true∧u=r
theorem EndC.b {r v:AV} {nx2 k:Nat} (hc:ac r=true) (hw:Wk r v):∀u h m,EndC r nx2 u h m→pJ k v [] nx2 u h m:=fun _ _ _ h=>⟨h.1,⟨r,by rw[h.2];exact .closed r hc,hw⟩,trivial⟩
def EndF (r:AV) (k nx2:Nat) (u:AV) (h:aa) (m:Nat):Prop:=Nat.ble m nx2=true∧ah k h 40 u=some r
theorem EndF.b {r v:AV} {nx2 k:Nat} (hw:Wk r v):∀u h m,EndF r k nx2 u h m→pJ k v [] nx2 u h m:=fun _ _ _ h=>⟨h.1,⟨r,⟨40,h.2⟩,hw⟩,trivial⟩
end Go.Proofs.Abs
/- Calls whose answers are known by their arguments alone, others run as they stand. -/
namespace Go.Proofs.Abs
open Go
def cV (S:FuncId→List AV→Option AV) (c:af):af:=fun f args id h nx=>match S f args with
 |some v=>some (v,h,nx,⟨false,[],[]⟩)
 |none=>c f args id h nx
theorem pK {P:Program} {G:ae} {S:FuncId→List AV→Option AV} {c:af} (hS:∀f args v,S f args=some v→SemCall P G f args v) (hc:ax P G c∧ay c):ax P G (cV S c)∧ay (cV S c):=by
 refine ⟨?_, ?_⟩
 ·intro f args rid H nx v H' nx' ft h w I α vs hr ha hrid hlt hf
  unfold cV at h
  split at h
  ·rename_i v0 hv
   simp only[Option.some.injEq,Prod.mk.injEq] at h
   obtain ⟨rfl,rfl,rfl,rfl⟩:=h
   exact (hS f args _ hv).out w I α H rid nx vs hr ha hrid hlt hf
  ·exact hc.1 f args rid H nx v H' nx' ft h w I α vs hr ha hrid hlt hf
 ·intro f args id h nx v h' nx' ft hk
  cases hv:S f args with
  |none=>
   have he:cV S c f args id=c f args id:=by funext h nx;unfold cV;rw[hv]
   rw[he] at hk⊢
   exact hc.2 f args id h nx v h' nx' ft hk
  |some v0=>
   have he:∀h nx,cV S c f args id h nx=some (v0,h,nx,⟨false,[],[]⟩):=fun h nx=>by unfold cV;rw[hv]
   rw[he] at hk
   simp only[Option.some.injEq,Prod.mk.injEq] at hk
   obtain ⟨rfl,rfl,rfl,rfl⟩:=hk
   exact .one rfl ⟨rfl,[],rfl,by simp,fun h2 nx2 _=>by rw[he];rfl⟩
noncomputable def mn (P:Program) (O:ar) (n:Nat) (f:FuncId) (args:List AV) (H:aa) (nx:Nat) (v:AV) (H2:aa) (m:Nat):Bool:=match ch P O (bJ P O n) f args H nx with
 |some (v',h1,nx')=>dp v' v&&(hQ h1 H2&&Nat.beq nx' (nx+m))
 |none=>false
theorem tv {P:Program} {O:ar} {n:Nat} {f:FuncId} {args:List AV} {H:aa} {nx m:Nat} {v:AV} {H2:aa} (hm:P.follows .mixedOrders=true) (hsum:∀f args v,O.summ f args=some v→SemCall P O.glob f args v) (hcx:ax P O.glob O.cx∧ay O.cx) (hg:∀g l,O.glob g=some l→ag l=true)
  (h:mn P O n f args H nx v H2 m=true):bw P O.glob f args H nx v H2 (nx+m):=by
 unfold mn at h
 rw[ml] at h
 split at h
 ·rename_i v' H1 nx' hr
  simp only[Bool.and_eq_true] at h
  obtain ⟨k1,k2,k3⟩:=h
  have e:=eF _ _ k1
  have e':=beq_iff.1 k3
  subst e;subst e'
  obtain ⟨h1,h2⟩:=eJ (P:=P) (O:=O) hm hsum hg hcx n
  intro w I α vs r ha hf
  obtain ⟨e1,e2⟩:=eE (w:=w) (vs:=vs) hm h1 h2 hr r ha hf
  refine ⟨e1,e2.mono ?_⟩
  rintro e w' ⟨u,rfl,⟨⟨I',α',ev,rel,rep,hnew⟩,hle⟩⟩
  have hsub:∀i,hget H2 i≠none→hget H1 i≠none:=fun i hi=>by
   cases hb:hget H2 i with
   |none=>exact absurd hb hi
   |some b=>rw[mm k2 i b hb];simp
  refine ⟨u,rfl,⟨I',α',⟨ev.os,ev.I_mono,ev.α_mono,ev.size,ev.frame,ev.shape,ev.Inew,fun b ⟨i,q1,q2⟩=>ev.own b ⟨i,hsub i q1,q2⟩⟩, ?_,rep,hnew⟩,hle⟩
  exact
   {live:=fun i blk hi=>rel.live i blk (mm k2 i blk hi)
    inj:=fun i i' b q1 q2=>rel.inj i i' b (hsub i q1) (hsub i' q2)
    imm:=rel.imm
    dom:=rel.dom
    glob:=rel.glob}
 ·cases h
def dh:aa→aa→Bool
 |[],[]=>true
 |(i,some b)::t,(j,some c)::u=>Nat.beq i j&&(gq b c&&dh t u)
 |(i,none)::t,(j,none)::u=>Nat.beq i j&&dh t u
 |_,_=>false
theorem mo:∀ {a b:aa},dh a b=true→a=b
 |[],[],_=>rfl
 |(i,some b)::t,(j,some c)::u,h=>by
  simp only[dh,Bool.and_eq_true] at h
  rw[beq_iff.1 h.1,kJ h.2.1,mo h.2.2]
 |(i,none)::t,(j,none)::u,h=>by
  simp only[dh,Bool.and_eq_true] at h
  rw[beq_iff.1 h.1,mo h.2]
 |[],_::_,h=>by simp[dh] at h
 |_::_,[],h=>by simp[dh] at h
 |(i,some b)::t,(j,none)::u,h=>by simp[dh] at h
 |(i,none)::t,(j,some c)::u,h=>by simp[dh] at h
def fW (tbl:FuncId→List AV→Nat→Option (List Nat × aa × AV × aa × Nat)):af:=fun f args _ h nx=>match tbl f args nx with
 |some (L,H0,v,H2,m)=>match dh (aD h L) H0 with
  |true=>some (v,Mods.app (cM (bY H2 L) (bQ nx H2 H2)) h,nx+m,⟨true,L,nx::L⟩)
  |false=>none
 |none=>none
theorem tw {P:Program} {G:ae} {tbl:FuncId→List AV→Nat→Option (List Nat × aa × AV × aa × Nat)} (h:∀f args nx L H0 v H2 m,tbl f args nx=some (L,H0,v,H2,m)→bw P G f args H0 nx v H2 (nx+m)):ax P G (fW tbl)∧ay (fW tbl):=by
 refine ⟨?_, ?_⟩
 ·intro f args rid H nx v H' nx' ft hc w I α vs hr ha hrid hlt hf
  unfold fW at hc
  split at hc
  ·rename_i L H0 v0 H2 m ht
   split at hc
   ·rename_i hs
    have hs:=mo hs
    simp only[Option.some.injEq,Prod.mk.injEq] at hc
    obtain ⟨rfl,rfl,rfl,rfl⟩:=hc
    obtain ⟨e1,e2⟩:=h f args nx L H0 v0 H2 m ht w I α vs (hs▸eG hr L) ha hf
    rw[e1]
    refine Calls.mono e2 ?_
    rintro e w' ⟨u,rfl,hp⟩
    exact ⟨u,rfl,iV (L:=L) hr hf (hs▸hp)⟩
   ·cases hc
  ·cases hc
 ·intro f args id hp nx v h' nx' ft hc
  unfold fW at hc
  split at hc
  ·rename_i L H0 v0 H2 m ht
   split at hc
   ·rename_i hs
    simp only[Option.some.injEq,Prod.mk.injEq] at hc
    obtain ⟨rfl,rfl,rfl,rfl⟩:=hc
    refine ⟨fun hall=>(by cases hall),fun _ n l hw=> ?_⟩
    simp only[List.cons.injEq] at hw
    obtain ⟨rfl,rfl⟩:=hw
    refine ⟨rfl,by omega,_,rfl,fun p hp=> ?_,fun h2 hk=> ?_⟩
    ·rw[fA] at hp
     rcases List.mem_append.1 hp with hp|hp
     ·exact .inl (gQ hp).1
     ·exact .inr (eI hp).1
    ·have hC:aD h2 L=aD hp L:=eH _ fun i hi=>hk i (by simp[hi])
     unfold fW
     rw[ht]
     simp only[hC,hs]
   ·cases hc
  ·cases hc
end Go.Proofs.Abs
