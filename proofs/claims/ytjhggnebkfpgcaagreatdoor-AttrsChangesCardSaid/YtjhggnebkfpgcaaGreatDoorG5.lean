import Derived.Test.YtjhggnebkfpgcaaGreatDoorG4
import Derived.OpenShut
import Derived.LaidMore
namespace Go.Proofs.Abs
open Go
noncomputable section
def aw (b:Bool) (K:Prop):Prop:=match b with
 |true=>K
 |false=>False
def ac (b:Bool) (T F:Prop):Prop:=match b with
 |true=>T
 |false=>F
inductive ES where
 |eff (e:Eff)
 |obl (b:Bool) (e:Eff)
 |app (b:Bool) (i:Nat) (k:List AV→Bool × List AV) (v:Nat→AV)
 |pick (b:Bool) (x y:Option AV)
 |put (b:Bool) (i:Nat) (k:List AV→Bool × List AV) (v:AV)
def ES.ok (oe:Option Eff):ES→Prop
 | .eff e=>oe=some e
 | .obl b e=>b=true→oe=some e
 | .app b i k v=>b=true→∃kk,oe=some (.repl i kk)∧∀l,(k l).1=true→kk (.cells l)=some (.cells (k l).2,v)
 | .pick b x y=>(b=true→oe=cg x)∧(b=false→oe=cg y)
 | .put b i k v=>b=true→∃kk,oe=some (.upd i kk)∧∀l,(k l).1=true→kk (.cells l)=some (.cells (k l).2,v)
inductive eW where
 |plain
 |ans (a:oy)
 |el (v:AV)
 |ld (v:AV)
 |res (r:AV)
def dx:Int→Bool
 | .ofNat _=>true
 |_=>false
def kg:AV→Option (Bool × Nat)
 | .int _ n=>some (dx n,n.toNat)
 |_=>none
def oE:Option AV→Option (Bool × Option Nat)
 |none=>some (true,none)
 |some v=>match kg v with
  |some (b,n)=>some (b,some n)
  |none=>none
def iN (es:List AV):List UInt8:=(dV es).getD []
def sQ (l:List AV) (o:Nat) (vs:List AV):List AV:=l.take o++(vs++l.drop (o+ab vs))
def y6 (s:List UInt8) (i:Nat):UInt8:=s[i]?.getD 0
section
variable (P:Program)
def eqF (eq:TypeId→AV→AV→Option Bool):List Field→List AV→List AV→Option Bool
 |[],_,_=>some true
 | f::fs,xs,ys=>match f.name== "_" with
  |true=>eqF eq fs xs ys
  | false=>match bZ P f.type xs f.offset,bZ P f.type ys f.offset with
   |some a,some b=>match eq f.type a b,eqF eq fs xs ys with
    |some p,some q=>some (p&&q)
    |_,_=>none
   |_,_=>none
def sR (eq:TypeId→AV→AV→Option Bool) (e:TypeId) (sz:Nat) (xs ys:List AV):List Nat→Option Bool
 |[]=>some true
 | i::is=>match bZ P e xs (i*sz),bZ P e ys (i*sz) with
  |some a,some b=>match eq e a b,sR eq e sz xs ys is with
   |some p,some q=>some (p&&q)
   |_,_=>none
  |_,_=>none
def oF:Nat→TypeId→AV→AV→Option Bool
 |0,_,_,_=>none
 | d+1,t,x,y=>match x,y with
  | .agg xs,.agg ys=>match P.underlying t with
   |some (.struct fs)=>match P.stoodInHeld t with
    |true=>none
    |false=>eqF P (oF d) fs.toList xs ys
   |some (.array n e)=>match ca P e with
    |some sz=>sR P (oF d) e sz xs ys (List.range n)
    |none=>none
   |_=>none
  |x,y=>eT P (d+1) t x y
def mI (sz:Nat) (x:AV):Option (Bool × Nat × List AV):=match x with
 | .fsl _ es=>some (a7 sz es,ab es,flat es)
 | .nilsl=>some (true,0,[])
 | .nesl=>some (true,0,[])
 | .str s=>some (Nat.beq sz 1,ab s,ak s)
 |_=>none
def EG (i:TypeInfo) (s:AV) (b:Bool) (n:Nat) (cs:List AV):Option ES:=match s with
 | .nilsl=>match Nat.beq n 0 with
  |true=>some (.obl b (.val .nilsl))
  |false=>some (.obl (b&&Nat.ble (n*i.bytes) 140737488355328) (.new (.cells cs) fun id=> .rsl true id 0 n i.size))
 | .fsl true es=>match Nat.beq n 0 with
  |true=>some (.obl b (.val (.fsl true es)))
  |false=>some (.obl (b&&(Nat.ble ((ab es+n)*i.bytes) 140737488355328&&a7 i.size es)) (.new (.cells (flat es++cs)) fun id=> .rsl true id 0 (ab es+n) i.size))
 | .rsl true id 0 len sz=>some (.app (b&&(Nat.ble ((len+n)*i.bytes) 140737488355328&&(bq cs&&Nat.beq sz i.size))) id (fun l=>(Nat.beq (ab l) (len*i.size),l++cs)) fun id'=> .rsl true id' 0 (len+n) i.size)
 |_=>none
def EH:TypeDesc→Bool
 | .slice _| .string=>true
 |_=>false
def y7 (argTypes:Array TypeId) (s x:AV):Option ES:=
 match argTypes[0]?,argTypes[1]? with
 | some st,some xt=>match P.underlying st,P.underlying xt with
  | some (.slice e),some xd=>match EH xd,P.info? e,fL P e with
   | true,some i,some z=>match Nat.beq i.size 0||Nat.beq i.bytes 0|| !Nat.beq (ab z.cells) i.size with
    |true=>none
    |false=>match mI i.size x with
     |some (b,n,cs)=>EG i s b n cs
     |none=>none
   |_,_,_=>none
  |_,_=>none
 |_,_=>none
def oG (t:TypeId) (x:AV) (lo hi mx:Option AV):Option ES:=
 match oE lo,oE hi,mx with
 | some (b1,lo),some (b2,hi),none=>match x with
  | .str s=>match P.underlying t with
   |some .string=>some (.obl (b1&&(b2&&(Nat.ble (lo.getD 0) (hi.getD (ab s))&&Nat.ble (hi.getD (ab s)) (ab s)))) (.val (.str ((s.drop (lo.getD 0)).take (hi.getD (ab s)-lo.getD 0)))))
   |_=>none
  | .fsl full es=>match dW P t with
   |some e=>match ca P e with
    |some sz=>some (.obl (b1&&(b2&&(jy sz es&&(Nat.ble (lo.getD 0) (hi.getD (ab es))&&Nat.ble (hi.getD (ab es)) (ab es))))) (.val (.fsl (rT full none (hi.getD (ab es)) (ab es)) ((es.drop (lo.getD 0)).take (hi.getD (ab es)-lo.getD 0)))))
    |none=>none
   |none=>none
  | .rsl own id off len sz'=>match lo,hi with
   | none,some h=>match dW P t with
    |some e=>match ca P e with
     |some sz=>some (.obl (b2&&(Nat.beq sz sz'&&Nat.ble h len)) (.val (.rsl own id off h sz)))
     |none=>none
    |none=>none
   |_,_=>none
  |_=>none
 |_,_,_=>none
def y8 (src dst:TypeId) (x:AV):Option ES:=
 match P.underlying src,P.underlying dst,x with
 |some (.slice e),some .string,.fsl _ es=>match nO P e with
  |true=>some (.obl (dV es).isSome (.val (.str (iN es))))
  |false=>none
 |_,_,_=>none
def y9 (t:TypeId) (l c:AV):Option ES:=
 match dW P t,kg l,kg c with
 | some e,some (b1,l),some (b2,c)=>match P.info? e,fL P e with
  |some i,some z=>
   some (.obl (b1&&(b2&&(Nat.ble l c&&Nat.ble (i.bytes*c) 281474976710656&&Nat.ble c 9223372036854775807&&Nat.beq (ab z.cells) i.size&&Nat.blt 0 i.size))) (.new (.cells (flat (dN z c))) fun id=> .rsl true id 0 l i.size))
  |_,_=>none
 |_,_,_=>none
def za (argTypes:Array TypeId) (d x:AV):Option ES:=
 match argTypes[0]? with
 | some t=>match dW P t with
  | some e=>match ca P e with
   | some sz=>match d with
    | .rsl _ id off len _=>match mI sz x with
     |some (b,n,cs)=>some (.put (b&&bq cs) id (fun l=>(Nat.ble (off+ab (cs.take (min n len*sz))) (ab l),sQ l off (cs.take (min n len*sz)))) (.int .i64 (.ofNat (min n len))))
     |none=>none
    |_=>none
   |none=>none
  |none=>none
 |none=>none
def vh (t:TypeId) (v:AV):List AV:=match fK P t with
 |some false=>[v]
 |_=>v.cells
def aY (t:TypeId) (v:AV) (n:Nat):Bool:=match fK P t with
 |some false=>v.one&&Nat.beq n 1
 |_=>Nat.beq (ab v.cells) n&&bq v.cells
def zb (t:TypeId) (a v:AV):Option ES:=
 match a with
 | .ptr id off=>match ca P t with
  |some n=>some (.put (aY P t v n) id (fun l=>(Nat.ble (off+n) (ab l),sQ l off (vh P t v))) ii)
  |none=>none
 |_=>none
def zc (t:TypeId) (v:AV):Option ES:=match fK P t with
 |some false=>some (.obl v.one (.new (.cells [v]) fun id=> .ptr id 0))
 |_=>none
def sS (fs:List Field) (pl:List (Nat × Nat)):List AV→List (Nat × AV)→Option (Bool × List AV)
 |cells,[]=>some (true,cells)
 | cells,(i,v)::rest=>match dC fs i,dC pl i with
  | some f,some (off,s)=>match Nat.blt 0 s&&Nat.ble (off+s) (ab cells) with
   |true=>match sS fs pl (sQ cells off (vh P f.type v)) rest with
    |some (b,c)=>some (aY P f.type v s&&b,c)
    |none=>none
   |false=>none
  |_,_=>none
def zd (t:TypeId) (parts:List (Nat × AV)):Option ES:=
 match fL P t,P.underlying t with
 | some z,some (.struct fs)=>match pC P fs.toList with
  |some pl=>match sS P fs.toList pl z.cells parts with
   |some (b,c)=>some (.obl b (.val (.agg c)))
   |none=>none
  |none=>none
 |_,_=>none
def ze (t:TypeId) (x i:AV):Option ES:=
 match P.underlying t,x,kg i with
 |some (.slice e),.rsl _ id off len sz',some (b,i)=>match ca P e with
  |some sz=>some (.obl (b&&(Nat.blt i len&&Nat.beq sz sz')) (.val (.ptr id (off+i*sz))))
  |none=>none
 |_,_,_=>none
def p5 (glob:Nat→Option (List AV)) (ops:List Oper) (ev:Operand→Option AV) (o:Oper):Option ES:=
 match o.op with
 | .pick c a b=>match ev c with
  |some (.bool t)=>some (.pick t (ev a) (ev b))
  |_=>none
 | .binOp op t x y _=>match op,ev x,ev y with
  | .add,some (.str a),some (.str b)=>some (.obl (Nat.ble (ab a+ab b) 9223372036854775807) (.val (.str (a++b))))
  | .eql,some (.agg a),some (.agg b)=>match P.eqGuardType P.depth t,oF P 16 t (.agg a) (.agg b) with
   |false,some r=>some (.eff (.val (.bool r)))
   |_,_=>none
  | .neq,some (.agg a),some (.agg b)=>match P.eqGuardType P.depth t,oF P 16 t (.agg a) (.agg b) with
   |false,some r=>some (.eff (.val (.bool !r)))
   |_,_=>none
  | .quo,some (.int k a),some (.int k' b)=>match decide (k=k') with
   |true=>some (.obl (!ao b 0) (.val (.int k (aj k (a.tdiv b)))))
   |false=>none
  | .rem,some (.int k a),some (.int k' b)=>match decide (k=k') with
   |true=>some (.obl (!ao b 0) (.val (.int k (a.tmod b))))
   |false=>none
  |_,_,_=>match cy P glob ops ev o with
   |some e=>some (.eff e)
   |none=>none
 | .store t a x=>match ev a,ev x with
  |some a,some x=>zb P t a x
  |_,_=>none
 | .box t x=>match ev x with
  | some v=>match zc P t v with
   |some e=>some e
   |none=>match cy P glob ops ev o with
    |some e=>some (.eff e)
    |none=>none
  |none=>none
 | .build t parts=>match j3 ev parts.toList with
  | some ps=>match zd P t ps with
   |some e=>some e
   |none=>match cy P glob ops ev o with
    |some e=>some (.eff e)
    |none=>none
  |none=>none
 | .indexAddr t x i=>match ev x,ev i with
  | some x,some i=>match ze P t x i with
   |some e=>some e
   |none=>match cy P glob ops ev o with
    |some e=>some (.eff e)
    |none=>none
  |_,_=>none
 | .convert s d x=>match ev x with
  | some (.fsl f es)=>match y8 P s d (.fsl f es) with
   |some e=>some e
   |none=>match cy P glob ops ev o with
    |some e=>some (.eff e)
    |none=>none
  |_=>match cy P glob ops ev o with
   |some e=>some (.eff e)
   |none=>none
 | .index t x i=>match P.underlying t,ev x,ev i with
  |some .string,some (.str s),some w=>match kg w with
   |some (b,k)=>some (.obl (b&&Nat.blt k (ab s)) (.val (.int .u8 (.ofNat (y6 s k).toNat))))
   |none=>none
  |_,_,_=>match cy P glob ops ev o with
   |some e=>some (.eff e)
   |none=>none
 | .makeSlice t l c=>match ev l,ev c with
  |some l,some c=>y9 P t l c
  |_,_=>none
 | .slice t x lo hi mx=>match ev x,gS ev lo,gS ev hi,gS ev mx with
  | some x,some lo,some hi,some mx=>match oG P t x lo hi mx with
   |some e=>some e
   |none=>match cw P t x lo hi mx with
    |some e=>some (.eff e)
    |none=>none
  |_,_,_,_=>none
 | .call c=>match c.callee,iF ev c.args.toList with
  | .builtin .append,some [s,x]=>match y7 P c.argTypes s x with
   |some e=>some e
   |none=>match nS P c.argTypes s x with
    |some e=>some (.eff e)
    |none=>none
  | .builtin .copy,some [d,x]=>match za P c.argTypes d x with
   |some e=>some e
   |none=>match nT P c.argTypes d x with
    |some e=>some (.eff e)
    |none=>none
  |_,_=>match cy P glob ops ev o with
   |some e=>some (.eff e)
   |none=>none
 |_=>match cy P glob ops ev o with
  |some e=>some (.eff e)
  |none=>none
variable (O:bB) (n:Nat)
abbrev bV:=St→(AExit→St→Prop)→Prop
inductive p6 where
 |val (v:AV)
 |part (L:List Nat) (v:AV) (H2:ah) (m:Nat)
abbrev fy:=FuncId→List AV→ah→Nat→Option p6
def aR:fy:=fun _ _ _ _=>none
structure sT where
 see:List AV→ah→List Nat
 run:List AV→ah→Nat→(AV→ah→Nat→Prop)→Prop
def zf:FuncId→Option sT:=fun _=>none
def jI:Nat→Option (St→(St→Prop)→Prop):=fun _=>none
structure bz where
 hint:Nat→Nat→Option eW:=fun _ _=>none
 ls:Nat→Option bV:=fun _=>none
 cx:bw:=fun _ _ _ _ _=>none
 sem:fy:=aR
 inl:FuncId→Option sT:=zf
 cut:Nat→Option (St→(St→Prop)→Prop):=jI
def zg (L:List Nat) (H2:ah) (nx:Nat) (h:ah):ah:=Mods.app (kT (iI H2 L) (il nx H2 H2)) h
def sU (args:List AV) (h:ah) (nx:Nat) (K:AV→ah→Nat→Foot→Prop) (T:sT):Prop:=
 T.run args (cO h (T.see args h)) nx fun v H2 nx2=>aw (Nat.ble nx nx2) (K v (zg (T.see args h) H2 nx h) nx2 ⟨true,T.see args h,nx::T.see args h⟩)
def p7 (f:FuncId) (args:List AV) (h:ah) (nx:Nat) (K:AV→ah→Nat→Foot→Prop):p6→Prop
 | .val v=>SemCall P O.glob f args v∧K v h nx ⟨false,[],[]⟩
 | .part L v H2 m=>dw P O.glob f args (cO h L) nx v H2 (nx+m)∧K v (zg L H2 nx h) (nx+m) ⟨true,L,nx::L⟩
variable (A:bz)
def ip (id d:Nat) (e:Eff) (h:ah) (nx:Nat) (K:AV→ah→Nat→Foot→Prop):Prop:=
 match bv (bm P O n) id d e h nx with
 |some (v,h',nx',ft)=>K v h' nx' ft
 |none=>False
def g5 (id:Nat):Nat→Eff→ah→Nat→(AV→ah→Nat→Foot→Prop)→Prop
 | 0, e,h,nx,K=>match e with
   | .call f args=>match A.cx f args id h nx with
     |some (v,h',nx',ft)=>K v h' nx' ft
     | none=>match A.sem f args h nx with
      |some r=>p7 P O f args h nx K r
      | none=>match A.inl f with
       |some T=>sU args h nx K T
       |none=>match O.how f with
        | .pure=>match O.summ f args with
          |some v=>aw (ae args) (K v h nx ⟨false,[],[]⟩)
          |none=>ip P O n id 0 (.call f args) h nx K
        |_=>ip P O n id 0 (.call f args) h nx K
   |e=>ip P O n id 0 e h nx K
 | d + 1, e,h,nx,K=>match e with
   | .call f args=>match A.cx f args id h nx with
     |some (v,h',nx',ft)=>K v h' nx' ft
     | none=>match A.sem f args h nx with
      |some r=>p7 P O f args h nx K r
      | none=>match A.inl f with
       |some T=>sU args h nx K T
       |none=>match O.how f with
        | .pure=>match O.summ f args with
          |some v=>aw (ae args) (K v h nx ⟨false,[],[]⟩)
          |none=>ip P O n id (d+1) (.call f args) h nx K
        |_=>ip P O n id (d+1) (.call f args) h nx K
   | .read i k=>match hget h i with
     | some b=>match k b with
       |some e=>g5 id d e h nx fun v h' nx' ft=>K v h' nx' ⟨ft.all,i::ft.r,ft.w⟩
       |none=>False
     |none=>False
   |e=>ip P O n id (d+1) e h nx K
def sV (id:Nat) (h:ah) (nx:Nat) (K:AV→ah→Nat→Foot→Prop):Option ES→Prop
 |none=>False
 |some (.eff e)=>g5 P O n A id 2 e h nx K
 |some (.obl b e)=>aw b (g5 P O n A id 2 e h nx K)
 |some (.app b i k v)=>aw b (match hget h i with
  |some (.cells l)=>aw (k l).1 (K (v id) (bN (bI h i) id (.cells (k l).2)) nx ⟨false,[],[i,id]⟩)
  |_=>False)
 |some (.put b i k v)=>aw b (match hget h i with
  |some (.cells l)=>aw (k l).1 (K v (bN h i (.cells (k l).2)) nx ⟨false,[],[i]⟩)
  |_=>False)
 | some (.pick b x y)=>match b with
  |true=>match x with
   |some v=>K v h nx ⟨false,[],[]⟩
   |none=>False
  |false=>match y with
   |some v=>K v h nx ⟨false,[],[]⟩
   |none=>False
def zh (ev:Operand→Option AV) (o:Oper) (r:AV):Option Prop:=
 match o.op with
 | .convert s d x=>match ev x with
  |some v=>some (dM P s d v=some (.val r))
  |none=>none
 | .indexAddr t x i=>match ev x,ev i with
  |some v,some w=>some (aF P t v w=some r)
  |_,_=>none
 | .index t x i=>match ev x,ev i with
  |some v,some w=>some (bf P t v w=some r)
  |_,_=>none
 | .slice t x lo hi mx=>match ev x,gS ev lo,gS ev hi,gS ev mx with
  |some x,some lo,some hi,some mx=>some (cw P t x lo hi mx=some (.val r))
  |_,_,_,_=>none
 | .binOp op t x y _=>match ev x,ev y with
  |some v,some w=>some (aE P op t x y v w=some r)
  |_,_=>none
 | .call c=>match c.callee,iF ev c.args.toList with
  | .builtin b,some args=>some (nV P b c.argTypes args=some (.val r))
  |_,_=>none
 |_=>none
def jJ (ops:List Oper) (id:Nat) (o:Oper) (s:St) (K:AV→ah→Nat→Foot→Prop):eW→Prop
 | .plain=>match cy P O.glob ops (bE s.slots) o with
  |some e=>g5 P O n A id 2 e s.heap s.nx K
  |none=>False
 | .ans a=>match pV P O n (fun _ _ _ _ _=>none) ops id o s a with
  |some ((v,h,nx,ft),F)=>fx P O F∧K v h nx ft
  |none=>False
 | .el v=>match o.op with
  | .indexAddr t x i=>match bE s.slots x,bE s.slots i with
   | some (.fsl _ es),some w=>match kg w,dW P t with
    |some (b,k),some e=>match ca P e with
     |some sz=>dC es k=some v∧aw (b&&Nat.beq (ab v.cells) sz) (K (.fptr v.cells 0) s.heap s.nx ⟨false,[],[]⟩)
     |none=>False
    |_,_=>False
   |_,_=>False
  |_=>False
 | .ld v=>match o.op with
  | .load t a=>match bE s.slots a with
   |some (.ptr i off)=>match hget s.heap i with
    |some (.cells l)=>bZ P t l off=some v∧K v s.heap s.nx ⟨false,[i],[]⟩
    |_=>False
   |some (.fptr cs off)=>bZ P t cs off=some v∧K v s.heap s.nx ⟨false,[],[]⟩
   |some (.gptr g off)=>fW P t (.gptr g off) O.glob=some (.val v)∧K v s.heap s.nx ⟨false,[],[]⟩
   |_=>False
  |_=>False
 | .res r=>match zh P (bE s.slots) o r with
  |some p=>p∧K r s.heap s.nx ⟨false,[],[]⟩
  |none=>False
abbrev Kn:=List (Nat × Bool)
def kZ:Kn→Nat→Option Bool
 |[],_=>none
 |(d,b)::t,k=>match Nat.beq d k with
  |true=>some b
  |false=>kZ t k
def sW:Kn→Nat→Kn
 |[],_=>[]
 |(d,b)::t,k=>match Nat.beq d k with
  |true=>sW t k
  |false=>(d,b)::sW t k
def lj (kn:Kn):Option Tmp→Kn
 |some d=>sW kn d
 |none=>kn
def zi (kn:Kn) (slots:Tr) (x:Operand):Option AV:=match x with
 | .tmp t=>match kZ kn t with
  |some b=>some (.bool b)
  |none=>bE slots (.tmp t)
 |x=>bE slots x
def jK (rid:Nat) (ops:List Oper) (id i:Nat) (o:Oper) (s:St) (kn:Kn) (K:Kn→St→Foot→Prop):Prop:=
 match A.hint rid i with
 |some a=>jJ P O n A ops id o s (fun v h nx ft=>K (lj kn o.dst) ⟨cD s.n s.slots o.dst v,h,nx,s.n⟩ ft) a
 |none=>sV P O n A id s.heap s.nx (fun v h nx ft=>K (lj kn o.dst) ⟨cD s.n s.slots o.dst v,h,nx,s.n⟩ ft) (p5 P O.glob ops (zi kn s.slots) o)
def oH (o:Oper) (s:St) (kn:Kn) (K:Kn→St→Foot→Prop):Prop:=K (lj kn o.dst) ⟨cD s.n s.slots o.dst ii,s.heap,s.nx,s.n⟩ ⟨false,[],[]⟩
def sX (rid:Nat) (ops:List Oper) (id i:Nat) (o:Oper) (s:St) (kn:Kn) (K:Kn→St→Foot→Prop):Prop:=
 match o.guard with
 |none=>jK P O n A rid ops id i o s kn K
 | some (j,want)=>match dC ops j with
  | some g=>match g.dst with
   | some d=>match kZ kn d with
    | some b=>match want with
     |true=>match b with
      |true=>jK P O n A rid ops id i o s kn K
      |false=>oH o s kn K
     |false=>match b with
      |true=>oH o s kn K
      |false=>jK P O n A rid ops id i o s kn K
    | none=>match s.slots.get d with
     | some (.bool b)=>match want with
      |true=>match b with
       |true=>jK P O n A rid ops id i o s ((d,true)::kn) K
       |false=>oH o s ((d,false)::kn) K
      |false=>match b with
       |true=>oH o s ((d,true)::kn) K
       |false=>jK P O n A rid ops id i o s ((d,false)::kn) K
     |some (.tuple [])=>oH o s kn K
     |_=>False
   |none=>False
  |none=>False
def sY (rid:Nat) (all:List Oper) (base:Nat):List Oper→Nat→St→Kn→List (Nat × Foot)→(St→List (Nat × Foot)→Prop)→Prop
 |[],_,s,_,acc,K=>K s acc
 |o::rest,i,s,kn,acc,K=>sX P O n A rid all (base+i) i o s kn fun kn' s' ft=>sY rid all base rest (i+1) s' kn' (match ft.none with|true=>acc|false=>(i,ft)::acc) K
def vi (B:St→(AExit→St→Prop)→Prop):Nat→St→(AExit→St→Prop)→Prop
 |0,_,_=>False
 |k+1,s,Q=>B s (vg (fun s'=>vi B k s' Q) Q)
end
def mJ:Code→Nat
 | .region id _ _=>id+1
 | .seq a b=>match mJ a with
  |0=>mJ b
  |k+1=>k+1
 | .cond _ a b=>match mJ a with
  |0=>mJ b
  |k+1=>k+1
 | .block _ c=>mJ c
 | .loop c=>mJ c
 |_=>0
def bW:Code→Nat→List Code
 | .seq a b,r=>bW a r++bW b r
 | .cond _ a b,r=>bW a r++bW b r
 | .block _ c,r=>bW c r
 | .loop c,r=>(match Nat.beq (mJ c) r with
  |true=>[c]
  |false=>[])++bW c r
 |_,_=>[]
section
variable (P:Program) (O:bB) (n:Nat) (A:bz)
def sZ (rid:Nat) (ops:Array Oper) (draw:Bool) (s:St) (Q:AExit→St→Prop):Prop:=
 sY P O n A rid ops.toList s.nx ops.toList 0 ⟨s.slots,s.heap,s.nx+ab ops.toList,s.n⟩ [] [] fun s' feet=>match draw with
  |false=>Q .normal s'
  |true=>aw (kR ops.toList&&j5 (ff ops.toList []) feet) (Q .normal s')
def zj (c:Operand) (b:Bool) (s:St):St:=match c with
 | .tmp d=>⟨cD s.n s.slots (some d) (.bool b),s.heap,s.nx,s.n⟩
 |_=>s
def aP:Code→St→(AExit→St→Prop)→Prop
 | .skip,s,Q=>Q .normal s
 | .label _,s,Q=>Q .normal s
 | .exit i,s,Q=>Q (.exit i) s
 | .ret,s,Q=>Q .ret s
 | .region rid ops draw,s,Q=>match A.cut rid with
  |some C=>C s fun s=>sZ P O n A rid ops draw s Q
  |none=>sZ P O n A rid ops draw s Q
 | .seq a b,s,Q=>aP a s (vg (fun s'=>aP b s' Q) Q)
 | .cond c a b,s,Q=>match bE s.slots c with
  |some (.bool t)=>match t with
   |true=>aP a (zj c true s) Q
   |false=>aP b (zj c false s) Q
  |_=>False
 | .block id body,s,Q=>aP body s (pZ id Q)
 | .loop body,s,Q=>match A.ls (mJ body) with
  |some L=>L s Q
  |none=>vi (aP body) O.lf s Q
 |_,_,_=>False
def aH (f:FuncId) (args:List AV) (H:ah) (nx:Nat) (Q:AV→ah→Nat→Prop):Prop:=
 match P.funcs[f]? with
 | some fn=>match fn.body with
   | some c=>match fn.name== "runtime.NumGoroutine" with
     |true=>False
     | false=>match Nat.ble (ab args) fn.ntmps&&Nat.ble fn.ntmps 4095 with
      |false=>False
      |true=>aP P O n A c ⟨ey args 0 .tip,H,nx,fn.ntmps⟩ fun e s=>match e with
       | .exit _=>False
       | _=>match er P O.glob s fn.results.toList with
         |some l=>Q (eu l) s.heap s.nx
         |none=>False
   |none=>False
 |none=>False
end
end
end Go.Proofs.Abs
/- The abstract machine in continuation form says but what is so. -/
namespace Go.Proofs.Abs
open Go
theorem oblB_iff {b:Bool} {K:Prop}:aw b K↔b=true∧K:=by cases b<;>simp[aw]
theorem ai {b:Bool} {T F:Prop} (ht:b=true→T) (hf:b=false→F):ac b T F:=by cases b<;>simp_all [ac]
section
variable {P:Program}
theorem zk {eq eq':TypeId→AV→AV→Option Bool} (h:∀t x y r,eq t x y=some r→eq' t x y=some r):∀ (fs:List Field) (xs ys:List AV) (r:Bool),eqF P eq fs xs ys=some r→kO P eq' fs xs ys=some r
 |[],xs,ys,r,hr=>by simpa [eqF,kO] using hr
 | f ::fs,xs,ys,r,hr=>by
  simp only[eqF] at hr;simp only[kO];split at hr
  ·rename_i hn;simp only[hn];exact zk h fs xs ys r hr
  ·rename_i hn;simp only[hn];split at hr
   ·rename_i a b ha hb;simp only[ha,hb];split at hr
    ·rename_i p q hp hq;simp only[sInjQ] at hr;subst hr;rw[h _ _ _ _ hp];cases p with
     |true=>simpa using zk h fs xs ys q hq
     |false=>rfl
    ·cases hr
   ·cases hr
theorem EI {eq eq':TypeId→AV→AV→Option Bool} (h:∀t x y r,eq t x y=some r→eq' t x y=some r) {e:TypeId} {sz:Nat} {xs ys:List AV}:∀ (is:List Nat) (r:Bool),sR P eq e sz xs ys is=some r→mn P eq' e sz xs ys is=some r
 |[],r,hr=>by simpa [sR,mn] using hr
 | i::is,r,hr=>by
  simp only[sR] at hr;simp only[mn];split at hr
  ·rename_i a b ha hb;simp only[ha,hb];split at hr
   ·rename_i p q hp hq;simp only[sInjQ] at hr;subst hr;rw[h _ _ _ _ hp];cases p with
    |true=>simpa using EI h is q hq
    |false=>rfl
   ·cases hr
  ·cases hr
theorem vj:∀ (d:Nat) (t:TypeId) (x y:AV) (r:Bool),oF P d t x y=some r→eT P d t x y=some r
 |0,_,_,_,_,h=>by simp[oF] at h
 | d +1,t,x,y,r,h=>by
  unfold oF at h;split at h
  ·rename_i xs ys;split at h
   ·rename_i fs hu;split at h
    ·cases h
    ·rename_i hs;unfold eT;simp only[hu,hs];exact zk (vj d) _ _ _ _ h
   ·rename_i n e hu;split at h
    ·rename_i sz hs;unfold eT;simp only[hu,hs];exact EI (vj d) _ _ h
    ·cases h
   ·cases h
  ·exact h
theorem p9 {w:AV} {b:Bool} {k:Nat} (h:kg w=some (b,k)) (hb:b=true):gR w=some k:=by
 unfold kg at h;split at h
 ·rename_i kd n;simp only[sInjQ,pInjQ] at h;obtain ⟨rfl,rfl⟩:=h;cases n with
  |ofNat m=>rfl
  |negSucc m=>cases hb
 ·cases h
theorem qb {w:Option AV} {b:Bool} {k:Option Nat} (h:oE w=some (b,k)) (hb:b=true):jx w=some k:=by
 unfold oE at h;split at h
 ·simp only[sInjQ,pInjQ] at h;obtain ⟨_,rfl⟩:=h;rfl
 ·rename_i v;split at h
  ·rename_i b' n hn;simp only[sInjQ,pInjQ] at h;obtain ⟨rfl,rfl⟩:=h;simp[jx,p9 hn hb]
  ·cases h
theorem vk:∀ (l:List AV) (o n:Nat),o+n≤l.length→chunk l o n=some ((l.drop o).take n)
 |l,o,0,_=>by cases l<;>simp[chunk]
 |[],o,n+1,h=>by simp at h
 |a::t,0,n+1,h=>by
  simp only[lConQ] at h;simp[chunk,vk t 0 n (by omega)]
 |a::t,o+1,n+1,h=>by
  simp only[lConQ] at h;simp[chunk,vk t o (n+1) (by omega)]
theorem LS {i:TypeInfo} {xd:TypeDesc} {z x:AV} {b:Bool} {m:Nat} {cs:List AV} {k:Nat→List AV→Option Eff} (hx:EH xd=true) (h:mI i.size x=some (b,m,cs)) (hb:b=true):pD xd i.size i.bytes z x k=k m cs:=by
 have e:pD xd i.size i.bytes z x k=iE i.size x k:=by
  cases xd<;>first|(cases hx;done)|rfl
 rw[e];unfold mI at h;split at h
 ·simp only[sInjQ,pInjQ] at h;obtain ⟨rfl,rfl,rfl⟩:=h;simp[iE,hb]
 ·simp only[sInjQ,pInjQ] at h;obtain ⟨rfl,rfl,rfl⟩:=h;rfl
 ·simp only[sInjQ,pInjQ] at h;obtain ⟨rfl,rfl,rfl⟩:=h;rfl
 ·simp only[sInjQ,pInjQ] at h;obtain ⟨rfl,rfl,rfl⟩:=h;simp only[iE,hb,if_true]
 ·cases h
theorem LT {sz:Nat} {x:AV} {b:Bool} {cs:List AV} (h:mI sz x=some (b,0,cs)):cs=[]:=by
 unfold mI at h;split at h
 ·rename_i es;simp only[sInjQ,pInjQ] at h;obtain ⟨_,h1,rfl⟩:=h;cases es with
  |nil=>rfl
  |cons a r=>simp[ab] at h1
 ·simp only[sInjQ,pInjQ] at h;exact h.2.2.symm
 ·simp only[sInjQ,pInjQ] at h;exact h.2.2.symm
 ·rename_i s;simp only[sInjQ,pInjQ] at h;obtain ⟨_,h1,rfl⟩:=h;cases s with
  |nil=>rfl
  |cons a r=>simp[ab] at h1
 ·cases h
theorem LU (l:List AV) (k:Nat):splice l k []=some l:=by cases l<;>cases k<;>rfl
theorem LV {argTypes:Array TypeId} {s x:AV} {es:ES} (h:y7 P argTypes s x=some es):es.ok (nS P argTypes s x):=by
 unfold y7 at h;split at h
 ·rename_i st xt h1 h2;split at h
  ·rename_i e xd h3 h4;split at h
   ·rename_i i z hx hi hz;split at h
    ·cases h
    ·rename_i hc;split at h
     ·rename_i b m cs hsrc;have hA:∀k,b=true→pD xd i.size i.bytes z x k=k m cs:=fun k hb=>LS hx hsrc hb;unfold nS;simp only[h1,h2,h3,h4,hi,hz];rw[Bool.or_eq_false_iff,Bool.or_eq_false_iff] at hc;obtain ⟨⟨c1,c2⟩,c3⟩:=hc;simp only[c1,c2,c3,Bool.or_self,Bool.false_eq_true,if_false];unfold EG at h;split at h
      ·split at h
       ·rename_i hm;simp only[sInjQ] at h;subst h;intro hb;rw[hA _ hb];simp[hm]
       ·rename_i hm;simp only[sInjQ] at h;subst h;intro hb;rw[Bool.and_eq_true] at hb;rw[hA _ hb.1];simp only[hm,hb.2,Bool.false_eq_true,if_false,if_true]
      ·split at h
       ·rename_i hm;simp only[sInjQ] at h;subst h;intro hb;rw[hA _ hb];simp[hm]
       ·rename_i hm;simp only[sInjQ] at h;subst h;intro hb;rw[Bool.and_eq_true] at hb;rw[hA _ hb.1];simp only[hm,hb.2,Bool.false_eq_true,if_false,if_true]
      ·rename_i id len sz;simp only[sInjQ] at h;subst h;intro hb;rw[Bool.and_eq_true,Bool.and_eq_true] at hb;obtain ⟨hb,hb1,hb2⟩:=hb;rw[hA _ hb];simp only[hb1,hb2,Bool.true_and,if_true];refine ⟨_,rfl,fun l hl=> ?_⟩;have hl:=beq_iff.1 hl;have hs:i.size≠0:=beq_false_iff.1 c1;cases hm:Nat.beq m 0 with
       | false=>
        have hm:m≠0:=beq_false_iff.1 hm;have:¬ ((len+m)*i.size≤ab l):=by
         rw[hl];intro hle;have:=Nat.le_of_mul_le_mul_right hle (Nat.pos_of_ne_zero hs);omega
        simp only;rw[if_neg (by simpa using this),if_pos (by simp[hl])];rw[List.take_of_length_le (by rw[←aM];omega)]
       |true=>
        obtain rfl:=beq_iff.1 hm;obtain rfl:=LT hsrc;simp only[Nat.add_zero];rw[if_pos (by simp[hl]),LU,List.append_nil]
      ·cases h
     ·cases h
   ·cases h
  ·cases h
 ·cases h
theorem zl {t:TypeId} {x:AV} {lo hi mx:Option AV} {es:ES} (h:oG P t x lo hi mx=some es):es.ok (cw P t x lo hi mx):=by
 unfold oG at h;split at h
 ·rename_i b1 l b2 hh hl hhi;split at h
  ·rename_i s;split at h
   ·rename_i hu;simp only[sInjQ] at h;subst h;intro hb;simp only[Bool.and_eq_true] at hb;obtain ⟨k1,k2,k3,k4⟩:=hb;have q1:=qb hl k1;have q2:=qb hhi k2;have q3:jx none=some none:=rfl;simp only[cw,q1,q2,q3,xF,hu,k3,k4,Option.isNone_none,Bool.and_self]
   ·cases h
  ·rename_i full es';split at h
   ·rename_i e he;split at h
    ·rename_i sz hsz;simp only[sInjQ] at h;subst h;intro hb;simp only[Bool.and_eq_true] at hb;obtain ⟨k1,k2,k3,k4,k5⟩:=hb;have q1:=qb hl k1;have q2:=qb hhi k2;have q3:jx none=some none:=rfl;simp only[cw,q1,q2,q3,xG,he,hsz,k3,k4,k5,Bool.and_self,xE];rw[vk _ _ _ (by rw[←aM];rw[Nat.ble_eq] at k4 k5;omega)]
    ·cases h
   ·cases h
  ·rename_i own id off len sz';split at h
   ·rename_i h0;split at h
    ·rename_i e he;split at h
     ·rename_i sz hsz;simp only[sInjQ] at h;subst h;intro hb;simp only[Bool.and_eq_true] at hb;obtain ⟨k2,k3,k4⟩:=hb;have e1:b1=true:=by
       unfold oE at hl;split at hl
       ·simp only[sInjQ,pInjQ] at hl;exact hl.1.symm
       ·split at hl
        ·simp at hl
        ·cases hl
      have q1:=qb hl e1;have q2:=qb hhi k2;have q3:jx none=some none:=rfl;simp only[cw,q1,q2,q3,xH,he,hsz,k3,Option.getD_none,Option.getD_some,k4,Option.isNone_none,Bool.and_true];have k5:Nat.ble 0 h0=true:=by simp
      simp[rU,beq_iff.1 k3,k5]
     ·cases h
    ·cases h
   ·cases h
  ·cases h
 ·cases h
theorem LW {src dst:TypeId} {x:AV} {es:ES} (h:y8 P src dst x=some es):es.ok (dM P src dst x):=by
 unfold y8 at h;split at h
 ·rename_i e f l hs hd;split at h
  ·rename_i hb;simp only[sInjQ] at h;subst h;intro hi;unfold dM;simp only[hs,hd,hb,ux];cases hl:dV l with
   |none=>rw[hl] at hi;cases hi
   |some s=>simp[mo,iN,hl]
  ·cases h
 ·cases h
theorem LX {t:TypeId} {l c:AV} {es:ES} (h:y9 P t l c=some es):es.ok (rS P t l c):=by
 unfold y9 at h;split at h
 ·rename_i e b1 l' b2 c' he hl hc;split at h
  ·rename_i i z hi hz;simp only[sInjQ] at h;subst h;intro hb;rw[Bool.and_eq_true,Bool.and_eq_true] at hb;obtain ⟨k1,k2,k3⟩:=hb;simp only[rS,he,p9 hl k1,p9 hc k2,hi,hz,k3]
  ·cases h
 ·cases h
theorem zm {l:List AV} {o:Nat} {vs:List AV} (h:o+vs.length≤l.length):splice l o vs=some (sQ l o vs):=by
  unfold sQ;rw[aM];exact go l o vs h
 where
  go:∀ (l:List AV) (o:Nat) (vs:List AV),o+vs.length≤l.length→splice l o vs=some (l.take o++(vs++l.drop (o+vs.length)))
   |l,o,[],_=>by cases l<;>simp[splice]
   |[],o,_::_,h=>by simp at h
   | a::t,0,v::vs,h=>by
     simp only[lConQ] at h;have:=go t 0 vs (by omega);simp only[splice,this];simp
   | a::t,o+1,v::vs,h=>by
     simp only[lConQ] at h;have:=go t o (v::vs) (by simp only[lConQ];omega);simp only[splice,this];simp[show o+1+(vs.length+1)=o+(vs.length+1)+1 by omega]
theorem LY {sz:Nat} {x:AV} {b:Bool} {m:Nat} {cs:List AV} {k:Nat→List AV→Option Eff} (h:mI sz x=some (b,m,cs)) (hb:b=true):iE sz x k=k m cs:=by
 unfold mI at h;split at h
 ·simp only[sInjQ,pInjQ] at h;obtain ⟨rfl,rfl,rfl⟩:=h;simp[iE,hb]
 ·simp only[sInjQ,pInjQ] at h;obtain ⟨rfl,rfl,rfl⟩:=h;rfl
 ·simp only[sInjQ,pInjQ] at h;obtain ⟨rfl,rfl,rfl⟩:=h;rfl
 ·simp only[sInjQ,pInjQ] at h;obtain ⟨rfl,rfl,rfl⟩:=h;simp only[iE,hb,if_true]
 ·cases h
theorem LZ {argTypes:Array TypeId} {d x:AV} {es:ES} (h:za P argTypes d x=some es):es.ok (nT P argTypes d x):=by
 unfold za at h;split at h
 ·rename_i t ht;split at h
  ·rename_i e he;split at h
   ·rename_i sz hsz;split at h
    ·rename_i own id off len s';split at h
     ·rename_i b m cs hsrc;simp only[sInjQ] at h;subst h;intro hb;rw[Bool.and_eq_true] at hb;unfold nT;simp only[ht,he,hsz,LY hsrc hb.1,hb.2,if_true];refine ⟨_,rfl,fun l hl=> ?_⟩;have hl:off+(cs.take (min m len*sz)).length≤l.length:=by simpa [aM] using hl
      simp only[zm hl]
     ·cases h
    ·cases h
   ·cases h
  ·cases h
 ·cases h
theorem EJ {t:TypeId} {v:AV} {n:Nat} (h:aY P t v n=true):(Nat.beq (ab v.cells) n&&bq v.cells)=true∧vh P t v=v.cells:=by
 unfold aY at h;unfold vh;split at h
 ·rename_i ht;rw[Bool.and_eq_true] at h;have e:=uU h.1;have hn:=beq_iff.1 h.2;subst hn;exact ⟨by rw[e];simp[ab,bq,h.1],e.symm⟩
 ·rename_i hne;exact ⟨h,rfl⟩
theorem L5 {t:TypeId} {a v:AV} {es:ES} (h:zb P t a v=some es):es.ok (nN P t a v):=by
 unfold zb at h;split at h
 ·rename_i id off;split at h
  ·rename_i n hn;simp only[sInjQ] at h;subst h;intro hb;obtain ⟨hb,hc⟩:=EJ hb;have hb1:=(Bool.and_eq_true _ _▸hb:_∧_).1;refine ⟨_,by simp only[nN,hn,hb,if_true];rfl,fun l hl=> ?_⟩;have hl:off+v.cells.length≤l.length:=by
    have h1:=beq_iff.1 hb1;rw[aM] at h1;simpa [aM,h1] using hl
   simp only[hc,zm hl,Option.map_some]
  ·cases h
 ·cases h
theorem L6 {t:TypeId} {v:AV} {es:ES} (h:zc P t v=some es):es.ok (pG v):=by
 unfold zc at h;split at h
 ·simp only[sInjQ] at h;subst h;intro hb;simp only[pG,uU hb]
 ·cases h
theorem EK {fs:List Field} {pl:List (Nat × Nat)}:∀ {parts:List (Nat × AV)} {cells c:List AV} {b:Bool},sS P fs pl cells parts=some (b,c)→b=true→jz (dC pl) cells parts=some c
 |[],_,_,_,h,_=>by
  simp only[sS,sInjQ,pInjQ] at h;simp only[jz,h.2]
 | (i,v)::rest,cells,c,b,h,hb=>by
  unfold sS at h;split at h
  ·rename_i f off s hf hp;split at h
   ·rename_i hs;split at h
    ·rename_i b' c' hr;simp only[sInjQ,pInjQ] at h;obtain ⟨rfl,rfl⟩:=h;rw[Bool.and_eq_true] at hb hs;obtain ⟨h1,h2⟩:=EJ hb.1;rw[Bool.and_eq_true] at h1;have hl:=beq_iff.1 h1.1;rw[aM] at hl;have hle:=Nat.le_of_ble_eq_true hs.2;rw[aM] at hle;have:=EK hr hb.2;rw[h2] at this;simp only[jz,hp,h1.1,hs.1,Bool.and_self,if_true,zm (show off+v.cells.length≤cells.length by omega),this]
    ·cases h
   ·cases h
  ·cases h
theorem L7 {t:TypeId} {parts:List (Nat × AV)} {es:ES} (h:zd P t parts=some es):es.ok (cg (rW P t parts)):=by
 unfold zd at h;split at h
 ·rename_i z fs hz hu;split at h
  ·rename_i pl hpl;split at h
   ·rename_i b c hc;simp only[sInjQ] at h;subst h;intro hb;simp only[rW,hz,hu,hpl,EK hc hb,nQ,cg]
   ·cases h
  ·cases h
 ·cases h
theorem L8 {t:TypeId} {x i:AV} {es:ES} (h:ze P t x i=some es):es.ok (cg (aF P t x i)):=by
 unfold ze at h;split at h
 ·rename_i e own id off len sz' b k hu hn;split at h
  ·rename_i sz hsz;simp only[sInjQ] at h;subst h;intro hb;rw[Bool.and_eq_true] at hb;have q1:=p9 hn hb.1;simp only[aF,q1,hu,hsz,hb.2,Option.bind_eq_bind,Option.bind_some,if_true,cg]
  ·cases h
 ·cases h
theorem dF {G:aZ} {ops:List Oper} {ev:Operand→Option AV} {o:Oper} (h:oz o.op=true):cy P G ops ev o=bO P G ev o:=by
 unfold cy;split
 ·rename_i ho _;rw[ho] at h;cases h
 ·rfl
theorem L9 {G:aZ} {ops:List Oper} {ev:Operand→Option AV} {o:Oper} {es:ES} (h:p5 P G ops ev o=some es):es.ok (cy P G ops ev o):=by
 have plain:(match cy P G ops ev o with
   |some e=>some (ES.eff e)
   |none=>none)=some es→es.ok (cy P G ops ev o):=fun h=>by
  split at h
  ·rename_i e he;simp only[sInjQ] at h;subst h;exact he
  ·cases h
 unfold p5 at h;split at h
 ·rename_i c a b ho;rw[dF (by rw[ho];rfl)];split at h
  ·rename_i t ht;simp only[sInjQ] at h;subst h;refine ⟨?_, ?_⟩<;>rintro rfl<;>simp[bO,ho,uB,ht]
  ·cases h
 ·rename_i op t x y t' ho;split at h
  ·rename_i a b hx hy;simp only[sInjQ] at h;subst h;intro hb;rw[dF (by rw[ho];rfl)];simp only[bO,ho,e2,hx,hy,cg,aE,hb,if_true]
  ·rename_i a b hx hy;split at h
   ·rename_i r hg hr;simp only[sInjQ] at h;subst h;show _=some _;rw[dF (by rw[ho];rfl)];simp only[bO,ho,e2,hx,hy,cg,aE,hg,vj _ _ _ _ _ hr,Bool.false_eq_true,if_false,Option.map_some]
   ·cases h
  ·rename_i a b hx hy;split at h
   ·rename_i r hg hr;simp only[sInjQ] at h;subst h;show _=some _;rw[dF (by rw[ho];rfl)];simp only[bO,ho,e2,hx,hy,cg,aE,hg,vj _ _ _ _ _ hr,Bool.false_eq_true,if_false,Option.map_some]
   ·cases h
  ·rename_i k a k' b hx hy;split at h
   ·rename_i hk;have hk:=of_decide_eq_true hk;subst hk;simp only[sInjQ] at h;subst h;intro hb;have hb:ao b 0=false:=by simpa using hb
    rw[dF (by rw[ho];rfl)];simp[bO,ho,e2,hx,hy,cg,aE,hb]
   ·cases h
  ·rename_i k a k' b hx hy;split at h
   ·rename_i hk;have hk:=of_decide_eq_true hk;subst hk;simp only[sInjQ] at h;subst h;intro hb;have hb:ao b 0=false:=by simpa using hb
    rw[dF (by rw[ho];rfl)];simp[bO,ho,e2,hx,hy,cg,aE,hb]
   ·cases h
  ·exact plain h
 ·rename_i t a x ho;split at h
  ·rename_i a' x' ha hx;rw[dF (by rw[ho];rfl)];have:=L5 h;simpa only[bO,ho,e2,ha,hx] using this
  ·cases h
 ·rename_i t x ho;split at h
  ·rename_i v hx;split at h
   ·rename_i e he;simp only[sInjQ] at h;subst h;rw[dF (by rw[ho];rfl)];have:=L6 he;simpa only[bO,ho,e1,hx] using this
   ·exact plain h
  ·cases h
 ·rename_i t parts ho;split at h
  ·rename_i ps hps;split at h
   ·rename_i e he;simp only[sInjQ] at h;subst h;rw[dF (by rw[ho];rfl)];have:=L7 he;simpa only[bO,ho,uC,hps] using this
   ·exact plain h
  ·cases h
 ·rename_i t x i ho;split at h
  ·rename_i x' i' hx hi;split at h
   ·rename_i e he;simp only[sInjQ] at h;subst h;rw[dF (by rw[ho];rfl)];have:=L8 he;simpa only[bO,ho,e2,hx,hi] using this
   ·exact plain h
  ·cases h
 ·rename_i s d x ho;split at h
  ·rename_i f l hx;split at h
   ·rename_i e he;simp only[sInjQ] at h;subst h;rw[dF (by rw[ho];rfl)];have:=LW he;simpa only[bO,ho,e1,hx] using this
   ·exact plain h
  ·exact plain h
 ·rename_i t x i ho;split at h
  ·rename_i s w hu hx hi;split at h
   ·rename_i b k hk;simp only[sInjQ] at h;subst h;intro hb;rw[Bool.and_eq_true] at hb;rw[dF (by rw[ho];rfl)];have hlt:k<s.length:=by rw[←aM];exact blt_iff.1 hb.2
    have hg:dC s k=some (y6 s k):=by rw[gY];simp[y6,hlt]
    simp[bO,ho,e2,hx,hi,bf,p9 hk hb.1,hu,hg,cg]
   ·cases h
  ·exact plain h
 ·rename_i t l c ho;split at h
  ·rename_i l' c' hl hc;rw[dF (by rw[ho];rfl)];have:=LX h;simpa only[bO,ho,e2,hl,hc] using this
  ·cases h
 ·rename_i t x lo hi mx ho;split at h
  ·rename_i x' lo' hi' mx' h1 h2 h3 h4;rw[dF (by rw[ho];rfl)];have e:bO P G ev o=cw P t x' lo' hi' mx':=by simp only[bO,ho,sg,h1,h2,h3,h4]
   rw[e];split at h
   ·rename_i es' he;simp only[sInjQ] at h;subst h;exact zl he
   ·split at h
    ·rename_i e' he;simp only[sInjQ] at h;subst h;exact he
    ·cases h
  ·cases h
 ·rename_i c ho;split at h
  ·rename_i s x hc hargs;rw[dF (by rw[ho];rfl)];have e:bO P G ev o=nS P c.argTypes s x:=by simp only[bO,ho,j4,hargs,hc,nV]
   rw[e];split at h
   ·rename_i es' he;simp only[sInjQ] at h;subst h;exact LV he
   ·split at h
    ·rename_i e' he;simp only[sInjQ] at h;subst h;exact he
    ·cases h
  ·rename_i d x hc hargs;rw[dF (by rw[ho];rfl)];have e:bO P G ev o=nT P c.argTypes d x:=by simp only[bO,ho,j4,hargs,hc,nV]
   rw[e];split at h
   ·rename_i es' he;simp only[sInjQ] at h;subst h;exact LZ he
   ·split at h
    ·rename_i e' he;simp only[sInjQ] at h;subst h;exact he
    ·cases h
  ·exact plain h
 ·exact plain h
variable {O:bB} {n:Nat} {A:bz}
structure dH (P:Program) (O:bB) (A:bz):Prop where
 cx:cz P O.glob A.cx∧cA A.cx
 sum:∀f args v,O.summ f args=some v→SemCall P O.glob f args v
 inl:∀f T,A.inl f=some T→∀args h nx K,T.run args h nx K→∃v h' nx',K v h' nx'∧dw P O.glob f args h nx v h' nx'
 cut:∀r C,A.cut r=some C→∀nx0 s K,C s K→∃s2,(∀w0 I0 α0 H0 D a w,(∀id,nx0≤id→α0 id=none)→CR O.glob w0 I0 α0 H0 nx0 D s a w→CR O.glob w0 I0 α0 H0 nx0 D s2 a w)∧K s2
theorem vl {G:aZ}:cz P G (fun _ _ _ _ _=>none)∧cA (fun _ _ _ _ _=>none):=by
 refine ⟨?_, ?_⟩
 ·intro f args rid H nx v H' nx' ft h;cases h
 ·intro f args id h nx v h' nx' ft hc;cases hc
abbrev oI (P:Program) (G:aZ) (call:bw):Prop:=cz P G call∧cA call
theorem vm (B:dQ P O n) {id d:Nat} {e:Eff} {h:ah} {nx:Nat} {K:AV→ah→Nat→Foot→Prop} (hk:ip P O n id d e h nx K):
  ∃call,oI P O.glob call∧∃v h' nx' ft,bv call id d e h nx=some (v,h',nx',ft)∧K v h' nx' ft:=by
 unfold ip at hk;split at hk
 ·rename_i v h' nx' ft hr;exact ⟨_,B.calls,v,h',nx',ft,hr,hk⟩
 ·exact hk.elim
theorem s3 {call:bw} {id d:Nat} {f:FuncId} {args:List AV} {h:ah} {nx:Nat}:bv call id d (.call f args) h nx=call f args id h nx:=by cases d<;>rfl
noncomputable def oJ (f0:FuncId) (args0:List AV) (L:List Nat) (H0:ah) (nx0:Nat) (v:AV) (H2:ah) (m:Nat):bw:=by
 classical exact fun f args _ h nx=>if f=f0∧args=args0∧nx=nx0∧cO h L=H0 then some (v,zg L H2 nx h,nx+m,⟨true,L,nx::L⟩) else none
theorem EL {G:aZ} {f0:FuncId} {args0:List AV} {L:List Nat} {H0:ah} {nx0:Nat} {v:AV} {H2:ah} {m:Nat} (hB:dw P G f0 args0 H0 nx0 v H2 (nx0+m)):cz P G (oJ f0 args0 L H0 nx0 v H2 m)∧cA (oJ f0 args0 L H0 nx0 v H2 m):=by
 refine ⟨?_, ?_⟩
 ·intro f args rid H nx v1 H' nx' ft hc w I α vs hr ha hrid hlt hf;unfold oJ at hc;split at hc
  ·rename_i he;obtain ⟨rfl,rfl,rfl,rfl⟩:=he;simp only[sInjQ,pInjQ] at hc;obtain ⟨rfl,rfl,rfl,rfl⟩:=hc;obtain ⟨e1,e2⟩:=hB w I α vs (u0 hr L) ha hf;rw[e1];refine Calls.mono e2 ?_;rintro e w' ⟨u,rfl,hp⟩;exact ⟨u,rfl,Ec hr hf hp⟩
  ·cases hc
 ·intro f args id hp nx v1 h' nx' ft hc;unfold oJ at hc;split at hc
  ·rename_i he;obtain ⟨rfl,rfl,rfl,rfl⟩:=he;simp only[sInjQ,pInjQ] at hc;obtain ⟨rfl,rfl,rfl,rfl⟩:=hc;refine ⟨fun h=>(by cases h),fun _ n l hw=> ?_⟩;simp only[List.cons.injEq] at hw;obtain ⟨rfl,rfl⟩:=hw;refine ⟨rfl,by omega,_,rfl,fun p hp=> ?_,fun h2 hk=> ?_⟩
   ·rw[u7] at hp;rcases List.mem_append.1 hp with hp|hp
    ·exact .inl (u9 hp).1
    ·exact .inr (sL hp).1
   ·have hC:cO h2 L=cO hp L:=sK _ fun i hi=>hk i (by simp[hi]);unfold oJ;rw[if_pos ⟨rfl,rfl,rfl,hC⟩];rfl
  ·cases hc
theorem Ma {f:FuncId} {args:List AV} {h:ah} {nx id d:Nat} {K:AV→ah→Nat→Foot→Prop} {r:p6} (hk:p7 P O f args h nx K r):
  ∃call,oI P O.glob call∧∃v h' nx' ft,bv call id d (.call f args) h nx=some (v,h',nx',ft)∧K v h' nx' ft:=by
 cases r with
 |val v=>exact ⟨_,yS hk.1,v,h,nx,_,by rw[s3];unfold mG;rw[if_pos rflTwoQ],hk.2⟩
 |part L v H2 m=>exact ⟨_,EL (L:=L) hk.1,v,_,_,_,by rw[s3];unfold oJ;rw[if_pos ⟨rfl,rfl,rfl,rfl⟩],hk.2⟩
theorem zn (B:dQ P O n) (hA:dH P O A) {id:Nat}:∀ (d:Nat) (e:Eff) {h:ah} {nx:Nat} {K:AV→ah→Nat→Foot→Prop},g5 P O n A id d e h nx K→
  ∃call,oI P O.glob call∧∃v h' nx' ft,bv call id d e h nx=some (v,h',nx',ft)∧K v h' nx' ft:=by
 have callCase:∀ (d:Nat) (f:FuncId) (args:List AV) {h:ah} {nx:Nat} {K:AV→ah→Nat→Foot→Prop},(match A.cx f args id h nx with
   |some (v,h',nx',ft)=>K v h' nx' ft
   | none=>match A.sem f args h nx with
    |some r=>p7 P O f args h nx K r
    | none=>match A.inl f with
     |some T=>sU args h nx K T
     |none=>match O.how f with
      | .pure=>match O.summ f args with
        |some v=>aw (ae args) (K v h nx ⟨false,[],[]⟩)
        |none=>ip P O n id d (.call f args) h nx K
      |_=>ip P O n id d (.call f args) h nx K)→∃call,oI P O.glob call∧∃v h' nx' ft,bv call id d (.call f args) h nx=some (v,h',nx',ft)∧K v h' nx' ft:=by
  intro d f args h nx K hk;split at hk
  · rename_i v h' nx' ft hc;exact ⟨_,hA.cx,v,h',nx',ft,by rw[s3];exact hc,hk⟩
  · split at hk
    · exact Ma hk
    split at hk
    · rename_i T hT;obtain ⟨v,H2,nx2,hK,hB⟩:=hA.inl f T hT _ _ _ _ hk;obtain ⟨hle,hK⟩:=oblB_iff.1 hK;have hle:=Nat.le_of_ble_eq_true hle;obtain ⟨m,rfl⟩:∃m,nx2=nx+m:=⟨nx2-nx,by omega⟩;exact ⟨_,EL (L:=T.see args h) hB,v,_,_,_,by rw[s3];unfold oJ;rw[if_pos ⟨rfl,rfl,rfl,rfl⟩],hK⟩
    split at hk
    · split at hk
      · rename_i v hs;obtain ⟨_,hk⟩:=oblB_iff.1 hk;exact ⟨_,yS (hA.sum f args v hs),v,h,nx,_,by rw[s3];unfold mG;rw[if_pos rflTwoQ],hk⟩
      · exact vm B hk
    · exact vm B hk
 intro d
 induction d with
 | zero=>
   intro e h nx K hk;unfold g5 at hk;split at hk
   · exact callCase 0 _ _ hk
   · exact vm B hk
 | succ d ih=>
   intro e h nx K hk;unfold g5 at hk;split at hk
   · exact callCase (d+1) _ _ hk
   · rename_i i k;split at hk
     · rename_i b hb;split at hk
       · rename_i e' he;obtain ⟨call,hc,v,h',nx',ft,hr,hK⟩:=ih e' hk;exact ⟨call,hc,v,h',nx',_,by simp only[bv,hb,he,hr],hK⟩
       · exact hk.elim
     · exact hk.elim
   · exact vm B hk
def s4 (P:Program) (G:aZ) (ops:List Oper) (id:Nat) (o:Oper) (s:St) (K:St→Foot→Prop):Prop:=
 ∃call,oI P G call∧∃s' ft,dD P G call ops id o s=some (s',ft)∧K s' ft
theorem jb {ops:List Oper} {id:Nat} {o:Oper} {s:St} {K:St→Foot→Prop} (hw:du ops o s.slots=some true) {call:bw} (hc:oI P O.glob call) {e:Eff} (he:cy P O.glob ops (bE s.slots) o=some e)
  {v:AV} {h:ah} {nx:Nat} {ft:Foot} (hr:bv call id 2 e s.heap s.nx=some (v,h,nx,ft)) (hk:K ⟨cD s.n s.slots o.dst v,h,nx,s.n⟩ ft):s4 P O.glob ops id o s K:=
 ⟨call,hc,_,ft,by unfold dD;simp only[hw,he,hr],hk⟩
theorem Mb (B:dQ P O n) (hA:dH P O A) {ops:List Oper} {id:Nat} {o:Oper} {s:St} {K:St→Foot→Prop} (hw:du ops o s.slots=some true)
  (hk:sV P O n A id s.heap s.nx (fun v h nx ft=>K ⟨cD s.n s.slots o.dst v,h,nx,s.n⟩ ft) (p5 P O.glob ops (bE s.slots) o)):s4 P O.glob ops id o s K:=by
 cases hs:p5 P O.glob ops (bE s.slots) o with
 |none=>rw[hs] at hk;exact hk.elim
 | some es=>
  rw[hs] at hk;have hok:=L9 hs;cases es with
  |eff e=>
   obtain ⟨call,hc,v,h',nx',ft,hr,hK⟩:=zn B hA 2 e hk;exact jb hw hc hok hr hK
  |obl b e=>
   obtain ⟨hb,hk⟩:=oblB_iff.1 hk;obtain ⟨call,hc,v,h',nx',ft,hr,hK⟩:=zn B hA 2 e hk;exact jb hw hc (hok hb) hr hK
  | app b i k v=>
   obtain ⟨hb,hk⟩:=oblB_iff.1 hk;obtain ⟨kk,he,hkk⟩:=hok hb;split at hk
   ·rename_i l hl;obtain ⟨hb2,hk⟩:=oblB_iff.1 hk;exact jb hw B.calls he (by simp only[bv,hl,hkk l hb2]) hk
   ·exact hk.elim
  | put b i k v=>
   obtain ⟨hb,hk⟩:=oblB_iff.1 hk;obtain ⟨kk,he,hkk⟩:=hok hb;split at hk
   ·rename_i l hl;obtain ⟨hb2,hk⟩:=oblB_iff.1 hk;exact jb hw B.calls he (by simp only[bv,hl,hkk l hb2]) hk
   ·exact hk.elim
  | pick b x y=>
   simp only[sV] at hk;split at hk
   ·split at hk
    ·exact jb hw B.calls ((hok.1 rfl).trans rfl) rfl hk
    ·exact hk.elim
   ·split at hk
    ·exact jb hw B.calls ((hok.2 rfl).trans rfl) rfl hk
    ·exact hk.elim
theorem Mc:oD P O (fun _ _ _ _ _=>none):=fun _ _ _ _ _ _ _ _ _ h=>by cases h
theorem Md {G:aZ} {ops:List Oper} {ev:Operand→Option AV} {o:Oper} {r:AV} {p:Prop} (h:zh P ev o r=some p) (hp:p):cy P G ops ev o=some (.val r):=by
 unfold zh at h;split at h
 ·rename_i s d x ho;split at h
  ·rename_i v hx;simp only[sInjQ] at h;subst h;rw[dF (by rw[ho];rfl)];simp only[bO,ho,e1,hx,hp]
  ·cases h
 ·rename_i t x i ho;split at h
  ·rename_i v w hx hi;simp only[sInjQ] at h;subst h;rw[dF (by rw[ho];rfl)];simp only[bO,ho,e2,hx,hi,hp,cg]
  ·cases h
 ·rename_i t x i ho;split at h
  ·rename_i v w hx hi;simp only[sInjQ] at h;subst h;rw[dF (by rw[ho];rfl)];simp only[bO,ho,e2,hx,hi,hp,cg]
  ·cases h
 ·rename_i t x lo hi mx ho;split at h
  ·rename_i x' lo' hi' mx' h1 h2 h3 h4;simp only[sInjQ] at h;subst h;rw[dF (by rw[ho];rfl)];simp only[bO,ho,sg,h1,h2,h3,h4,hp]
  ·cases h
 ·rename_i op t x y g ho;split at h
  ·rename_i v w hx hi;simp only[sInjQ] at h;subst h;rw[dF (by rw[ho];rfl)];simp only[bO,ho,e2,hx,hi,hp,cg]
  ·cases h
 ·rename_i c ho;split at h
  ·rename_i b args hc ha;simp only[sInjQ] at h;subst h;rw[dF (by rw[ho];rfl)];simp only[bO,ho,j4,ha,hc,hp]
  ·cases h
 ·cases h
theorem Me (B:dQ P O n) (hA:dH P O A) {ops:List Oper} {id:Nat} {o:Oper} {s:St} {K:St→Foot→Prop} {a:eW} (hw:du ops o s.slots=some true)
  (hk:jJ P O n A ops id o s (fun v h nx ft=>K ⟨cD s.n s.slots o.dst v,h,nx,s.n⟩ ft) a):s4 P O.glob ops id o s K:=by
 unfold jJ at hk;split at hk
 ·split at hk
  ·rename_i e he;obtain ⟨call,hc,v,h',nx',ft,hr,hK⟩:=zn B hA 2 e hk;exact jb hw hc he hr hK
  ·exact hk.elim
 ·split at hk
  ·rename_i a v h nx ft F ha;obtain ⟨call,hc,hs⟩:=Et B.calls B.glob Mc hw ha hk.1;exact ⟨call,hc,_,_,hs,hk.2⟩
  ·exact hk.elim
 ·rename_i v;split at hk
  ·rename_i t x i ho;split at hk
   ·rename_i f es w hx hi;split at hk
    ·rename_i b k e hn he;split at hk
     ·rename_i sz hsz;obtain ⟨hg,hk⟩:=hk;obtain ⟨hb,hk⟩:=oblB_iff.1 hk;rw[Bool.and_eq_true] at hb;refine jb (e:= .val (.fptr v.cells 0)) hw B.calls ?_ rfl hk;rw[dF (by rw[ho];rfl)];have hu:P.underlying t=some (.slice e):=by
       unfold dW at he;split at he
       ·simp only[sInjQ] at he;subst he;assumption
       ·cases he
      have q1:=p9 hn hb.1;simp only[bO,ho,e2,hx,hi,aF,q1,hu,hsz,hg,hb.2,cg,Option.bind_eq_bind,Option.bind_some,if_true]
     ·exact hk.elim
    ·exact hk.elim
   ·exact hk.elim
  ·exact hk.elim
 ·rename_i v;split at hk
  ·rename_i t a ho;split at hk
   ·rename_i i off hx;split at hk
    ·rename_i l hl;obtain ⟨hp,hk⟩:=hk;have he:∃k,cy P O.glob ops (bE s.slots) o=some (.read i k)∧k (.cells l)=some (.val v):=by
      rw[dF (by rw[ho];rfl)];simp only[bO,ho,e1,hx,fW];exact ⟨_,rfl,by simp only[hp,Option.map_some]⟩
     obtain ⟨k,he,hkl⟩:=he;exact jb hw B.calls he (by simp only[bv,hl,hkl]) hk
    ·exact hk.elim
   ·rename_i cs off hx;obtain ⟨hp,hk⟩:=hk;refine jb (e:= .val v) hw B.calls ?_ rfl hk;rw[dF (by rw[ho];rfl)];simp only[bO,ho,e1,hx,fW,hp,Option.map_some]
   ·rename_i g off hx;obtain ⟨hp,hk⟩:=hk;refine jb (e:= .val v) hw B.calls ?_ rfl hk;rw[dF (by rw[ho];rfl)];simp only[bO,ho,e1,hx,hp]
   ·exact hk.elim
  ·exact hk.elim
 ·rename_i r;split at hk
  ·rename_i p hp;exact jb (e:= .val r) hw B.calls (Md hp hk.1) rfl hk.2
  ·exact hk.elim
def KnOk (kn:Kn) (slots:Tr):Prop:=∀d b,kZ kn d=some b→slots.get d=some (.bool b)
theorem Mf {kn:Kn} {slots:Tr} (h:KnOk kn slots):zi kn slots=bE slots:=by
 funext x
 unfold zi;split
 ·split
  ·rename_i b hb;simp only[bE,h _ b hb]
  ·rfl
 ·rfl
theorem Mg {kn:Kn} {k d:Nat} {b:Bool} (h:kZ (sW kn k) d=some b):d≠k∧kZ kn d=some b:=by
  induction kn with
  |nil=>cases h
  | cons p t ih=>
    obtain ⟨e,c⟩:=p;simp only[sW] at h;split at h
    · rename_i he;have he:=beq_iff.1 he;obtain ⟨h1,h2⟩:=ih h;refine ⟨h1, ?_⟩;simp only[kZ];rw[beq_false_of (by rw[he];exact fun h=>h1 h.symm)];exact h2
    · rename_i he;have he:=beq_false_iff.1 he;simp only[kZ] at h⊢;split at h
      · rename_i hd;have hd':=beq_iff.1 hd;exact ⟨fun h'=>he (by omega),h⟩
      · exact ih h
 where
  beq_false_of {a b:Nat} (h:a≠b):Nat.beq a b=false:=beq_false_iff.2 h
theorem KnOk.put {kn:Kn} {slots:Tr} {n:Nat} {dst:Option Tmp} {v:AV} (h:KnOk kn slots):KnOk (lj kn dst) (cD n slots dst v):=by
 intro d b hd;cases dst with
 |none=>exact h d b hd
 |some e=>
  simp only[lj] at hd;obtain ⟨h1,h2⟩:=Mg hd;simp only[cD];split
  ·rw[Tr.get_set_ne 12 slots v h1];exact h d b h2
  ·exact h d b h2
theorem KnOk.cons {kn:Kn} {slots:Tr} {d:Nat} {b:Bool} (h:KnOk kn slots) (hd:slots.get d=some (.bool b)):KnOk ((d,b)::kn) slots:=by
 intro k c hk;simp only[kZ] at hk;split at hk
 ·rename_i he;have he:=beq_iff.1 he;subst he;simp only[sInjQ] at hk;subst hk;exact hd
 ·exact h k c hk
def vn (P:Program) (G:aZ) (ops:List Oper) (id:Nat) (o:Oper) (s:St) (K:Kn→St→Foot→Prop):Prop:=
 s4 P G ops id o s (fun s' ft=>∃kn',KnOk kn' s'.slots∧K kn' s' ft)
theorem Mh {ops:List Oper} {id:Nat} {o:Oper} {s:St} {K K':AV→ah→Nat→Foot→Prop} (h:K=K') {a:eW} (hk:jJ P O n A ops id o s K a):jJ P O n A ops id o s K' a:=h▸hk
theorem s5 (B:dQ P O n) (hA:dH P O A) {rid:Nat} {ops:List Oper} {id i:Nat} {o:Oper} {s:St} {kn:Kn} {K:Kn→St→Foot→Prop} (hkn:KnOk kn s.slots) (hw:du ops o s.slots=some true) (hk:jK P O n A rid ops id i o s kn K):
  vn P O.glob ops id o s K:=by
 have fin:s4 P O.glob ops id o s (fun s' ft=>s'.slots=s'.slots∧(∃v,s'.slots=cD s.n s.slots o.dst v)∧K (lj kn o.dst) s' ft)→vn P O.glob ops id o s K:=fun ⟨c,h1,s',ft,h2,_,⟨v,hv⟩,h3⟩=>
  ⟨c,h1,s',ft,h2,lj kn o.dst,by rw[hv];exact hkn.put,h3⟩
 refine fin ?_;unfold jK at hk;split at hk
 ·refine Me B hA hw (Mh ?_ hk)
  funext v h nx ft
  simp only[true_and,eq_iff_iff];exact ⟨fun h=>⟨⟨v,rfl⟩,h⟩,fun h=>h.2⟩
 ·rw[Mf hkn] at hk;refine Mb B hA hw (?_:sV P O n A id s.heap s.nx _ (p5 P O.glob ops (bE s.slots) o));have:(fun v h nx ft=>K (lj kn o.dst) ⟨cD s.n s.slots o.dst v,h,nx,s.n⟩ ft)=(fun v h nx ft=>(fun (s':St) (ft:Foot)=>s'.slots=s'.slots∧(∃v,s'.slots=cD s.n s.slots o.dst v)∧K (lj kn o.dst) s' ft) ⟨cD s.n s.slots o.dst v,h,nx,s.n⟩ ft):=by
   funext v h nx ft
   simp only[true_and,eq_iff_iff];exact ⟨fun h=>⟨⟨v,rfl⟩,h⟩,fun h=>h.2⟩
  rw[←this];exact hk
theorem Mi (B:dQ P O n) (hA:dH P O A) {rid:Nat} {ops:List Oper} {id i:Nat} {o:Oper} {s:St} {kn:Kn} {K:Kn→St→Foot→Prop} (hkn:KnOk kn s.slots) (hk:sX P O n A rid ops id i o s kn K):vn P O.glob ops id o s K:=by
 have no:∀ {kn:Kn},KnOk kn s.slots→du ops o s.slots=some false→oH o s kn K→vn P O.glob ops id o s K:=fun {kn} hkn hw hk=>
  ⟨_,B.calls,_,_,by unfold dD;simp only[hw],_,hkn.put,hk⟩
 unfold sX at hk;split at hk
 ·rename_i hg;exact s5 B hA hkn (by unfold du;simp only[hg]) hk
 ·rename_i j want hg;split at hk
  ·rename_i g hj;split at hk
   ·rename_i d hd;split at hk
    ·rename_i b hkb;have hb:=hkn d b hkb;split at hk
     ·split at hk
      ·exact s5 B hA hkn (by unfold du;simp[hg,hj,hd,hb]) hk
      ·exact no hkn (by unfold du;simp[hg,hj,hd,hb]) hk
     ·split at hk
      ·exact no hkn (by unfold du;simp[hg,hj,hd,hb]) hk
      ·exact s5 B hA hkn (by unfold du;simp[hg,hj,hd,hb]) hk
    ·split at hk
     ·rename_i b hb;split at hk
      ·split at hk
       ·exact s5 B hA (hkn.cons hb) (by unfold du;simp[hg,hj,hd,hb]) hk
       ·exact no (hkn.cons hb) (by unfold du;simp[hg,hj,hd,hb]) hk
      ·split at hk
       ·exact no (hkn.cons hb) (by unfold du;simp[hg,hj,hd,hb]) hk
       ·exact s5 B hA (hkn.cons hb) (by unfold du;simp[hg,hj,hd,hb]) hk
     ·rename_i hb;exact no hkn (by unfold du;simp[hg,hj,hd,hb]) hk
     ·exact hk.elim
   ·exact hk.elim
  ·exact hk.elim
theorem EM (B:dQ P O n) (hA:dH P O A) {rid:Nat} {all:List Oper} {base:Nat}:∀ (rest:List Oper) (i:Nat) (s:St) (kn:Kn) (acc:List (Nat × Foot)) {K:St→List (Nat × Foot)→Prop},KnOk kn s.slots→sY P O n A rid all base rest i s kn acc K→
  ∃call,oI P O.glob call∧∃s' feet,dq P O.glob call all base rest i s acc=some (s',feet)∧K s' feet
 |[],i,s,kn,acc,K,_,hk=>⟨_,B.calls,s,acc,rfl,hk⟩
 |o::rest,i,s,kn,acc,K,hkn,hk=>by
  simp only[sY] at hk;obtain ⟨c1,h1,s1,ft,hs,kn',hkn',hk⟩:=Mi B hA hkn hk;obtain ⟨c2,h2,s',feet,hr,hK⟩:=EM B hA rest (i+1) s1 kn' _ hkn' hk;refine ⟨iM (base+i) c1 c2,Eu h1 h2,s',feet, ?_,hK⟩;simp only[dq];rw[yU (call':=c1) (fun f args hp nx=>by unfold iM;rw[if_pos rfl]),hs];simp only;rw[yV (call':=c2) rest (i+1) _ _ fun f args id hp nx hid=>by unfold iM;rw[if_neg (by omega)]];exact hr
def LsOk (P:Program) (G:aZ) (nx0:Nat) (A:bz) (c:Code):Prop:=
 ∀r L,A.ls r=some L→∀b∈bW c r,∀s Q,L s Q→AWp P G nx0 (.loop b) s Q
theorem EN {nx0:Nat} {body:Code} {W:St→(AExit→St→Prop)→Prop} (h:∀s Q,W s Q→AWp P O.glob nx0 body s Q):∀ (k:Nat) (s:St) (Q:AExit→St→Prop),vi W k s Q→ARnd P O.glob nx0 body Q k s
 |0,_,_,hk=>hk
 |k+1,s,Q,hk=>(h s _ hk).mono fun e s' hq=>by
  cases e with
  |normal=>exact EN h k s' Q hq
  |exit i=>exact hq
  |ret=>exact hq
theorem EO {nx0:Nat} {c:Operand} {b:Bool} {s:St} {code:Code} {G:aZ} {Q:AExit→St→Prop} (hc:bE s.slots c=some (.bool b)) (h:AWp P G nx0 code (zj c b s) Q):AWp P G nx0 code s Q:=by
 cases c with
 | tmp d=>
  have hg:∀k,(cD s.n s.slots (some d) (.bool b)).get k=s.slots.get k:=fun k=>by
   have hc:s.slots.get d=some (.bool b):=hc;simp only[cD];split
   ·by_cases hk:k=d
    ·subst hk;rcases Tr.get_set_self 12 s.slots (k:=k) (.bool b) with h|h
     ·rw[h,hc]
     ·exact h
    ·exact Tr.get_set_ne 12 s.slots _ hk
   ·rfl
  refine ⟨fun w0 I0 α0 H0 D a w hα hr=>h.out w0 I0 α0 H0 D a w hα ?_⟩;obtain ⟨⟨I,α,ev,rel,hs,q1,q2,q3⟩,h7,h8,h9,h10,h11⟩:=hr;exact ⟨⟨I,α,ev,rel,fun k v hv=>hs k v (by rw[←hg k];exact hv),q1,q2,q3⟩,h7,h8,h9,h10,h11⟩
 |_=>exact h
theorem zo {nx0:Nat} (B:dQ P O n) (hA:dH P O A):∀ (c:Code) (s:St) (Q:AExit→St→Prop),LsOk P O.glob nx0 A c→aP P O n A c s Q→AWp P O.glob nx0 c s Q:=by
 intro c
 induction c with
 |skip=>exact fun s Q _ h=> .skip h
 |label l=>exact fun s Q _ h=> .label h
 |exit i=>exact fun s Q _ h=> .exit h
 |ret=>exact fun s Q _ h=> .ret h
 | region rid ops draw=>
  intro s Q _ h;simp only[aP] at h;have reg:∀ {s:St},sZ P O n A rid ops draw s Q→AWp P O.glob nx0 (.region rid ops draw) s Q:=fun {s} h=>by
   unfold sZ at h;obtain ⟨call,⟨h1,h2⟩,s',feet,hr,hk⟩:=EM B hA _ _ _ _ _ (fun _ _ h=>by cases h) h;cases draw with
   |false=>exact .region B.mixed h1 h2 hr (fun h=>by cases h) hk
   |true=>
    obtain ⟨hb,hk⟩:=oblB_iff.1 hk;rw[Bool.and_eq_true] at hb;exact .region B.mixed h1 h2 hr (fun _=>hb) hk
  split at h
  ·rename_i C hC;obtain ⟨s2,hs,hk⟩:=hA.cut rid C hC nx0 s _ h;exact ⟨fun w0 I0 α0 H0 D a w hα hr=>(reg hk).out w0 I0 α0 H0 D a w hα (hs w0 I0 α0 H0 D a w hα hr)⟩
  ·exact reg h
 |seq a b iha ihb=>
  intro s Q hl h;refine .seq ((iha s _ (fun r L hL b' hb=>hl r L hL b' (by simp[bW,hb])) h).mono fun e s' hq=> ?_);cases e with
  |normal=>exact ihb s' Q (fun r L hL b' hb=>hl r L hL b' (by simp[bW,hb])) hq
  |exit i=>exact hq
  |ret=>exact hq
 | cond c a b iha ihb=>
  intro s Q hl h;simp only[aP] at h;split at h
  ·rename_i t hc;split at h
   ·exact .cond_true hc (EO hc (iha _ Q (fun r L hL b' hb=>hl r L hL b' (by simp[bW,hb])) h))
   ·exact .cond_false hc (EO hc (ihb _ Q (fun r L hL b' hb=>hl r L hL b' (by simp[bW,hb])) h))
  ·exact h.elim
 |block id body ih=>exact fun s Q hl h=> .block (ih s _ hl h)
 | loop body ih=>
  intro s Q hl h;simp only[aP] at h;split at h
  ·rename_i L hL;exact hl _ L hL body (by simp[bW]) s Q h
  ·exact .loop O.lf (EN (fun s Q h=>ih s Q (fun r L hL b' hb=>hl r L hL b' (by simp[bW,hb])) h) _ _ _ h)
 |rangeFunc f p x y _ _=>exact fun s Q _ h=>h.elim
 |scope c _=>exact fun s Q _ h=>h.elim
 |goto l=>exact fun s Q _ h=>h.elim
 |refuse y=>exact fun s Q _ h=>h.elim
def jL (P:Program) (G:aZ) (nx0:Nat) (A:bz) (f:FuncId):Prop:=∀fn c,P.funcs[f]? =some fn→fn.body=some c→LsOk P G nx0 A c
theorem Mj {G:aZ} {nx0:Nat} {f:FuncId} (h:∀r,A.ls r=none):jL P G nx0 A f:=fun _ _ _ _ r L hL=>by rw[h] at hL;cases hL
theorem oK {f:FuncId} {args:List AV} {H:ah} {nx:Nat} {Q:AV→ah→Nat→Prop} (B:dQ P O n) (hA:dH P O A) (hl:jL P O.glob nx A f) (h:aH P O n A f args H nx Q):
  ∃fn c,P.funcs[f]? =some fn∧fn.body=some c∧(fn.name== "runtime.NumGoroutine")=false∧(Nat.ble (ab args) fn.ntmps&&Nat.ble fn.ntmps 4095)=true∧
   AWp P O.glob nx c ⟨ey args 0 .tip,H,nx,fn.ntmps⟩ (fun e s=>(e= .normal∨e= .ret)∧∃l,er P O.glob s fn.results.toList=some l∧Q (eu l) s.heap s.nx):=by
 unfold aH at h;split at h
 ·rename_i fn hfn;split at h
  ·rename_i c hc;split at h
   ·exact h.elim
   ·rename_i hname;split at h
    ·exact h.elim
    ·rename_i hsz;refine ⟨fn,c,hfn,hc,hname,hsz,(zo B hA c _ _ (hl fn c hfn hc) h).mono fun e s hq=> ?_⟩;split at hq
     ·exact hq.elim
     ·rename_i hne;split at hq
      ·rename_i l hl;refine ⟨?_,l,hl,hq⟩;cases e with
       |normal=>exact .inl rfl
       |ret=>exact .inr rfl
       |exit i=>exact absurd rfl (hne i)
      ·exact hq.elim
  ·exact h.elim
 ·exact h.elim
theorem oL {f:FuncId} {args:List AV} {v:AV} (B:dQ P O n) (hA:dH P O A) (hl:jL P O.glob 0 A f) (hcl:ae args=true)
  (h:aH P O n A f args [] 0 (fun u H _=>(∃d,bi 0 H d u=some v)∧ag v=true)):SemCall P O.glob f args v:=by
 obtain ⟨fn,c,hfn,hc,hname,hsz,hw⟩:=oK B hA hl h;refine EF B hfn hc hname hsz hcl fun w I a hr=>wp_mono (hw.out w I _ [] [] a w (fun _ _=>rfl) hr) ?_;rintro e a' w' ⟨x,s',rfl,h2,hx,l,hl,hq⟩;refine ⟨s',l, ?_,h2,hl,hq.1,hq.2⟩;rcases hx with rfl|rfl
 ·exact .inl rfl
 ·exact .inr rfl
theorem zp {f:FuncId} {args:List AV} {H:ah} {nx:Nat} {v:AV} {H':ah} {nx':Nat} (B:dQ P O n) (hA:dH P O A) (hl:jL P O.glob nx A f)
   (h:aH P O n A f args H nx (fun u h m=>u=v∧h=H'∧m=nx')):dw P O.glob f args H nx v H' nx':=by
  obtain ⟨fn,c,hfn,hc,hname,hsz,hw⟩:=oK B hA hl h;intro w I α vs r ha hf;refine body_of_wp' hfn hc hname hsz (fun w I α a hα hr=>wp_mono (hw.out w I α H [] a w hα hr) ?_) w I α vs r ha hf;rintro e a' w' ⟨x,s',rfl,h2,hx,l,hl,rfl,rfl,rfl⟩;refine ⟨s',l, ?_,h2,hl,rfl,rfl,rfl⟩;rcases hx with rfl|rfl
  · exact .inl rfl
  · exact .inr rfl
 where
  body_of_wp' {f:FuncId} {fn:Func} {c:Code} {args:List AV} {H:ah} {nx:Nat} {v:AV} {H':ah} {nx':Nat} (hfn:P.funcs[f]? =some fn) (hc:fn.body=some c) (hname:(fn.name== "runtime.NumGoroutine")=false) (hsz:(Nat.ble (ab args) fn.ntmps&&Nat.ble fn.ntmps 4095)=true)
   (h:∀w I α a,(∀id,nx≤id→α id=none)→CR O.glob w I α H nx [] ⟨ey args 0 .tip,H,nx,fn.ntmps⟩ a w→c.wp P (fun e a' w'=>∃s l,(dv .normal=e∨dv .ret=e)∧CR O.glob w I α H nx [] s a' w'∧er P O.glob s fn.results.toList=some l∧eu l=v∧s.heap=H'∧s.nx=nx') a w):
   dw P O.glob f args H nx v H' nx':=by
   intro w I α vs r ha hf;rw[Bool.and_eq_true,Nat.ble_eq,Nat.ble_eq,aM] at hsz;refine ⟨?_, ?_⟩
   · unfold callFunc;simp only[Sem.run_bind,run_program,Result.andThen_ok,hfn,hname,hc,Bool.false_eq_true,if_false,Option.isNone_some,Sem.run_pure]
   · refine calls_of_wp hfn hc ?_;have hvs:args.length=vs.size:=by rw[ha.1];simp
     have hr0:CR O.glob w I α H nx [] ⟨ey args 0 .tip,H,nx,fn.ntmps⟩ {tmps:=vs++Array.replicate (fn.ntmps-vs.size) undef,defers:=[]} w:=
      ⟨⟨I,α,.refl,r,ov ha (by omega),fun i hi=>absurd hi (Nat.not_lt_zero i),hf,fun id h=> .inl h⟩,Nat.le_refl _,Nat.le_refl _,rfl,by simp;omega,hsz.2⟩
     refine wp_mono (h w I α _ hf hr0) fun e a' w' hq=> ?_;obtain ⟨s,l,he,hr,hl,rfl,rfl,rfl⟩:=hq;obtain ⟨⟨I',α',h1,h2,h3,_,_,h6⟩,_,h8,h9,_,_⟩:=hr;obtain ⟨u,e1,e2⟩:=ow (P:=P) (fn:=fn) h2 h3 hl;rcases he with rfl|rfl<;>exact ⟨h9,u,e1,u,rfl,⟨I',α',h1,h2,e2,h6⟩,h8⟩
end
end Go.Proofs.Abs
/- Small laws of the abstract machine's functions: bytes, rows, numbers, what becomes part of a value. -/
namespace Go.Proofs.Abs
open Go
mutual
theorem zq {n:Nat} {h:ah}:∀ {d:Nat} {v r:AV},bi n h d v=some r→bi n h (d+1) v=some r
 |0,_,_,hv=>by simp[bi] at hv
 | d +1,v,r,hv=>by
  have L:∀ {l l':List AV},cL (bi n h d) l=some l'→cL (bi n h (d+1)) l=some l':=fun {l l'} hl=>zr hl;cases v with
  | ptr id off=>
   rw[bi] at hv⊢;split at hv
   ·exact hv
   ·rename_i hb;split at hv
    ·rename_i l hl
     try rw[hl]
     try simp only
     split at hv
     ·rename_i l' hl';rw[L hl'];exact hv
     ·cases hv
    ·cases hv
  | rsl own id off len sz=>
   rw[bi] at hv⊢;split at hv
   ·exact hv
   ·rename_i hb;split at hv
    ·rename_i l hl
     try rw[hl]
     try simp only
     split at hv
     ·rename_i es hes;split at hv
      ·rename_i l' hl';rw[L hl'];exact hv
      ·cases hv
     ·cases hv
    ·cases hv
  |fptr cs off=>
   rw[bi] at hv⊢;split at hv
   ·rename_i l' hl';rw[L hl'];exact hv
   ·cases hv
  |fsl f es=>
   rw[bi] at hv⊢;split at hv
   ·rename_i l' hl';rw[L hl'];exact hv
   ·cases hv
  |agg cs=>
   rw[bi] at hv⊢;split at hv
   ·rename_i l' hl';rw[L hl'];exact hv
   ·cases hv
  |tuple cs=>
   rw[bi] at hv⊢;split at hv
   ·rename_i l' hl';rw[L hl'];exact hv
   ·cases hv
  |func fn a b=>
   rw[bi] at hv⊢;split at hv
   ·rename_i a' b' ha hb;rw[L ha,L hb];exact hv
   ·cases hv
  |iface t v=>
   rw[bi] at hv⊢;split at hv
   ·rename_i l' hl';rw[zq hl'];exact hv
   ·cases hv
  |_=>exact hv
theorem zr {n:Nat} {h:ah} {d:Nat}:∀ {l l':List AV},cL (bi n h d) l=some l'→cL (bi n h (d+1)) l=some l'
 |[],_,hl=>by simpa [cL] using hl
 | a::t,l',hl=>by
  simp only[cL] at hl⊢;split at hl
  ·rename_i b hb;split at hl
   ·rename_i u hu;simp only[zq hb,zr hu];exact hl
   ·cases hl
  ·cases hl
end
theorem Mk {n:Nat} {h:ah} {d e:Nat} {v r:AV} (hd:d≤e) (hv:bi n h d v=some r):bi n h e v=some r:=by
 induction hd with
 |refl=>exact hv
 |step _ ih=>exact zq ih
theorem zs {n:Nat} {h:ah} {d e:Nat} {l l':List AV} (hd:d≤e) (hl:cL (bi n h d) l=some l'):cL (bi n h e) l=some l':=by
 induction hd with
 |refl=>exact hl
 |step _ ih=>exact zr ih
structure Frz (n:Nat) (h:ah) (v r:AV):Prop where
 out:∃d,bi n h d v=some r
structure FrzL (n:Nat) (h:ah) (l l':List AV):Prop where
 out:∃d,cL (bi n h d) l=some l'
theorem FrzL.nil {n:Nat} {h:ah}:FrzL n h [] []:=⟨0,rfl⟩
theorem FrzL.cons {n:Nat} {h:ah} {a b:AV} {t u:List AV} (h1:Frz n h a b) (h2:FrzL n h t u):FrzL n h (a::t) (b::u):=by
 obtain ⟨d,h1⟩:=h1;obtain ⟨e,h2⟩:=h2;exact ⟨max d e,by simp only[cL,Mk (Nat.le_max_left d e) h1,zs (Nat.le_max_right d e) h2]⟩
theorem FrzL.append {n:Nat} {h:ah}:∀ {a b c d:List AV},FrzL n h a b→FrzL n h c d→FrzL n h (a++c) (b++d)
 |[],b,_,_,h1,h2=>by
  obtain ⟨e,h1⟩:=h1;simp only[cL,sInjQ] at h1;subst h1;exact h2
 | x::t,b,c,d,h1,h2=>by
  obtain ⟨e,h1⟩:=h1;simp only[cL] at h1;split at h1
  ·rename_i y hy;split at h1
   ·rename_i u hu;simp only[sInjQ] at h1;subst h1;exact FrzL.cons ⟨e,hy⟩ (FrzL.append ⟨e,hu⟩ h2)
   ·cases h1
  ·cases h1
theorem Frz.agg {n:Nat} {h:ah} {l l':List AV} (hl:FrzL n h l l'):Frz n h (.agg l) (.agg l'):=by
 obtain ⟨d,hl⟩:=hl;exact ⟨d+1,by simp only[bi,hl]⟩
theorem Frz.tuple {n:Nat} {h:ah} {l l':List AV} (hl:FrzL n h l l'):Frz n h (.tuple l) (.tuple l'):=by
 obtain ⟨d,hl⟩:=hl;exact ⟨d+1,by simp only[bi,hl]⟩
theorem Frz.fsl {n:Nat} {h:ah} {f:Bool} {l l':List AV} (hl:FrzL n h l l'):Frz n h (.fsl f l) (.fsl f l'):=by
 obtain ⟨d,hl⟩:=hl;exact ⟨d+1,by simp only[bi,hl]⟩
theorem Frz.fptr {n:Nat} {h:ah} {o:Nat} {l l':List AV} (hl:FrzL n h l l'):Frz n h (.fptr l o) (.fptr l' o):=by
 obtain ⟨d,hl⟩:=hl;exact ⟨d+1,by simp only[bi,hl]⟩
theorem Frz.rsl {n:Nat} {h:ah} {own:Bool} {id off len sz:Nat} {c es l':List AV} (hn:Nat.blt id n=false) (hg:hget h id=some (.cells c)) (hc:kP sz len (c.drop off)=some es) (hl:FrzL n h es l'):Frz n h (.rsl own id off len sz) (.fsl false l'):=by
 obtain ⟨d,hl⟩:=hl;exact ⟨d+1,by simp only[bi,hn,hg,hc,hl]⟩
theorem Frz.ptr {n:Nat} {h:ah} {id off:Nat} {c l':List AV} (hn:Nat.blt id n=false) (hg:hget h id=some (.cells c)) (hl:FrzL n h c l'):Frz n h (.ptr id off) (.fptr l' off):=by
 obtain ⟨d,hl⟩:=hl;exact ⟨d+1,by simp only[bi,hn,hg,hl]⟩
theorem Frz.keepR {n:Nat} {h:ah} {own:Bool} {id off len sz:Nat} (hn:Nat.blt id n=true):Frz n h (.rsl own id off len sz) (.rsl own id off len sz):=⟨1,by simp only[bi,hn]⟩
theorem Frz.keepP {n:Nat} {h:ah} {id off:Nat} (hn:Nat.blt id n=true):Frz n h (.ptr id off) (.ptr id off):=⟨1,by simp only[bi,hn]⟩
mutual
theorem Frz.closed {n:Nat} {h:ah}:∀ (v:AV),ag v=true→Frz n h v v
 | .ptr _ _,hc=>by simp[ag] at hc
 | .rsl _ _ _ _ _,hc=>by simp[ag] at hc
 | .map _,hc=>by simp[ag] at hc
 | .fptr cs _,hc=> .fptr (FrzL.closed cs (by simpa [ag] using hc))
 | .fsl _ cs,hc=> .fsl (FrzL.closed cs (by simpa [ag] using hc))
 | .agg cs,hc=> .agg (FrzL.closed cs (by simpa [ag] using hc))
 | .tuple cs,hc=> .tuple (FrzL.closed cs (by simpa [ag] using hc))
 | .func fn a b,hc=>by
  simp only[ag,Bool.and_eq_true] at hc;obtain ⟨d,h1⟩:=FrzL.closed (n:=n) (h:=h) a hc.1;obtain ⟨e,h2⟩:=FrzL.closed (n:=n) (h:=h) b hc.2;exact ⟨max d e+1,by simp only[bi,zs (Nat.le_max_left d e) h1,zs (Nat.le_max_right d e) h2]⟩
 | .iface t v,hc=>by
  obtain ⟨d,h1⟩:=Frz.closed (n:=n) (h:=h) v (by simpa [ag] using hc);exact ⟨d+1,by simp only[bi,h1]⟩
 | .bool _,_=>⟨1,rfl⟩
 | .int _ _,_=>⟨1,rfl⟩
 | .str _,_=>⟨1,rfl⟩
 | .nilp,_=>⟨1,rfl⟩
 | .gptr _ _,_=>⟨1,rfl⟩
 | .nilsl,_=>⟨1,rfl⟩
 | .nesl,_=>⟨1,rfl⟩
 | .nilmap,_=>⟨1,rfl⟩
 | .nilFunc,_=>⟨1,rfl⟩
 | .nilIface,_=>⟨1,rfl⟩
theorem FrzL.closed {n:Nat} {h:ah}:∀ (l:List AV),ae l=true→FrzL n h l l
 |[],_=> .nil
 |a::t,hc=>by
  simp only[ae,Bool.and_eq_true] at hc;exact .cons (Frz.closed a hc.1) (FrzL.closed t hc.2)
end
def eH (sz:Nat) (e:AV):Prop:=e.cells.length=sz∧mq e.cells=e
theorem zt {sz:Nat}:∀ {es:List AV} (r:List AV),(∀e∈es,eH sz e)→kP sz es.length (flat es++r)=some es
 |[],r,_=>rfl
 | e::t,r,h=>by
  obtain ⟨h1,h2⟩:=h e (by simp);have ih:=zt (es:=t) r fun x hx=>h x (by simp[hx]);have hc:chunk (flat (e::t)++r) 0 sz=some e.cells:=by
   rw[vk _ _ _ (by simp only[flat,List.length_append];omega)];simp only[flat,List.drop_zero,List.append_assoc];rw[List.take_left' h1]
  simp only[lConQ,kP,hc];have hd:(flat (e::t)++r).drop sz=flat t++r:=by
   simp only[flat,List.append_assoc];rw[List.drop_left' h1]
  rw[hd,ih,h2];rfl
theorem Frz.row {n:Nat} {h:ah} {own:Bool} {id len sz:Nat} {c es:List AV} (hn:Nat.blt id n=false) (hg:hget h id=some (.cells c)) (hc:c=flat es) (hl:len=es.length) (hes:∀e∈es,eH sz e) (hcl:ae es=true):Frz n h (.rsl own id 0 len sz) (.fsl false es):=by
 subst hc hl;refine .rsl hn hg ?_ (FrzL.closed es hcl);have:=zt (es:=es) [] hes;simpa using this
theorem qc:∀s:List UInt8,ak s=s.map fun b=> .int .u8 (.ofNat b.toNat)
 |[]=>rfl
 |b::t=>by simp only[ak,List.map_cons,qc t]
@[simp] theorem oM (s:List UInt8):ab (ak s)=s.length:=by rw[aM,qc];simp
@[simp] theorem EP (s:List UInt8):flat (ak s)=ak s:=(yn s).1
@[simp] theorem EQ:∀s:List UInt8,dV (ak s)=some s
 |[]=>rfl
 | b::t=>by
  have e:UInt8.ofNat (Int.ofNat b.toNat).toNat=b:=by
   show UInt8.ofNat b.toNat=b;exact UInt8.ofNat_toNat
  simp only[ak,dV,EQ t,Option.map_some,e]
@[simp] theorem oN (s:List UInt8):iN (ak s)=s:=by simp[iN]
@[simp] theorem g6:∀s:List UInt8,ae (ak s)=true
 |[]=>rfl
 |b::t=>by simp only[ak,ae,ag,g6 t,Bool.and_self]
@[simp] theorem Ml:∀s:List UInt8,bq (ak s)=true
 |[]=>rfl
 |b::t=>by simp only[ak,bq,AV.one,Ml t,Bool.and_self]
@[simp] theorem Mm:∀s:List UInt8,a7 1 (ak s)=true
 |[]=>rfl
 |b::t=>by
  have e:ab (AV.int .u8 (.ofNat b.toNat)).cells=1:=rfl;simp only[ak,a7,Mm t,e,Nat.beq_refl,Bool.and_self]
@[simp] theorem Yo (s:List UInt8):jy 1 (ak s)=true:=by cases s<;>rfl
theorem ER {s:List UInt8}:∀e∈ak s,eH 1 e:=by
 intro e he;rw[qc,List.mem_map] at he;obtain ⟨b,_,rfl⟩:=he;exact rflTwoQ
theorem ET:∀n:Nat,dN (.int .u8 0) n=ak (List.replicate n 0)
 |0=>rfl
 |n+1=>by
  simp only[dN,List.replicate_succ,ak,ET n];rfl
theorem Frz.bytes {n:Nat} {h:ah} {own:Bool} {id len:Nat} {c:List AV} {s:List UInt8} (hn:Nat.blt id n=false) (hg:hget h id=some (.cells c)) (hc:c=ak s) (hl:len=s.length):Frz n h (.rsl own id 0 len 1) (.fsl false (ak s)):=
 .row hn hg (by rw[hc,EP]) (by rw[hl,qc];simp) ER (g6 s)
theorem ez {a b:List AV}:ae (a++b)=(ae a&&ae b):=by
 induction a with
 |nil=>simp[ae]
 |cons x t ih=>simp[ae,ih,Bool.and_assoc]
theorem allSize_iff {sz:Nat}:∀ {l:List AV},a7 sz l=true↔∀e∈l,e.cells.length=sz
 |[]=>by simp[a7]
 |a::t=>by simp only[a7,Bool.and_eq_true,beq_iff,aM,allSize_iff (l:=t),List.forall_mem_cons]
theorem ea:∀ (a b:List AV),flat (a++b)=flat a++flat b
 |[],b=>rfl
 |x::t,b=>by simp only[List.cons_append,flat,ea t b,List.append_assoc]
theorem ltInt_iff {a b:Int}:ay a b=true↔a<b:=by rw[j9];simp
theorem ltInt_false {a b:Int}:ay a b=false↔b≤a:=by rw[j9];simp
theorem beqInt_iff {a b:Int}:ao a b=true↔a=b:=by rw[kU];simp
theorem beqInt_false {a b:Int}:ao a b=false↔a≠b:=by rw[kU];simp
theorem beqBytes_iff {a b:List UInt8}:aI a b=true↔a=b:=by rw[pO];simp
theorem eI {n:Int} (h1: -9223372036854775808≤n) (h2:n≤9223372036854775807):aj .i64 n=n:=by
 rw[mz];exact IntWalk.i64_in _ ⟨by omega,by omega⟩
end Go.Proofs.Abs
/- What arguments are: numbers, texts, slices of plain elements. -/
namespace Go.Proofs.Abs
open Go
theorem EU {α:Type} {Q:Nat→α→Prop}:∀ (n:Nat),(∀i,i<n→∃x,Q i x)→∃l:List α,l.length=n∧∀i x,l[i]? =some x→Q i x
 |0,_=>⟨[],rfl,by simp⟩
 | n+1,h=>by
  obtain ⟨l,h1,h2⟩:=EU n fun i hi=>h i (by omega);obtain ⟨x,hx⟩:=h n (by omega);refine ⟨l++[x],by simp[h1],fun i y hy=> ?_⟩;rcases Nat.lt_or_ge i n with hi|hi
  ·rw[List.getElem?_append_left (by omega)] at hy;exact h2 i y hy
  ·rw[List.getElem?_append_right (by omega)] at hy;have:i-l.length=0:=by
    have:=(List.getElem?_eq_some_iff.1 hy).1;simp at this;omega
   rw[this] at hy;simp at hy;subst hy;have:i=n:=by omega
   subst this;exact hx
theorem zu {a:Addr} (h:a.spot=none) (n:Nat):a.add n=⟨a.block,a.off+n,none⟩:=by
 obtain ⟨b,o,s⟩:=a;simp only at h;subst h;unfold Addr.add;split
 ·rename_i h0;subst h0;rfl
 ·rfl
section
variable {H:Type} {enc:TypeId × Value→H} {P:Program} {w:World} {base:Nat} {spare:Nat→Bool} {held:Bool} {t e:TypeId} {v:Value} {d:DataW H} {ps:List MemPlace}
theorem open_int {k:IntKind} (ht:P.underlying t=some (.int k)) (hok:Value.okWide P w .any base t v) (h:DataW.Trod enc P w 0 spare held t v d ps):∃n:Int,v= .int k n∧k.min≤n∧n≤k.max:=by
 obtain ⟨fuel,hd⟩:=h;obtain ⟨n,e1,_,h2⟩:=DataW.trod_int ht hd;have h2:k.min≤n∧n≤k.max:=by simpa [Lit.wf] using h2
 refine ⟨n, ?_,h2⟩;simp only[Value.okWide,ht] at hok;cases v with
 |agg cs=>simp[Cell.okWide,Cell.ok,ht] at hok
 |int k' n'=>simp only[Value.cells,List.cons.injEq] at e1;simpa using e1
 |_=>simp[Value.cells] at e1
def EV (H:Type) (enc:TypeId × Value→H) (P:Program) (w:World) (spare:Nat→Bool) (held:Bool) (e:TypeId) (m:Nat) (p:List AV→Prop):Prop:=
 P.cellsOf e=m∧0<m∧∀ (fuel:Nat) (cs:List Value) (x:DataW H × List MemPlace),cs.length=m→DataW.trod enc P w 0 spare held fuel e cs=some x→∃l,RepL w (fun b=>b<w.heap.size) (fun _=>none) l cs∧p l
theorem zw {a:Addr} {n:Nat} {cs:List Value} (h:w.cells? 0 a n=some cs):cs.length=n∧∀j,j<n→w.cell? (a.add j)=cs[j]? :=by
 unfold World.cells? at h;rw[if_pos (Nat.zero_le _)] at h;refine ⟨by simpa using mapM_some_length h,fun j hj=> ?_⟩;exact mapM_some_get h j j (by simp[hj])
theorem Mn {m:Nat} {p:List AV→Prop} (ht:P.underlying t=some (.slice e)) (he:EV H enc P w spare held e m p) (hok:Value.okWide P w .any base t v) (h:DataW.Trod enc P w 0 spare held t v d ps):
  v= .slice none 0 0∨∃ess:List (List AV),Rep w (fun b=>b<w.heap.size) (fun _=>none) (.fsl false (ess.map mq)) v∧(∀c∈ess,p c∧c.length=m)∧ess.length≤maxLen:=by
 obtain ⟨hm,hpos,hread⟩:=he;obtain ⟨fuel,hd⟩:=h;simp only[Value.okWide,ht] at hok;have hv:v.cells.toList=[v]:=by
  cases v with
  |agg cs=>simp[Cell.okWide,Cell.ok,ht] at hok
  |_=>rfl
 rw[hv] at hd;rcases DataW.trod_slice ht hd with ⟨e1,_⟩|⟨a,len,cap,elems,rest,n,_,e1,_,_,hlc,hcap,hel,hget,_,_⟩
 ·left;simpa using e1
 ·right;have e1:v= .slice (some a) len cap:=by simpa using e1
  subst e1;have hspot:a.spot=none:=by
   simp only[Cell.okWide,Cell.ok,ht,World.has] at hok;exact hok.2.2.2.1
  rw[hm] at hget;have each:∀i,i<len→∃x:List AV × List Value,w.cells? 0 (a.add (i*m)) m=some x.2∧RepL w (fun b=>b<w.heap.size) (fun _=>none) x.1 x.2∧p x.1∧x.1.length=m:=fun i hi=>by
   have h1:=hget i hi;have h2:elems[i]? ≠none:=by
    rw[List.getElem?_eq_getElem (by omega)];simp
   cases hc:w.cells? 0 (a.add (i*m)) m with
   |none=>rw[hc] at h1;exact absurd h1.symm h2
   | some cs=>
    rw[hc] at h1;simp only[Option.bind_some] at h1;cases hx:elems[i]? with
    |none=>exact absurd hx h2
    |some x=>
     rw[hx] at h1;obtain ⟨l,hl,hp⟩:=hread n cs x (zw hc).1 h1;exact ⟨(l,cs),rfl,hl,hp,by rw[hl.1];exact (zw hc).1⟩
  obtain ⟨xs,hlen,hxs⟩:=EU len each;refine ⟨xs.map (·.1), ?_,fun c hc=> ?_, ?_⟩
  ·have hat:∀ (i:Nat) (u:AV),(List.map mq (xs.map (·.1)))[i]? =some u→∃x:List AV × List Value,xs[i]? =some x∧u=mq x.1:=fun i u hu=>by
    rw[List.getElem?_map,List.getElem?_map] at hu;cases hx:xs[i]? with
    |none=>rw[hx] at hu;cases hu
    |some x=>rw[hx] at hu;exact ⟨x,rfl,by simpa using hu.symm⟩
   refine .fsl false _ (some a) len cap m a.block a.off (fun i j=>((xs[i]?.map (·.2)).getD [])[j]?.getD default) (by simp[hlen]) hlc (fun h=>by cases h) (.inl (by rw[←hspot])) (fun hne=> ?_) (fun u hu=> ?_) (fun i u j c hu hc=> ?_) (fun i u j c hu hc=> ?_)
   ·have hpos':0<len:=by
     rcases Nat.eq_zero_or_pos len with h0|h0
     ·have:xs=[]:=List.length_eq_zero_iff.1 (by omega);subst this;exact absurd rfl hne
     ·exact h0
    obtain ⟨x,hx⟩:∃x,xs[0]? =some x:=⟨xs[0]'(by omega),List.getElem?_eq_getElem (by omega)⟩;have:=World.cells?_block (hxs 0 x hx).1 hpos;rw[zu hspot] at this;exact this
   ·obtain ⟨i,hi⟩:=List.getElem?_of_mem hu;obtain ⟨x,hx,rfl⟩:=hat i u hi;rw[sF];exact (hxs i x hx).2.2.2
   ·obtain ⟨x,hx,rfl⟩:=hat i u hu;rw[sF] at hc;obtain ⟨h1,h2,h3,h4⟩:=hxs i x hx;obtain ⟨y,hy,_⟩:=h2.get hc;have hj:j<m:=by rw[←h4];exact (List.getElem?_eq_some_iff.1 hc).1
    have:=(zw h1).2 j hj;rw[zu hspot,zu rfl] at this;simp only[hx,Option.map_some,Option.getD_some,hy];rw[this,hy]
   ·obtain ⟨x,hx,rfl⟩:=hat i u hu;rw[sF] at hc;obtain ⟨h1,h2,h3,h4⟩:=hxs i x hx;obtain ⟨y,hy,hr⟩:=h2.get hc;simpa only[hx,Option.map_some,Option.getD_some,hy] using hr
  ·obtain ⟨x,hx,rfl⟩:=List.mem_map.1 hc;obtain ⟨i,hi⟩:=List.getElem?_of_mem hx;exact (hxs i x hi).2.2
  ·simp only[List.length_map,hlen];exact Nat.le_trans hlc hcap
theorem Mo {i:TypeId} {k:IntKind} {f0 f1 f2 f3:Field} (ht:P.underlying e=some (.struct #[f0,f1,f2,f3])) (h0:f0.type=i∧f0.offset=0) (h1:f1.type=i∧f1.offset=1) (h2:f2.type=i∧f2.offset=2) (h3:f3.type=i∧f3.offset=3)
  (he:P.underlying i=some (.int k)) (hc:P.cellsOf i=1) (hs:P.cellsOf e=4):EV H enc P w spare held e 4 fun l=>∃a b c z:Int,l=[.int k a,.int k b,.int k c,.int k z]∧(k.min≤a∧a≤k.max)∧(k.min≤b∧b≤k.max)∧(k.min≤c∧c≤k.max)∧(k.min≤z∧z≤k.max):=by
 refine ⟨hs,by omega,fun fuel cs x hl h=> ?_⟩;obtain ⟨xs,n,_,_,_,hxl,hel⟩:=DataW.trod_struct ht h;have at':∀ (j:Nat) (f:Field),j<4→ #[f0,f1,f2,f3][j]? =some f→f.type=i→f.offset=j→∃z,cs[j]? =some (.int k z)∧k.min≤z∧z≤k.max:=fun j f hj hf hte ho=>by
  have hE:=hel j f hf;rw[hte,hc,ho,List.getElem?_eq_getElem (by rw[hxl];simpa using hj)] at hE;obtain ⟨z,e1,_,hw⟩:=DataW.trod_int he hE;have e7:((cs.drop j).take 1)[0]? =some (.int k z):=by rw[e1];rfl
  rw[List.getElem?_take_of_lt (by omega),List.getElem?_drop] at e7;exact ⟨z,by simpa using e7,by simpa [Lit.wf] using hw⟩
 obtain ⟨a,ha,wa⟩:=at' 0 f0 (by omega) rfl h0.1 h0.2;obtain ⟨b,hb,wb⟩:=at' 1 f1 (by omega) rfl h1.1 h1.2;obtain ⟨c,hc',wc⟩:=at' 2 f2 (by omega) rfl h2.1 h2.2;obtain ⟨z,hz,wz⟩:=at' 3 f3 (by omega) rfl h3.1 h3.2;refine ⟨[.int k a,.int k b,.int k c,.int k z], ?_,a,b,c,z,rfl,wa,wb,wc,wz⟩;have:cs=[.int k a,.int k b,.int k c,.int k z]:=by
  apply List.ext_getElem?;intro j
  match j with
  |0=>exact ha
  |1=>exact hb
  |2=>exact hc'
  |3=>exact hz
  |j+4=>rw[List.getElem?_eq_none (by omega),List.getElem?_eq_none (by simp)]
 subst this;exact .cons (.int _ _) (.cons (.int _ _) (.cons (.int _ _) (.cons (.int _ _) .nil)))
end
end Go.Proofs.Abs
/- States seen anew, with rows that are written no more made part of the values. -/
namespace Go.Proofs.Abs
open Go
def qd (m:Nat) (h:ah):Blk→Blk→Prop
 | .cells l,.cells l'=>FrzL m h l l'
 | .siter s p,.siter s' p'=>s=s'∧p=p'
 | .mapb c s l,.mapb c' s' l'=>c=c'∧s=s'∧∃d,pL (bi m h d) l=some l'
 | .miter m a b c,.miter m' a' b' c'=>m=m'∧a=a'∧b=b'∧c=c'
 |_,_=>False
section
variable {G:aZ} {w:World} {I:Nat→Prop} {α:Nat→Option Nat} {H:ah}
theorem EW {m b:Nat} {b0 b1:Blk} (r:Rel G w I α H) (hf:qd m H b0 b1) (h:BRel w I α b b0):BRel w (eG I α H m) α b b1:=by
 cases b0 with
 | cells l=>cases b1 with
  |cells l'=>
   obtain ⟨d,hl'⟩:=hf;obtain ⟨c,e,h1,h2,h3⟩:=h;have hlen:=(mB hl').1;have h4:=(kc r m d).list hl' h3;exact ⟨c,e,h1,by rw[hlen];exact h2,by rw[hlen];exact h4⟩
  |_=>exact hf.elim
 |siter s p=>cases b1 with
  |siter s' p'=>obtain ⟨rfl,rfl⟩:=hf;exact h
  |_=>exact hf.elim
 |miter m a b c=>cases b1 with
  |miter m' a' b' c'=>obtain ⟨rfl,rfl,rfl,rfl⟩:=hf;exact h
  |_=>exact hf.elim
 | mapb c s l=>cases b1 with
  |mapb c' s' l'=>
   obtain ⟨rfl,rfl,d,hes⟩:=hf;obtain ⟨en,h1,h2,h4,h3⟩:=h;obtain ⟨k1,k2⟩:=yI (kc r m d) hes;refine ⟨en,h1,by rw[k1];exact h2,h4,fun i x' y e1 e2=> ?_⟩;obtain ⟨x,g1,g2,g3⟩:=k2 i x' e1;obtain ⟨q1,q2⟩:=h3 i x y g1 e2;exact ⟨g2 _ q1,g3 _ q2⟩
  |_=>exact hf.elim
end
section
variable {G:aZ} {w0:World} {I0:Nat→Prop} {α0:Nat→Option Nat} {H0:ah} {nx0:Nat} {D:List Deferred}
theorem CR.freeze {s s2:St} {a:Act} {w:World} (m:Nat) (h:CR G w0 I0 α0 H0 nx0 D s a w) (hn:s2.n=s.n) (hnx:s2.nx=s.nx)
  (hS:∀k v,s2.slots.get k=some v→∃u,s.slots.get k=some u∧Frz m s.heap u v)
  (hH:∀i b,hget s2.heap i=some b→i<m∧∃b1,hget s.heap i=some b1∧qd m s.heap b1 b):CR G w0 I0 α0 H0 nx0 D s2 a w:=by
 obtain ⟨⟨I,α,ev,rel,hs,_,hf,hnew⟩,h7,h8,h9,h10,h11⟩:=h;have hlive:∀i,hget s2.heap i≠none→i<m∧hget s.heap i≠none:=fun i hi=>by
  cases hb:hget s2.heap i with
  |none=>exact absurd hb hi
  |some b=>
   obtain ⟨h1,b1,h2,_⟩:=hH i b hb;exact ⟨h1,by rw[h2];simp⟩
 have hown:∀b,cP α s2.heap b→cP α s.heap b:=fun b ⟨i,h1,h2⟩=>⟨i,(hlive i h1).2,h2⟩;refine ⟨⟨eG I α s.heap m,α,⟨ev.os,fun b hb=> .inl (ev.I_mono b hb),ev.α_mono,ev.size,ev.frame,ev.shape,fun b hb=> ?_,fun b hb=>ev.own b (hown b hb)⟩, ?_, ?_,fun i hi=>absurd hi (Nat.not_lt_zero i),fun id hid=>hf id (by rw[hnx] at hid;exact hid),fun id hid=> ?_⟩,Nat.le_refl _,by rw[hnx];exact h8,h9,by rw[hn];exact h10,by rw[hn];exact h11⟩
 ·rcases hb with hb|⟨id,_,h2,h3⟩
  ·exact ev.Inew b hb
  ·rcases ev.own b ⟨id,h2,h3⟩ with h|h
   ·exact .inr (.inl h)
   ·exact .inr (.inr h)
 ·exact
  {live:=fun i blk hi=>by
    obtain ⟨hm,b1,e2,e3⟩:=hH i blk hi;obtain ⟨b,k1,k2,k3⟩:=rel.live i b1 e2;refine ⟨b,k1, ?_,EW rel e3 k3⟩;rintro (hb|⟨id,h1,h2,h3⟩)
    ·exact k2 hb
    ·have:=rel.inj id i b h2 (by rw[e2];simp) h3 k1;omega
   inj:=fun i i' b h1 h2 h3 h4=>rel.inj i i' b (hlive i h1).2 (hlive i' h2).2 h3 h4
   imm:=fun b hb=>by
    rcases hb with hb|⟨id,_,_,h3⟩
    ·exact rel.imm b hb
    ·exact rel.dom id b h3
   dom:=rel.dom
   glob:=fun g l hgl=>by
    obtain ⟨h1,h2⟩:=rel.glob g l hgl;refine ⟨.inl h1,fun j x hx=> ?_⟩;obtain ⟨y,e1,e2⟩:=h2 j x hx;exact ⟨y,e1,e2.mono (fun _ h=> .inl h) (fun _ _ h=>h) (fun _ _ _=>rfl) (fun _ _ _=>rfl)⟩}
 ·intro k v hv;obtain ⟨u,e1,d,e2⟩:=hS k v hv;obtain ⟨y,e3,e4⟩:=hs k u e1;exact ⟨y,e3,kc rel m d _ _ _ e2 e4⟩
 ·rw[hnx];exact hnew id hid
end
end Go.Proofs.Abs
/- Loops: states by number, seen anew behind each round. -/
namespace Go.Proofs.Abs
open Go
def s6 (lk:List (Nat × Nat)):AV→AV→Prop
 | .ptr i o,u=>match u with
  | .ptr j p=>bF lk i=some j∧o=p
  |_=>False
 | .rsl w i o l z,u=>match u with
  | .rsl w' j o' l' z'=>w=w'∧bF lk i=some j∧o=o'∧l=l'∧z=z'
  |_=>False
 | .map i,u=>match u with
  | .map j=>bF lk i=some j
  |_=>False
 |v,u=>u=v∧ag v=true
theorem vo {lk:List (Nat × Nat)} {v u:AV} (h:s6 lk v u):de lk v u:=by
 unfold s6 at h;split at h
 ·split at h
  ·obtain ⟨h1,rfl⟩:=h;exact .ptr _ _ _ h1
  ·exact h.elim
 ·split at h
  ·obtain ⟨rfl,h1,rfl,rfl,rfl⟩:=h;exact .rsl _ _ _ _ _ _ h1
  ·exact h.elim
 ·split at h
  ·exact .map _ _ h
  ·exact h.elim
 ·obtain ⟨rfl,hc⟩:=h;exact .same _ hc
def qe (lk:List (Nat × Nat)):List AV→List AV→Prop
 |[],[]=>True
 |a::t,b::u=>s6 lk a b∧qe lk t u
 |_,_=>False
theorem EX {lk:List (Nat × Nat)}:∀ {l l':List AV},qe lk l l'→l.length=l'.length∧∀ (i:Nat) x y,l[i]? =some x→l'[i]? =some y→de lk x y
 |[],[],_=>⟨rfl,fun i x y h=>by simp at h⟩
 |a::t,b::u,h=>by
  obtain ⟨h1,h2⟩:=EX h.2;refine ⟨by simp[h1],fun i x y hx hy=> ?_⟩;cases i with
  |zero=>simp only[List.getElem?_cons_zero,sInjQ] at hx hy;subst hx;subst hy;exact vo h.1
  |succ i=>exact h2 i x y (by simpa using hx) (by simpa using hy)
 |[],_::_,h=>h.elim
 |_::_,[],h=>h.elim
def zx (lk:List (Nat × Nat)):AV→AV→Prop
 | .func fn f c,u=>match u with
  | .func fn' f' c'=>(fn=fn'∧f=f'∧ae f=true)∧qe lk c c'
  |_=>False
 | .iface t v,u=>match u with
  | .iface t' v'=>t=t'∧s6 lk v v'
  |_=>False
 |v,u=>s6 lk v u
theorem Mp {lk:List (Nat × Nat)} {v u:AV} (h:zx lk v u):de lk v u:=by
 unfold zx at h;split at h
 ·split at h
  ·obtain ⟨⟨rfl,rfl,hf⟩,hc⟩:=h;obtain ⟨h1,h2⟩:=EX hc;exact .func _ _ _ _ hf h1 h2
  ·exact h.elim
 ·split at h
  ·obtain ⟨rfl,h⟩:=h;exact .iface _ (vo h)
  ·exact h.elim
 ·exact vo h
inductive Mode where
 |whole
 |each
 |rel
 |split (pre suf old:List AV)
structure br (lk:List (Nat × Nat)) (l l':List AV):Prop where
 out:RenL lk l l'
def vp:List (AV × AV)→Bool
 |[]=>true
 |(a,b)::t=>ag a&&(ag b&&vp t)
theorem RenP.same (lk:List (Nat × Nat)):∀ {l:List (AV × AV)},vp l=true→RenP lk l l
 |[],_=>trivial
 |(a,b)::t,h=>by
  simp only[vp,Bool.and_eq_true] at h;exact ⟨.same a h.1,.same b h.2.1,RenP.same lk h.2.2⟩
def zy (lk:List (Nat × Nat)) (mode:Mode):Blk→Blk→Prop
 | .cells l,.cells l'=>match mode with
  | .whole=>l'=l∧ae l=true
  | .each=>qe lk l l'
  | .rel=>br lk l l'
  | .split pre suf old=>(l=pre++suf∧l'=pre++old)∧(ae pre=true∧qe lk suf old)
 | .siter s p,.siter s' p'=>s=s'∧p=p'
 | .miter m a b c,.miter m' a' b' c'=>a=a'∧b=b'∧c=c'∧bF lk m=some m'
 | .mapb c s l,.mapb c' s' l'=>(c=c'∧s=s'∧l'=l)∧vp l=true
 |_,_=>False
theorem zz {lk:List (Nat × Nat)}:∀ {l l':List AV},qe lk l l'→RenL lk l l'
 |[],[],_=>trivial
 |_a::_t,_b::_u,h=>⟨vo h.1,zz h.2⟩
 |[],_::_,h=>h.elim
 |_::_,[],h=>h.elim
theorem RenL.append' {lk:List (Nat × Nat)}:∀ {a b c d:List AV},RenL lk a b→RenL lk c d→RenL lk (a++c) (b++d)
 |[],[],_,_,_,h=>h
 |_::_,_::_,_,_,h1,h2=>⟨h1.1,RenL.append' h1.2 h2⟩
 |[],_::_,_,_,h,_=>h.elim
 |_::_,[],_,_,h,_=>h.elim
theorem Mq {lk:List (Nat × Nat)} {wh:Mode} {b b':Blk} (h:zy lk wh b b'):kY lk b b':=by
 cases b with
 | cells l=>cases b' with
  | cells l'=>
   simp only[zy] at h;split at h
   ·obtain ⟨rfl,hc⟩:=h;exact RenL.same lk hc
   ·exact zz h
   ·exact h.out
   ·obtain ⟨⟨rfl,rfl⟩,hc,h⟩:=h;exact RenL.append' (RenL.same lk hc) (zz h)
  |_=>exact h.elim
 |siter s p=>cases b' with
  |siter s' p'=>exact h
  |_=>exact h.elim
 |miter m a b c'=>cases b' with
  |miter m' a' b' c'=>exact h
  |_=>exact h.elim
 | mapb c s l=>cases b' with
  |mapb c' s' l'=>
   obtain ⟨⟨rfl,rfl,rfl⟩,hc⟩:=h;exact ⟨rfl,rfl,RenP.same lk hc⟩
  |_=>exact h.elim
abbrev Heap2:=List (Nat × Blk × Mode)
def Heap2.heap:Heap2→ah
 |[]=>[]
 |(i,b,_)::t=>(i,some b)::Heap2.heap t
def zA (lk:List (Nat × Nat)) (g:Nat→Option AV):List (Nat × AV)→Prop
 |[]=>True
 |(k,v)::t=>(match g k with
  |some u=>zx lk v u
  |none=>False)∧zA lk g t
def zB (g:Nat→Option AV):List (Nat × AV)→Prop
 |[]=>True
 |(k,v)::t=>(match g k with
  |some u=>u=v∧ag v=true
  |none=>False)∧zB g t
def zD (lk:List (Nat × Nat)) (g:Nat→Option Blk):Heap2→Prop
 |[]=>True
 | (i,b,wh)::t=>(match bF lk i with
  |some j=>match g j with
   |some c=>zy lk wh b c
   |none=>False
  |none=>False)∧zD lk g t
structure View where
 slots:List (Nat × AV)
 refs:List (Nat × AV)
 heap:Heap2
 nx:Nat
 n:Nat
noncomputable def View.st (V:View):St:=⟨sl (V.slots++V.refs),V.heap.heap,V.nx,V.n⟩
def vq:List Nat→Bool
 |[]=>true
 |a::t=> !fX t a&&vq t
def zE (nx0 nx:Nat) (lk:List (Nat × Nat)):Bool:=vq (lk.map (·.2))&&(nU (lk.map (·.1)) nx&&Nat.ble nx0 nx)
def vr (lk:List (Nat × Nat)):Nat→Bool
 |0=>true
 |n+1=>(match bF lk n with
  |some j=>Nat.beq j n
  |none=>false)&&vr lk n
def dr (nx0:Nat) (lk:List (Nat × Nat)) (V:View) (s:St):Prop:=
 aw (zE nx0 V.nx lk&&(vr lk nx0&&Nat.beq V.n s.n)) (zB s.slots.get V.slots∧(zA lk s.slots.get V.refs∧zD lk (hget s.heap) V.heap))
def Says2 (G:aZ) (nx0:Nat) (s s2:St):Prop:=
 ∀w0 I0 α0 H0 D a w,(∀id,nx0≤id→α0 id=none)→CR G w0 I0 α0 H0 nx0 D s a w→CR G w0 I0 α0 H0 nx0 D s2 a w
theorem zF:∀ {l:List Nat},vq l=true→l.Nodup
 |[],_=> .nil
 |a::t,h=>by
  simp only[vq,Bool.and_eq_true,Bool.not_eq_true'] at h;refine List.nodup_cons.2 ⟨fun hm=> ?_,zF h.2⟩;rw[memN_iff.2 hm] at h;exact Bool.noConfusion h.1
theorem zG {lk:List (Nat × Nat)}:∀ {n:Nat},vr lk n=true→∀i,i<n→bF lk i=some i
 |0,_=>by simp
 | n+1,h=>fun i hi=>by
  simp only[vr,Bool.and_eq_true] at h;rcases Nat.lt_or_ge i n with h'|h'
  ·exact zG h.2 i h'
  ·have:i=n:=by omega
   subst this;have h1:=h.1;split at h1
   ·rename_i j hj;rw[hj,beq_iff.1 h1]
   ·cases h1
theorem zH {H2:Heap2} {i:Nat} {b:Blk} (h:hget H2.heap i=some b):∃wh,(i,b,wh)∈H2:=by
 induction H2 with
 |nil=>simp[Heap2.heap,hget] at h
 | cons p t ih=>
  obtain ⟨j,c,wh⟩:=p;simp only[Heap2.heap,hget] at h;split at h
  ·rename_i he;have he:=beq_iff.1 he;simp only[sInjQ] at h;subst he;subst h;exact ⟨wh,by simp⟩
  ·obtain ⟨wh,hm⟩:=ih h;exact ⟨wh,by simp[hm]⟩
theorem zI {lk:List (Nat × Nat)} {g:Nat→Option AV}:∀ {L:List (Nat × AV)},zA lk g L→∀k v,(k,v)∈L→∃u,g k=some u∧de lk v u
 |[],_,_,_,h=>by cases h
 | (k',v')::t,h,k,v,hm=>by
  rcases List.mem_cons.1 hm with e|hm
  ·cases e;have h1:=h.1;split at h1
   ·rename_i u hu;exact ⟨u,hu,Mp h1⟩
   ·exact h1.elim
  ·exact zI h.2 k v hm
theorem zJ {lk:List (Nat × Nat)} {g:Nat→Option AV}:∀ {L:List (Nat × AV)},zB g L→∀k v,(k,v)∈L→∃u,g k=some u∧de lk v u
 |[],_,_,_,h=>by cases h
 | (k',v')::t,h,k,v,hm=>by
  rcases List.mem_cons.1 hm with e|hm
  ·cases e;have h1:=h.1;split at h1
   ·rename_i u hu;obtain ⟨rfl,hc⟩:=h1;exact ⟨u,hu,.same _ hc⟩
   ·exact h1.elim
  ·exact zJ h.2 k v hm
theorem zK {lk:List (Nat × Nat)} {g:Nat→Option Blk}:∀ {H2:Heap2},zD lk g H2→∀i b wh,(i,b,wh)∈H2→∃j b1,bF lk i=some j∧g j=some b1∧kY lk b b1
 |[],_,_,_,_,h=>by cases h
 | (i',b',wh')::t,h,i,b,wh,hm=>by
  rcases List.mem_cons.1 hm with e|hm
  ·cases e;have h1:=h.1;split at h1
   ·rename_i j hj;split at h1
    ·rename_i c hc;exact ⟨j,c,hj,hc,Mq h1⟩
    ·exact h1.elim
   ·exact h1.elim
  ·exact zK h.2 i b wh hm
theorem qf {G:aZ} {nx0:Nat} {lk:List (Nat × Nat)} {V:View} {s:St} (hg:∀g l,G g=some l→ae l=true) (h:dr nx0 lk V s):Says2 G nx0 s V.st:=by
 obtain ⟨hb,h0,h1,h2⟩:=oblB_iff.1 h;simp only[zE,Bool.and_eq_true] at hb;obtain ⟨⟨b1,b2,b3⟩,b4,b5⟩:=hb;intro w0 I0 α0 H0 D a w hα hr;refine hr.turnIn lk hg hα (beq_iff.1 b5) (fun k v hv=>by
  rcases List.mem_append.1 (sP hv) with hm|hm
  ·exact zJ h0 k v hm
  ·exact zI h1 k v hm) (fun i b hi=> ?_) (zF b1) (fun i hi=> ?_) (zG b4) (Nat.le_of_ble_eq_true b3)
 ·obtain ⟨wh,hm⟩:=zH hi;exact zK h2 i b wh hm
 ·cases hl:bF lk i with
  |none=>rfl
  |some j=>
   have:=ka b2 i (List.mem_map.2 ⟨_,mH hl,rfl⟩);have hi:V.nx≤i:=hi;omega
def zM (m:Nat) (h:ah) (g:Nat→Option AV):List (Nat × AV)→Prop
 |[]=>True
 |(k,v)::t=>(match g k with
  |some u=>Frz m h u v
  |none=>False)∧zM m h g t
def zN (m:Nat) (h:ah):Heap2→Prop
 |[]=>True
 |(i,b,_)::t=>(aw (Nat.blt i m) (match hget h i with
  |some c=>qd m h c b
  |none=>False))∧zN m h t
theorem EY {m:Nat} {h:ah} {g:Nat→Option AV}:∀ {L:List (Nat × AV)},zM m h g L→∀k v,(k,v)∈L→∃u,g k=some u∧Frz m h u v
 |[],_,_,_,h=>by cases h
 | (k',v')::t,h,k,v,hm=>by
  rcases List.mem_cons.1 hm with e|hm
  ·cases e;have h1:=h.1;split at h1
   ·rename_i u hu;exact ⟨u,hu,h1⟩
   ·exact h1.elim
  ·exact EY h.2 k v hm
theorem EZ {m:Nat} {h:ah}:∀ {H2:Heap2},zN m h H2→∀i b wh,(i,b,wh)∈H2→i<m∧∃b1,hget h i=some b1∧qd m h b1 b
 |[],_,_,_,_,h=>by cases h
 | (i',b',wh')::t,h,i,b,wh,hm=>by
  rcases List.mem_cons.1 hm with e|hm
  ·cases e;obtain ⟨hb,h1⟩:=oblB_iff.1 h.1;refine ⟨blt_iff.1 hb, ?_⟩;split at h1
   ·rename_i c hc;exact ⟨c,hc,h1⟩
   ·exact h1.elim
  ·exact EZ h.2 i b wh hm
theorem Says2.trans {G:aZ} {nx0:Nat} {s s1 s2:St} (h1:Says2 G nx0 s s1) (h2:Says2 G nx0 s1 s2):Says2 G nx0 s s2:=fun w0 I0 α0 H0 D a w hα hr=>h2 w0 I0 α0 H0 D a w hα (h1 w0 I0 α0 H0 D a w hα hr)
theorem Says2.refl {G:aZ} {nx0:Nat} {s:St}:Says2 G nx0 s s:=fun _ _ _ _ _ _ _ _ h=>h
section
variable {P:Program} {G:aZ} {nx0:Nat} {s s2:St} {Q Q':AExit→St→Prop}
theorem AWp.says {c:Code} (hs:Says2 G nx0 s s2) (h:AWp P G nx0 c s2 Q):AWp P G nx0 c s Q:=
 ⟨fun w0 I0 α0 H0 D a w hα hr=>h.out w0 I0 α0 H0 D a w hα (hs w0 I0 α0 H0 D a w hα hr)⟩
theorem AWp.saysEnd {c:Code} (h:AWp P G nx0 c s Q) (hq:∀e s',Q e s'→∃s2,Says2 G nx0 s' s2∧Q' e s2):AWp P G nx0 c s Q':=
 ⟨fun w0 I0 α0 H0 D a w hα hr=>wp_mono (h.out w0 I0 α0 H0 D a w hα hr) fun _ _ _ ⟨x,s',h1,h2,h3⟩=>by
  obtain ⟨s2,k1,k2⟩:=hq x s' h3;exact ⟨x,s2,h1,k1 w0 I0 α0 H0 D _ _ hα h2,k2⟩⟩
end
def cV (r0:Nat) (L:bV):Nat→Option bV:=fun r=>match Nat.beq r r0 with
 |true=>some L
 |false=>none
def qg:bw:=fun _ _ _ _ _=>none
noncomputable def s7 (hint:Nat→Nat→Option eW) (ls:Nat→Option bV):bz:=⟨hint,ls,qg,aR,zf,jI⟩
theorem Mr {P:Program} {O:bB} {hint:Nat→Nat→Option eW} {ls:Nat→Option bV} (h:∀f args v,O.summ f args=some v→SemCall P O.glob f args v):dH P O (s7 hint ls):=⟨vl,h,fun _ _ h=>(by cases h),fun _ _ h=>(by cases h)⟩
noncomputable def zP (hint:Nat→Nat→Option eW) (ls:Nat→Option bV) (sem:fy):bz:=⟨hint,ls,qg,sem,zf,jI⟩
theorem zQ {P:Program} {O:bB} {hint:Nat→Nat→Option eW} {ls:Nat→Option bV} {sem:fy} (h:∀f args v,O.summ f args=some v→SemCall P O.glob f args v):dH P O (zP hint ls sem):=⟨vl,h,fun _ _ h=>(by cases h),fun _ _ h=>(by cases h)⟩
theorem LsOk.none {P:Program} {G:aZ} {nx0:Nat} {c:Code} {hint:Nat→Nat→Option eW}:LsOk P G nx0 (s7 hint (fun _=>Option.none)) c:=fun r L hL=>by cases hL
theorem LsOk.one {P:Program} {G:aZ} {nx0 r0:Nat} {L0:bV} {c b:Code} {hint:Nat→Nat→Option eW} (hat:bW c r0=[b]) (h:∀s Q,L0 s Q→AWp P G nx0 (.loop b) s Q):LsOk P G nx0 (s7 hint (cV r0 L0)) c:=by
 intro r L hL x hx s Q hs;simp only[s7,cV] at hL;split at hL
 ·rename_i hr;have hr:=beq_iff.1 hr;simp only[sInjQ] at hL;rw[hr,hat,List.mem_singleton] at hx;rw[hx];rw[←hL] at hs;exact h s Q hs
 ·cases hL
def ll:List (Nat × bV)→Nat→Option bV
 |[],_=>none
 |(r,L)::t,k=>match Nat.beq k r with
  |true=>some L
  |false=>ll t k
def vt:List (Nat × Nat × eW)→Nat→Nat→Option eW
 |[],_,_=>none
 |(r,i,h)::t,k,j=>match Nat.beq k r&&Nat.beq j i with
  |true=>some h
  |false=>vt t k j
theorem LsOk.no {P:Program} {G:aZ} {nx0:Nat} {c:Code} {A:bz} (h:A.ls=fun _=>Option.none):LsOk P G nx0 A c:=fun r L hL=>by rw[h] at hL;cases hL
theorem E8:∀ {l:List (Nat × bV)} {r:Nat} {L:bV},ll l r=some L→(r,L)∈l
 |[],_,_,h=>by cases h
 | (r0,L0)::t,r,L,h=>by
  simp only[ll] at h;split at h
  ·rename_i hr;have hr:=beq_iff.1 hr;simp only[sInjQ] at h;subst hr;subst h;exact List.mem_cons_self ..
  ·exact List.mem_cons_of_mem _ (E8 h)
theorem LsOk.many {P:Program} {G:aZ} {nx0:Nat} {l:List (Nat × bV)} {c:Code} {A:bz} (hA:A.ls=ll l) (h:∀p∈l,∀b∈bW c p.1,∀s Q,p.2 s Q→AWp P G nx0 (.loop b) s Q):LsOk P G nx0 A c:=by
 intro r L hL x hx s Q hs;rw[hA] at hL;exact h (r,L) (E8 hL) x hx s Q hs
def dI (P:Program) (f:FuncId):Code:=match P.funcs[f]? with
 |some fn=>match fn.body with
  |some c=>c
  |none=> .skip
 |none=> .skip
def aJ (P:Program) (f r:Nat):Code:=match bW (dI P f) r with
 |b::_=>b
 |[]=> .skip
theorem Ms {P:Program} {f:FuncId} {fn:Func} {c:Code} (h1:P.funcs[f]? =some fn) (h2:fn.body=some c):c=dI P f:=by
 unfold dI;rw[h1];simp only;rw[h2]
theorem aG {P:Program} {G:aZ} {nx0:Nat} {A:bz} {f:FuncId} (h:LsOk P G nx0 A (dI P f)):jL P G nx0 A f:=fun fn c h1 h2=>by rw[Ms h1 h2];exact h
end Go.Proofs.Abs
/- Calls that make blocks, known from a heap of their own. -/
namespace Go.Proofs.Abs
open Go
def shl (nx m:Nat):List (Nat × Nat):=(List.range m).map fun k=>(nx+k,k)
theorem Mt {l:List (Nat × Nat)} (h:(l.map (·.1)).Nodup) {i j:Nat} (hm:(i,j)∈l):bF l i=some j:=by
 induction l with
 |nil=>cases hm
 | cons p t ih=>
  obtain ⟨a,b⟩:=p;simp only[List.map_cons,List.nodup_cons] at h;simp only[bF];rcases List.mem_cons.1 hm with e|hm
  ·cases e;simp
  ·split
   ·rename_i he;have he:=beq_iff.1 he;exact absurd (List.mem_map.2 ⟨_,hm,by simp[he]⟩) h.1
   ·exact ih h.2 hm
theorem s8 {nx m i:Nat}:bF (shl nx m) i=if nx≤i∧i<nx+m then some (i-nx) else none:=by
 split
 ·rename_i h;refine Mt ?_ ?_
  ·unfold shl;rw[List.map_map];rw[List.nodup_iff_pairwise_ne,List.pairwise_map];refine (List.nodup_range (n:=m)).imp fun {a b} h=> ?_;simpa using h
  ·unfold shl;exact List.mem_map.2 ⟨i-nx,by simp;omega,by simp;omega⟩
 ·rename_i h;cases hl:bF (shl nx m) i with
  |none=>rfl
  |some j=>
   have:=mH hl;unfold shl at this;obtain ⟨k,hk,e⟩:=List.mem_map.1 this;simp at hk e;omega
section
variable {P:Program} {G:aZ} {f:FuncId} {args:List AV} {v v2:AV} {H' H2:ah} {m nx:Nat}
theorem E9 (hg:∀g l,G g=some l→ae l=true) (hcl:ae args=true) (h:dw P G f args [] 0 v H' m) (hV:de (shl nx m) v2 v)
   (hH:∀i b2,hget H2 i=some b2→∃j b,bF (shl nx m) i=some j∧hget H' j=some b∧kY (shl nx m) b2 b):dw P G f args [] nx v2 H2 (nx+m):=by
  intro w I α vs r ha hf;obtain ⟨e1,e2⟩:=h w I (fun _=>none) vs (ox hg r) (mC ha hcl) (fun _ _=>rfl);refine ⟨e1,e2.mono ?_⟩;rintro e w' ⟨u,rfl,⟨⟨I',α',ev,rel,rep,hnew⟩,_⟩⟩;refine ⟨u,rfl,⟨I',fun i=>match bF (shl nx m) i with|some j=>α' j|none=>α i, ?_, ?_, ?_, ?_⟩,by omega⟩
  · have hown:∀b,cP (fun i=>match bF (shl nx m) i with|some j=>α' j|none=>α i) H2 b→cP α' H' b:=fun b ⟨i,h1,h2⟩=>by
     cases hi:hget H2 i with
     |none=>exact absurd hi h1
     | some blk=>
       obtain ⟨j,b1,k1,k2,_⟩:=hH i blk hi;exact ⟨j,by rw[k2];simp,by simpa [k1] using h2⟩
    refine ⟨ev.os,ev.I_mono,fun id b hb=> ?_,ev.size,fun b hb _=>ev.frame b hb ke,ev.shape,fun b hb=> ?_,fun b hb=> ?_⟩
    · have:bF (shl nx m) id=none:=by
       rw[s8,if_neg];intro hc;rw[hf id hc.1] at hb;cases hb
      simp only[this];exact hb
    · rcases ev.Inew b hb with h|h|h
      · exact .inl h
      · exact .inr (.inl h)
      · exact absurd h ke
    · rcases ev.own b (hown b hb) with h|h
      · exact .inl h
      · exact absurd h ke
  · exact
    { live:=fun i blk hi=>by
       obtain ⟨j,b1,k1,k2,k3⟩:=hH i blk hi;obtain ⟨b,q1,q2,q3⟩:=rel.live j b1 k2;exact ⟨b,by simpa [k1] using q1,q2,brel_ext (yX k3 q3)⟩
      inj :=fun i i' b h1 h2 h3 h4=>by
       cases hi:hget H2 i with
       |none=>exact absurd hi h1
       | some blk=>
         cases hi':hget H2 i' with
         |none=>exact absurd hi' h2
         | some blk'=>
           obtain ⟨j,b1,k1,k2,_⟩:=hH i blk hi;obtain ⟨j',b1',k1',k2',_⟩:=hH i' blk' hi';have hj:j=j':=rel.inj j j' b (by rw[k2];simp) (by rw[k2'];simp) (by simpa [k1] using h3) (by simpa [k1'] using h4);rw[s8] at k1 k1';split at k1<;>split at k1'<;>simp_all<;>omega
      imm:=rel.imm
      dom:=fun i b hb=>by
       split at hb
       · exact rel.dom _ b hb
       · exact Nat.lt_of_lt_of_le (r.dom i b hb) ev.size
      glob:=fun g l hgl=>by
       obtain ⟨h1,h2⟩:=rel.glob g l hgl;refine ⟨h1,fun j x hx=> ?_⟩;obtain ⟨y,k1,k2⟩:=h2 j x hx;exact ⟨y,k1,rep_closed k2 (vd (hg g l hgl) hx)⟩}
  · exact rep_ext (pY hV rep)
  · intro i hi;simp only at hi;split at hi
    · rename_i j hj;right;rw[s8] at hj;split at hj
      · assumption
      · cases hj
    · exact .inl hi
 where
  sub {α α':Nat→Option Nat} {nx m:Nat}:∀id b,((bF (shl nx m) id).bind α')=some b→(match bF (shl nx m) id with|some j=>α' j|none=>α id)=some b:=fun id b hb=>by
   cases hl:bF (shl nx m) id with
   |none=>rw[hl] at hb;cases hb
   |some j=>simpa [hl] using hb
  rep_ext {w:World} {I:Nat→Prop} {α α':Nat→Option Nat} {nx m:Nat} {a:AV} {v:Value} (h:Rep w I (fun i=>(bF (shl nx m) i).bind α') a v):Rep w I (fun i=>match bF (shl nx m) i with|some j=>α' j|none=>α i) a v:=
   h.mono (fun _ h=>h) sub (fun _ _ _=>rfl) (fun _ _ _=>rfl)
  brel_ext {w:World} {I:Nat→Prop} {α α':Nat→Option Nat} {nx m b:Nat} {blk:Blk} (h:BRel w I (fun i=>(bF (shl nx m) i).bind α') b blk):BRel w I (fun i=>match bF (shl nx m) i with|some j=>α' j|none=>α i) b blk:=by
   cases blk with
   |cells l=>obtain ⟨c,e,h1,h2,h3⟩:=h;exact ⟨c,e,h1,h2,h3.1,fun i x y hx hy=>rep_ext (h3.2 i x y hx hy)⟩
   |siter s p=>exact h
   |mapb c s es=>obtain ⟨en,h1,h2,h4,h3⟩:=h;exact ⟨en,h1,h2,h4,fun i x y hx hy=>⟨rep_ext (h3 i x y hx hy).1,rep_ext (h3 i x y hx hy).2⟩⟩
   |miter q a b c=>obtain ⟨mb,h1,h2⟩:=h;exact ⟨mb,sub _ _ h1,h2⟩
end
end Go.Proofs.Abs
/- Calls that look at rows and answer plainly, known for closed arguments. -/
namespace Go.Proofs.Abs
open Go
section
variable {P:Program} {G:aZ}
end
end Go.Proofs.Abs
/- The abstract machine, written so that the kernel runs it with less ado; it is the same machine. -/
namespace Go.Proofs.Abs
open Go
noncomputable section
def asInt (x:AV):Option (IntKind × Int):=AV.rec (motive_1:=fun _=>Option (IntKind × Int)) (motive_2:=fun _=>Unit) (fun _=>none) (fun k n=>some (k,n)) (fun _=>none) (fun _ _=>none) (none) (fun _ _ _=>none) (fun _ _=>none) (fun _ _ _=>none) (fun _ _ _ _ _=>none) (none) (none) (fun _=>none) (none) (fun _ _ _ _ _=>none) (none) (fun _ _ _=>none) (none) (fun _ _=>none) (fun _ _=>none) () (fun _ _ _ _=>()) x
def asBool (x:AV):Option Bool:=AV.rec (motive_1:=fun _=>Option Bool) (motive_2:=fun _=>Unit) (fun b=>some b) (fun _ _=>none) (fun _=>none) (fun _ _=>none) (none) (fun _ _ _=>none) (fun _ _=>none) (fun _ _ _=>none) (fun _ _ _ _ _=>none) (none) (none) (fun _=>none) (none) (fun _ _ _ _ _=>none) (none) (fun _ _ _=>none) (none) (fun _ _=>none) (fun _ _=>none) () (fun _ _ _ _=>()) x
inductive VP where
 |ptr (i o:Nat)
 |fptr (cs:List AV) (o:Nat)
 |gptr (g o:Nat)
 |oth
def vu (x:AV):VP:=AV.rec (motive_1:=fun _=>VP) (motive_2:=fun _=>Unit) (fun _=>VP.oth) (fun _ _=>VP.oth) (fun _=>VP.oth) (fun i o=>VP.ptr i o) (VP.oth) (fun cs o _=>VP.fptr cs o) (fun g o=>VP.gptr g o) (fun _ _ _=>VP.oth) (fun _ _ _ _ _=>VP.oth) (VP.oth) (VP.oth) (fun _=>VP.oth) (VP.oth) (fun _ _ _ _ _=>VP.oth) (VP.oth) (fun _ _ _=>VP.oth) (VP.oth) (fun _ _=>VP.oth) (fun _ _=>VP.oth) () (fun _ _ _ _=>()) x
def Mu (x:AV):Option (List AV):=AV.rec (motive_1:=fun _=>Option (List AV)) (motive_2:=fun _=>Unit) (fun _=>none) (fun _ _=>none) (fun _=>none) (fun _ _=>none) (none) (fun _ _ _=>none) (fun _ _=>none) (fun _ _ _=>none) (fun _ _ _ _ _=>none) (none) (none) (fun _=>none) (none) (fun _ _ _ _ _=>none) (none) (fun _ _ _=>none) (none) (fun _ _=>none) (fun cs _=>some cs) () (fun _ _ _ _=>()) x
inductive VS where
 |fsl (f:Bool) (es:List AV)
 |rsl (w:Bool) (i o l z:Nat)
 |oth
def s9 (x:AV):VS:=AV.rec (motive_1:=fun _=>VS) (motive_2:=fun _=>Unit) (fun _=>VS.oth) (fun _ _=>VS.oth) (fun _=>VS.oth) (fun _ _=>VS.oth) (VS.oth) (fun _ _ _=>VS.oth) (fun _ _=>VS.oth) (fun f es _=>VS.fsl f es) (fun w i o l z=>VS.rsl w i o l z) (VS.oth) (VS.oth) (fun _=>VS.oth) (VS.oth) (fun _ _ _ _ _=>VS.oth) (VS.oth) (fun _ _ _=>VS.oth) (VS.oth) (fun _ _=>VS.oth) (fun _ _=>VS.oth) () (fun _ _ _ _=>()) x
def vw (x:AV):List AV:=AV.rec (motive_1:=fun _=>List AV) (motive_2:=fun _=>Unit) (fun b=>[.bool b]) (fun k n=>[.int k n]) (fun s=>[.str s]) (fun i o=>[.ptr i o]) ([.nilp]) (fun cs o _=>[.fptr cs o]) (fun g o=>[.gptr g o]) (fun f es _=>[.fsl f es]) (fun w i o l z=>[.rsl w i o l z]) ([.nilsl]) ([.nesl]) (fun i=>[.map i]) ([.nilmap]) (fun fn a c _ _=>[.func fn a c]) ([.nilFunc]) (fun t v _=>[.iface t v]) ([.nilIface]) (fun cs _=>cs) (fun cs _=>[.tuple cs]) () (fun _ _ _ _=>()) x
def zR (x:AV):Bool:=AV.rec (motive_1:=fun _=>Bool) (motive_2:=fun _=>Unit) (fun _=>true) (fun _ _=>true) (fun _=>true) (fun _ _=>true) (true) (fun _ _ _=>true) (fun _ _=>true) (fun _ _ _=>true) (fun _ _ _ _ _=>true) (true) (true) (fun _=>true) (true) (fun _ _ _ _ _=>true) (true) (fun _ _ _=>true) (true) (fun _ _=>false) (fun _ _=>false) () (fun _ _ _ _=>()) x
def zS (l:List AV):Bool:=List.rec true (fun a _ ih=>zR a&&ih) l
theorem zT {x:AV} {p:IntKind × Int} (h:asInt x=some p):x= .int p.1 p.2:=by cases x<;>simp[asInt] at h<;>(subst h;rfl)
theorem Mv:vw=AV.cells:=by funext x;cases x<;>rfl
theorem Mw:zR=AV.one:=by funext x;cases x<;>rfl
theorem Mx:zS=bq:=by
 funext l
 induction l with
 |nil=>rfl
 |cons a t ih=>show (zR a&&zS t)=_;rw[ih,Mw];rfl
def Fa:BinOp→IntKind→Int→Int→Option (Option AV)
 | .add=>fun k a b=>some (some (.int k (aj k (a+b))))
 | .sub=>fun k a b=>some (some (.int k (aj k (a-b))))
 | .mul=>fun k a b=>some (some (.int k (aj k (a*b))))
 | .eql=>fun _ a b=>some (some (.bool (ao a b)))
 | .neq=>fun _ a b=>some (some (.bool (!ao a b)))
 | .lss=>fun _ a b=>some (some (.bool (ay a b)))
 | .leq=>fun _ a b=>some (some (.bool (!ay b a)))
 | .gtr=>fun _ a b=>some (some (.bool (ay b a)))
 | .geq=>fun _ a b=>some (some (.bool (!ay a b)))
 |_=>fun _ _ _=>none
def My (k k':IntKind):Bool:=decide (k=k')
section
variable (P:Program)
def zU (op:BinOp) (t:TypeId) (xo yo:Operand) (x y:AV):Option AV:=
 match asInt x with
 | some p=>match asInt y with
  | some q=>match My p.1 q.1 with
   |true=>match Fa op p.1 p.2 q.2 with
    |some r=>r
    |none=>aE P op t xo yo x y
   |false=>aE P op t xo yo x y
  |none=>aE P op t xo yo x y
 |none=>aE P op t xo yo x y
theorem Mz:zU P=aE P:=by
 funext op t xo yo x y
 unfold zU;split
 ·rename_i p hx;split
  ·rename_i q hy;split
   ·rename_i hk;have hk:p.1=q.1:=of_decide_eq_true hk;split
    ·rename_i r hr;rw[zT hx,zT hy];rw[←hk];unfold Fa at hr;split at hr<;>simp only[sInjQ] at hr<;>first|(subst hr;simp[aE];done)|(cases hr;done)
    ·rfl
   ·rfl
  ·rfl
 ·rfl
def Fb (t:TypeId) (glob:Nat→Option (List AV)) (a:AV):Option Eff:=
 match vu a with
 | .ptr id off=>some<| .read id fun
  | .cells l=>(bZ P t l off).map .val
  |_=>none
 | .fptr cs off=>(bZ P t cs off).map .val
 | .gptr g off=>match glob g with
  |some l=>(bZ P t l off).map .val
  |none=>none
 | .oth=>none
theorem MA (t:TypeId) (glob:Nat→Option (List AV)) (a:AV):Fb P t glob a=fW P t a glob:=by cases a<;>rfl
def zV (t:TypeId) (a v:AV):Option Eff:=
 match vu a with
 | .ptr id off=>match ca P t with
  |some n=>match Nat.beq (ab (vw v)) n&&zS (vw v) with
   | true=>some<| .upd id fun
     | .cells l=>(splice l off (vw v)).map fun l'=>(.cells l',ii)
     |_=>none
   |false=>none
  |none=>none
 |_=>none
theorem MB (t:TypeId) (a v:AV):zV P t a v=nN P t a v:=by
 unfold zV;rw[Mv,Mx];cases a<;>first|rfl|skip
 rename_i id off;show (match ca P t with
  |some n=>(match Nat.beq (ab v.cells) n&&bq v.cells with
   | true=>some<|Eff.upd id fun
     | .cells l=>(splice l off v.cells).map fun l'=>(Blk.cells l',ii)
     |_=>none
   |false=>none)
  |none=>none)=_
 unfold nN;simp only;cases ca P t with
 |none=>rfl
 |some n=>
  simp only;cases Nat.beq (ab v.cells) n&&bq v.cells<;>rfl
def Fd (a:AV):Option AV:=match vu a with
 | .ptr i o=>some (.ptr i o)
 | .fptr c o=>some (.fptr c o)
 | .gptr g o=>some (.gptr g o)
 | .oth=>rR a
theorem MC (a:AV):Fd a=rR a:=by cases a<;>rfl
def zW (t:TypeId) (x:AV) (f:Nat):Option AV:=
 match nP P t f with
 | some fd=>match ca P fd.type with
  |some (_+1)=>match vu x with
   | .ptr id off=>some (.ptr id (off+fd.offset))
   | .fptr cs off=>some (.fptr cs (off+fd.offset))
   | .gptr g off=>some (.gptr g (off+fd.offset))
   | .oth=>none
  |_=>none
 |none=>none
theorem MD (t:TypeId) (x:AV) (f:Nat):zW P t x f=rV P t x f:=by
 unfold zW rV;cases nP P t f with
 |none=>rfl
 | some fd=>
  simp only;cases ca P fd.type with
  |none=>rfl
  |some n=>
   cases n with
   |zero=>rfl
   |succ n=>cases x<;>rfl
def Fe (a:AV):Option Nat:=match asInt a with
 |some p=>Int.rec (fun n=>some n) (fun _=>none) p.2
 |none=>none
theorem ME (a:AV):Fe a=gR a:=by
 cases a<;>try rfl
 rename_i k n;cases n<;>rfl
def zX (t:TypeId) (x i:AV):Option AV:=
 match dW P t,s9 x,Fe i with
 | some e,.rsl _ id off len sz',some i=>match ca P e with
  |some sz=>match Nat.blt i len&&Nat.beq sz sz' with
   |true=>some (.ptr id (off+i*sz))
   |false=>none
  |none=>none
 |_,_,_=>aF P t x i
theorem MF (t:TypeId) (x i:AV):zX P t x i=aF P t x i:=by
 unfold zX;split
 ·rename_i e w id off len sz' k he hx hi;rw[ME] at hi;have hu:P.underlying t=some (.slice e):=by
   unfold dW at he;split at he
   ·simp only[sInjQ] at he;subst he;assumption
   ·cases he
  have hx:x= .rsl w id off len sz':=by cases x<;>simp[s9] at hx<;>simp[hx]
  subst hx;simp only[aF,hi,hu,Option.bind_eq_bind,Option.bind_some];split
  ·rename_i sz hs;simp only[hs,Option.bind_some];split
   ·rename_i h;simp only[h,if_true]
   ·rename_i h;simp only[h,Bool.false_eq_true,if_false]
  ·rename_i hs;simp only[hs,Option.bind_none]
 ·rfl
def Ff (v:Option AV) (i:Nat):Option Eff:=
 match v with
 |some a=>match Mu a with
  |some vs=>cg (dC vs i)
  |none=>none
 |none=>none
def zY (s d:TypeId) (x:AV):Option Eff:=
 match asInt x with
 |some p=>match P.underlying s,P.underlying d with
  |some _,some (.int k)=>some (.val (.int k (aj k p.2)))
  |_,_=>dM P s d x
 |none=>dM P s d x
theorem MG (s d:TypeId) (x:AV):zY P s d x=dM P s d x:=by
 unfold zY;split
 ·rename_i p hx;split
  ·rename_i k h1 h2;rw[zT hx];unfold dM;simp only[h1,h2]
  ·rfl
 ·rfl
def zZ (argTypes:Array TypeId) (x:AV):Option Eff:=
 match argTypes[0]?,s9 x with
 |some t,.rsl _ _ _ n _=>match dW P t with
  |some _=>some (.val (.int .i64 (.ofNat n)))
  |none=>kQ P argTypes x
 |some t,.fsl _ es=>match dW P t with
  |some _=>some (.val (.int .i64 (.ofNat (ab es))))
  |none=>kQ P argTypes x
 |_,_=>kQ P argTypes x
theorem MH (argTypes:Array TypeId) (x:AV):zZ P argTypes x=kQ P argTypes x:=by
 have he:∀ {t e},dW P t=some e→P.underlying t=some (.slice e):=fun {t e} he=>by
  unfold dW at he;split at he
  ·simp only[sInjQ] at he;subst he;assumption
  ·cases he
 unfold zZ;split
 ·rename_i t w i o n z ht hx;split
  ·rename_i e h;have hx:x= .rsl w i o n z:=by cases x<;>simp[s9] at hx<;>simp[hx]
   subst hx;simp only[kQ,ht,he h]
  ·rfl
 ·rename_i t f es ht hx;split
  ·rename_i e h;have hx:x= .fsl f es:=by cases x<;>simp[s9] at hx<;>simp[hx]
   subst hx;simp only[kQ,ht,he h]
  ·rfl
 ·rfl
def z2 (glob:Nat→Option (List AV)) (ev:Operand→Option AV) (c:Call):Option Eff:=
 match c.callee with
 | .builtin .len=>match iF ev c.args.toList with
  |some [x]=>zZ P c.argTypes x
  |_=>j4 P glob ev c
 |_=>j4 P glob ev c
theorem MI (glob:Nat→Option (List AV)) (ev:Operand→Option AV) (c:Call):z2 P glob ev c=j4 P glob ev c:=by
 unfold z2;split
 ·rename_i hc;split
  ·rename_i x hx;simp only[j4,hx,hc,nV,MH]
  ·rfl
 ·rfl
end
def Fg (o:Op):Program→(Nat→Option (List AV))→(Operand→Option AV)→Option (Option Eff):=
 Op.rec (motive:=fun _=>Program→(Nat→Option (List AV))→(Operand→Option AV)→Option (Option Eff))
  (fun x _ _ ev=>some (cg (ev x))) (fun x _ _ ev=>some (cg (ev x))) (fun _ _ _ _ _ _=>none) (fun _ _ _ _=>none) (fun _ _ _ _ _=>none) (fun _ _ _ _ _=>none) (fun _ _ _ _ _ _=>none) (fun _ _ _ _ _ _ _=>none) (fun t a P glob ev=>some (e1 ev a fun a=>Fb P t glob a)) (fun t a x P _ ev=>some (e2 ev a x (zV P t))) (fun _ _ _ _=>none) (fun _ _ _ _=>none) (fun x _ _ ev=>some (e1 ev x fun v=>cg (Fd v))) (fun op t x y _ P _ ev=>some (e2 ev x y fun v w=>cg (zU P op t x y v w))) (fun _ _ _ _ _ _=>none) (fun s d x P _ ev=>some (e1 ev x (zY P s d))) (fun _ _ _ _ _=>none) (fun _ _ _ _ _=>none) (fun _ _ _ _ _ _=>none) (fun _ _ _ _ _=>none) (fun _ _ _ _ _=>none) (fun _ _ _ _ _ _=>none) (fun _ _ _ _ _ _ _ _=>none) (fun t x f P _ ev=>some (e1 ev x fun v=>cg (zW P t v f))) (fun _ _ _ _ _ _=>none) (fun t x i P _ ev=>some (e2 ev x i fun v w=>cg (zX P t v w))) (fun _ _ _ _ _ _=>none) (fun _ _ _ _ _ _ _=>none) (fun _ _ _ _ _ _ _=>none) (fun _ _ _ _ _ _=>none) (fun _ _ _ _ _ _ _=>none) (fun _ _ _ _ _=>none) (fun _ _ _ _ _=>none) (fun _ _ _ _=>none) (fun _ _ _ _ _ _ _=>none) (fun t i _ _ ev=>some (Ff (ev t) i)) (fun c P glob ev=>some (z2 P glob ev c)) (fun _ _ _ _=>none) (fun _ _ _ _=>none) (fun _ _ _ _=>none) (fun _ _ _ _ _=>none) (fun _ _ _ _ _ _=>none) (fun _ _ _ _ _=>none) o
def z6 (P:Program) (glob:Nat→Option (List AV)) (ev:Operand→Option AV) (o:Oper):Option Eff:=match Fg o.op P glob ev with
 |some r=>r
 |none=>bO P glob ev o
theorem MJ (P:Program) (glob:Nat→Option (List AV)) (ev:Operand→Option AV) (o:Oper):z6 P glob ev o=bO P glob ev o:=by
 unfold z6;split
 · rename_i r hr;cases ho:o.op<;>rw[ho] at hr<;>simp only[Fg,sInjQ,reduceCtorEq] at hr<;>(subst hr;simp only[bO,ho,Mz,MA,MC,MD,MF,MI])<;>first
    |rfl
    | (unfold Ff uD;rename_i t i;cases ev t with
       |none=>rfl
       |some a=>cases a<;>rfl)
    |(congr 1;funext a b;exact MB P _ a b)
    |(congr 1;funext a;exact MG P _ _ a)
 · rfl
def MK (o:Op):Bool:=Op.rec (motive:=fun _=>Bool) (fun _=>false) (fun _=>false) (fun _ _ _=>false) (fun _=>false) (fun _ _=>false) (fun _ _=>false) (fun _ _ _=>true) (fun _ _ _ _=>false) (fun _ _=>false) (fun _ _ _=>false) (fun _=>false) (fun _=>false) (fun _=>false) (fun _ _ _ _ _=>false) (fun _ _ _=>false) (fun _ _ _=>false) (fun _ _=>false) (fun _ _=>false) (fun _ _ _=>false) (fun _ _=>false) (fun _ _=>false) (fun _ _ _=>false) (fun _ _ _ _ _=>false) (fun _ _ _=>false) (fun _ _ _=>false) (fun _ _ _=>false) (fun _ _ _=>false) (fun _ _ _ _=>false) (fun _ _ _ _=>false) (fun _ _ _=>false) (fun _ _ _ _=>false) (fun _ _=>false) (fun _ _=>false) (fun _=>false) (fun _ _ _ _=>false) (fun _ _=>false) (fun _=>false) (fun _=>false) (fun _=>false) (fun _=>false) (fun _ _=>false) (fun _ _ _=>false) (fun _ _=>false) o
def z7 (P:Program) (glob:Nat→Option (List AV)) (ops:List Oper) (ev:Operand→Option AV) (o:Oper):Option Eff:=match MK o.op with
 |true=>cy P glob ops ev o
 |false=>z6 P glob ev o
theorem ML (P:Program) (glob:Nat→Option (List AV)) (ops:List Oper) (ev:Operand→Option AV) (o:Oper):z7 P glob ops ev o=cy P glob ops ev o:=by
 unfold z7;split
 ·rfl
 ·rename_i h;rw[MJ,dF];cases ho:o.op<;>first|rfl|(rw[ho] at h;cases h)
def z8 (e:Eff):Option AV:=match e with
 | .val v=>some v
 |_=>none
theorem MM {e:Eff} {v:AV} (h:z8 e=some v):e= .val v:=by cases e<;>simp[z8] at h<;>(subst h;rfl)
def Aa (call:bw) (id:Nat) (e:Eff) (h:ah) (nx:Nat):Option (AV × ah × Nat × Foot):=match z8 e with
 |some v=>some (v,h,nx,⟨false,[],[]⟩)
 |none=>bv call id 2 e h nx
theorem MN (call:bw) (id:Nat) (e:Eff) (h:ah) (nx:Nat):Aa call id e h nx=bv call id 2 e h nx:=by
 unfold Aa;split
 ·rename_i v hv;rw[MM hv];rfl
 ·rfl
section
variable (P:Program) (glob:Nat→Option (List AV)) (call:bw)
def Ab (ops:List Oper) (id:Nat) (o:Oper) (s:St):Option (St × Foot):=
 match du ops o s.slots with
 | some true=>match z7 P glob ops (bE s.slots) o with
  |some e=>match Aa call id e s.heap s.nx with
   |some (v,h,nx,ft)=>some (⟨cD s.n s.slots o.dst v,h,nx,s.n⟩,ft)
   |none=>none
  |none=>none
 |some false=>some (⟨cD s.n s.slots o.dst ii,s.heap,s.nx,s.n⟩,⟨false,[],[]⟩)
 |none=>none
theorem MO (ops:List Oper) (id:Nat) (o:Oper) (s:St):Ab P glob call ops id o s=dD P glob call ops id o s:=by
 unfold Ab dD;simp only[ML,MN];rfl
def vx (all:List Oper) (base:Nat):List Oper→Nat→St→List (Nat × Foot)→Option (St × List (Nat × Foot))
 |[],_,s,acc=>some (s,acc)
 |o::rest,i,s,acc=>match Ab P glob call all (base+i) o s with
  |some (s',ft)=>vx all base rest (i+1) s' (match ft.none with|true=>acc|false=>(i,ft)::acc)
  |none=>none
theorem Fh (all:List Oper) (base:Nat):∀ (l:List Oper) (i:Nat) (s:St) (acc:List (Nat × Foot)),vx P glob call all base l i s acc=dq P glob call all base l i s acc
 |[],_,_,_=>rfl
 |o::rest,i,s,acc=>by
  simp only[vx,dq,MO];split
  ·rename_i s' ft h;simp only[h];exact Fh all base rest (i+1) s' _
  ·rename_i h;simp only[h]
def MP (v:Option AV):Option Bool:=match v with
 |some a=>asBool a
 |none=>none
def iO (lf:Nat):Code→St→Option (AExit × St)
 | .skip,s| .label _,s=>some (.normal,s)
 | .region _ ops draw,s=>
  match vx P glob call ops.toList s.nx ops.toList 0 ⟨s.slots,s.heap,s.nx+ab ops.toList,s.n⟩ [] with
  | some (s',feet)=>match draw with
   |false=>some (.normal,s')
   |true=>match kR ops.toList&&j5 (ff ops.toList []) feet with
    |true=>some (.normal,s')
    |false=>none
  |none=>none
 | .seq a b,s=>match iO lf a s with
  |some (.normal,s')=>iO lf b s'
  |r=>r
 | .cond c a b,s=>match MP (bE s.slots c) with
  |some true=>iO lf a s
  |some false=>iO lf b s
  |_=>none
 | .block id body,s=>match iO lf body s with
  |some (.exit i,s')=>match Nat.beq i id with
   |true=>some (.normal,s')
   |false=>some (.exit i,s')
  |r=>r
 | .loop body,s=>kS (iO lf body) lf s
 | .exit id,s=>some (.exit id,s)
 | .ret,s=>some (.ret,s)
 |_,_=>none
theorem MQ (lf:Nat) (c:Code):iO P glob call lf c=cm P glob call lf c:=by
 induction c with
 |region id ops draw=>funext s;simp only[iO,cm,Fh];rfl
 |seq a b iha ihb=>funext s;simp only[iO,cm,iha,ihb];rfl
 | cond c a b iha ihb=>
  funext s
  simp only[iO,cm,iha,ihb];cases bE s.slots c with
  |none=>rfl
  |some v=>
   cases v<;>first|rfl|skip
   rename_i b;cases b<;>rfl
 |block id body ih=>funext s;simp only[iO,cm,ih];rfl
 |loop body ih=>funext s;simp only[iO,cm,ih]
 |_=>rfl
end
def kh (P:Program) (O:bB) (call:bw) (f:FuncId) (args:List AV) (h:ah) (nx:Nat):Option (AV × ah × Nat):=
 match P.funcs[f]? with
 | some fn=>match fn.body with
   | some c=>match fn.name== "runtime.NumGoroutine" with
     |true=>none
     | false=>match Nat.ble (ab args) fn.ntmps&&Nat.ble fn.ntmps 4095 with
      |false=>none
      |true=>match iO P O.glob call O.lf c ⟨ey args 0 .tip,h,nx,fn.ntmps⟩ with
       | some (.normal,s)|some (.ret,s)=>match er P O.glob s fn.results.toList with
         |some l=>some (eu l,s.heap,s.nx)
         |none=>none
       |_=>none
   |none=>none
 |none=>none
theorem Fi (P:Program) (O:bB) (call:bw) (f:FuncId) (args:List AV) (h:ah) (nx:Nat):kh P O call f args h nx=dX P O call f args h nx:=by
 unfold kh dX;simp only[MQ];rfl
def Fj (P:Program) (O:bB) (call:bw) (d:Nat) (f:FuncId) (args:List AV) (id:Nat) (h:ah) (nx:Nat):Option (AV × ah × Nat × Foot):=
 match kh P O call f args (cO h (cE h d (cq args []))) nx with
 |some (v,h1,_)=>match lookEnd (cE h d (cq args [])) id nx h v h1 with
  |some r=>some (gU (cE h d (cq args [])) id nx h r)
  |none=>none
 |none=>none
def Fk (P:Program) (O:bB) (call:bw) (d:Nat) (f:FuncId) (args:List AV) (h:ah) (nx:Nat):Option (AV × ah × Nat × Foot):=
 match kh P O call f args (cO h (cE h d (cq args []))) nx with
 |some (v,h1,nx')=>match Nat.ble nx nx' with
  |false=>none
  |true=>some (v,Mods.app (kT (iI h1 (cE h d (cq args []))) (il nx h1 h1)) h,nx',⟨true,cE h d (cq args []),nx::cE h d (cq args [])⟩)
 |none=>none
def jM (P:Program) (O:bB):Nat→bw
 |0,_,_,_,_,_=>none
 | n +1,f,args,id,h,nx=>
  match O.how f,ae args with
  | .look d,_=>Fj P O (jM P O n) d f args id h nx
  | .each d,_=>od P O (jM P O n) d f args id h nx
  | .clone,_=>mv P f args id h nx
  | .part d,_=>Fk P O (jM P O n) d f args h nx
  | .cmp,_=>mw P f args h nx
  | .known,_=>O.cx f args id h nx
  | .pure,true=>match O.summ f args with
   |some v=>some (v,h,nx,⟨false,[],[]⟩)
   | none=>match kh P O (jM P O n) f args [] 0 with
    | some (v,h',_)=>match bi 0 h' 40 v with
     |some v'=>match ag v' with
      |true=>some (v',h,nx,⟨false,[],[]⟩)
      |false=>none
     |none=>none
    |none=>none
  | .fresh,true=>match kh P O (jM P O n) f args [] 0 with
   |some (v,h',_)=>i5 h' v id h nx
   |none=>none
  | .pure,false=>match kh P O (jM P O n) f args h nx with
   |some (v,h',nx')=>match bi nx h' 40 v with
    |some v'=>some (v',iG nx h',nx',⟨true,[],[]⟩)
    |none=>none
   |none=>none
  |_,_=>match kh P O (jM P O n) f args h nx with
   |some (v,h',nx')=>some (v,h',nx',⟨true,[],[]⟩)
   |none=>none
theorem Fl (P:Program) (O:bB):∀n,jM P O n=bm P O n
 |0=>rfl
 |n+1=>by
  funext f args id h nx
  simp only[jM,bm,Fl P O n,Fi,Fj,Fk,oc,og];rfl
theorem MR (P:Program) (O:bB) (n:Nat) (f:FuncId) (args:List AV) (h:ah) (nx:Nat):kh P O (jM P O n) f args h nx=dX P O (bm P O n) f args h nx:=by
 rw[Fi,Fl]
end
end Go.Proofs.Abs
/- A law whose answer is known: the call. -/
namespace Go.Proofs.Abs
open Go
theorem SemCall.calls {P:Program} {G:aZ} {f:FuncId} {fn:Func} {c:Code} {args:List AV} {vs:Array Value} {w:World} (hfn:P.funcs[f]? =some fn) (hc:fn.body=some c) (hname:(fn.name== "runtime.NumGoroutine")=false)
  (h:SemCall P G f args (.bool true)) (hr:Rel G w (fun b=>b<w.heap.size) (fun _=>none) []) (ha:RepL w (fun b=>b<w.heap.size) (fun _=>none) args vs.toList):
  Calls P f vs w fun e w'=>e= .returned (.bool true)∧RowKit.Below w.heap.size w w':=by
 have e1:(callFunc f vs).run P w= .ok (.enter f vs) w:=by
  unfold callFunc;simp only[Sem.run_bind,run_program,Result.andThen_ok,hfn,hname,hc,Bool.false_eq_true,if_false,Option.isNone_some,Sem.run_pure]
 have:=h.out w _ _ [] 0 1 vs hr ha rfl (by omega) (fun _ _=>rfl);rw[e1] at this;refine Calls.mono this ?_;rintro e w' ⟨v,rfl,⟨⟨I',α',ev,_,hv,_⟩,_⟩⟩;cases hv;exact ⟨rfl,ev.os.1,ev.os.2.1,ev.os.2.2,ev.size,fun k hk=>ev.frame k hk ke⟩
end Go.Proofs.Abs
/- A run in continuation form leads to one end: so calls may be followed where they stand. -/
namespace Go.Proofs.Abs
open Go
def oO (F:(AV→ah→Nat→Foot→Prop)→Prop):Prop:=∀K,F K→∃v h nx ft,K v h nx ft∧∀K',K' v h nx ft→F K'
def vy (F:(AV→ah→Nat→Prop)→Prop):Prop:=∀K,F K→∃v h nx,K v h nx∧∀K',K' v h nx→F K'
def Ac (F:(Kn→St→Foot→Prop)→Prop):Prop:=∀K,F K→∃kn s ft,K kn s ft∧∀K',K' kn s ft→F K'
def MS (F:(St→List (Nat × Foot)→Prop)→Prop):Prop:=∀K,F K→∃s ft,K s ft∧∀K',K' s ft→F K'
def ta (F:(AExit→St→Prop)→Prop):Prop:=∀Q,F Q→∃e s,Q e s∧∀Q',Q' e s→F Q'
section
variable {P:Program} {O:bB} {n:Nat} {A:bz}
theorem vz {id d:Nat} {e:Eff} {h:ah} {nx:Nat}:oO (ip P O n id d e h nx):=by
 intro K hk;unfold ip at hk⊢;split at hk
 ·rename_i v h' nx' ft hr;refine ⟨v,h',nx',ft,hk,fun K' h=> ?_⟩;exact h
 ·exact hk.elim
def ki (A:bz):Prop:=∀f T,A.inl f=some T→∀args h nx,vy (T.run args h nx)
theorem MT {f:FuncId} {args:List AV} {h:ah} {nx:Nat} (r:p6):oO (fun K=>p7 P O f args h nx K r):=by
 intro K hk;cases r with
 |val v=>exact ⟨v,h,nx,_,hk.2,fun K' h=>⟨hk.1,h⟩⟩
 |part L v H2 m=>exact ⟨v,_,_,_,hk.2,fun K' h=>⟨hk.1,h⟩⟩
theorem MU {args:List AV} {h:ah} {nx:Nat} {T:sT} (hT:∀args h nx,vy (T.run args h nx)):oO (fun K=>sU args h nx K T):=by
 intro K hk;obtain ⟨v,H2,nx2,h1,h2⟩:=hT _ _ _ _ hk;obtain ⟨hle,h1⟩:=oblB_iff.1 h1;exact ⟨v,_,_,_,h1,fun K' h=>h2 _ (oblB_iff.2 ⟨hle,h⟩)⟩
theorem Fm (hi:ki A) {id d:Nat} {f:FuncId} {args:List AV} {h:ah} {nx:Nat}:oO (fun K=>match A.cx f args id h nx with
   |some (v,h',nx',ft)=>K v h' nx' ft
   | none=>match A.sem f args h nx with
    |some r=>p7 P O f args h nx K r
    | none=>match A.inl f with
     |some T=>sU args h nx K T
     |none=>match O.how f with
      | .pure=>match O.summ f args with
        |some v=>aw (ae args) (K v h nx ⟨false,[],[]⟩)
        |none=>ip P O n id d (.call f args) h nx K
      |_=>ip P O n id d (.call f args) h nx K):=by
 intro K hk;simp only at hk⊢;split at hk
 · rename_i v h' nx' ft hc;exact ⟨v,h',nx',ft,hk,fun K' h=>by first|(rw[hc];exact h)|exact h⟩
 · rename_i hc;split at hk
   · rename_i r hr;obtain ⟨v,h',nx',ft,h1,h2⟩:=MT r K hk;exact ⟨v,h',nx',ft,h1,fun K' h=>by first|exact h2 K' h|(rw[hc,hr];exact h2 K' h)⟩
   · rename_i hr;split at hk
     · rename_i T hT;obtain ⟨v,h',nx',ft,h1,h2⟩:=MU (hi f T hT) K hk;exact ⟨v,h',nx',ft,h1,fun K' h=>by first|exact h2 K' h|(rw[hc,hr,hT];exact h2 K' h)⟩
     · rename_i hT;split at hk
       · rename_i ho;split at hk
         · rename_i v hs;obtain ⟨hb,hk⟩:=oblB_iff.1 hk;exact ⟨v,h,nx,_,hk,fun K' h=>by first|exact oblB_iff.2 ⟨hb,h⟩|(rw[hc,hr,hT,ho,hs];exact oblB_iff.2 ⟨hb,h⟩)⟩
         · rename_i hs;obtain ⟨v,h',nx',ft,h1,h2⟩:=vz K hk;exact ⟨v,h',nx',ft,h1,fun K' h=>by first|exact h2 K' h|(rw[hc,hr,hT,ho,hs];exact h2 K' h)⟩
       · obtain ⟨v,h',nx',ft,h1,h2⟩:=vz K hk;exact ⟨v,h',nx',ft,h1,fun K' h=>h2 K' h⟩
theorem Ad (hi:ki A) {id:Nat}:∀ (d:Nat) (e:Eff) {h:ah} {nx:Nat},oO (g5 P O n A id d e h nx):=by
 intro d
 induction d with
 | zero=>
  intro e h nx K hk;unfold g5 at hk;split at hk
  ·obtain ⟨v,h',nx',ft,h1,h2⟩:=Fm hi K hk;exact ⟨v,h',nx',ft,h1,fun K' h=>by unfold g5;exact h2 K' h⟩
  ·rename_i hne;obtain ⟨v,h',nx',ft,h1,h2⟩:=vz K hk;refine ⟨v,h',nx',ft,h1,fun K' h=> ?_⟩;unfold g5;split
   ·exact absurd rfl (hne _ _)
   ·exact h2 K' h
 | succ d ih=>
  intro e h nx K hk;unfold g5 at hk;split at hk
  ·obtain ⟨v,h',nx',ft,h1,h2⟩:=Fm hi K hk;exact ⟨v,h',nx',ft,h1,fun K' h=>by unfold g5;exact h2 K' h⟩
  ·rename_i i k;split at hk
   ·rename_i b hb;split at hk
    ·rename_i e' he;obtain ⟨v,h',nx',ft,h1,h2⟩:=ih e' _ hk;exact ⟨v,h',nx',_,h1,fun K' h=>by unfold g5;simp only[hb,he];exact h2 _ h⟩
    ·exact hk.elim
   ·exact hk.elim
  ·rename_i hne hnr;obtain ⟨v,h',nx',ft,h1,h2⟩:=vz K hk;refine ⟨v,h',nx',ft,h1,fun K' h=> ?_⟩;unfold g5;split
   ·exact absurd rfl (hne _ _)
   ·exact absurd rfl (hnr _ _)
   ·exact h2 K' h
theorem MV (hi:ki A) {id:Nat} {h:ah} {nx:Nat} (oe:Option ES):oO (fun K=>sV P O n A id h nx K oe):=by
 intro K hk;cases oe with
 |none=>exact hk.elim
 | some es=>cases es with
  |eff e=>exact Ad hi 2 e K hk
  |obl b e=>
   obtain ⟨hb,hk⟩:=oblB_iff.1 hk;obtain ⟨v,h',nx',ft,h1,h2⟩:=Ad hi 2 e K hk;exact ⟨v,h',nx',ft,h1,fun K' h=>oblB_iff.2 ⟨hb,h2 K' h⟩⟩
  | app b i k v=>
   obtain ⟨hb,hk⟩:=oblB_iff.1 hk;split at hk
   ·rename_i l hl;obtain ⟨hq,hk⟩:=oblB_iff.1 hk;refine ⟨_,_,_,_,hk,fun K' h=>oblB_iff.2 ⟨hb, ?_⟩⟩;simp only[hl];exact oblB_iff.2 ⟨hq,h⟩
   ·exact hk.elim
  | put b i k v=>
   obtain ⟨hb,hk⟩:=oblB_iff.1 hk;split at hk
   ·rename_i l hl;obtain ⟨hq,hk⟩:=oblB_iff.1 hk;refine ⟨_,_,_,_,hk,fun K' h=>oblB_iff.2 ⟨hb, ?_⟩⟩;simp only[hl];exact oblB_iff.2 ⟨hq,h⟩
   ·exact hk.elim
  | pick b x y=>
   cases b with
   |true=>cases x with
    |none=>exact hk.elim
    |some v=>exact ⟨v,h,nx,_,hk,fun K' h=>h⟩
   |false=>cases y with
    |none=>exact hk.elim
    |some v=>exact ⟨v,h,nx,_,hk,fun K' h=>h⟩
theorem MW (hi:ki A) {ops:List Oper} {id:Nat} {o:Oper} {s:St} (a:eW):oO (fun K=>jJ P O n A ops id o s K a):=by
 intro K hk;cases a with
 | plain=>
  simp only[jJ] at hk⊢;split at hk
  ·rename_i e he;exact Ad hi 2 e K hk
  ·exact hk.elim
 |ans a=>
  simp only[jJ] at hk⊢;split at hk
  ·exact ⟨_,_,_,_,hk.2,fun K' h=>⟨hk.1,h⟩⟩
  ·exact hk.elim
 | el v=>
  simp only[jJ] at hk⊢;split at hk
  ·split at hk
   ·split at hk
    ·split at hk
     ·obtain ⟨hg,hk⟩:=hk;obtain ⟨hb,hk⟩:=oblB_iff.1 hk;exact ⟨_,_,_,_,hk,fun K' h=>⟨hg,oblB_iff.2 ⟨hb,h⟩⟩⟩
     ·exact hk.elim
    ·exact hk.elim
   ·exact hk.elim
  ·exact hk.elim
 | ld v=>
  simp only[jJ] at hk⊢;split at hk
  ·split at hk
   ·split at hk
    ·exact ⟨_,_,_,_,hk.2,fun K' h=>⟨hk.1,h⟩⟩
    ·exact hk.elim
   ·exact ⟨_,_,_,_,hk.2,fun K' h=>⟨hk.1,h⟩⟩
   ·exact ⟨_,_,_,_,hk.2,fun K' h=>⟨hk.1,h⟩⟩
   ·exact hk.elim
  ·exact hk.elim
 |res r=>
  simp only[jJ] at hk⊢;split at hk
  ·exact ⟨_,_,_,_,hk.2,fun K' h=>⟨hk.1,h⟩⟩
  ·exact hk.elim
theorem tb (hi:ki A) {rid:Nat} {ops:List Oper} {id i:Nat} {o:Oper} {s:St} {kn:Kn}:Ac (jK P O n A rid ops id i o s kn):=by
 intro K hk;unfold jK at hk;split at hk
 ·rename_i a ha;obtain ⟨v,h',nx',ft,h1,h2⟩:=MW hi a _ hk;exact ⟨_,_,_,h1,fun K' h=>by unfold jK;simp only[ha];exact h2 _ h⟩
 ·rename_i ha;obtain ⟨v,h',nx',ft,h1,h2⟩:=MV hi _ _ hk;exact ⟨_,_,_,h1,fun K' h=>by unfold jK;simp only[ha];exact h2 _ h⟩
theorem tc {o:Oper} {s:St} {kn:Kn}:Ac (oH o s kn):=fun _K hk=>⟨_,_,_,hk,fun _ h=>h⟩
theorem MX (hi:ki A) {rid:Nat} {ops:List Oper} {id i:Nat} {o:Oper} {s:St} {kn:Kn}:Ac (sX P O n A rid ops id i o s kn):=by
 intro K hk;unfold sX at hk⊢;split at hk
 ·exact tb hi K hk
 ·split at hk
  ·split at hk
   ·split at hk
    ·split at hk
     ·split at hk
      ·exact tb hi K hk
      ·exact tc K hk
     ·split at hk
      ·exact tc K hk
      ·exact tb hi K hk
    ·split at hk
     ·split at hk
      ·split at hk
       ·exact tb hi K hk
       ·exact tc K hk
      ·split at hk
       ·exact tc K hk
       ·exact tb hi K hk
     ·exact tc K hk
     ·exact hk.elim
   ·exact hk.elim
  ·exact hk.elim
theorem Fo (hi:ki A) {rid:Nat} {all:List Oper} {base:Nat}:∀ (rest:List Oper) (i:Nat) (s:St) (kn:Kn) (acc:List (Nat × Foot)),MS (sY P O n A rid all base rest i s kn acc)
 |[],_,_,_,_=>fun _ hk=>⟨_,_,hk,fun _ h=>h⟩
 |o::rest,i,s,kn,acc=>fun K hk=>by
  obtain ⟨kn',s',ft,h1,h2⟩:=MX hi _ hk;obtain ⟨s2,ft2,h3,h4⟩:=Fo hi rest (i+1) s' kn' _ _ h1;exact ⟨s2,ft2,h3,fun K' h=>h2 _ (h4 K' h)⟩
theorem Fp {B:St→(AExit→St→Prop)→Prop} (hB:∀s,ta (B s)):∀ (k:Nat) (s:St),ta (vi B k s)
 |0,_=>fun _ hk=>hk.elim
 | k+1,s=>fun Q hk=>by
  obtain ⟨e,s',h1,h2⟩:=hB s _ hk;cases e with
  |normal=>
   obtain ⟨e,s2,h3,h4⟩:=Fp hB k s' Q h1;exact ⟨e,s2,h3,fun Q' h=>h2 _ (h4 Q' h)⟩
  |exit i=>exact ⟨_,_,h1,fun Q' h=>h2 _ h⟩
  |ret=>exact ⟨_,_,h1,fun Q' h=>h2 _ h⟩
theorem MY (hi:ki A) (hcut:A.cut=jI) (hls:∀r L,A.ls r=some L→∀s,ta (L s)):∀ (c:Code) (s:St),ta (aP P O n A c s):=by
 intro c
 induction c with
 |skip=>exact fun s Q hk=>⟨_,_,hk,fun _ h=>h⟩
 |label l=>exact fun s Q hk=>⟨_,_,hk,fun _ h=>h⟩
 |exit i=>exact fun s Q hk=>⟨_,_,hk,fun _ h=>h⟩
 |ret=>exact fun s Q hk=>⟨_,_,hk,fun _ h=>h⟩
 | region rid ops draw=>
  intro s Q hk;simp only[aP,hcut,jI,sZ] at hk⊢;obtain ⟨s',ft,h1,h2⟩:=Fo hi _ _ _ _ _ _ hk;cases draw with
  |false=>exact ⟨_,_,h1,fun Q' h=>h2 _ h⟩
  |true=>
   obtain ⟨hb,h1⟩:=oblB_iff.1 h1;exact ⟨_,_,h1,fun Q' h=>h2 _ (oblB_iff.2 ⟨hb,h⟩)⟩
 | seq a b iha ihb=>
  intro s Q hk;simp only[aP] at hk⊢;obtain ⟨e,s',h1,h2⟩:=iha s _ hk;cases e with
  |normal=>
   obtain ⟨e,s2,h3,h4⟩:=ihb s' Q h1;exact ⟨e,s2,h3,fun Q' h=>h2 _ (h4 Q' h)⟩
  |exit i=>exact ⟨_,_,h1,fun Q' h=>h2 _ h⟩
  |ret=>exact ⟨_,_,h1,fun Q' h=>h2 _ h⟩
 | cond c a b iha ihb=>
  intro s Q hk;simp only[aP] at hk⊢;split at hk
  ·split at hk
   ·exact iha _ Q hk
   ·exact ihb _ Q hk
  ·exact hk.elim
 | block id body ih=>
  intro s Q hk;simp only[aP] at hk⊢;obtain ⟨e,s',h1,h2⟩:=ih s _ hk;cases e with
  |normal=>exact ⟨_,_,h1,fun Q' h=>h2 _ h⟩
  |ret=>exact ⟨_,_,h1,fun Q' h=>h2 _ h⟩
  | exit i=>
   simp only[pZ] at h1;split at h1
   ·rename_i hb;exact ⟨_,_,h1,fun Q' h=>h2 _ (by simp only[pZ,hb];exact h)⟩
   ·rename_i hb;exact ⟨_,_,h1,fun Q' h=>h2 _ (by simp only[pZ,hb];exact h)⟩
 | loop body ih=>
  intro s Q hk;simp only[aP] at hk⊢;split at hk
  ·rename_i L hL;exact hls _ L hL s Q hk
  ·exact Fp ih _ s Q hk
 |_=>exact fun s Q hk=>hk.elim
theorem Fq (hi:ki A) (hcut:A.cut=jI) (hls:∀r L,A.ls r=some L→∀s,ta (L s)) {f:FuncId} {args:List AV} {H:ah} {nx:Nat}:vy (aH P O n A f args H nx):=by
 intro K hk;unfold aH at hk;split at hk
 ·rename_i fn hfn;split at hk
  ·rename_i c hc;split at hk
   ·exact hk.elim
   ·rename_i hname;split at hk
    ·exact hk.elim
    ·rename_i hsz;obtain ⟨e,s,h1,h2⟩:=MY hi hcut hls c _ _ hk;have fin:∀ {e:AExit},(∀i,e≠ .exit i)→(match e with
       | .exit _=>False
       |_=>match er P O.glob s fn.results.toList with
        |some l=>K (eu l) s.heap s.nx
        |none=>False)→∃l,er P O.glob s fn.results.toList=some l∧K (eu l) s.heap s.nx:=fun {e} hne h=>by
      split at h
      ·exact h.elim
      ·split at h
       ·rename_i l hl;exact ⟨l,hl,h⟩
       ·exact h.elim
     have back:∀ {l:List AV},er P O.glob s fn.results.toList=some l→(∀i,e≠ .exit i)→∀K':AV→ah→Nat→Prop,K' (eu l) s.heap s.nx→aH P O n A f args H nx K':=fun {l} hl hne K' h=>by
      unfold aH;simp only[hfn,hc,hname,hsz];refine h2 _ ?_;split
      ·exact absurd rfl (hne _)
      ·simp only[hl];exact h
     cases e with
     |exit i=>exact h1.elim
     |normal=>
      obtain ⟨l,hl,hK⟩:=fin (e:= .normal) (fun _ h=>by cases h) h1;exact ⟨_,_,_,hK,fun K' h=>back hl (fun _ h=>by cases h) K' h⟩
     |ret=>
      obtain ⟨l,hl,hK⟩:=fin (e:= .ret) (fun _ h=>by cases h) h1;exact ⟨_,_,_,hK,fun K' h=>back hl (fun _ h=>by cases h) K' h⟩
  ·exact hk.elim
 ·exact hk.elim
theorem MZ (B:dQ P O n) (hA:dH P O A) (hi:ki A) (hcut:A.cut=jI) (hls:A.ls=fun _=>none) {f:FuncId} {args:List AV} {h:ah} {nx:Nat} {K:AV→ah→Nat→Prop} (hk:aH P O n A f args h nx K):
  ∃v h' nx',K v h' nx'∧dw P O.glob f args h nx v h' nx':=by
 obtain ⟨v,h',nx',h1,h2⟩:=Fq hi hcut (fun r L hL=>by rw[hls] at hL;cases hL) K hk;exact ⟨v,h',nx',h1,zp B hA (Mj fun r=>by rw[hls]) (h2 _ ⟨rfl,rfl,rfl⟩)⟩
end
noncomputable def mK (P:Program) (O:bB) (n:Nat) (sem:fy) (isI:FuncId→Option (List AV→ah→List Nat)):Nat→FuncId→Option sT
 |0=>fun _=>none
 |d+1=>fun f=>match isI f with
  |some see=>some ⟨see,aH P O n ⟨fun _ _=>none,fun _=>none,qg,sem,mK P O n sem isI d,jI⟩ f⟩
  |none=>none
section
variable {P:Program} {O:bB} {n:Nat} {sem:fy} {isI:FuncId→Option (List AV→ah→List Nat)}
theorem Fr:∀ (d:Nat) f T,mK P O n sem isI d f=some T→∀args h nx,vy (T.run args h nx)
 |0,_,_,h=>by cases h
 | d+1,f,T,h=>by
  simp only[mK] at h;split at h
  ·simp only[sInjQ] at h;subst h;exact fun args h nx=>Fq (A:=⟨fun _ _=>none,fun _=>none,qg,sem,mK P O n sem isI d,jI⟩) (fun f T hT=>Fr d f T hT) rfl (fun r L hL=>by cases hL)
  ·cases h
theorem Fs (B:dQ P O n) (hsum:∀f args v,O.summ f args=some v→SemCall P O.glob f args v):∀ (d:Nat) f T,mK P O n sem isI d f=some T→∀args h nx K,T.run args h nx K→∃v h' nx',K v h' nx'∧dw P O.glob f args h nx v h' nx'
 |0,_,_,h=>by cases h
 | d+1,f,T,h=>by
  simp only[mK] at h;split at h
  ·simp only[sInjQ] at h;subst h;exact fun args h nx K hk=>MZ B (A:=⟨fun _ _=>none,fun _=>none,qg,sem,mK P O n sem isI d,jI⟩) ⟨vl,hsum,fun f T hT=>Fs B hsum d f T hT,fun _ _ h=>(by cases h)⟩ (fun f T hT=>Fr d f T hT) rfl rfl hk
  ·cases h
end
def M0:List AV→ah→List Nat:=fun _ h=>h.map (·.1)
def M1:List AV→ah→List Nat:=fun _ _=>[]
def M2:List FuncId→List FuncId→FuncId→Option (List AV→ah→List Nat):=fun pure all f=>match fX pure f with
 |true=>some M1
 |false=>match fX all f with
  |true=>some M0
  |false=>none
noncomputable def Ft (P:Program) (O:bB) (n:Nat) (hint:Nat→Nat→Option eW) (ls:Nat→Option bV) (sem:fy) (isI:FuncId→Option (List AV→ah→List Nat)):bz:=⟨hint,ls,qg,sem,mK P O n sem isI 8,jI⟩
theorem M3 {P:Program} {O:bB} {n:Nat} {hint:Nat→Nat→Option eW} {ls:Nat→Option bV} {sem:fy} {isI:FuncId→Option (List AV→ah→List Nat)} (B:dQ P O n) (h:∀f args v,O.summ f args=some v→SemCall P O.glob f args v):dH P O (Ft P O n hint ls sem isI):=
 ⟨vl,h,fun f T hT=>Fs B h 8 f T hT,fun _ _ h=>(by cases h)⟩
end Go.Proofs.Abs
/- What calls answer, by their numbers; values that say less; items as trees. -/
namespace Go.Proofs.Abs
open Go
noncomputable section
def bP:List (FuncId × AV)→fy
 |[],_,_,_,_=>none
 |(f,v)::t,g,a,h,nx=>match Nat.beq g f with
  |true=>some (.val v)
  |false=>bP t g a h nx
def fY:List (FuncId × (List AV→Option AV))→fy
 |[],_,_,_,_=>none
 | (f,k)::t,g,a,h,nx=>match Nat.beq g f with
  |true=>match k a with
   |some v=>some (.val v)
   |none=>none
  |false=>fY t g a h nx
structure Wk (v v':AV):Prop where
 out:∀w I α x,Rep w I α v x→Rep w I α v' x
structure WkL (l l':List AV):Prop where
 out:∀w I α x,RepL w I α l x→RepL w I α l' x
 len:l.length=l'.length
 at_:∀ (i:Nat) x y,l[i]? =some x→l'[i]? =some y→Wk x y
theorem Wk.refl (v:AV):Wk v v:=⟨fun _ _ _ _ h=>h⟩
theorem Wk.trans {u v w:AV} (h:Wk u v) (h':Wk v w):Wk u w:=⟨fun _ _ _ _ r=>h'.out _ _ _ _ (h.out _ _ _ _ r)⟩
theorem WkL.nil:WkL [] []:=⟨fun _ _ _ _ h=>h,rfl,by simp⟩
theorem WkL.refl (l:List AV):WkL l l:=⟨fun _ _ _ _ h=>h,rfl,fun i x y h1 h2=>by rw[h1] at h2;cases h2;exact .refl x⟩
theorem WkL.cons {a b:AV} {t u:List AV} (h:Wk a b) (ht:WkL t u):WkL (a::t) (b::u):=
 ⟨fun w I α x r=>by
  obtain ⟨y,v',rfl,h1,h2⟩:=RepL.cons_inv r;exact .cons (h.out _ _ _ _ h1) (ht.out _ _ _ _ h2),by simp[ht.len],fun i x y h1 h2=>by
  cases i with
  |zero=>simp at h1 h2;subst h1;subst h2;exact h
  |succ i=>simp at h1 h2;exact ht.at_ i x y h1 h2⟩
theorem WkL.append {a b c d:List AV} (h:WkL a b) (h':WkL c d):WkL (a++c) (b++d):=by
 have hl:=h.len;have hl':=h'.len;refine ⟨fun w I α x r=>⟨by have:=r.1;simp only[List.length_append] at this⊢;omega,fun i p q e1 e2=> ?_⟩,by simp only[List.length_append];omega,fun i p q e1 e2=> ?_⟩
 ·have hi:i<(a++c).length:=by
   have:i<(b++d).length:=by
    rcases Nat.lt_or_ge i (b++d).length with h|h
    ·exact h
    ·rw[List.getElem?_eq_none h] at e1;cases e1
   simp only[List.length_append] at this⊢;omega
  have r':=r.2 i _ q (List.getElem?_eq_getElem hi) e2;have key:Wk ((a++c)[i]) p:=by
   have e3:=List.getElem?_eq_getElem hi
   by_cases hlt:i<a.length
   ·rw[List.getElem?_append_left hlt] at e3;rw[List.getElem?_append_left (by omega)] at e1;exact h.at_ i _ _ e3 e1
   ·rw[List.getElem?_append_right (by omega)] at e3 e1;rw[hl] at e3;exact h'.at_ _ _ _ e3 e1
  exact key.out _ _ _ _ r'
 ·by_cases hlt:i<a.length
  ·rw[List.getElem?_append_left hlt] at e1;rw[List.getElem?_append_left (by omega)] at e2;exact h.at_ i _ _ e1 e2
  ·rw[List.getElem?_append_right (by omega)] at e1 e2;rw[hl] at e1;exact h'.at_ _ _ _ e1 e2
theorem Wk.nil {f:Bool}:Wk .nilsl (.fsl f []):=⟨fun w I α x h=>by
 cases h;exact .fsl f [] none 0 0 0 0 0 (fun _ _=>undef) rfl (Nat.le_refl _) (fun _=>rfl) (.inr rflTwoQ) (fun h=>absurd rfl h) (by simp) (by simp) (by simp)⟩
theorem Wk.full {l:List AV}:Wk (.fsl true l) (.fsl false l):=⟨fun w I α x h=>by
 cases h with
 |fsl _ _ a len cap sz b base g hl hc hf ha hI hs hg hr=>
  exact .fsl false l a len cap sz b base g hl hc (fun h=>by cases h) ha hI hs hg hr⟩
theorem Wk.row {f:Bool} {l:List AV}:Wk (.fsl f l) (.fsl false l):=by
 cases f with
 |true=>exact .full
 |false=>exact .refl _
theorem Wk.els {l l':List AV} (hlen:l.length=l'.length) (h:∀ (i:Nat) (x y:AV),l[i]? =some x→l'[i]? =some y→WkL x.cells y.cells):Wk (.fsl false l) (.fsl false l'):=⟨fun w I α x hx=>by
 have get:∀ (i:Nat) (y:AV),l'[i]? =some y→∃x:AV,l[i]? =some x∧WkL x.cells y.cells:=fun i y hy=>by
  have hi:i<l.length:=by
   rw[hlen];rcases Nat.lt_or_ge i l'.length with h|h
   ·exact h
   ·rw[List.getElem?_eq_none h] at hy;cases hy
  exact ⟨_,List.getElem?_eq_getElem hi,h i _ _ (List.getElem?_eq_getElem hi) hy⟩
 cases hx with
 | fsl _ _ a len cap sz b base g hl hc hf ha hI hs hg hr=>
  have cell:∀ (i:Nat) (e:AV) (j:Nat) (c:AV),l'[i]? =some e→e.cells[j]? =some c→∃ (e0 c0:AV),l[i]? =some e0∧e0.cells[j]? =some c0∧Wk c0 c:=fun i e j c h1 h2=>by
   obtain ⟨e0,k1,k2⟩:=get i e h1;have hj:j<e0.cells.length:=by
    rw[k2.len];rcases Nat.lt_or_ge j e.cells.length with h|h
    ·exact h
    ·rw[List.getElem?_eq_none h] at h2;cases h2
   exact ⟨e0,_,k1,List.getElem?_eq_getElem hj,k2.at_ j _ _ (List.getElem?_eq_getElem hj) h2⟩
  refine .fsl false l' a len cap sz b base g (by omega) hc (fun h=>by cases h) ?_ (fun hne=>hI fun h0=>hne ?_) (fun e he=> ?_) (fun i e j c h1 h2=> ?_) (fun i e j c h1 h2=> ?_)
  ·exact ha
  ·subst h0;exact List.eq_nil_of_length_eq_zero hlen.symm
  ·obtain ⟨i,hi⟩:=List.getElem?_of_mem he;obtain ⟨e0,k1,k2⟩:=get i e hi;rw[←k2.len];exact hs e0 (List.mem_of_getElem? k1)
  ·obtain ⟨e0,c0,k1,k2,_⟩:=cell i e j c h1 h2;exact hg i e0 j c0 k1 k2
  ·obtain ⟨e0,c0,k1,k2,k3⟩:=cell i e j c h1 h2;exact k3.out _ _ _ _ (hr i e0 j c0 k1 k2)⟩
structure WkE (l l':List AV):Prop where
 len:l.length=l'.length
 at_:∀ (i:Nat) (x y:AV),l[i]? =some x→l'[i]? =some y→WkL x.cells y.cells
theorem WkE.nil:WkE [] []:=⟨rfl,by simp⟩
theorem WkE.refl (l:List AV):WkE l l:=⟨rfl,fun i x y h1 h2=>by rw[h1] at h2;cases h2;exact .refl _⟩
theorem WkE.cons {x y:AV} {l l':List AV} (h:WkL x.cells y.cells) (t:WkE l l'):WkE (x::l) (y::l'):=
 ⟨by simp[t.len],fun i x' y' h1 h2=>by
  cases i with
  |zero=>simp at h1 h2;subst h1;subst h2;exact h
  |succ i=>simp at h1 h2;exact t.at_ i x' y' h1 h2⟩
theorem WkE.consA {a b:List AV} {l l':List AV} (h:WkL a b) (t:WkE l l'):WkE (.agg a::l) (.agg b::l'):= .cons h t
theorem WkE.map {α:Type} {f g:α→AV} {l:List α} (h:∀x∈l,WkL (f x).cells (g x).cells):WkE (l.map f) (l.map g):=
 ⟨by simp,fun i x y h1 h2=>by
  rw[List.getElem?_map,Option.map_eq_some_iff] at h1 h2;obtain ⟨a,ha,rfl⟩:=h1;obtain ⟨b,hb,rfl⟩:=h2;rw[ha] at hb;cases hb;exact h a (List.mem_of_getElem? ha)⟩
theorem Wk.rows {f:Bool} {l l':List AV} (h:WkE l l'):Wk (.fsl f l) (.fsl false l'):=Wk.row.trans (.els h.len h.at_)
theorem Wk.agg {l l':List AV} (h:WkL l l'):Wk (.agg l) (.agg l'):=⟨fun w I α x r=>by
 obtain ⟨a',rfl,h1⟩:=Rep.agg_iff.1 r;exact Rep.agg_iff.2 ⟨a',rfl,h.out _ _ _ _ h1⟩⟩
theorem Wk.tuple {l l':List AV} (h:WkL l l'):Wk (.tuple l) (.tuple l'):=⟨fun w I α x r=>by
 obtain ⟨a',rfl,h1⟩:=Rep.tuple_iff.1 r;exact Rep.tuple_iff.2 ⟨a',rfl,h.out _ _ _ _ h1⟩⟩
theorem Wk.iface {t:TypeId} {v v':AV} (h:Wk v v'):Wk (.iface t v) (.iface t v'):=⟨fun w I α x r=>by
 cases r with
 |iface _ _ v'' hv=>exact .iface t _ _ (h.out _ _ _ _ hv)⟩
theorem Wk.func {fn:Fn} {a c a' c':List AV} (h1:WkL a a') (h2:WkL c c'):Wk (.func fn a c) (.func fn a' c'):=⟨fun w I α x r=>by
 obtain ⟨u,v,rfl,k1,k2⟩:=Rep.func_iff.1 r;exact Rep.func_iff.2 ⟨u,v,rfl,h1.out _ _ _ _ k1,h2.out _ _ _ _ k2⟩⟩
theorem Wk.fptr {l l':List AV} {o:Nat} (h:WkL l l'):Wk (.fptr l o) (.fptr l' o):=⟨fun w I α x r=>by
 cases r with
 | fptr _ _ b base g hI hg hr=>
  have cell:∀ (j:Nat) (c:AV),l'[j]? =some c→∃c0:AV,l[j]? =some c0∧Wk c0 c:=fun j c h2=>by
   have hj:j<l.length:=by
    rw[h.len];rcases Nat.lt_or_ge j l'.length with h|h
    ·exact h
    ·rw[List.getElem?_eq_none h] at h2;cases h2
   exact ⟨_,List.getElem?_eq_getElem hj,h.at_ j _ _ (List.getElem?_eq_getElem hj) h2⟩
  refine .fptr l' o b base g hI (fun j c hc=> ?_) (fun j c hc=> ?_)
  ·obtain ⟨c0,k1,_⟩:=cell j c hc;exact hg j c0 k1
  ·obtain ⟨c0,k1,k2⟩:=cell j c hc;exact k2.out _ _ _ _ (hr j c0 k1)⟩
theorem Fu {f:Bool} {w:World} {I:Nat→Prop} {α:Nat→Option Nat} {x:Value} (h:Rep w I α (.fsl f []) x):Rep w I α .nilsl x∨Rep w I α .nesl x:=by
 cases h with
 |fsl _ _ a len cap sz b base g hl hc hf ha hI hs hg hr=>
  obtain rfl:len=0:=by simpa using hl.symm
  rcases ha with rfl|⟨rfl,rfl⟩
  ·exact .inr (.nesl _ _)
  ·exact .inl .nilsl
section
variable {P:Program} {G:aZ} {f:FuncId} {args args':List AV} {v v':AV}
theorem M4 {Q Q':Value→World→Prop} {r:Result Next} (h:gX P Q r) (hq:∀v w,Q v w→Q' v w):gX P Q' r:=by
 unfold gX at h⊢;split at h
 ·exact hq _ _ h
 ·exact hq _ _ h
 ·exact Calls.mono h fun e w' ⟨v,h1,h2⟩=>⟨v,h1,hq _ _ h2⟩
 ·exact h
theorem SemCall.wk (h:SemCall P G f args' v) (ha:WkL args args') (hv:Wk v v'):SemCall P G f args v':=
 ⟨fun w I α H rid nx vs r hr h1 h2 h3=>M4 (h.out w I α H rid nx vs r (ha.out _ _ _ _ hr) h1 h2 h3) fun _ _ ⟨⟨I',α',q1,q2,q3,q4⟩,hle⟩=>⟨⟨I',α',q1,q2,hv.out _ _ _ _ q3,q4⟩,hle⟩⟩
theorem SemCall.res (h:SemCall P G f args v) (hv:Wk v v'):SemCall P G f args v':=h.wk (.refl _) hv
theorem SemCall.empty (h1:SemCall P G f [.nilsl] v) (h2:SemCall P G f [.nesl] v):SemCall P G f [.fsl false []] v:=
 ⟨fun w I α H rid nx vs r hr k1 k2 k3=>by
  obtain ⟨y,v',e,hy,ht⟩:=RepL.cons_inv hr;have:RepL w I α [.nilsl] vs.toList∨RepL w I α [.nesl] vs.toList:=by
   rw[e];rcases Fu hy with h|h
   ·exact .inl (.cons h ht)
   ·exact .inr (.cons h ht)
  rcases this with h|h
  ·exact h1.out w I α H rid nx vs r h k1 k2 k3
  ·exact h2.out w I α H rid nx vs r h k1 k2 k3⟩
end
inductive It where
 |mk (tag ty n:Int) (data:List UInt8) (kids:List It)
mutual
def aX:It→AV
 | .mk t y n d ks=> .agg [.int .i64 t,.int .i64 y,.int .i64 n,.fsl false (ak d),.fsl false (ap ks)]
def ap:List It→List AV
 |[]=>[]
 |k::r=>aX k::ap r
end
mutual
def eX (m:Nat):It→Prop
 | .mk _ _ _ d ks=>d.length≤m∧ks.length≤m∧lm m ks
def lm (m:Nat):List It→Prop
 |[]=>True
 |k::r=>eX m k∧lm m r
end
mutual
def eY:It→It→Bool
 | .mk t y n d ks,.mk t' y' n' d' ks'=>ao t t'&&(ao y y'&&(ao n n'&&(aI d d'&&fz ks ks')))
def fz:List It→List It→Bool
 |[],[]=>true
 |k::r,k'::r'=>eY k k'&&fz r r'
 |_,_=>false
end
mutual
theorem M5:∀x y:It,eY x y=true↔x=y
 | .mk t y n d ks,.mk t' y' n' d' ks'=>by
  simp only[eY,Bool.and_eq_true,beqInt_iff,beqBytes_iff,Ae ks ks',It.mk.injEq]
theorem Ae:∀l r:List It,fz l r=true↔l=r
 |[],[]=>by simp[fz]
 |[],_::_=>by simp[fz]
 |_::_,[]=>by simp[fz]
 |k::r,k'::r'=>by simp only[fz,Bool.and_eq_true,M5 k k',Ae r r',List.cons.injEq]
end
theorem Fv {l r:List It} (h:fz l r=true):l.length=r.length:=by rw[(Ae l r).1 h]
@[simp] theorem Fw {k:IntKind} {n:Int}:(AV.int k n).one=true:=rfl
@[simp] theorem Fx {s:List UInt8}:(AV.str s).one=true:=rfl
@[simp] theorem Fy {b:Bool}:(AV.bool b).one=true:=rfl
@[simp] theorem M6 {f:Bool} {l:List AV}:(AV.fsl f l).one=true:=rfl
theorem vA {P:Program} {t:TypeId} {v:AV} (h:fK P t=some false) (hv:v.one=true):aY P t v 1=true:=by simp only[aY,h,hv];rfl
theorem Af {P:Program} {t:TypeId} {l:List AV} {n:Nat} (h:fK P t=some true) (hl:Nat.beq (ab l) n=true) (ho:bq l=true):aY P t (.agg l) n=true:=by simp only[aY,h,AV.cells,hl,ho];rfl
theorem aD {b:Bool} {K:Prop} (h:b=true) (k:K):aw b K:=oblB_iff.2 ⟨h,k⟩
theorem mL:∀l:List It,ap l=l.map aX
 |[]=>rfl
 |k::r=>by simp only[ap,List.map_cons,mL r]
theorem okIs_iff {m:Nat}:∀ {l:List It},lm m l↔∀k∈l,eX m k
 |[]=>by simp[lm]
 |k::r=>by simp only[lm,okIs_iff (l:=r),List.forall_mem_cons]
mutual
theorem cG:∀x:It,ag (aX x)=true
 | .mk t y n d ks=>by
  have h:=iP ks;simp[aX,ag,ae,h]
theorem iP:∀l:List It,ae (ap l)=true
 |[]=>rfl
 |k::r=>by simp only[ap,ae,cG k,iP r,Bool.and_self]
end
end
end Go.Proofs.Abs
/- Loops, round by round; what hints ask. -/
namespace Go.Proofs.Abs
open Go
section
variable {P:Program} {G:aZ} {nx0:Nat} {s s2:St} {Q:AExit→St→Prop} {body:Code}
structure ALp (P:Program) (G:aZ) (nx0:Nat) (body:Code) (s:St) (Q:AExit→St→Prop):Prop where
 out:∃k,ARnd P G nx0 body Q k s
theorem ALp.loop (h:ALp P G nx0 body s Q):AWp P G nx0 (.loop body) s Q:=by
 obtain ⟨k,h⟩:=h;exact .loop k h
theorem ARnd.says (hs:Says2 G nx0 s s2):∀ {k:Nat},ARnd P G nx0 body Q k s2→ARnd P G nx0 body Q k s
 |0,h=>h
 |_+1,h=>AWp.says hs h
theorem ALp.says (hs:Says2 G nx0 s s2) (h:ALp P G nx0 body s2 Q):ALp P G nx0 body s Q:=by
 obtain ⟨k,h⟩:=h;exact ⟨k,h.says hs⟩
end
def cb (nx0:Nat) (lk:List (Nat × Nat)) (V:View) (N:Prop) (lk':List (Nat × Nat)) (F:View) (Q:AExit→St→Prop):AExit→St→Prop:=fun e s=>match e with
 | .normal=>dr nx0 lk V s∧N
 |e=>dr nx0 lk' F s∧Q e F.st
theorem ALp.round {P:Program} {O:bB} {n:Nat} {nx0:Nat} {Q:AExit→St→Prop} {body:Code} {A:bz} {V0 V1 V2 F:View} {lk lk':List (Nat × Nat)} (B:dQ P O n) (hA:dH P O A) (hls:LsOk P O.glob nx0 A body)
  (hM:Says2 O.glob nx0 V1.st V2.st) (h:aP P O n A body V0.st (cb nx0 lk V1 (ALp P O.glob nx0 body V2.st Q) lk' F Q)):ALp P O.glob nx0 body V0.st Q:=by
 have h:=zo B hA body _ _ hls h
 by_cases hN:ALp P O.glob nx0 body V2.st Q
 ·obtain ⟨k,hk⟩:=hN;refine ⟨k+1,h.saysEnd fun e s hq=> ?_⟩;cases e with
  |normal=>exact ⟨_,(qf B.glob hq.1).trans hM,hk⟩
  |exit i=>exact ⟨_,qf B.glob hq.1,hq.2⟩
  |ret=>exact ⟨_,qf B.glob hq.1,hq.2⟩
 ·refine ⟨1,h.saysEnd fun e s hq=> ?_⟩;cases e with
  |normal=>exact absurd hq.2 hN
  |exit i=>exact ⟨_,qf B.glob hq.1,hq.2⟩
  |ret=>exact ⟨_,qf B.glob hq.1,hq.2⟩
theorem LsOk.at1 {P:Program} {G:aZ} {nx0 r1:Nat} {L1:bV} {b1:Code} {c:Code} {A:bz} (hA:A.ls=ll [(r1,L1)]) (a1:bW c r1=[b1]) (h1:∀s Q,L1 s Q→AWp P G nx0 (.loop b1) s Q):LsOk P G nx0 A c:=
 LsOk.many hA fun p hp b hb s Q hs=>by
  simp only[List.mem_singleton] at hp;subst hp;rw[a1,List.mem_singleton] at hb;subst hb;exact h1 s Q hs
theorem LsOk.at3 {P:Program} {G:aZ} {nx0 r1 r2 r3:Nat} {L1 L2 L3:bV} {b1 b2 b3:Code} {c:Code} {A:bz} (hA:A.ls=ll [(r1,L1),(r2,L2),(r3,L3)]) (a1:bW c r1=[b1]) (a2:bW c r2=[b2]) (a3:bW c r3=[b3]) (h1:∀s Q,L1 s Q→AWp P G nx0 (.loop b1) s Q) (h2:∀s Q,L2 s Q→AWp P G nx0 (.loop b2) s Q) (h3:∀s Q,L3 s Q→AWp P G nx0 (.loop b3) s Q):LsOk P G nx0 A c:=
 LsOk.many hA fun p hp b hb s Q hs=>by
  simp only[mConQ,List.not_mem_nil,or_false] at hp;rcases hp with rfl|rfl|rfl
  ·rw[a1,List.mem_singleton] at hb;subst hb;exact h1 s Q hs
  ·rw[a2,List.mem_singleton] at hb;subst hb;exact h2 s Q hs
  ·rw[a3,List.mem_singleton] at hb;subst hb;exact h3 s Q hs
theorem AWp.seen {P:Program} {G:aZ} {nx0:Nat} {lk:List (Nat × Nat)} {V:View} {s:St} {Q:AExit→St→Prop} {body:Code} (hg:∀g l,G g=some l→ae l=true) (hs:dr nx0 lk V s) (h:ALp P G nx0 body V.st Q):AWp P G nx0 (.loop body) s Q:=(h.says (qf hg hs)).loop
theorem M7 {P:Program} {O:bB} {n:Nat} {f:FuncId} {args:List AV} {v:AV} (hm:P.follows .mixedOrders=true) (hsum:∀f args v,O.summ f args=some v→SemCall P O.glob f args v) (hcx:cz P O.glob O.cx∧cA O.cx) (hg:∀g l,O.glob g=some l→ae l=true)
  (h:∀id h nx,bm P O n f args id h nx=some (v,h,nx,⟨false,[],[]⟩)):SemCall P O.glob f args v:=by
 obtain ⟨h1,_⟩:=sM (P:=P) (O:=O) hm hsum hg hcx n;exact ⟨fun w I α H rid nx vs r ha hrid hlt hf=>h1 f args rid H nx v H nx _ (h rid H nx) w I α vs r ha hrid hlt hf⟩
theorem bQ {P:Program} {O:bB} {n:Nat} {A:bz} {f:FuncId} {args:List AV} {v:AV} (B:dQ P O n) (hA:dH P O A) (hl:jL P O.glob 0 A f) (hcl:ae args=true) (hv:ag v=true)
  (h:aH P O n A f args [] 0 (fun u _ _=>u=v)):SemCall P O.glob f args v:=by
 obtain ⟨fn,c,hfn,hc,hname,hsz,hw⟩:=oK B hA hl h;refine EF B hfn hc hname hsz hcl fun w I a hr=>wp_mono (hw.out w I _ [] [] a w (fun _ _=>rfl) hr) ?_;rintro e a' w' ⟨x,s',rfl,h2,hx,l,hl,hq⟩;refine ⟨s',l, ?_,h2,hl, ?_,hv⟩
 ·rcases hx with rfl|rfl
  ·exact .inl rfl
  ·exact .inr rfl
 ·rw[hq];exact (Frz.closed v hv).out
def lp (v u:AV) (H:ah):Prop:=∃r,(∃d,bi 0 H d u=some r)∧ag r=true∧Wk r v
def gB (v u:AV):Prop:=ag u=true∧Wk u v
theorem Ag {P:Program} {O:bB} {n:Nat} (B:dQ P O n) {f:FuncId} {fn:Func} {c:Code} {args:List AV} {v:AV} (hfn:P.funcs[f]? =some fn) (hc:fn.body=some c) (hname:(fn.name== "runtime.NumGoroutine")=false) (hsz:(Nat.ble (ab args) fn.ntmps&&Nat.ble fn.ntmps 4095)=true)
  (hcl:ae args=true) (h:∀w I a,CR O.glob w I (fun _=>none) [] 0 [] ⟨ey args 0 .tip,[],0,fn.ntmps⟩ a w→
   c.wp P (fun e a' w'=>∃s l,(dv .normal=e∨dv .ret=e)∧CR O.glob w I (fun _=>none) [] 0 [] s a' w'∧er P O.glob s fn.results.toList=some l∧lp v (eu l) s.heap) a w):
  SemCall P O.glob f args v:=by
 refine ⟨?_⟩;intro w I α H rid nx vs r ha hrid hlt hf;rw[Bool.and_eq_true,Nat.ble_eq,Nat.ble_eq,aM] at hsz;have e1:(callFunc f vs).run P w= .ok (.enter f vs) w:=by
  unfold callFunc;simp only[Sem.run_bind,run_program,Result.andThen_ok,hfn,hname,hc,Bool.false_eq_true,if_false,Option.isNone_some,Sem.run_pure]
 rw[e1];refine calls_of_wp hfn hc ?_;have hra:RepL w I (fun _=>none) args vs.toList:=mC ha hcl;have hvs:args.length=vs.size:=by rw[hra.1];simp
 have hr0:CR O.glob w I (fun _=>none) [] 0 [] ⟨ey args 0 .tip,[],0,fn.ntmps⟩ {tmps:=vs++Array.replicate (fn.ntmps-vs.size) undef,defers:=[]} w:=
  ⟨⟨I,fun _=>none,.refl,ox B.glob r,ov hra (by omega),fun i hi=>absurd hi (Nat.not_lt_zero i),fun _ _=>rfl,fun id h=>absurd rfl h⟩,Nat.le_refl _,Nat.le_refl _,rfl,by simp;omega,hsz.2⟩
 refine wp_mono (h w I _ hr0) fun e a' w' hq=> ?_;obtain ⟨s,l,he,hr,hl,v0,⟨d,hfz⟩,hcv,hwk⟩:=hq;obtain ⟨⟨I',α',h1,h2,h3,_,_,h6⟩,_,h8,h9,_,_⟩:=hr;obtain ⟨u,e1,e2⟩:=ow (P:=P) (fn:=fn) h2 h3 hl;have hp:gZ O.glob w I (fun _=>none) [] 0 (eu l) s.heap s.nx u w':=⟨⟨I',α',h1,h2,e2,h6⟩,h8⟩;have hpost:Post O.glob w I α H rid nx v H nx u w':=by
  obtain ⟨⟨I2,α2,q1,q2,q3,q4⟩,hle⟩:=pS r hp hfz hcv;exact ⟨⟨I2,α2,q1,q2,hwk.out _ _ _ _ q3,q4⟩,hle⟩
 rcases he with rfl|rfl<;>exact ⟨h9,u,e1,u,rfl,hpost⟩
theorem dg {P:Program} {O:bB} {n:Nat} {A:bz} {f:FuncId} {args:List AV} {v:AV} (B:dQ P O n) (hA:dH P O A) (hl:jL P O.glob 0 A f) (hcl:ae args=true)
  (h:aH P O n A f args [] 0 (fun u H _=>lp v u H)):SemCall P O.glob f args v:=by
 obtain ⟨fn,c,hfn,hc,hname,hsz,hw⟩:=oK B hA hl h;refine Ag B hfn hc hname hsz hcl fun w I a hr=>wp_mono (hw.out w I _ [] [] a w (fun _ _=>rfl) hr) ?_;rintro e a' w' ⟨x,s',rfl,h2,hx,l,hl,hq⟩;refine ⟨s',l, ?_,h2,hl,hq⟩;rcases hx with rfl|rfl
 ·exact .inl rfl
 ·exact .inr rfl
theorem bG {P:Program} {O:bB} {n:Nat} {A:bz} {f:FuncId} {args:List AV} {v:AV} (B:dQ P O n) (hA:dH P O A) (hl:jL P O.glob 0 A f) (hcl:ae args=true)
  (h:aH P O n A f args [] 0 (fun u _ _=>gB v u)):SemCall P O.glob f args v:=by
 obtain ⟨fn,c,hfn,hc,hname,hsz,hw⟩:=oK B hA hl h;refine Ag B hfn hc hname hsz hcl fun w I a hr=>wp_mono (hw.out w I _ [] [] a w (fun _ _=>rfl) hr) ?_;rintro e a' w' ⟨x,s',rfl,h2,hx,l,hl,hq⟩;refine ⟨s',l, ?_,h2,hl,_,(Frz.closed _ hq.1).out,hq.1,hq.2⟩;rcases hx with rfl|rfl
 ·exact .inl rfl
 ·exact .inr rfl
theorem kj {v:AV} (h:ag v=true):gB v v:=⟨h,.refl v⟩
theorem td {u v:AV} (h:u=v) (hc:ag v=true):gB v u:=by subst h;exact ⟨hc,.refl _⟩
theorem lq {n:Nat} {H:ah} {b c:Bool} (h:b=c):(∃d,bi n H d (.bool b)=some (.bool c))∧ag (.bool c)=true:=⟨⟨1,by rw[h];rfl⟩,rfl⟩
theorem Fz {n:Nat} {H:ah} {k:IntKind} {a b:Int} (h:a=b):(∃d,bi n H d (.int k a)=some (.int k b))∧ag (.int k b)=true:=⟨⟨1,by rw[h];rfl⟩,rfl⟩
theorem lr {n:Nat} {H:ah} {v:AV} (h:ag v=true):(∃d,bi n H d v=some v)∧ag v=true:=⟨(Frz.closed v h).out,h⟩
theorem vB {n:Nat} {H:ah} {v r:AV} (h:Frz n H v r) (hc:ag r=true):(∃d,bi n H d v=some r)∧ag r=true:=⟨h.out,hc⟩
theorem CR.up {G:aZ} {w0:World} {I0:Nat→Prop} {α0:Nat→Option Nat} {H0:ah} {nx0:Nat} {D:List Deferred} {s:St} {a:Act} {w:World} {m:Nat} (h:CR G w0 I0 α0 H0 nx0 D s a w) (hm:s.nx≤m):CR G w0 I0 α0 H0 nx0 D ⟨s.slots,s.heap,m,s.n⟩ a w:=by
 obtain ⟨⟨I,α,ev,rel,hs,_,hf,hnew⟩,h7,h8,h9,h10,h11⟩:=h;refine ⟨⟨I,α,ev,rel,hs,fun i hi=>absurd hi (Nat.not_lt_zero i),fun id hid=>hf id (Nat.le_trans hm hid),fun id hid=> ?_⟩,Nat.le_refl _,Nat.le_trans h8 hm,h9,h10,h11⟩;rcases hnew id hid with h|h
 ·exact .inl h
 ·exact .inr ⟨h.1,Nat.lt_of_lt_of_le h.2 hm⟩
def FA (m:Nat) (V:View) (s:St):Prop:=aw (Nat.beq V.n s.n&&Nat.ble s.nx V.nx) (zM m s.heap s.slots.get (V.slots++V.refs)∧zN m s.heap V.heap)
theorem M8 {G:aZ} {nx0 m:Nat} {V:View} {s:St} (h:FA m V s):Says2 G nx0 s V.st:=by
 obtain ⟨hb,h1,h2⟩:=oblB_iff.1 h;rw[Bool.and_eq_true] at hb;intro w0 I0 α0 H0 D a w _ hr;refine (hr.up (Nat.le_of_ble_eq_true hb.2)).freeze m (beq_iff.1 hb.1) rfl (fun k v hv=>EY h1 k v (sP hv)) fun i b hi=> ?_;obtain ⟨wh,hm⟩:=zH hi;exact EZ h2 i b wh hm
def M9 (m:Nat) (V:View):St→(St→Prop)→Prop:=fun s K=>FA m V s∧K V.st
def FB (r0:Nat) (C:St→(St→Prop)→Prop):Nat→Option (St→(St→Prop)→Prop):=fun r=>match Nat.beq r r0 with
 |true=>some C
 |false=>none
noncomputable def vC (A:bz) (r m:Nat) (V:View):bz:={A with cut:=FB r (M9 m V)}
theorem Na {P:Program} {O:bB} {A:bz} {r m:Nat} {V:View} (hA:dH P O A):dH P O (vC A r m V):=
 ⟨hA.cx,hA.sum,hA.inl,fun r' C hC nx0 s K hk=>by
  simp only[vC,FB] at hC;split at hC
  ·simp only[sInjQ] at hC;subst hC;exact ⟨V.st,M8 hk.1,hk.2⟩
  ·cases hC⟩
section
variable {P:Program} {G:aZ}
theorem FC {s d e:TypeId} {f:Bool} {b:List UInt8} (h1:P.underlying s=some (.slice e)) (h2:P.underlying d=some .string) (h3:nO P e=true):dM P s d (.fsl f (ak b))=some (.val (.str b)):=by
 simp only[dM,h1,h2,h3,ux,EQ,mo]
theorem gC {t e:TypeId} {sz i:Nat} {f:Bool} {l:List AV} {v:AV} (h1:P.underlying t=some (.slice e)) (h2:ca P e=some sz) (hv:l[i]? =some v) (hs:v.cells.length=sz):aF P t (.fsl f l) (.int .i64 (.ofNat i))=some (.fptr v.cells 0):=by
 have h5:Nat.beq (ab v.cells) sz=true:=by rw[beq_iff,aM,hs]
 simp only[aF,gR,h1,h2,gY,hv,h5,if_true,Option.bind_eq_bind,Option.bind_some]
end
end Go.Proofs.Abs
/- Objects as values. -/
namespace Go.Proofs.Abs
open Go
noncomputable section
structure Dt where
 has:Bool
 t:Int
structure Lk where
 ty:Int
 id:List UInt8
structure Cu where
 name:List UInt8
 text:List UInt8
structure Ob where
 id:List UInt8
 ty:Int
 alg:Int
 len:Int
 mask:Int
 mat:List UInt8
 st:Int
 d0:Dt
 d1:Dt
 d2:Dt
 d3:Dt
 d4:Dt
 d5:Dt
 d6:Dt
 d7:Dt
 d8:Dt
 d9:Dt
 why:Int
 msg:List UInt8
 names:List (List UInt8)
 links:List Lk
 cust:List Cu
 lh:Bool
 lt:Int
 lc:Int
 lu:Int
 arch:Bool
def aL (l:Lk):AV:= .agg [.int .i64 l.ty,.str l.id]
def az (c:Cu):AV:= .agg [.str c.name,.str c.text]
def b7 (o:Ob):AV:= .fsl false (ak o.mat)
def bR (o:Ob):AV:= .fsl false (o.names.map .str)
def bS (o:Ob):AV:= .fsl false (o.links.map aL)
def bD (o:Ob):AV:= .fsl false (o.cust.map az)
def aa (o:Ob) (M N L C:AV):List AV:=[.str o.id,.int .i64 o.ty,.int .i64 o.alg,.int .i64 o.len,.int .i64 o.mask,M,.int .i64 o.st,
 .bool o.d0.has,.int .i64 o.d0.t,.bool o.d1.has,.int .i64 o.d1.t,.bool o.d2.has,.int .i64 o.d2.t,.bool o.d3.has,.int .i64 o.d3.t,.bool o.d4.has,.int .i64 o.d4.t,
 .bool o.d5.has,.int .i64 o.d5.t,.bool o.d6.has,.int .i64 o.d6.t,.bool o.d7.has,.int .i64 o.d7.t,.bool o.d8.has,.int .i64 o.d8.t,.bool o.d9.has,.int .i64 o.d9.t,
 .int .i64 o.why,.str o.msg,N,L,C,.bool o.lh,.int .i64 o.lt,.int .i64 o.lc,.int .i64 o.lu,.bool o.arch]
def ax (o:Ob):List AV:=aa o (b7 o) (bR o) (bS o) (bD o)
def au (o:Ob):AV:= .agg (ax o)
theorem fN:∀l:List (List UInt8),ae (l.map .str)=true
 |[]=>rfl
 |s::t=>by simp only[List.map_cons,ae,fN t,Bool.and_true];rfl
theorem jN:∀l:List Lk,ae (l.map aL)=true
 |[]=>rfl
 |s::t=>by simp only[List.map_cons,ae,jN t,Bool.and_true];rfl
theorem iQ:∀l:List Cu,ae (l.map az)=true
 |[]=>rfl
 |s::t=>by simp only[List.map_cons,ae,iQ t,Bool.and_true];rfl
theorem fA (o:Ob):ag (b7 o)=true:=g6 _
theorem eJ (o:Ob):ag (bR o)=true:=fN _
theorem eK (o:Ob):ag (bS o)=true:=jN _
theorem fg (o:Ob):ag (bD o)=true:=iQ _
theorem bX (o:Ob):ae (ax o)=true:=by
 simp only[ax,aa,ae,ag,fA,eJ,eK,fg,Bool.and_self]
theorem Nb (o:Ob):ag (au o)=true:=bX o
theorem Nc (o:Ob):bq (ax o)=true:=by
 simp only[ax,aa,bq,Fx,Fw,Fy,b7,bR,bS,bD,M6,Bool.and_self]
theorem Nd (o:Ob):Nat.beq (ab (ax o)) 37=true:=rfl
end
end Go.Proofs.Abs
/- Calls with closed arguments, run by themselves, whose answers say enough; bodies that say less. -/
namespace Go.Proofs.Abs
open Go
noncomputable section
def be (P:Program) (O:bB) (n:Nat) (f:FuncId) (args:List AV):Option AV:=
 match kh P O (jM P O n) f args [] 0 with
 |some (v,h',_)=>bi 0 h' 40 v
 |none=>none
section
variable {P:Program} {O:bB} {n:Nat} {f:FuncId} {args:List AV} {v r:AV}
theorem Nf (hm:P.follows .mixedOrders=true) (hsum:∀f args v,O.summ f args=some v→SemCall P O.glob f args v) (hg:∀g l,O.glob g=some l→ae l=true) (hcx:cz P O.glob O.cx∧cA O.cx)
  (hcl:ae args=true) (h:be P O n f args=some v) (hv:ag v=true):SemCall P O.glob f args v:=by
 unfold be at h;rw[MR] at h;split at h
 ·rename_i v0 h0 m0 hr;obtain ⟨hc,hl⟩:=sM (P:=P) (O:=O) hm hsum hg hcx n;refine ⟨?_⟩;intro w I α H rid nx vs r ha hrid hlt hf;obtain ⟨e1,e2⟩:=sE hm hc hl hr (ox hg r) (mC ha hcl) (fun _ _=>rfl);rw[e1];exact Calls.mono e2 fun e w' ⟨u,h1,h2⟩=>⟨u,h1,pS r h2 h hv⟩
 ·cases h
theorem SemCall.emptyAt {f':Bool} {rest:List AV} (h1:SemCall P O.glob f (.nilsl::rest) v) (h2:SemCall P O.glob f (.nesl::rest) v):SemCall P O.glob f (.fsl f' []::rest) v:=
 ⟨fun w I α H rid nx vs r hr k1 k2 k3=>by
  obtain ⟨y,v',e,hy,ht⟩:=RepL.cons_inv hr;have:RepL w I α (.nilsl::rest) vs.toList∨RepL w I α (.nesl::rest) vs.toList:=by
   rw[e];rcases Fu hy with h|h
   ·exact .inl (.cons h ht)
   ·exact .inr (.cons h ht)
  rcases this with h|h
  ·exact h1.out w I α H rid nx vs r h k1 k2 k3
  ·exact h2.out w I α H rid nx vs r h k1 k2 k3⟩
end
def WkB:Blk→Blk→Prop
 | .cells l,.cells l'=>WkL l l'
 |b,b'=>b=b'
theorem WkB.rel {w:World} {I:Nat→Prop} {α:Nat→Option Nat} {b:Nat} {x y:Blk} (h:WkB x y) (r:BRel w I α b x):BRel w I α b y:=by
 cases x with
 | cells l=>cases y with
  |cells l'=>
   obtain ⟨c,e,h1,h2,h3⟩:=r;have h:WkL l l':=h;exact ⟨c,e,h1,by rw[←h.len];exact h2,by rw[←h.len];exact h.out _ _ _ _ h3⟩
  |_=>cases h
 |_=>cases y<;>first|(cases h;done)|(cases h;exact r)
def Ah (k:Nat) (h:ah):ah→Prop
 |[]=>True
 |(i,some b)::t=>(Nat.blt i k=true∧∃b0 b1,hget h i=some b0∧qd k h b0 b1∧WkB b1 b)∧Ah k h t
 |(_,none)::_=>False
theorem Ai {k:Nat} {h:ah}:∀ {H2:ah},Ah k h H2→∀i b,hget H2 i=some b→i<k∧∃b0 b1,hget h i=some b0∧qd k h b0 b1∧WkB b1 b
 |[],_,i,b,hb=>by cases hb
 | (j,some c)::t,he,i,b,hb=>by
  simp only[hget] at hb;split at hb
  ·rename_i hj;have hj:=beq_iff.1 hj;subst hj;cases hb;exact ⟨blt_iff.1 he.1.1,he.1.2⟩
  ·exact Ai he.2 i b hb
 |(_,none)::_,he,_,_,_=>he.elim
def Aj (k:Nat) (v:AV) (H2:ah) (nx2:Nat) (u:AV) (h:ah) (m:Nat):Prop:=Nat.ble m nx2=true∧(∃r,Frz k h u r∧Wk r v)∧Ah k h H2
theorem Ng {G:aZ} {w w':World} {I:Nat→Prop} {α:Nat→Option Nat} {H hE H2:ah} {nx m nx2 k:Nat} {u v:AV} {x:Value} (h:gZ G w I α H nx u hE m x w') (he:Aj k v H2 nx2 u hE m):gZ G w I α H nx v H2 nx2 x w':=by
 obtain ⟨hm,⟨r,hfr,hwk⟩,hH⟩:=he;have hm:=Nat.le_of_ble_eq_true hm;obtain ⟨⟨I',α',ev,rel,hrep,hnew⟩,hle⟩:=h;have hlive:∀i,hget H2 i≠none→i<k∧hget hE i≠none:=fun i hi=>by
  cases hb:hget H2 i with
  |none=>exact absurd hb hi
  |some b=>
   obtain ⟨h1,b0,b1,h2,_⟩:=Ai hH i b hb;exact ⟨h1,by rw[h2];simp⟩
 have hown:∀b,cP α' H2 b→cP α' hE b:=fun b ⟨i,h1,h2⟩=>⟨i,(hlive i h1).2,h2⟩;refine ⟨⟨eG I' α' hE k,α',⟨ev.os,fun b hb=> .inl (ev.I_mono b hb),ev.α_mono,ev.size,ev.frame,ev.shape,fun b hb=> ?_,fun b hb=>ev.own b (hown b hb)⟩, ?_, ?_,fun id hid=> ?_⟩,Nat.le_trans hle hm⟩
 ·rcases hb with hb|⟨id,_,h2,h3⟩
  ·exact ev.Inew b hb
  ·rcases ev.own b ⟨id,h2,h3⟩ with h|h
   ·exact .inr (.inl h)
   ·exact .inr (.inr h)
 ·exact
  {live:=fun i blk hi=>by
    obtain ⟨hmk,b0,b1,e2,e3,e4⟩:=Ai hH i blk hi;obtain ⟨b,k1,k2,k3⟩:=rel.live i b0 e2;refine ⟨b,k1, ?_,e4.rel (EW rel e3 k3)⟩;rintro (hb|⟨id,h1,h2,h3⟩)
    ·exact k2 hb
    ·have:=rel.inj id i b h2 (by rw[e2];simp) h3 k1;omega
   inj:=fun i i' b h1 h2 h3 h4=>rel.inj i i' b (hlive i h1).2 (hlive i' h2).2 h3 h4
   imm:=fun b hb=>by
    rcases hb with hb|⟨id,_,_,h3⟩
    ·exact rel.imm b hb
    ·exact rel.dom id b h3
   dom:=rel.dom
   glob:=fun g l hgl=>by
    obtain ⟨h1,h2⟩:=rel.glob g l hgl;refine ⟨.inl h1,fun j x hx=> ?_⟩;obtain ⟨y,e1,e2⟩:=h2 j x hx;exact ⟨y,e1,e2.mono (fun _ h=> .inl h) (fun _ _ h=>h) (fun _ _ _=>rfl) (fun _ _ _=>rfl)⟩}
 ·obtain ⟨d,hfr⟩:=hfr;exact hwk.out _ _ _ _ (kc rel k d _ _ _ hfr hrep)
 ·rcases hnew id hid with h|h
  ·exact .inl h
  ·exact .inr ⟨h.1,Nat.lt_of_lt_of_le h.2 hm⟩
theorem fB {P:Program} {O:bB} {n:Nat} {A:bz} {f:FuncId} {args:List AV} {H:ah} {nx k:Nat} {v:AV} {H2:ah} {nx2:Nat} (B:dQ P O n) (hA:dH P O A) (hl:jL P O.glob nx A f)
  (h:aH P O n A f args H nx (fun u h m=>Aj k v H2 nx2 u h m)):dw P O.glob f args H nx v H2 nx2:=by
 obtain ⟨fn,c,hfn,hc,hname,hsz,hw⟩:=oK B hA hl h;intro w I α vs r ha hf;rw[Bool.and_eq_true,Nat.ble_eq,Nat.ble_eq,aM] at hsz;refine ⟨?_, ?_⟩
 ·unfold callFunc;simp only[Sem.run_bind,run_program,Result.andThen_ok,hfn,hname,hc,Bool.false_eq_true,if_false,Option.isNone_some,Sem.run_pure]
 ·refine calls_of_wp hfn hc ?_;have hvs:args.length=vs.size:=by rw[ha.1];simp
  have hr0:CR O.glob w I α H nx [] ⟨ey args 0 .tip,H,nx,fn.ntmps⟩ {tmps:=vs++Array.replicate (fn.ntmps-vs.size) undef,defers:=[]} w:=
   ⟨⟨I,α,.refl,r,ov ha (by omega),fun i hi=>absurd hi (Nat.not_lt_zero i),hf,fun id h=> .inl h⟩,Nat.le_refl _,Nat.le_refl _,rfl,by simp;omega,hsz.2⟩
  refine wp_mono (hw.out w I α H [] _ w hf hr0) ?_;rintro e a' w' ⟨x,s,rfl,hr,hx,l,hl,hq⟩;obtain ⟨⟨I',α',h1,h2,h3,_,_,h6⟩,_,h8,h9,_,_⟩:=hr;obtain ⟨u,e1,e2⟩:=ow (P:=P) (fn:=fn) h2 h3 hl;have hp:gZ O.glob w I α H nx (eu l) s.heap s.nx u w':=⟨⟨I',α',h1,h2,e2,h6⟩,h8⟩;rcases hx with rfl|rfl<;>exact ⟨h9,u,e1,u,rfl,Ng hp hq⟩
theorem Nh {P:Program} {G:aZ} {f:FuncId} {args:List AV} {u v:AV} {H1:ah} {m:Nat} (hg:∀g l,G g=some l→ae l=true) (hcl:ae args=true) (h:dw P G f args [] 0 u H1 m) (he:lp v u H1):SemCall P G f args v:=by
 refine ⟨fun w I α H rid nx vs r ha hrid hlt hf=> ?_⟩;obtain ⟨e1,e2⟩:=h w I (fun _=>none) vs (ox hg r) (mC ha hcl) (fun _ _=>rfl);obtain ⟨v0,⟨d,hfz⟩,hcv,hwk⟩:=he;rw[e1];refine Calls.mono e2 fun e w' ⟨x,h1,h2⟩=>⟨x,h1, ?_⟩;obtain ⟨⟨I2,α2,q1,q2,q3,q4⟩,hle⟩:=pS r h2 hfz hcv;exact ⟨⟨I2,α2,q1,q2,hwk.out _ _ _ _ q3,q4⟩,hle⟩
end
end Go.Proofs.Abs
/- States with blocks that may be there or not. -/
namespace Go.Proofs.Abs
open Go
noncomputable section
def Ni:Option Blk→Prop
 |none=>True
 |some (.cells l)=>ae l=true
 |_=>False
structure aq (b:Option Blk):Prop where
 out:Ni b
def Ak (lk:List (Nat × Nat)) (h:ah):ah→Prop
 |[]=>True
 |(i,ob)::t=>(match bF lk i with
  |some j=>hget h j=ob∧aq ob
  |none=>False)∧Ak lk h t
def aQ (V:View) (opt:ah):St:=⟨sl (V.slots++V.refs),V.heap.heap++opt,V.nx,V.n⟩
def fC (nx0:Nat) (lk:List (Nat × Nat)) (V:View) (opt:ah) (s:St):Prop:=dr nx0 lk V s∧Ak lk s.heap opt
theorem Nj {a b:ah} {i:Nat} {x:Blk} (h:hget (a++b) i=some x):hget a i=some x∨hget b i=some x:=by
 induction a with
 |nil=>exact .inr h
 | cons p t ih=>
  obtain ⟨j,c⟩:=p;cases he:Nat.beq j i with
  |true=>
   simp only[List.cons_append,hget,he] at h;exact .inl (by simp only[hget,he];exact h)
  |false=>
   simp only[List.cons_append,hget,he] at h;rcases ih h with h|h
   ·exact .inl (by simp only[hget,he];exact h)
   ·exact .inr h
theorem FD {lk:List (Nat × Nat)} {h:ah}:∀ {opt:ah},Ak lk h opt→∀i b,hget opt i=some b→∃j b1,bF lk i=some j∧hget h j=some b1∧kY lk b b1
 |[],_,_,_,hb=>by cases hb
 | (i',ob)::t,ho,i,b,hb=>by
  simp only[hget] at hb;split at hb
  ·rename_i he;have he:=beq_iff.1 he;subst he;have h1:=ho.1;split at h1
   ·rename_i j hj;subst hb;refine ⟨j,b,hj,h1.1, ?_⟩;have hc:=h1.2.out;cases b with
    |cells l=>exact RenL.same lk hc
    |_=>exact hc.elim
   ·exact h1.elim
  ·exact FD ho.2 i b hb
theorem qh {G:aZ} {nx0:Nat} {lk:List (Nat × Nat)} {V:View} {opt:ah} {s:St} (hg:∀g l,G g=some l→ae l=true) (h:fC nx0 lk V opt s):Says2 G nx0 s (aQ V opt):=by
 obtain ⟨h,ho⟩:=h;obtain ⟨hb,h0,h1,h2⟩:=oblB_iff.1 h;simp only[zE,Bool.and_eq_true] at hb;obtain ⟨⟨b1,b2,b3⟩,b4,b5⟩:=hb;intro w0 I0 α0 H0 D a w hα hr;refine hr.turnIn lk hg hα (beq_iff.1 b5) (fun k v hv=>by
  rcases List.mem_append.1 (sP hv) with hm|hm
  ·exact zJ h0 k v hm
  ·exact zI h1 k v hm) (fun i b hi=> ?_) (zF b1) (fun i hi=> ?_) (zG b4) (Nat.le_of_ble_eq_true b3)
 ·rcases Nj hi with hi|hi
  ·obtain ⟨wh,hm⟩:=zH hi;exact zK h2 i b wh hm
  ·exact FD ho i b hi
 ·cases hl:bF lk i with
  |none=>rfl
  |some j=>
   have:=ka b2 i (List.mem_map.2 ⟨_,mH hl,rfl⟩);have hi:V.nx≤i:=hi;omega
def roundO (nx0:Nat) (lk:List (Nat × Nat)) (V:View) (opt:ah) (N:Prop) (lk':List (Nat × Nat)) (F:View) (opt':ah) (Q:AExit→St→Prop):AExit→St→Prop:=fun e s=>match e with
 | .normal=>fC nx0 lk V opt s∧N
 |e=>fC nx0 lk' F opt' s∧Q e (aQ F opt')
theorem ALp.roundO {P:Program} {O:bB} {n:Nat} {nx0:Nat} {Q:AExit→St→Prop} {body:Code} {A:bz} {s0 s2:St} {V1 F:View} {opt opt':ah} {lk lk':List (Nat × Nat)} (B:dQ P O n) (hA:dH P O A) (hls:LsOk P O.glob nx0 A body)
  (hM:Says2 O.glob nx0 (aQ V1 opt) s2) (h:aP P O n A body s0 (roundO nx0 lk V1 opt (ALp P O.glob nx0 body s2 Q) lk' F opt' Q)):ALp P O.glob nx0 body s0 Q:=by
 have h:=zo B hA body _ _ hls h
 by_cases hN:ALp P O.glob nx0 body s2 Q
 ·obtain ⟨k,hk⟩:=hN;refine ⟨k+1,h.saysEnd fun e s hq=> ?_⟩;cases e with
  |normal=>exact ⟨_,(qh B.glob hq.1).trans hM,hk⟩
  |exit i=>exact ⟨_,qh B.glob hq.1,hq.2⟩
  |ret=>exact ⟨_,qh B.glob hq.1,hq.2⟩
 ·refine ⟨1,h.saysEnd fun e s hq=> ?_⟩;cases e with
  |normal=>exact absurd hq.2 hN
  |exit i=>exact ⟨_,qh B.glob hq.1,hq.2⟩
  |ret=>exact ⟨_,qh B.glob hq.1,hq.2⟩
theorem AWp.seenO {P:Program} {G:aZ} {nx0:Nat} {lk:List (Nat × Nat)} {V:View} {opt:ah} {s:St} {Q:AExit→St→Prop} {body:Code} (hg:∀g l,G g=some l→ae l=true) (hs:fC nx0 lk V opt s) (h:ALp P G nx0 body (aQ V opt) Q):AWp P G nx0 (.loop body) s Q:=(h.says (qh hg hs)).loop
end
end Go.Proofs.Abs
/- States that say less: fewer blocks. -/
namespace Go.Proofs.Abs
open Go
noncomputable section
theorem Says2.sub {G:aZ} {nx0:Nat} {s s2:St} (hs:s2.slots=s.slots) (hh:∀i b,hget s2.heap i=some b→hget s.heap i=some b) (hnx:s2.nx=s.nx) (hn:s2.n=s.n):Says2 G nx0 s s2:=by
 intro w0 I0 α0 H0 D a w hα h;obtain ⟨⟨I,α,ev,rel,hsl,h4,hf,hnew⟩,h7,h8,h9,h10,h11⟩:=h;have hne:∀i,hget s2.heap i≠none→hget s.heap i≠none:=fun i h=>by
  cases hi:hget s2.heap i with
  |none=>exact absurd hi h
  |some b=>rw[hh i b hi];simp
 refine ⟨⟨I,α,⟨ev.os,ev.I_mono,ev.α_mono,ev.size,ev.frame,ev.shape,ev.Inew,fun b ⟨i,h1,h2⟩=>ev.own b ⟨i,hne i h1,h2⟩⟩, ?_, ?_,fun i hi=>absurd hi (Nat.not_lt_zero i),fun id hid=>hf id (by rw[←hnx];exact hid),fun id hid=> ?_⟩,Nat.le_refl _,by rw[hnx];exact h8,h9,by rw[hn];exact h10,by rw[hn];exact h11⟩
 ·exact ⟨fun i blk hi=>rel.live i blk (hh i blk hi),fun i i' b h1 h2=>rel.inj i i' b (hne i h1) (hne i' h2),rel.imm,rel.dom,rel.glob⟩
 ·rw[hs];exact hsl
 ·rw[hnx];exact hnew id hid
end
end Go.Proofs.Abs
/- What a body comes to, under other numbers: of the blocks that it is handed, and of those that are new. -/
namespace Go.Proofs.Abs
open Go
section
variable {P:Program} {G:aZ} {f:FuncId} {args args2:List AV} {v v2:AV} {H H' H2 H2':ah} {nx nx' nx2 nx2':Nat} {lk:List (Nat × Nat)}
end
end Go.Proofs.Abs
