import Derived.Test.YtlljinebapfdaaaGreatDoorG4
import Derived.OpenShut
import Derived.LaidMore
namespace Go.Proofs.Abs
open Go
noncomputable section
def ax (b:Bool) (K:Prop):Prop:=match b with
 |true=>K
 |false=>False
def aa (b:Bool) (T F:Prop):Prop:=match b with
 |true=>T
 |false=>F
inductive ES where
 |eff (e:Eff)
 |obl (b:Bool) (e:Eff)
 |app (b:Bool) (i:Nat) (k:List AV→Bool × List AV) (v:Nat→AV)
 |pick (b:Bool) (x y:Option AV)
 |put (b:Bool) (i:Nat) (k:List AV→Bool × List AV) (v:AV)
def ES.ok (oe:Option Eff):ES→Prop
 | .eff e=>oe=some e
 | .obl b e=>b=true→oe=some e
 | .app b i k v=>b=true→∃kk,oe=some (.repl i kk)∧∀l,(k l).1=true→kk (.cells l)=some (.cells (k l).2,v)
 | .pick b x y=>(b=true→oe=bz x)∧(b=false→oe=bz y)
 | .put b i k v=>b=true→∃kk,oe=some (.upd i kk)∧∀l,(k l).1=true→kk (.cells l)=some (.cells (k l).2,v)
inductive dy where
 |plain
 |ans (a:lG)
 |el (v:AV)
 |ld (v:AV)
 |res (r:AV)
 |lk (r:Option AV)
 |up (es:List (AV × AV)) (same:Bool)
 |dl (i:Option Nat)
 |en (j:Nat)
def eB:Int→Bool
 | .ofNat _=>true
 |_=>false
def jm:AV→Option (Bool × Nat)
 | .int _ n=>some (eB n,n.toNat)
 |_=>none
def nD:Option AV→Option (Bool × Option Nat)
 |none=>some (true,none)
 |some v=>match jm v with
  |some (b,n)=>some (b,some n)
  |none=>none
def ig (es:List AV):List UInt8:=(dh es).getD []
def nE (l:List AV) (o:Nat) (vs:List AV):List AV:=l.take o++(vs++l.drop (o+ac vs))
def gm (s:List UInt8) (i:Nat):UInt8:=s[i]?.getD 0
section
variable (P:Program)
def eqF (eq:TypeId→AV→AV→Option Bool):List Field→List AV→List AV→Option Bool
 |[],_,_=>some true
 | f::fs,xs,ys=>match f.name== "_" with
  |true=>eqF eq fs xs ys
  | false=>match ch P f.type xs f.offset,ch P f.type ys f.offset with
   |some a,some b=>match eq f.type a b,eqF eq fs xs ys with
    |some p,some q=>some (p&&q)
    |_,_=>none
   |_,_=>none
def nF (eq:TypeId→AV→AV→Option Bool) (e:TypeId) (sz:Nat) (xs ys:List AV):List Nat→Option Bool
 |[]=>some true
 | i::is=>match ch P e xs (i*sz),ch P e ys (i*sz) with
  |some a,some b=>match eq e a b,nF eq e sz xs ys is with
   |some p,some q=>some (p&&q)
   |_,_=>none
  |_,_=>none
def kq:Nat→TypeId→AV→AV→Option Bool
 |0,_,_,_=>none
 | d+1,t,x,y=>match x,y with
  | .agg xs,.agg ys=>match P.underlying t with
   |some (.struct fs)=>match P.stoodInHeld t with
    |true=>none
    |false=>eqF P (kq d) fs.toList xs ys
   |some (.array n e)=>match bC P e with
    |some sz=>nF P (kq d) e sz xs ys (List.range n)
    |none=>none
   |_=>none
  |x,y=>c9 P (d+1) t x y
def jn (sz:Nat) (x:AV):Option (Bool × Nat × List AV):=match x with
 | .fsl _ es=>some (bT sz es,ac es,flat es)
 | .nilsl=>some (true,0,[])
 | .nesl=>some (true,0,[])
 | .str s=>some (Nat.beq sz 1,ac s,aj s)
 |_=>none
def yU (i:TypeInfo) (s:AV) (b:Bool) (n:Nat) (cs:List AV):Option ES:=match s with
 | .nilsl=>match Nat.beq n 0 with
  |true=>some (.obl b (.val .nilsl))
  |false=>some (.obl (b&&Nat.ble (n*i.bytes) 140737488355328) (.new (.cells cs) fun id=> .rsl true id 0 n i.size))
 | .fsl true es=>match Nat.beq n 0 with
  |true=>some (.obl b (.val (.fsl true es)))
  |false=>some (.obl (b&&(Nat.ble ((ac es+n)*i.bytes) 140737488355328&&bT i.size es)) (.new (.cells (flat es++cs)) fun id=> .rsl true id 0 (ac es+n) i.size))
 | .rsl true id 0 len sz=>some (.app (b&&(Nat.ble ((len+n)*i.bytes) 140737488355328&&(bu cs&&Nat.beq sz i.size))) id (fun l=>(Nat.beq (ac l) (len*i.size),l++cs)) fun id'=> .rsl true id' 0 (len+n) i.size)
 |_=>none
def E8:TypeDesc→Bool
 | .slice _| .string=>true
 |_=>false
def nG (xd:TypeDesc) (sz bytes:Nat) (z x:AV):Option (Bool × Nat × List AV):=match xd with
 | .slice _| .string=>jn sz x
 | .int _=>match x with
  | .int _ n=>some (eB n&&(Nat.ble n.toNat 9223372036854775807&&Nat.ble (n.toNat*bytes) 281474976710656),n.toNat,flat (bV z n.toNat))
  |_=>none
 |_=>none
def tD (argTypes:Array TypeId) (s x:AV):Option ES:=
 match argTypes[0]?,argTypes[1]? with
 | some st,some xt=>match P.underlying st,P.underlying xt with
  | some (.slice e),some xd=>match P.info? e,dp P e with
   | some i,some z=>match Nat.beq i.size 0||Nat.beq i.bytes 0|| !Nat.beq (ac z.cells) i.size with
    |true=>none
    |false=>match nG xd i.size i.bytes z x with
     |some (b,n,cs)=>yU i s b n cs
     |none=>none
   |_,_=>none
  |_,_=>none
 |_,_=>none
def tE (t:TypeId) (x:AV) (lo hi mx:Option AV):Option ES:=
 match nD lo,nD hi,mx with
 | some (b1,lo),some (b2,hi),none=>match x with
  | .str s=>match P.underlying t with
   |some .string=>some (.obl (b1&&(b2&&(Nat.ble (lo.getD 0) (hi.getD (ac s))&&Nat.ble (hi.getD (ac s)) (ac s)))) (.val (.str ((s.drop (lo.getD 0)).take (hi.getD (ac s)-lo.getD 0)))))
   |_=>none
  | .fsl full es=>match da P t with
   |some e=>match bC P e with
    |some sz=>some (.obl (b1&&(b2&&(mQ sz es&&(Nat.ble (lo.getD 0) (hi.getD (ac es))&&Nat.ble (hi.getD (ac es)) (ac es))))) (.val (.fsl (mR full none (hi.getD (ac es)) (ac es)) ((es.drop (lo.getD 0)).take (hi.getD (ac es)-lo.getD 0)))))
    |none=>none
   |none=>none
  | .rsl own id off len sz'=>match lo,hi with
   | none,some h=>match da P t with
    |some e=>match bC P e with
     |some sz=>some (.obl (b2&&(Nat.beq sz sz'&&Nat.ble h len)) (.val (.rsl own id off h sz)))
     |none=>none
    |none=>none
   |_,_=>none
  |_=>none
 |_,_,_=>none
def tG (src dst:TypeId) (x:AV):Option ES:=
 match P.underlying src,P.underlying dst,x with
 |some (.slice e),some .string,.fsl _ es=>match jT P e with
  |true=>some (.obl (dh es).isSome (.val (.str (ig es))))
  |false=>none
 |_,_,_=>none
def tH (t:TypeId) (l c:AV):Option ES:=
 match da P t,jm l,jm c with
 | some e,some (b1,l),some (b2,c)=>match P.info? e,dp P e with
  |some i,some z=>
   some (.obl (b1&&(b2&&(Nat.ble l c&&Nat.ble (i.bytes*c) 281474976710656&&Nat.ble c 9223372036854775807&&Nat.beq (ac z.cells) i.size&&Nat.blt 0 i.size))) (.new (.cells (flat (bV z c))) fun id=> .rsl true id 0 l i.size))
  |_,_=>none
 |_,_,_=>none
def tI (argTypes:Array TypeId) (d x:AV):Option ES:=
 match argTypes[0]? with
 | some t=>match da P t with
  | some e=>match bC P e with
   | some sz=>match d with
    | .rsl _ id off len _=>match jn sz x with
     |some (b,n,cs)=>some (.put (b&&bu cs) id (fun l=>(Nat.ble (off+ac (cs.take (min n len*sz))) (ac l),nE l off (cs.take (min n len*sz)))) (.int .i64 (.ofNat (min n len))))
     |none=>none
    |_=>none
   |none=>none
  |none=>none
 |none=>none
def pL (t:TypeId) (v:AV):List AV:=match eg P t with
 |some false=>[v]
 |_=>v.cells
def a9 (t:TypeId) (v:AV) (n:Nat):Bool:=match eg P t with
 |some false=>v.one&&Nat.beq n 1
 |_=>Nat.beq (ac v.cells) n&&bu v.cells
def tJ (t:TypeId) (a v:AV):Option ES:=
 match a with
 | .ptr id off=>match bC P t with
  |some n=>some (.put (a9 P t v n) id (fun l=>(Nat.ble (off+n) (ac l),nE l off (pL P t v))) dW)
  |none=>none
 |_=>none
def tK (t:TypeId) (v:AV):Option ES:=match eg P t with
 |some false=>some (.obl v.one (.new (.cells [v]) fun id=> .ptr id 0))
 |_=>none
def nH (fs:List Field) (pl:List (Nat × Nat)):List AV→List (Nat × AV)→Option (Bool × List AV)
 |cells,[]=>some (true,cells)
 | cells,(i,v)::rest=>match cg fs i,cg pl i with
  | some f,some (off,s)=>match Nat.blt 0 s&&Nat.ble (off+s) (ac cells) with
   |true=>match nH fs pl (nE cells off (pL P f.type v)) rest with
    |some (b,c)=>some (a9 P f.type v s&&b,c)
    |none=>none
   |false=>none
  |_,_=>none
def tL (t:TypeId) (parts:List (Nat × AV)):Option ES:=
 match dp P t,P.underlying t with
 | some z,some (.struct fs)=>match kV P fs.toList with
  |some pl=>match nH P fs.toList pl z.cells parts with
   |some (b,c)=>some (.obl b (.val (.agg c)))
   |none=>none
  |none=>none
 |_,_=>none
def tM (t:TypeId) (x i:AV):Option ES:=
 match P.underlying t,x,jm i with
 |some (.slice e),.rsl _ id off len sz',some (b,i)=>match bC P e with
  |some sz=>some (.obl (b&&(Nat.blt i len&&Nat.beq sz sz')) (.val (.ptr id (off+i*sz))))
  |none=>none
 |_,_,_=>none
def lO (glob:Nat→Option (List AV)) (ops:List Oper) (ev:Operand→Option AV) (o:Oper):Option ES:=
 match o.op with
 | .pick c a b=>match ev c with
  |some (.bool t)=>some (.pick t (ev a) (ev b))
  |_=>none
 | .binOp op t x y _=>match op,ev x,ev y with
  | .add,some (.str a),some (.str b)=>some (.obl (Nat.ble (ac a+ac b) 9223372036854775807) (.val (.str (a++b))))
  | .eql,some (.agg a),some (.agg b)=>match P.eqGuardType P.depth t,kq P 16 t (.agg a) (.agg b) with
   |false,some r=>some (.eff (.val (.bool r)))
   |_,_=>none
  | .neq,some (.agg a),some (.agg b)=>match P.eqGuardType P.depth t,kq P 16 t (.agg a) (.agg b) with
   |false,some r=>some (.eff (.val (.bool !r)))
   |_,_=>none
  | .quo,some (.int k a),some (.int k' b)=>match decide (k=k') with
   |true=>some (.obl (!ah b 0) (.val (.int k (az k (a.tdiv b)))))
   |false=>none
  | .rem,some (.int k a),some (.int k' b)=>match decide (k=k') with
   |true=>some (.obl (!ah b 0) (.val (.int k (a.tmod b))))
   |false=>none
  |_,_,_=>match bE P glob ops ev o with
   |some e=>some (.eff e)
   |none=>none
 | .store t a x=>match ev a,ev x with
  |some a,some x=>tJ P t a x
  |_,_=>none
 | .box t x=>match ev x with
  | some v=>match tK P t v with
   |some e=>some e
   |none=>match bE P glob ops ev o with
    |some e=>some (.eff e)
    |none=>none
  |none=>none
 | .build t parts=>match gJ ev parts.toList with
  | some ps=>match tL P t ps with
   |some e=>some e
   |none=>match bE P glob ops ev o with
    |some e=>some (.eff e)
    |none=>none
  |none=>none
 | .indexAddr t x i=>match ev x,ev i with
  | some x,some i=>match tM P t x i with
   |some e=>some e
   |none=>match bE P glob ops ev o with
    |some e=>some (.eff e)
    |none=>none
  |_,_=>none
 | .convert s d x=>match ev x with
  | some (.fsl f es)=>match tG P s d (.fsl f es) with
   |some e=>some e
   |none=>match bE P glob ops ev o with
    |some e=>some (.eff e)
    |none=>none
  |_=>match bE P glob ops ev o with
   |some e=>some (.eff e)
   |none=>none
 | .index t x i=>match P.underlying t,ev x,ev i with
  |some .string,some (.str s),some w=>match jm w with
   |some (b,k)=>some (.obl (b&&Nat.blt k (ac s)) (.val (.int .u8 (.ofNat (gm s k).toNat))))
   |none=>none
  |_,_,_=>match bE P glob ops ev o with
   |some e=>some (.eff e)
   |none=>none
 | .makeSlice t l c=>match ev l,ev c with
  |some l,some c=>tH P t l c
  |_,_=>none
 | .slice t x lo hi mx=>match ev x,em ev lo,em ev hi,em ev mx with
  | some x,some lo,some hi,some mx=>match tE P t x lo hi mx with
   |some e=>some e
   |none=>match gI P t x lo hi mx with
    |some e=>some (.eff e)
    |none=>none
  |_,_,_,_=>none
 | .call c=>match c.callee,eN ev c.args.toList with
  | .builtin .append,some [s,x]=>match tD P c.argTypes s x with
   |some e=>some e
   |none=>match jX P c.argTypes s x with
    |some e=>some (.eff e)
    |none=>none
  | .builtin .copy,some [d,x]=>match tI P c.argTypes d x with
   |some e=>some e
   |none=>match jY P c.argTypes d x with
    |some e=>some (.eff e)
    |none=>none
  |_,_=>match bE P glob ops ev o with
   |some e=>some (.eff e)
   |none=>none
 |_=>match bE P glob ops ev o with
  |some e=>some (.eff e)
  |none=>none
variable (O:aT) (n:Nat)
abbrev bL:=St→(AExit→St→Prop)→Prop
inductive nJ where
 |val (v:AV)
 |part (L:List Nat) (v:AV) (H2:ab) (m:Nat)
abbrev dF:=FuncId→List AV→ab→Nat→Option nJ
def aA:dF:=fun _ _ _ _=>none
structure nK where
 see:List AV→ab→List Nat
 run:List AV→ab→Nat→(AV→ab→Nat→Prop)→Prop
def tN:FuncId→Option nK:=fun _=>none
def gn:Nat→Option (St→(St→Prop)→Prop):=fun _=>none
structure aV where
 hint:Nat→Nat→Option dy:=fun _ _=>none
 ls:Nat→Option bL:=fun _=>none
 cx:aI:=fun _ _ _ _ _=>none
 sem:dF:=aA
 inl:FuncId→Option nK:=tN
 cut:Nat→Option (St→(St→Prop)→Prop):=gn
def tO (L:List Nat) (H2:ab) (nx:Nat) (h:ab):ab:=Mods.app (gL (eP H2 L) (ey nx H2 H2)) h
def nL (args:List AV) (h:ab) (nx:Nat) (K:AV→ab→Nat→Foot→Prop) (T:nK):Prop:=
 T.run args (bG h (T.see args h)) nx fun v H2 nx2=>ax (Nat.ble nx nx2) (K v (tO (T.see args h) H2 nx h) nx2 ⟨true,T.see args h,nx::T.see args h⟩)
def lP (f:FuncId) (args:List AV) (h:ab) (nx:Nat) (K:AV→ab→Nat→Foot→Prop):nJ→Prop
 | .val v=>SemCall P O.glob f args v∧K v h nx ⟨false,[],[]⟩
 | .part L v H2 m=>BodySem P O.glob f args (bG h L) nx v H2 (nx+m)∧K v (tO L H2 nx h) (nx+m) ⟨true,L,nx::L⟩
variable (A:aV)
def eR (id d:Nat) (e:Eff) (h:ab) (nx:Nat) (K:AV→ab→Nat→Foot→Prop):Prop:=
 match aM (a8 P O n) id d e h nx with
 |some (v,h',nx',ft)=>K v h' nx' ft
 |none=>False
def eC (id:Nat):Nat→Eff→ab→Nat→(AV→ab→Nat→Foot→Prop)→Prop
  | 0, e,h,nx,K=>match e with
    | .call f args=>match A.cx f args id h nx with
      |some (v,h',nx',ft)=>K v h' nx' ft
      | none=>match A.sem f args h nx with
       |some r=>lP P O f args h nx K r
       | none=>match A.inl f with
        |some T=>nL args h nx K T
        |none=>match O.how f with
         | .pure=>match O.summ f args with
           |some v=>ax (ae args) (K v h nx ⟨false,[],[]⟩)
           |none=>eR P O n id 0 (.call f args) h nx K
         |_=>eR P O n id 0 (.call f args) h nx K
    |e=>eR P O n id 0 e h nx K
  | d + 1, e,h,nx,K=>match e with
    | .call f args=>match A.cx f args id h nx with
      |some (v,h',nx',ft)=>K v h' nx' ft
      | none=>match A.sem f args h nx with
       |some r=>lP P O f args h nx K r
       | none=>match A.inl f with
        |some T=>nL args h nx K T
        |none=>match O.how f with
         | .pure=>match O.summ f args with
           |some v=>ax (ae args) (K v h nx ⟨false,[],[]⟩)
           |none=>eR P O n id (d+1) (.call f args) h nx K
         |_=>eR P O n id (d+1) (.call f args) h nx K
    | .read i k=>match hget h i with
      | some b=>match k b with
        |some e=>eC id d e h nx fun v h' nx' ft=>K v h' nx' ⟨ft.all,i::ft.r,ft.w⟩
        |none=>False
      |none=>False
    |e=>eR P O n id (d+1) e h nx K
def nM (id:Nat) (h:ab) (nx:Nat) (K:AV→ab→Nat→Foot→Prop):Option ES→Prop
 |none=>False
 |some (.eff e)=>eC P O n A id 2 e h nx K
 |some (.obl b e)=>ax b (eC P O n A id 2 e h nx K)
 |some (.app b i k v)=>ax b (match hget h i with
  |some (.cells l)=>ax (k l).1 (K (v id) (aY (aZ h i) id (.cells (k l).2)) nx ⟨false,[],[i,id]⟩)
  |_=>False)
 |some (.put b i k v)=>ax b (match hget h i with
  |some (.cells l)=>ax (k l).1 (K v (aY h i (.cells (k l).2)) nx ⟨false,[],[i]⟩)
  |_=>False)
 | some (.pick b x y)=>match b with
  |true=>match x with
   |some v=>K v h nx ⟨false,[],[]⟩
   |none=>False
  |false=>match y with
   |some v=>K v h nx ⟨false,[],[]⟩
   |none=>False
def tP (ev:Operand→Option AV) (o:Oper) (r:AV):Option Prop:=
 match o.op with
 | .convert s d x=>match ev x with
  |some v=>some (ei P s d v=some (.val r))
  |none=>none
 | .indexAddr t x i=>match ev x,ev i with
  |some v,some w=>some (aQ P t v w=some r)
  |_,_=>none
 | .index t x i=>match ev x,ev i with
  |some v,some w=>some (cL P t v w=some r)
  |_,_=>none
 | .slice t x lo hi mx=>match ev x,em ev lo,em ev hi,em ev mx with
  |some x,some lo,some hi,some mx=>some (gI P t x lo hi mx=some (.val r))
  |_,_,_,_=>none
 | .binOp op t x y _=>match ev x,ev y with
  |some v,some w=>some (aU P op t x y v w=some r)
  |_,_=>none
 | .call c=>match c.callee,eN ev c.args.toList with
  | .builtin b,some args=>some (i5 P b c.argTypes args=some (.val r))
  |_,_=>none
 |_=>none
structure E9 (cl last:Nat) (seen st:List Nat) (es:List (AV × AV)) (k v:AV):Prop where
 clk:cl=last
 at':∃s,j2 seen=some s∧li s st es=some (.tuple [k,v])
def pM (t:TypeId) (k:AV):Option AV:=match P.underlying t with
 |some (.map kt et)=>match g8 P kt k with
  |true=>dp P et
  |false=>none
 |_=>none
def tQ (argTypes:Array TypeId) (k:AV):Bool:=match argTypes[0]? with
 |some t=>match P.underlying t with
  |some (.map kt _)=>g8 P kt k
  |_=>false
 |none=>false
def yV (same:Bool) (cl:Nat) (st:List Nat) (es:List (AV × AV)):Blk:=match same with
 |true=> .mapb cl st es
 |false=> .mapb (cl+1) (st++[cl]) es
def yW (j:Option Nat) (cl:Nat) (st:List Nat) (es:List (AV × AV)):Blk:=match j with
 |some i=> .mapb cl (st.eraseIdx i) (es.eraseIdx i)
 |none=> .mapb cl st es
def eD (ops:List Oper) (id:Nat) (o:Oper) (s:St) (K:AV→ab→Nat→Foot→Prop):dy→Prop
 | .plain=>match bE P O.glob ops (aS s.slots) o with
  |some e=>eC P O n A id 2 e s.heap s.nx K
  |none=>False
 | .ans a=>match pF P O n (fun _ _ _ _ _=>none) ops id o s a with
  |some ((v,h,nx,ft),F)=>dx P O F∧K v h nx ft
  |none=>False
 | .el v=>match o.op with
  | .indexAddr t x i=>match aS s.slots x,aS s.slots i with
   | some (.fsl _ es),some w=>match jm w,da P t with
    |some (b,k),some e=>match bC P e with
     |some sz=>cg es k=some v∧ax (b&&Nat.beq (ac v.cells) sz) (K (.fptr v.cells 0) s.heap s.nx ⟨false,[],[]⟩)
     |none=>False
    |_,_=>False
   |_,_=>False
  |_=>False
 | .ld v=>match o.op with
  | .load t a=>match aS s.slots a with
   |some (.ptr i off)=>match hget s.heap i with
    |some (.cells l)=>ch P t l off=some v∧K v s.heap s.nx ⟨false,[i],[]⟩
    |_=>False
   |some (.fptr cs off)=>ch P t cs off=some v∧K v s.heap s.nx ⟨false,[],[]⟩
   |some (.gptr g off)=>eh P t (.gptr g off) O.glob=some (.val v)∧K v s.heap s.nx ⟨false,[],[]⟩
   |_=>False
  |_=>False
 | .res r=>match tP P (aS s.slots) o r with
  |some p=>p∧K r s.heap s.nx ⟨false,[],[]⟩
  |none=>False
 | .lk r=>match o.op with
  | .lookup t m k ok=>match aS s.slots m,aS s.slots k with
   | some (.map i),some kv=>match hget s.heap i with
    |some (.mapb _ _ es)=>match pM P t kv with
     |some z=>kW kv es=some r∧K (kY ok z r) s.heap s.nx ⟨false,[i],[]⟩
     |none=>False
    |_=>False
   |_,_=>False
  |_=>False
 | .up es' same=>match o.op with
  | .mapUpdate t m k v=>match aS s.slots m,aS s.slots k,aS s.slots v with
   | some (.map i),some kv,some vv=>match hget s.heap i with
    |some (.mapb cl st es)=>match pM P t kv with
     |some _=>(kX kv vv es=some es'∧Nat.beq (ac es') (ac es)=same)∧K dW (aY s.heap i (yV same cl st es')) s.nx ⟨false,[],[i]⟩
     |none=>False
    |_=>False
   |_,_,_=>False
  |_=>False
 | .dl j=>match o.op with
  | .call c=>match c.callee,eN (aS s.slots) c.args.toList with
   | .builtin .delete,some [.map i,kv]=>match hget s.heap i with
    |some (.mapb cl st es)=>match tQ P c.argTypes kv with
     |true=>kZ kv es 0=some j∧K (.tuple []) (aY s.heap i (yW j cl st es)) s.nx ⟨false,[],[i]⟩
     |false=>False
    |_=>False
   |_,_=>False
  |_=>False
 | .en j=>match o.op with
  | .entry x=>match aS s.slots x,s.slots.get j with
   | some (.ptr it 0),some (.tuple [_,k,v])=>match hget s.heap it with
    |some (.miter m _ seen last)=>match hget s.heap m with
     |some (.mapb cl st es)=>E9 cl last seen st es k v∧K (.tuple [k,v]) s.heap s.nx ⟨false,[it,m],[]⟩
     |_=>False
    |_=>False
   |_,_=>False
  |_=>False
abbrev Kn:=List (Nat × Bool)
def ij:Kn→Nat→Option Bool
 |[],_=>none
 |(d,b)::t,k=>match Nat.beq d k with
  |true=>some b
  |false=>ij t k
def nN:Kn→Nat→Kn
 |[],_=>[]
 |(d,b)::t,k=>match Nat.beq d k with
  |true=>nN t k
  |false=>(d,b)::nN t k
def il (kn:Kn):Option Tmp→Kn
 |some d=>nN kn d
 |none=>kn
def tR (kn:Kn) (slots:Tr) (x:Operand):Option AV:=match x with
 | .tmp t=>match ij kn t with
  |some b=>some (.bool b)
  |none=>aS slots (.tmp t)
 |x=>aS slots x
def gp (rid:Nat) (ops:List Oper) (id i:Nat) (o:Oper) (s:St) (kn:Kn) (K:Kn→St→Foot→Prop):Prop:=
 match A.hint rid i with
 |some a=>eD P O n A ops id o s (fun v h nx ft=>K (il kn o.dst) ⟨bM s.n s.slots o.dst v,h,nx,s.n⟩ ft) a
 |none=>nM P O n A id s.heap s.nx (fun v h nx ft=>K (il kn o.dst) ⟨bM s.n s.slots o.dst v,h,nx,s.n⟩ ft) (lO P O.glob ops (tR kn s.slots) o)
def kr (o:Oper) (s:St) (kn:Kn) (K:Kn→St→Foot→Prop):Prop:=K (il kn o.dst) ⟨bM s.n s.slots o.dst dW,s.heap,s.nx,s.n⟩ ⟨false,[],[]⟩
def nO (rid:Nat) (ops:List Oper) (id i:Nat) (o:Oper) (s:St) (kn:Kn) (K:Kn→St→Foot→Prop):Prop:=
 match o.guard with
 |none=>gp P O n A rid ops id i o s kn K
 | some (j,want)=>match cg ops j with
  | some g=>match g.dst with
   | some d=>match ij kn d with
    | some b=>match want with
     |true=>match b with
      |true=>gp P O n A rid ops id i o s kn K
      |false=>kr o s kn K
     |false=>match b with
      |true=>kr o s kn K
      |false=>gp P O n A rid ops id i o s kn K
    | none=>match s.slots.get d with
     | some (.bool b)=>match want with
      |true=>match b with
       |true=>gp P O n A rid ops id i o s ((d,true)::kn) K
       |false=>kr o s ((d,false)::kn) K
      |false=>match b with
       |true=>kr o s ((d,true)::kn) K
       |false=>gp P O n A rid ops id i o s ((d,false)::kn) K
     |some (.tuple [])=>kr o s kn K
     |_=>False
   |none=>False
  |none=>False
def nP (rid:Nat) (all:List Oper) (base:Nat):List Oper→Nat→St→Kn→List (Nat × Foot)→(St→List (Nat × Foot)→Prop)→Prop
 |[],_,s,_,acc,K=>K s acc
 |o::rest,i,s,kn,acc,K=>nO P O n A rid all (base+i) i o s kn fun kn' s' ft=>nP rid all base rest (i+1) s' kn' (match ft.none with|true=>acc|false=>(i,ft)::acc) K
def pN (B:St→(AExit→St→Prop)→Prop):Nat→St→(AExit→St→Prop)→Prop
 |0,_,_=>False
 |k+1,s,Q=>B s (pK (fun s'=>pN B k s' Q) Q)
end
def jo:Code→Nat
 | .region id _ _=>id+1
 | .seq a b=>match jo a with
  |0=>jo b
  |k+1=>k+1
 | .cond _ a b=>match jo a with
  |0=>jo b
  |k+1=>k+1
 | .block _ c=>jo c
 | .loop c=>jo c
 |_=>0
def bX:Code→Nat→List Code
 | .seq a b,r=>bX a r++bX b r
 | .cond _ a b,r=>bX a r++bX b r
 | .block _ c,r=>bX c r
 | .loop c,r=>(match Nat.beq (jo c) r with
  |true=>[c]
  |false=>[])++bX c r
 |_,_=>[]
section
variable (P:Program) (O:aT) (n:Nat) (A:aV)
def nQ (rid:Nat) (ops:Array Oper) (draw:Bool) (s:St) (Q:AExit→St→Prop):Prop:=
 nP P O n A rid ops.toList s.nx ops.toList 0 ⟨s.slots,s.heap,s.nx+ac ops.toList,s.n⟩ [] [] fun s' feet=>match draw with
  |false=>Q .normal s'
  |true=>ax (g9 ops.toList&&gK (dq ops.toList []) feet) (Q .normal s')
def tS (c:Operand) (b:Bool) (s:St):St:=match c with
 | .tmp d=>⟨bM s.n s.slots (some d) (.bool b),s.heap,s.nx,s.n⟩
 |_=>s
def aN:Code→St→(AExit→St→Prop)→Prop
 | .skip,s,Q=>Q .normal s
 | .label _,s,Q=>Q .normal s
 | .exit i,s,Q=>Q (.exit i) s
 | .ret,s,Q=>Q .ret s
 | .region rid ops draw,s,Q=>match A.cut rid with
  |some C=>C s fun s=>nQ P O n A rid ops draw s Q
  |none=>nQ P O n A rid ops draw s Q
 | .seq a b,s,Q=>aN a s (pK (fun s'=>aN b s' Q) Q)
 | .cond c a b,s,Q=>match aS s.slots c with
  |some (.bool t)=>match t with
   |true=>aN a (tS c true s) Q
   |false=>aN b (tS c false s) Q
  |_=>False
 | .block id body,s,Q=>aN body s (lN id Q)
 | .loop body,s,Q=>match A.ls (jo body) with
  |some L=>L s Q
  |none=>pN (aN body) O.lf s Q
 |_,_,_=>False
def aq (f:FuncId) (args:List AV) (H:ab) (nx:Nat) (Q:AV→ab→Nat→Prop):Prop:=
  match P.funcs[f]? with
  | some fn=>match fn.body with
    | some c=>match fn.name== "runtime.NumGoroutine" with
      |true=>False
      | false=>match Nat.ble (ac args) fn.ntmps&&Nat.ble fn.ntmps 4095 with
       |false=>False
       |true=>aN P O n A c ⟨cX args 0 .tip,H,nx,fn.ntmps⟩ fun e s=>match e with
        | .exit _=>False
        | _=>match db P O.glob s fn.results.toList with
          |some l=>Q (cW l) s.heap s.nx
          |none=>False
    |none=>False
  |none=>False
end
end
end Go.Proofs.Abs
/- The abstract machine in continuation form says but what is so. -/
namespace Go.Proofs.Abs
open Go
theorem oblB_iff {b:Bool} {K:Prop}:ax b K↔b=true∧K:=by cases b<;>simp[ax]
theorem ao {b:Bool} {T F:Prop} (ht:b=true→T) (hf:b=false→F):aa b T F:=by cases b<;>simp_all [aa]
section
variable {P:Program}
theorem tT {eq eq':TypeId→AV→AV→Option Bool} (h:∀t x y r,eq t x y=some r→eq' t x y=some r):∀ (fs:List Field) (xs ys:List AV) (r:Bool),eqF P eq fs xs ys=some r→g5 P eq' fs xs ys=some r
 |[],xs,ys,r,hr=>by simpa [eqF,g5] using hr
 | f ::fs,xs,ys,r,hr=>by
  simp only[eqF] at hr
  simp only[g5]
  split at hr
  ·rename_i hn;simp only[hn];exact tT h fs xs ys r hr
  ·rename_i hn
   simp only[hn]
   split at hr
   ·rename_i a b ha hb
    simp only[ha,hb]
    split at hr
    ·rename_i p q hp hq
     simp only[Option.some.injEq] at hr
     subst hr
     rw[h _ _ _ _ hp]
     cases p with
     |true=>simpa using tT h fs xs ys q hq
     |false=>rfl
    ·cases hr
   ·cases hr
theorem yX {eq eq':TypeId→AV→AV→Option Bool} (h:∀t x y r,eq t x y=some r→eq' t x y=some r) {e:TypeId} {sz:Nat} {xs ys:List AV}:∀ (is:List Nat) (r:Bool),nF P eq e sz xs ys is=some r→iY P eq' e sz xs ys is=some r
 |[],r,hr=>by simpa [nF,iY] using hr
 | i::is,r,hr=>by
  simp only[nF] at hr
  simp only[iY]
  split at hr
  ·rename_i a b ha hb
   simp only[ha,hb]
   split at hr
   ·rename_i p q hp hq
    simp only[Option.some.injEq] at hr
    subst hr
    rw[h _ _ _ _ hp]
    cases p with
    |true=>simpa using yX h is q hq
    |false=>rfl
   ·cases hr
  ·cases hr
theorem pO:∀ (d:Nat) (t:TypeId) (x y:AV) (r:Bool),kq P d t x y=some r→c9 P d t x y=some r
 |0,_,_,_,_,h=>by simp[kq] at h
 | d +1,t,x,y,r,h=>by
  unfold kq at h
  split at h
  ·rename_i xs ys
   split at h
   ·rename_i fs hu
    split at h
    ·cases h
    ·rename_i hs
     unfold c9
     simp only[hu,hs]
     exact tT (pO d) _ _ _ _ h
   ·rename_i n e hu
    split at h
    ·rename_i sz hs
     unfold c9
     simp only[hu,hs]
     exact yX (pO d) _ _ h
    ·cases h
   ·cases h
  ·exact h
theorem lQ {w:AV} {b:Bool} {k:Nat} (h:jm w=some (b,k)) (hb:b=true):ej w=some k:=by
 unfold jm at h
 split at h
 ·rename_i kd n
  simp only[Option.some.injEq,Prod.mk.injEq] at h
  obtain ⟨rfl,rfl⟩:=h
  cases n with
  |ofNat m=>rfl
  |negSucc m=>cases hb
 ·cases h
theorem lR {w:Option AV} {b:Bool} {k:Option Nat} (h:nD w=some (b,k)) (hb:b=true):f4 w=some k:=by
 unfold nD at h
 split at h
 ·simp only[Option.some.injEq,Prod.mk.injEq] at h
  obtain ⟨_,rfl⟩:=h;rfl
 ·rename_i v
  split at h
  ·rename_i b' n hn
   simp only[Option.some.injEq,Prod.mk.injEq] at h
   obtain ⟨rfl,rfl⟩:=h
   simp[f4,lQ hn hb]
  ·cases h
theorem pP:∀ (l:List AV) (o n:Nat),o+n≤l.length→chunk l o n=some ((l.drop o).take n)
 |l,o,0,_=>by cases l<;>simp[chunk]
 |[],o,n+1,h=>by simp at h
 |a::t,0,n+1,h=>by
  simp only[List.length_cons] at h
  simp[chunk,pP t 0 n (by omega)]
 |a::t,o+1,n+1,h=>by
  simp only[List.length_cons] at h
  simp[chunk,pP t o (n+1) (by omega)]
theorem yY {i:TypeInfo} {xd:TypeDesc} {z x:AV} {b:Bool} {m:Nat} {cs:List AV} {k:Nat→List AV→Option Eff} (hx:E8 xd=true) (h:jn i.size x=some (b,m,cs)) (hb:b=true):i4 xd i.size i.bytes z x k=k m cs:=by
 have e:i4 xd i.size i.bytes z x k=e9 i.size x k:=by
  cases xd<;>first|(cases hx;done)|rfl
 rw[e]
 unfold jn at h
 split at h
 ·simp only[Option.some.injEq,Prod.mk.injEq] at h
  obtain ⟨rfl,rfl,rfl⟩:=h
  simp[e9,hb]
 ·simp only[Option.some.injEq,Prod.mk.injEq] at h
  obtain ⟨rfl,rfl,rfl⟩:=h;rfl
 ·simp only[Option.some.injEq,Prod.mk.injEq] at h
  obtain ⟨rfl,rfl,rfl⟩:=h;rfl
 ·simp only[Option.some.injEq,Prod.mk.injEq] at h
  obtain ⟨rfl,rfl,rfl⟩:=h
  simp only[e9,hb,if_true]
 ·cases h
theorem yZ {sz:Nat} {x:AV} {b:Bool} {cs:List AV} (h:jn sz x=some (b,0,cs)):cs=[]:=by
 unfold jn at h
 split at h
 ·rename_i es
  simp only[Option.some.injEq,Prod.mk.injEq] at h
  obtain ⟨_,h1,rfl⟩:=h
  cases es with
  |nil=>rfl
  |cons a r=>simp[ac] at h1
 ·simp only[Option.some.injEq,Prod.mk.injEq] at h
  exact h.2.2.symm
 ·simp only[Option.some.injEq,Prod.mk.injEq] at h
  exact h.2.2.symm
 ·rename_i s
  simp only[Option.some.injEq,Prod.mk.injEq] at h
  obtain ⟨_,h1,rfl⟩:=h
  cases s with
  |nil=>rfl
  |cons a r=>simp[ac] at h1
 ·cases h
theorem Fa (l:List AV) (k:Nat):splice l k []=some l:=by cases l<;>cases k<;>rfl
theorem Fb {i:TypeInfo} {xd:TypeDesc} {z x:AV} {b:Bool} {m:Nat} {cs:List AV} {k:Nat→List AV→Option Eff} (h:nG xd i.size i.bytes z x=some (b,m,cs)) (hb:b=true):i4 xd i.size i.bytes z x k=k m cs:=by
 cases xd with
 |slice e=>exact yY rfl h hb
 |string=>exact yY rfl h hb
 | int j=>
  cases x with
  | int j' n=>
   simp only[nG,Option.some.injEq,Prod.mk.injEq] at h
   obtain ⟨rfl,rfl,rfl⟩:=h
   simp only[Bool.and_eq_true] at hb
   cases n with
   |ofNat n=>
    have h1:Nat.ble n 9223372036854775807=true:=hb.2.1
    have h2:Nat.ble (n*i.bytes) 281474976710656=true:=hb.2.2
    simp only[i4,h1,h2,Bool.and_self]
    rfl
   |negSucc n=>exact absurd hb.1 (by simp[eB])
  |_=>cases h
 |_=>cases h
theorem Fd {xd:TypeDesc} {sz bytes:Nat} {z x:AV} {b:Bool} {cs:List AV} (h:nG xd sz bytes z x=some (b,0,cs)):cs=[]:=by
 cases xd with
 |slice e=>exact yZ h
 |string=>exact yZ h
 | int j=>
  cases x with
  |int j' n=>
   simp only[nG,Option.some.injEq,Prod.mk.injEq] at h
   obtain ⟨_,h2,rfl⟩:=h
   rw[h2];rfl
  |_=>cases h
 |_=>cases h
theorem Fe {argTypes:Array TypeId} {s x:AV} {es:ES} (h:tD P argTypes s x=some es):es.ok (jX P argTypes s x):=by
 unfold tD at h
 split at h
 ·rename_i st xt h1 h2
  split at h
  ·rename_i e xd h3 h4
   split at h
   ·rename_i i z hi hz
    split at h
    ·cases h
    ·rename_i hc
     split at h
     ·rename_i b m cs hsrc
      have hA:∀k,b=true→i4 xd i.size i.bytes z x k=k m cs:=fun k hb=>Fb hsrc hb
      unfold jX
      simp only[h1,h2,h3,h4,hi,hz]
      rw[Bool.or_eq_false_iff,Bool.or_eq_false_iff] at hc
      obtain ⟨⟨c1,c2⟩,c3⟩:=hc
      simp only[c1,c2,c3,Bool.or_self,Bool.false_eq_true,if_false]
      unfold yU at h
      split at h
      ·split at h
       ·rename_i hm
        simp only[Option.some.injEq] at h;subst h
        intro hb
        rw[hA _ hb];simp[hm]
       ·rename_i hm
        simp only[Option.some.injEq] at h;subst h
        intro hb
        rw[Bool.and_eq_true] at hb
        rw[hA _ hb.1];simp only[hm,hb.2,Bool.false_eq_true,if_false,if_true]
      ·split at h
       ·rename_i hm
        simp only[Option.some.injEq] at h;subst h
        intro hb
        rw[hA _ hb];simp[hm]
       ·rename_i hm
        simp only[Option.some.injEq] at h;subst h
        intro hb
        rw[Bool.and_eq_true] at hb
        rw[hA _ hb.1];simp only[hm,hb.2,Bool.false_eq_true,if_false,if_true]
      ·rename_i id len sz
       simp only[Option.some.injEq] at h;subst h
       intro hb
       rw[Bool.and_eq_true,Bool.and_eq_true] at hb
       obtain ⟨hb,hb1,hb2⟩:=hb
       rw[hA _ hb]
       simp only[hb1,hb2,Bool.true_and,if_true]
       refine ⟨_,rfl,fun l hl=> ?_⟩
       have hl:=beq_iff.1 hl
       have hs:i.size≠0:=beq_false_iff.1 c1
       cases hm:Nat.beq m 0 with
       | false=>
        have hm:m≠0:=beq_false_iff.1 hm
        have:¬ ((len+m)*i.size≤ac l):=by
         rw[hl]
         intro hle
         have:=Nat.le_of_mul_le_mul_right hle (Nat.pos_of_ne_zero hs)
         omega
        simp only
        rw[if_neg (by simpa using this),if_pos (by simp[hl])]
        rw[List.take_of_length_le (by rw[←aC];omega)]
       |true=>
        obtain rfl:=beq_iff.1 hm
        obtain rfl:=Fd hsrc
        simp only[Nat.add_zero]
        rw[if_pos (by simp[hl]),Fa,List.append_nil]
      ·cases h
     ·cases h
   ·cases h
  ·cases h
 ·cases h
theorem Ff {t:TypeId} {x:AV} {lo hi mx:Option AV} {es:ES} (h:tE P t x lo hi mx=some es):es.ok (gI P t x lo hi mx):=by
 unfold tE at h
 split at h
 ·rename_i b1 l b2 hh hl hhi
  split at h
  ·rename_i s
   split at h
   ·rename_i hu
    simp only[Option.some.injEq] at h;subst h
    intro hb
    simp only[Bool.and_eq_true] at hb
    obtain ⟨k1,k2,k3,k4⟩:=hb
    have q1:=lR hl k1
    have q2:=lR hhi k2
    have q3:f4 none=some none:=rfl
    simp only[gI,q1,q2,q3,r6,hu,k3,k4,Option.isNone_none,Bool.and_self]
   ·cases h
  ·rename_i full es'
   split at h
   ·rename_i e he
    split at h
    ·rename_i sz hsz
     simp only[Option.some.injEq] at h;subst h
     intro hb
     simp only[Bool.and_eq_true] at hb
     obtain ⟨k1,k2,k3,k4,k5⟩:=hb
     have q1:=lR hl k1
     have q2:=lR hhi k2
     have q3:f4 none=some none:=rfl
     simp only[gI,q1,q2,q3,r7,he,hsz,k3,k4,k5,Bool.and_self,r5]
     rw[pP _ _ _ (by rw[←aC];rw[Nat.ble_eq] at k4 k5;omega)]
    ·cases h
   ·cases h
  ·rename_i own id off len sz'
   split at h
   ·rename_i h0
    split at h
    ·rename_i e he
     split at h
     ·rename_i sz hsz
      simp only[Option.some.injEq] at h;subst h
      intro hb
      simp only[Bool.and_eq_true] at hb
      obtain ⟨k2,k3,k4⟩:=hb
      have e1:b1=true:=by
       unfold nD at hl
       split at hl
       ·simp only[Option.some.injEq,Prod.mk.injEq] at hl;exact hl.1.symm
       ·split at hl
        ·simp at hl
        ·cases hl
      have q1:=lR hl e1
      have q2:=lR hhi k2
      have q3:f4 none=some none:=rfl
      simp only[gI,q1,q2,q3,r8,he,hsz,k3,Option.getD_none,Option.getD_some,k4,Option.isNone_none,Bool.and_true]
      have k5:Nat.ble 0 h0=true:=by simp
      simp[mS,beq_iff.1 k3,k5]
     ·cases h
    ·cases h
   ·cases h
  ·cases h
 ·cases h
theorem Fg {src dst:TypeId} {x:AV} {es:ES} (h:tG P src dst x=some es):es.ok (ei P src dst x):=by
 unfold tG at h
 split at h
 ·rename_i e f l hs hd
  split at h
  ·rename_i hb
   simp only[Option.some.injEq] at h;subst h
   intro hi
   unfold ei
   simp only[hs,hd,hb,oU]
   cases hl:dh l with
   |none=>rw[hl] at hi;cases hi
   |some s=>simp[iZ,ig,hl]
  ·cases h
 ·cases h
theorem Fh {t:TypeId} {l c:AV} {es:ES} (h:tH P t l c=some es):es.ok (mP P t l c):=by
 unfold tH at h
 split at h
 ·rename_i e b1 l' b2 c' he hl hc
  split at h
  ·rename_i i z hi hz
   simp only[Option.some.injEq] at h;subst h
   intro hb
   rw[Bool.and_eq_true,Bool.and_eq_true] at hb
   obtain ⟨k1,k2,k3⟩:=hb
   simp only[mP,he,lQ hl k1,lQ hc k2,hi,hz,k3]
  ·cases h
 ·cases h
theorem tU {l:List AV} {o:Nat} {vs:List AV} (h:o+vs.length≤l.length):splice l o vs=some (nE l o vs):=by
  unfold nE
  rw[aC]
  exact go l o vs h
 where
  go:∀ (l:List AV) (o:Nat) (vs:List AV),o+vs.length≤l.length→splice l o vs=some (l.take o++(vs++l.drop (o+vs.length)))
    |l,o,[],_=>by cases l<;>simp[splice]
    |[],o,_::_,h=>by simp at h
    | a::t,0,v::vs,h=>by
      simp only[List.length_cons] at h
      have:=go t 0 vs (by omega)
      simp only[splice,this]
      simp
    | a::t,o+1,v::vs,h=>by
      simp only[List.length_cons] at h
      have:=go t o (v::vs) (by simp only[List.length_cons];omega)
      simp only[splice,this]
      simp[show o+1+(vs.length+1)=o+(vs.length+1)+1 by omega]
theorem Fi {sz:Nat} {x:AV} {b:Bool} {m:Nat} {cs:List AV} {k:Nat→List AV→Option Eff} (h:jn sz x=some (b,m,cs)) (hb:b=true):e9 sz x k=k m cs:=by
 unfold jn at h
 split at h
 ·simp only[Option.some.injEq,Prod.mk.injEq] at h
  obtain ⟨rfl,rfl,rfl⟩:=h
  simp[e9,hb]
 ·simp only[Option.some.injEq,Prod.mk.injEq] at h
  obtain ⟨rfl,rfl,rfl⟩:=h;rfl
 ·simp only[Option.some.injEq,Prod.mk.injEq] at h
  obtain ⟨rfl,rfl,rfl⟩:=h;rfl
 ·simp only[Option.some.injEq,Prod.mk.injEq] at h
  obtain ⟨rfl,rfl,rfl⟩:=h
  simp only[e9,hb,if_true]
 ·cases h
theorem Fj {argTypes:Array TypeId} {d x:AV} {es:ES} (h:tI P argTypes d x=some es):es.ok (jY P argTypes d x):=by
 unfold tI at h
 split at h
 ·rename_i t ht
  split at h
  ·rename_i e he
   split at h
   ·rename_i sz hsz
    split at h
    ·rename_i own id off len s'
     split at h
     ·rename_i b m cs hsrc
      simp only[Option.some.injEq] at h;subst h
      intro hb
      rw[Bool.and_eq_true] at hb
      unfold jY
      simp only[ht,he,hsz,Fi hsrc hb.1,hb.2,if_true]
      refine ⟨_,rfl,fun l hl=> ?_⟩
      have hl:off+(cs.take (min m len*sz)).length≤l.length:=by simpa [aC] using hl
      simp only[tU hl]
     ·cases h
    ·cases h
   ·cases h
  ·cases h
 ·cases h
theorem y5 {t:TypeId} {v:AV} {n:Nat} (h:a9 P t v n=true):(Nat.beq (ac v.cells) n&&bu v.cells)=true∧pL P t v=v.cells:=by
 unfold a9 at h
 unfold pL
 split at h
 ·rename_i ht
  rw[Bool.and_eq_true] at h
  have e:=pq h.1
  have hn:=beq_iff.1 h.2
  subst hn
  exact ⟨by rw[e];simp[ac,bu,h.1],e.symm⟩
 ·rename_i hne
  exact ⟨h,rfl⟩
theorem Fk {t:TypeId} {a v:AV} {es:ES} (h:tJ P t a v=some es):es.ok (jS P t a v):=by
 unfold tJ at h
 split at h
 ·rename_i id off
  split at h
  ·rename_i n hn
   simp only[Option.some.injEq] at h;subst h
   intro hb
   obtain ⟨hb,hc⟩:=y5 hb
   have hb1:=(Bool.and_eq_true _ _▸hb:_∧_).1
   refine ⟨_,by simp only[jS,hn,hb,if_true];rfl,fun l hl=> ?_⟩
   have hl:off+v.cells.length≤l.length:=by
    have h1:=beq_iff.1 hb1
    rw[aC] at h1
    simpa [aC,h1] using hl
   simp only[hc,tU hl,Option.map_some]
  ·cases h
 ·cases h
theorem Fl {t:TypeId} {v:AV} {es:ES} (h:tK P t v=some es):es.ok (lj v):=by
 unfold tK at h
 split at h
 ·simp only[Option.some.injEq] at h;subst h
  intro hb
  simp only[lj,pq hb]
 ·cases h
theorem y6 {fs:List Field} {pl:List (Nat × Nat)}:∀ {parts:List (Nat × AV)} {cells c:List AV} {b:Bool},nH P fs pl cells parts=some (b,c)→b=true→f5 (cg pl) cells parts=some c
 |[],_,_,_,h,_=>by
  simp only[nH,Option.some.injEq,Prod.mk.injEq] at h
  simp only[f5,h.2]
 | (i,v)::rest,cells,c,b,h,hb=>by
  unfold nH at h
  split at h
  ·rename_i f off s hf hp
   split at h
   ·rename_i hs
    split at h
    ·rename_i b' c' hr
     simp only[Option.some.injEq,Prod.mk.injEq] at h
     obtain ⟨rfl,rfl⟩:=h
     rw[Bool.and_eq_true] at hb hs
     obtain ⟨h1,h2⟩:=y5 hb.1
     rw[Bool.and_eq_true] at h1
     have hl:=beq_iff.1 h1.1
     rw[aC] at hl
     have hle:=Nat.le_of_ble_eq_true hs.2
     rw[aC] at hle
     have:=y6 hr hb.2
     rw[h2] at this
     simp only[f5,hp,h1.1,hs.1,Bool.and_self,if_true,tU (show off+v.cells.length≤cells.length by omega),this]
    ·cases h
   ·cases h
  ·cases h
theorem Fm {t:TypeId} {parts:List (Nat × AV)} {es:ES} (h:tL P t parts=some es):es.ok (bz (mU P t parts)):=by
 unfold tL at h
 split at h
 ·rename_i z fs hz hu
  split at h
  ·rename_i pl hpl
   split at h
   ·rename_i b c hc
    simp only[Option.some.injEq] at h;subst h
    intro hb
    simp only[mU,hz,hu,hpl,y6 hc hb,jV,bz]
   ·cases h
  ·cases h
 ·cases h
theorem Fo {t:TypeId} {x i:AV} {es:ES} (h:tM P t x i=some es):es.ok (bz (aQ P t x i)):=by
 unfold tM at h
 split at h
 ·rename_i e own id off len sz' b k hu hn
  split at h
  ·rename_i sz hsz
   simp only[Option.some.injEq] at h;subst h
   intro hb
   rw[Bool.and_eq_true] at hb
   have q1:=lQ hn hb.1
   simp only[aQ,q1,hu,hsz,hb.2,Option.bind_eq_bind,Option.bind_some,if_true,bz]
  ·cases h
 ·cases h
theorem bZ {G:aF} {ops:List Oper} {ev:Operand→Option AV} {o:Oper} (h:lJ o.op=true):bE P G ops ev o=a7 P G ev o:=by
 unfold bE
 split
 ·rename_i ho _;rw[ho] at h;cases h
 ·rfl
theorem Fp {G:aF} {ops:List Oper} {ev:Operand→Option AV} {o:Oper} {es:ES} (h:lO P G ops ev o=some es):es.ok (bE P G ops ev o):=by
 have plain:(match bE P G ops ev o with
   |some e=>some (ES.eff e)
   |none=>none)=some es→es.ok (bE P G ops ev o):=fun h=>by
  split at h
  ·rename_i e he
   simp only[Option.some.injEq] at h;subst h
   exact he
  ·cases h
 unfold lO at h
 split at h
 ·rename_i c a b ho
  rw[bZ (by rw[ho];rfl)]
  split at h
  ·rename_i t ht
   simp only[Option.some.injEq] at h;subst h
   refine ⟨?_, ?_⟩<;>rintro rfl<;>simp[a7,ho,o1,ht]
  ·cases h
 ·rename_i op t x y t' ho
  split at h
  ·rename_i a b hx hy
   simp only[Option.some.injEq] at h;subst h
   intro hb
   rw[bZ (by rw[ho];rfl)]
   simp only[a7,ho,e2,hx,hy,bz,aU,hb,if_true]
  ·rename_i a b hx hy
   split at h
   ·rename_i r hg hr
    simp only[Option.some.injEq] at h;subst h
    show _=some _
    rw[bZ (by rw[ho];rfl)]
    simp only[a7,ho,e2,hx,hy,bz,aU,hg,pO _ _ _ _ _ hr,Bool.false_eq_true,if_false,Option.map_some]
   ·cases h
  ·rename_i a b hx hy
   split at h
   ·rename_i r hg hr
    simp only[Option.some.injEq] at h;subst h
    show _=some _
    rw[bZ (by rw[ho];rfl)]
    simp only[a7,ho,e2,hx,hy,bz,aU,hg,pO _ _ _ _ _ hr,Bool.false_eq_true,if_false,Option.map_some]
   ·cases h
  ·rename_i k a k' b hx hy
   split at h
   ·rename_i hk
    have hk:=of_decide_eq_true hk
    subst hk
    simp only[Option.some.injEq] at h;subst h
    intro hb
    have hb:ah b 0=false:=by simpa using hb
    rw[bZ (by rw[ho];rfl)]
    simp[a7,ho,e2,hx,hy,bz,aU,hb]
   ·cases h
  ·rename_i k a k' b hx hy
   split at h
   ·rename_i hk
    have hk:=of_decide_eq_true hk
    subst hk
    simp only[Option.some.injEq] at h;subst h
    intro hb
    have hb:ah b 0=false:=by simpa using hb
    rw[bZ (by rw[ho];rfl)]
    simp[a7,ho,e2,hx,hy,bz,aU,hb]
   ·cases h
  ·exact plain h
 ·rename_i t a x ho
  split at h
  ·rename_i a' x' ha hx
   rw[bZ (by rw[ho];rfl)]
   have:=Fk h
   simpa only[a7,ho,e2,ha,hx] using this
  ·cases h
 ·rename_i t x ho
  split at h
  ·rename_i v hx
   split at h
   ·rename_i e he
    simp only[Option.some.injEq] at h;subst h
    rw[bZ (by rw[ho];rfl)]
    have:=Fl he
    simpa only[a7,ho,e1,hx] using this
   ·exact plain h
  ·cases h
 ·rename_i t parts ho
  split at h
  ·rename_i ps hps
   split at h
   ·rename_i e he
    simp only[Option.some.injEq] at h;subst h
    rw[bZ (by rw[ho];rfl)]
    have:=Fm he
    simpa only[a7,ho,o2,hps] using this
   ·exact plain h
  ·cases h
 ·rename_i t x i ho
  split at h
  ·rename_i x' i' hx hi
   split at h
   ·rename_i e he
    simp only[Option.some.injEq] at h;subst h
    rw[bZ (by rw[ho];rfl)]
    have:=Fo he
    simpa only[a7,ho,e2,hx,hi] using this
   ·exact plain h
  ·cases h
 ·rename_i s d x ho
  split at h
  ·rename_i f l hx
   split at h
   ·rename_i e he
    simp only[Option.some.injEq] at h;subst h
    rw[bZ (by rw[ho];rfl)]
    have:=Fg he
    simpa only[a7,ho,e1,hx] using this
   ·exact plain h
  ·exact plain h
 ·rename_i t x i ho
  split at h
  ·rename_i s w hu hx hi
   split at h
   ·rename_i b k hk
    simp only[Option.some.injEq] at h;subst h
    intro hb
    rw[Bool.and_eq_true] at hb
    rw[bZ (by rw[ho];rfl)]
    have hlt:k<s.length:=by rw[←aC];exact blt_iff.1 hb.2
    have hg:cg s k=some (gm s k):=by rw[eA];simp[gm,hlt]
    simp[a7,ho,e2,hx,hi,cL,lQ hk hb.1,hu,hg,bz]
   ·cases h
  ·exact plain h
 ·rename_i t l c ho
  split at h
  ·rename_i l' c' hl hc
   rw[bZ (by rw[ho];rfl)]
   have:=Fh h
   simpa only[a7,ho,e2,hl,hc] using this
  ·cases h
 ·rename_i t x lo hi mx ho
  split at h
  ·rename_i x' lo' hi' mx' h1 h2 h3 h4
   rw[bZ (by rw[ho];rfl)]
   have e:a7 P G ev o=gI P t x' lo' hi' mx':=by simp only[a7,ho,m5,h1,h2,h3,h4]
   rw[e]
   split at h
   ·rename_i es' he
    simp only[Option.some.injEq] at h;subst h
    exact Ff he
   ·split at h
    ·rename_i e' he
     simp only[Option.some.injEq] at h;subst h
     exact he
    ·cases h
  ·cases h
 ·rename_i c ho
  split at h
  ·rename_i s x hc hargs
   rw[bZ (by rw[ho];rfl)]
   have e:a7 P G ev o=jX P c.argTypes s x:=by simp only[a7,ho,f6,hargs,hc,i5]
   rw[e]
   split at h
   ·rename_i es' he
    simp only[Option.some.injEq] at h;subst h
    exact Fe he
   ·split at h
    ·rename_i e' he
     simp only[Option.some.injEq] at h;subst h
     exact he
    ·cases h
  ·rename_i d x hc hargs
   rw[bZ (by rw[ho];rfl)]
   have e:a7 P G ev o=jY P c.argTypes d x:=by simp only[a7,ho,f6,hargs,hc,i5]
   rw[e]
   split at h
   ·rename_i es' he
    simp only[Option.some.injEq] at h;subst h
    exact Fj he
   ·split at h
    ·rename_i e' he
     simp only[Option.some.injEq] at h;subst h
     exact he
    ·cases h
  ·exact plain h
 ·exact plain h
variable {O:aT} {n:Nat} {A:aV}
structure cC (P:Program) (O:aT) (A:aV):Prop where
 cx:bo P O.glob A.cx∧bp A.cx
 sum:∀f args v,O.summ f args=some v→SemCall P O.glob f args v
 inl:∀f T,A.inl f=some T→∀args h nx K,T.run args h nx K→∃v h' nx',K v h' nx'∧BodySem P O.glob f args h nx v h' nx'
 cut:∀r C,A.cut r=some C→∀nx0 s K,C s K→∃s2,(∀w0 I0 α0 H0 D a w,(∀id,nx0≤id→α0 id=none)→CR O.glob w0 I0 α0 H0 nx0 D s a w→CR O.glob w0 I0 α0 H0 nx0 D s2 a w)∧K s2
theorem nR {G:aF}:bo P G (fun _ _ _ _ _=>none)∧bp (fun _ _ _ _ _=>none):=by
 refine ⟨?_, ?_⟩
 ·intro f args rid H nx v H' nx' ft h;cases h
 ·intro f args id h nx v h' nx' ft hc;cases hc
abbrev ku (P:Program) (G:aF) (call:aI):Prop:=bo P G call∧bp call
theorem pQ (B:cz P O n) {id d:Nat} {e:Eff} {h:ab} {nx:Nat} {K:AV→ab→Nat→Foot→Prop} (hk:eR P O n id d e h nx K):
  ∃call,ku P O.glob call∧∃v h' nx' ft,aM call id d e h nx=some (v,h',nx',ft)∧K v h' nx' ft:=by
 unfold eR at hk
 split at hk
 ·rename_i v h' nx' ft hr
  exact ⟨_,B.calls,v,h',nx',ft,hr,hk⟩
 ·exact hk.elim
theorem nS {call:aI} {id d:Nat} {f:FuncId} {args:List AV} {h:ab} {nx:Nat}:aM call id d (.call f args) h nx=call f args id h nx:=by cases d<;>rfl
noncomputable def kw (f0:FuncId) (args0:List AV) (L:List Nat) (H0:ab) (nx0:Nat) (v:AV) (H2:ab) (m:Nat):aI:=by
 classical exact fun f args _ h nx=>if f=f0∧args=args0∧nx=nx0∧bG h L=H0 then some (v,tO L H2 nx h,nx+m,⟨true,L,nx::L⟩) else none
theorem y7 {G:aF} {f0:FuncId} {args0:List AV} {L:List Nat} {H0:ab} {nx0:Nat} {v:AV} {H2:ab} {m:Nat} (hB:BodySem P G f0 args0 H0 nx0 v H2 (nx0+m)):bo P G (kw f0 args0 L H0 nx0 v H2 m)∧bp (kw f0 args0 L H0 nx0 v H2 m):=by
 refine ⟨?_, ?_⟩
 ·intro f args rid H nx v1 H' nx' ft hc w I α vs hr ha hrid hlt hf
  unfold kw at hc
  split at hc
  ·rename_i he
   obtain ⟨rfl,rfl,rfl,rfl⟩:=he
   simp only[Option.some.injEq,Prod.mk.injEq] at hc
   obtain ⟨rfl,rfl,rfl,rfl⟩:=hc
   obtain ⟨e1,e2⟩:=hB w I α vs (lC hr L) ha hf
   rw[e1]
   refine Calls.mono e2 ?_
   rintro e w' ⟨u,rfl,hp⟩
   exact ⟨u,rfl,tn hr hf hp⟩
  ·cases hc
 ·intro f args id hp nx v1 h' nx' ft hc
  unfold kw at hc
  split at hc
  ·rename_i he
   obtain ⟨rfl,rfl,rfl,rfl⟩:=he
   simp only[Option.some.injEq,Prod.mk.injEq] at hc
   obtain ⟨rfl,rfl,rfl,rfl⟩:=hc
   refine ⟨fun h=>(by cases h),fun _ n l hw=> ?_⟩
   simp only[List.cons.injEq] at hw
   obtain ⟨rfl,rfl⟩:=hw
   refine ⟨rfl,by omega,_,rfl,fun p hp=> ?_,fun h2 hk=> ?_⟩
   ·rw[nz] at hp
    rcases List.mem_append.1 hp with hp|hp
    ·exact .inl (pB hp).1
    ·exact .inr (lE hp).1
   ·have hC:bG h2 L=bG hp L:=lD _ fun i hi=>hk i (by simp[hi])
    unfold kw
    rw[if_pos ⟨rfl,rfl,rfl,hC⟩]
    rfl
  ·cases hc
theorem Fq {f:FuncId} {args:List AV} {h:ab} {nx id d:Nat} {K:AV→ab→Nat→Foot→Prop} {r:nJ} (hk:lP P O f args h nx K r):
  ∃call,ku P O.glob call∧∃v h' nx' ft,aM call id d (.call f args) h nx=some (v,h',nx',ft)∧K v h' nx' ft:=by
 cases r with
 |val v=>exact ⟨_,tr hk.1,v,h,nx,_,by rw[nS];unfold jl;rw[if_pos ⟨rfl,rfl⟩],hk.2⟩
 |part L v H2 m=>exact ⟨_,y7 (L:=L) hk.1,v,_,_,_,by rw[nS];unfold kw;rw[if_pos ⟨rfl,rfl,rfl,rfl⟩],hk.2⟩
theorem tV (B:cz P O n) (hA:cC P O A) {id:Nat}:∀ (d:Nat) (e:Eff) {h:ab} {nx:Nat} {K:AV→ab→Nat→Foot→Prop},eC P O n A id d e h nx K→
    ∃call,ku P O.glob call∧∃v h' nx' ft,aM call id d e h nx=some (v,h',nx',ft)∧K v h' nx' ft:=by
  have callCase:∀ (d:Nat) (f:FuncId) (args:List AV) {h:ab} {nx:Nat} {K:AV→ab→Nat→Foot→Prop},(match A.cx f args id h nx with
      |some (v,h',nx',ft)=>K v h' nx' ft
      | none=>match A.sem f args h nx with
       |some r=>lP P O f args h nx K r
       | none=>match A.inl f with
        |some T=>nL args h nx K T
        |none=>match O.how f with
         | .pure=>match O.summ f args with
           |some v=>ax (ae args) (K v h nx ⟨false,[],[]⟩)
           |none=>eR P O n id d (.call f args) h nx K
         |_=>eR P O n id d (.call f args) h nx K)→∃call,ku P O.glob call∧∃v h' nx' ft,aM call id d (.call f args) h nx=some (v,h',nx',ft)∧K v h' nx' ft:=by
    intro d f args h nx K hk
    split at hk
    · rename_i v h' nx' ft hc
      exact ⟨_,hA.cx,v,h',nx',ft,by rw[nS];exact hc,hk⟩
    · split at hk
      · exact Fq hk
      split at hk
      · rename_i T hT
        obtain ⟨v,H2,nx2,hK,hB⟩:=hA.inl f T hT _ _ _ _ hk
        obtain ⟨hle,hK⟩:=oblB_iff.1 hK
        have hle:=Nat.le_of_ble_eq_true hle
        obtain ⟨m,rfl⟩:∃m,nx2=nx+m:=⟨nx2-nx,by omega⟩
        exact ⟨_,y7 (L:=T.see args h) hB,v,_,_,_,by rw[nS];unfold kw;rw[if_pos ⟨rfl,rfl,rfl,rfl⟩],hK⟩
      split at hk
      · split at hk
        · rename_i v hs
          obtain ⟨_,hk⟩:=oblB_iff.1 hk
          exact ⟨_,tr (hA.sum f args v hs),v,h,nx,_,by rw[nS];unfold jl;rw[if_pos ⟨rfl,rfl⟩],hk⟩
        · exact pQ B hk
      · exact pQ B hk
  intro d
  induction d with
  | zero=>
    intro e h nx K hk
    unfold eC at hk
    split at hk
    · exact callCase 0 _ _ hk
    · exact pQ B hk
  | succ d ih=>
    intro e h nx K hk
    unfold eC at hk
    split at hk
    · exact callCase (d+1) _ _ hk
    · rename_i i k
      split at hk
      · rename_i b hb
        split at hk
        · rename_i e' he
          obtain ⟨call,hc,v,h',nx',ft,hr,hK⟩:=ih e' hk
          exact ⟨call,hc,v,h',nx',_,by simp only[aM,hb,he,hr],hK⟩
        · exact hk.elim
      · exact hk.elim
    · exact pQ B hk
def nT (P:Program) (G:aF) (ops:List Oper) (id:Nat) (o:Oper) (s:St) (K:St→Foot→Prop):Prop:=
 ∃call,ku P G call∧∃s' ft,cQ P G call ops id o s=some (s',ft)∧K s' ft
theorem dY {ops:List Oper} {id:Nat} {o:Oper} {s:St} {K:St→Foot→Prop} (hw:cw ops o s.slots=some true) {call:aI} (hc:ku P O.glob call) {e:Eff} (he:bE P O.glob ops (aS s.slots) o=some e)
  {v:AV} {h:ab} {nx:Nat} {ft:Foot} (hr:aM call id 2 e s.heap s.nx=some (v,h,nx,ft)) (hk:K ⟨bM s.n s.slots o.dst v,h,nx,s.n⟩ ft):nT P O.glob ops id o s K:=
 ⟨call,hc,_,ft,by unfold cQ;simp only[hw,he,hr],hk⟩
theorem Fr (B:cz P O n) (hA:cC P O A) {ops:List Oper} {id:Nat} {o:Oper} {s:St} {K:St→Foot→Prop} (hw:cw ops o s.slots=some true)
  (hk:nM P O n A id s.heap s.nx (fun v h nx ft=>K ⟨bM s.n s.slots o.dst v,h,nx,s.n⟩ ft) (lO P O.glob ops (aS s.slots) o)):nT P O.glob ops id o s K:=by
 cases hs:lO P O.glob ops (aS s.slots) o with
 |none=>rw[hs] at hk;exact hk.elim
 | some es=>
  rw[hs] at hk
  have hok:=Fp hs
  cases es with
  |eff e=>
   obtain ⟨call,hc,v,h',nx',ft,hr,hK⟩:=tV B hA 2 e hk
   exact dY hw hc hok hr hK
  |obl b e=>
   obtain ⟨hb,hk⟩:=oblB_iff.1 hk
   obtain ⟨call,hc,v,h',nx',ft,hr,hK⟩:=tV B hA 2 e hk
   exact dY hw hc (hok hb) hr hK
  | app b i k v=>
   obtain ⟨hb,hk⟩:=oblB_iff.1 hk
   obtain ⟨kk,he,hkk⟩:=hok hb
   split at hk
   ·rename_i l hl
    obtain ⟨hb2,hk⟩:=oblB_iff.1 hk
    exact dY hw B.calls he (by simp only[aM,hl,hkk l hb2]) hk
   ·exact hk.elim
  | put b i k v=>
   obtain ⟨hb,hk⟩:=oblB_iff.1 hk
   obtain ⟨kk,he,hkk⟩:=hok hb
   split at hk
   ·rename_i l hl
    obtain ⟨hb2,hk⟩:=oblB_iff.1 hk
    exact dY hw B.calls he (by simp only[aM,hl,hkk l hb2]) hk
   ·exact hk.elim
  | pick b x y=>
   simp only[nM] at hk
   split at hk
   ·split at hk
    ·exact dY hw B.calls ((hok.1 rfl).trans rfl) rfl hk
    ·exact hk.elim
   ·split at hk
    ·exact dY hw B.calls ((hok.2 rfl).trans rfl) rfl hk
    ·exact hk.elim
theorem Fs:km P O (fun _ _ _ _ _=>none):=fun _ _ _ _ _ _ _ _ _ h=>by cases h
theorem Ft {G:aF} {ops:List Oper} {ev:Operand→Option AV} {o:Oper} {r:AV} {p:Prop} (h:tP P ev o r=some p) (hp:p):bE P G ops ev o=some (.val r):=by
 unfold tP at h
 split at h
 ·rename_i s d x ho
  split at h
  ·rename_i v hx
   simp only[Option.some.injEq] at h;subst h
   rw[bZ (by rw[ho];rfl)]
   simp only[a7,ho,e1,hx,hp]
  ·cases h
 ·rename_i t x i ho
  split at h
  ·rename_i v w hx hi
   simp only[Option.some.injEq] at h;subst h
   rw[bZ (by rw[ho];rfl)]
   simp only[a7,ho,e2,hx,hi,hp,bz]
  ·cases h
 ·rename_i t x i ho
  split at h
  ·rename_i v w hx hi
   simp only[Option.some.injEq] at h;subst h
   rw[bZ (by rw[ho];rfl)]
   simp only[a7,ho,e2,hx,hi,hp,bz]
  ·cases h
 ·rename_i t x lo hi mx ho
  split at h
  ·rename_i x' lo' hi' mx' h1 h2 h3 h4
   simp only[Option.some.injEq] at h;subst h
   rw[bZ (by rw[ho];rfl)]
   simp only[a7,ho,m5,h1,h2,h3,h4,hp]
  ·cases h
 ·rename_i op t x y g ho
  split at h
  ·rename_i v w hx hi
   simp only[Option.some.injEq] at h;subst h
   rw[bZ (by rw[ho];rfl)]
   simp only[a7,ho,e2,hx,hi,hp,bz]
  ·cases h
 ·rename_i c ho
  split at h
  ·rename_i b args hc ha
   simp only[Option.some.injEq] at h;subst h
   rw[bZ (by rw[ho];rfl)]
   simp only[a7,ho,f6,ha,hc,hp]
  ·cases h
 ·cases h
theorem y8 {t:TypeId} {k z:AV} (h:pM P t k=some z):∃kt et,P.underlying t=some (.map kt et)∧g8 P kt k=true∧dp P et=some z:=by
 unfold pM at h
 split at h
 ·rename_i kt et hu
  split at h
  ·rename_i hk
   exact ⟨kt,et,hu,hk,h⟩
  ·cases h
 ·cases h
theorem Fu {a:Array TypeId} {k:AV} (h:tQ P a k=true):∃t kt et,a[0]? =some t∧P.underlying t=some (.map kt et)∧g8 P kt k=true:=by
 unfold tQ at h
 split at h
 ·rename_i t ht
  split at h
  ·rename_i kt et hu
   exact ⟨t,kt,et,ht,hu,h⟩
  ·cases h
 ·cases h
theorem Fv (B:cz P O n) (hA:cC P O A) {ops:List Oper} {id:Nat} {o:Oper} {s:St} {K:St→Foot→Prop} {a:dy} (hw:cw ops o s.slots=some true)
  (hk:eD P O n A ops id o s (fun v h nx ft=>K ⟨bM s.n s.slots o.dst v,h,nx,s.n⟩ ft) a):nT P O.glob ops id o s K:=by
 unfold eD at hk
 split at hk
 ·split at hk
  ·rename_i e he
   obtain ⟨call,hc,v,h',nx',ft,hr,hK⟩:=tV B hA 2 e hk
   exact dY hw hc he hr hK
  ·exact hk.elim
 ·split at hk
  ·rename_i a v h nx ft F ha
   obtain ⟨call,hc,hs⟩:=yK B.calls B.glob Fs hw ha hk.1
   exact ⟨call,hc,_,_,hs,hk.2⟩
  ·exact hk.elim
 ·rename_i v
  split at hk
  ·rename_i t x i ho
   split at hk
   ·rename_i f es w hx hi
    split at hk
    ·rename_i b k e hn he
     split at hk
     ·rename_i sz hsz
      obtain ⟨hg,hk⟩:=hk
      obtain ⟨hb,hk⟩:=oblB_iff.1 hk
      rw[Bool.and_eq_true] at hb
      refine dY (e:= .val (.fptr v.cells 0)) hw B.calls ?_ rfl hk
      rw[bZ (by rw[ho];rfl)]
      have hu:P.underlying t=some (.slice e):=by
       unfold da at he
       split at he
       ·simp only[Option.some.injEq] at he;subst he;assumption
       ·cases he
      have q1:=lQ hn hb.1
      simp only[a7,ho,e2,hx,hi,aQ,q1,hu,hsz,hg,hb.2,bz,Option.bind_eq_bind,Option.bind_some,if_true]
     ·exact hk.elim
    ·exact hk.elim
   ·exact hk.elim
  ·exact hk.elim
 ·rename_i v
  split at hk
  ·rename_i t a ho
   split at hk
   ·rename_i i off hx
    split at hk
    ·rename_i l hl
     obtain ⟨hp,hk⟩:=hk
     have he:∃k,bE P O.glob ops (aS s.slots) o=some (.read i k)∧k (.cells l)=some (.val v):=by
      rw[bZ (by rw[ho];rfl)]
      simp only[a7,ho,e1,hx,eh]
      exact ⟨_,rfl,by simp only[hp,Option.map_some]⟩
     obtain ⟨k,he,hkl⟩:=he
     exact dY hw B.calls he (by simp only[aM,hl,hkl]) hk
    ·exact hk.elim
   ·rename_i cs off hx
    obtain ⟨hp,hk⟩:=hk
    refine dY (e:= .val v) hw B.calls ?_ rfl hk
    rw[bZ (by rw[ho];rfl)]
    simp only[a7,ho,e1,hx,eh,hp,Option.map_some]
   ·rename_i g off hx
    obtain ⟨hp,hk⟩:=hk
    refine dY (e:= .val v) hw B.calls ?_ rfl hk
    rw[bZ (by rw[ho];rfl)]
    simp only[a7,ho,e1,hx,hp]
   ·exact hk.elim
  ·exact hk.elim
 ·rename_i r
  split at hk
  ·rename_i p hp
   exact dY (e:= .val r) hw B.calls (Ft hp hk.1) rfl hk.2
  ·exact hk.elim
 ·rename_i r
  split at hk
  ·rename_i t m k ok ho
   split at hk
   ·rename_i i kv hm hk'
    split at hk
    ·rename_i cl st es hl
     split at hk
     ·rename_i z hz
      obtain ⟨hr,hk⟩:=hk
      obtain ⟨kt,et,h1,h2,h3⟩:=y8 hz
      have he:∃f,bE P O.glob ops (aS s.slots) o=some (.read i f)∧f (.mapb cl st es)=some (.val (kY ok z r)):=by
       rw[bZ (by rw[ho];rfl)]
       simp only[a7,ho,e2,hm,hk',oV,h1,h2,h3]
       exact ⟨_,rfl,by simp only[hr]⟩
      obtain ⟨f,he,hf⟩:=he
      exact dY hw B.calls he (by simp only[aM,hl,hf]) hk
     ·exact hk.elim
    ·exact hk.elim
   ·exact hk.elim
  ·exact hk.elim
 ·rename_i es' same
  split at hk
  ·rename_i t m k v ho
   split at hk
   ·rename_i i kv vv hm hk' hv
    split at hk
    ·rename_i cl st es hl
     split at hk
     ·rename_i z hz
      obtain ⟨⟨hr,hs⟩,hk⟩:=hk
      obtain ⟨kt,et,h1,h2,_⟩:=y8 hz
      have he:∃f,bE P O.glob ops (aS s.slots) o=some (.upd i f)∧f (.mapb cl st es)=some (yV same cl st es',dW):=by
       rw[bZ (by rw[ho];rfl)]
       simp only[a7,ho,e3,hm,hk',hv,oW,h1,h2]
       refine ⟨_,rfl, ?_⟩
       simp only[hr,hs]
       cases same<;>rfl
      obtain ⟨f,he,hf⟩:=he
      exact dY hw B.calls he (by simp only[aM,hl,hf]) hk
     ·exact hk.elim
    ·exact hk.elim
   ·exact hk.elim
  ·exact hk.elim
 ·rename_i j
  split at hk
  ·rename_i c ho
   split at hk
   ·rename_i i kv hc hargs
    split at hk
    ·rename_i cl st es hl
     split at hk
     ·rename_i hz
      obtain ⟨hr,hk⟩:=hk
      obtain ⟨t,kt,et,h1,h2,h3⟩:=Fu hz
      have he:∃f,bE P O.glob ops (aS s.slots) o=some (.upd i f)∧f (.mapb cl st es)=some (yW j cl st es,.tuple []):=by
       rw[bZ (by rw[ho];rfl)]
       simp only[a7,ho,f6,hargs,hc,i5,oX,h1,h2,h3]
       refine ⟨_,rfl, ?_⟩
       simp only[hr]
       cases j<;>rfl
      obtain ⟨f,he,hf⟩:=he
      exact dY hw B.calls he (by simp only[aM,hl,hf]) hk
     ·exact hk.elim
    ·exact hk.elim
   ·exact hk.elim
  ·exact hk.elim
 ·rename_i j
  split at hk
  ·rename_i x ho
   split at hk
   ·rename_i it b k v hx hj
    split at hk
    ·rename_i m since seen last hit
     split at hk
     ·rename_i cl st es hmp
      obtain ⟨⟨rfl,sb,h1,h2⟩,hk⟩:=hk
      have he:∃f,bE P O.glob ops (aS s.slots) o=some (.read it f)∧∃g,f (.miter m since seen cl)=some (.read m g)∧g (.mapb cl st es)=some (.val (.tuple [k,v])):=by
       rw[bZ (by rw[ho];rfl)]
       simp only[a7,ho,e1,hx,oY]
       refine ⟨_,rfl,_,rfl, ?_⟩
       simp only[beq_iff.2 rfl,h1,h2]
      obtain ⟨f,he,g,hf,hg⟩:=he
      exact dY hw B.calls he (by simp only[aM,hit,hf,hmp,hg]) hk
     ·exact hk.elim
    ·exact hk.elim
   ·exact hk.elim
  ·exact hk.elim
def KnOk (kn:Kn) (slots:Tr):Prop:=∀d b,ij kn d=some b→slots.get d=some (.bool b)
theorem Fw {kn:Kn} {slots:Tr} (h:KnOk kn slots):tR kn slots=aS slots:=by
 funext x
 unfold tR
 split
 ·split
  ·rename_i b hb
   simp only[aS,h _ b hb]
  ·rfl
 ·rfl
theorem Fx {kn:Kn} {k d:Nat} {b:Bool} (h:ij (nN kn k) d=some b):d≠k∧ij kn d=some b:=by
  induction kn with
  |nil=>cases h
  | cons p t ih=>
    obtain ⟨e,c⟩:=p
    simp only[nN] at h
    split at h
    · rename_i he
      have he:=beq_iff.1 he
      obtain ⟨h1,h2⟩:=ih h
      refine ⟨h1, ?_⟩
      simp only[ij]
      rw[beq_false_of (by rw[he];exact fun h=>h1 h.symm)]
      exact h2
    · rename_i he
      have he:=beq_false_iff.1 he
      simp only[ij] at h⊢
      split at h
      · rename_i hd
        have hd':=beq_iff.1 hd
        exact ⟨fun h'=>he (by omega),h⟩
      · exact ih h
 where
  beq_false_of {a b:Nat} (h:a≠b):Nat.beq a b=false:=beq_false_iff.2 h
theorem KnOk.put {kn:Kn} {slots:Tr} {n:Nat} {dst:Option Tmp} {v:AV} (h:KnOk kn slots):KnOk (il kn dst) (bM n slots dst v):=by
 intro d b hd
 cases dst with
 |none=>exact h d b hd
 |some e=>
  simp only[il] at hd
  obtain ⟨h1,h2⟩:=Fx hd
  simp only[bM]
  split
  ·rw[Tr.get_set_ne 12 slots v h1];exact h d b h2
  ·exact h d b h2
theorem KnOk.cons {kn:Kn} {slots:Tr} {d:Nat} {b:Bool} (h:KnOk kn slots) (hd:slots.get d=some (.bool b)):KnOk ((d,b)::kn) slots:=by
 intro k c hk
 simp only[ij] at hk
 split at hk
 ·rename_i he
  have he:=beq_iff.1 he
  subst he
  simp only[Option.some.injEq] at hk
  subst hk;exact hd
 ·exact h k c hk
def pR (P:Program) (G:aF) (ops:List Oper) (id:Nat) (o:Oper) (s:St) (K:Kn→St→Foot→Prop):Prop:=
 nT P G ops id o s (fun s' ft=>∃kn',KnOk kn' s'.slots∧K kn' s' ft)
theorem Fy {ops:List Oper} {id:Nat} {o:Oper} {s:St} {K K':AV→ab→Nat→Foot→Prop} (h:K=K') {a:dy} (hk:eD P O n A ops id o s K a):eD P O n A ops id o s K' a:=h▸hk
theorem nU (B:cz P O n) (hA:cC P O A) {rid:Nat} {ops:List Oper} {id i:Nat} {o:Oper} {s:St} {kn:Kn} {K:Kn→St→Foot→Prop} (hkn:KnOk kn s.slots) (hw:cw ops o s.slots=some true) (hk:gp P O n A rid ops id i o s kn K):
  pR P O.glob ops id o s K:=by
 have fin:nT P O.glob ops id o s (fun s' ft=>s'.slots=s'.slots∧(∃v,s'.slots=bM s.n s.slots o.dst v)∧K (il kn o.dst) s' ft)→pR P O.glob ops id o s K:=fun ⟨c,h1,s',ft,h2,_,⟨v,hv⟩,h3⟩=>
  ⟨c,h1,s',ft,h2,il kn o.dst,by rw[hv];exact hkn.put,h3⟩
 refine fin ?_
 unfold gp at hk
 split at hk
 ·refine Fv B hA hw (Fy ?_ hk)
  funext v h nx ft
  simp only[true_and,eq_iff_iff]
  exact ⟨fun h=>⟨⟨v,rfl⟩,h⟩,fun h=>h.2⟩
 ·rw[Fw hkn] at hk
  refine Fr B hA hw (?_:nM P O n A id s.heap s.nx _ (lO P O.glob ops (aS s.slots) o))
  have:(fun v h nx ft=>K (il kn o.dst) ⟨bM s.n s.slots o.dst v,h,nx,s.n⟩ ft)=(fun v h nx ft=>(fun (s':St) (ft:Foot)=>s'.slots=s'.slots∧(∃v,s'.slots=bM s.n s.slots o.dst v)∧K (il kn o.dst) s' ft) ⟨bM s.n s.slots o.dst v,h,nx,s.n⟩ ft):=by
   funext v h nx ft
   simp only[true_and,eq_iff_iff]
   exact ⟨fun h=>⟨⟨v,rfl⟩,h⟩,fun h=>h.2⟩
  rw[←this]
  exact hk
theorem Fz (B:cz P O n) (hA:cC P O A) {rid:Nat} {ops:List Oper} {id i:Nat} {o:Oper} {s:St} {kn:Kn} {K:Kn→St→Foot→Prop} (hkn:KnOk kn s.slots) (hk:nO P O n A rid ops id i o s kn K):pR P O.glob ops id o s K:=by
 have no:∀ {kn:Kn},KnOk kn s.slots→cw ops o s.slots=some false→kr o s kn K→pR P O.glob ops id o s K:=fun {kn} hkn hw hk=>
  ⟨_,B.calls,_,_,by unfold cQ;simp only[hw],_,hkn.put,hk⟩
 unfold nO at hk
 split at hk
 ·rename_i hg
  exact nU B hA hkn (by unfold cw;simp only[hg]) hk
 ·rename_i j want hg
  split at hk
  ·rename_i g hj
   split at hk
   ·rename_i d hd
    split at hk
    ·rename_i b hkb
     have hb:=hkn d b hkb
     split at hk
     ·split at hk
      ·exact nU B hA hkn (by unfold cw;simp[hg,hj,hd,hb]) hk
      ·exact no hkn (by unfold cw;simp[hg,hj,hd,hb]) hk
     ·split at hk
      ·exact no hkn (by unfold cw;simp[hg,hj,hd,hb]) hk
      ·exact nU B hA hkn (by unfold cw;simp[hg,hj,hd,hb]) hk
    ·split at hk
     ·rename_i b hb
      split at hk
      ·split at hk
       ·exact nU B hA (hkn.cons hb) (by unfold cw;simp[hg,hj,hd,hb]) hk
       ·exact no (hkn.cons hb) (by unfold cw;simp[hg,hj,hd,hb]) hk
      ·split at hk
       ·exact no (hkn.cons hb) (by unfold cw;simp[hg,hj,hd,hb]) hk
       ·exact nU B hA (hkn.cons hb) (by unfold cw;simp[hg,hj,hd,hb]) hk
     ·rename_i hb
      exact no hkn (by unfold cw;simp[hg,hj,hd,hb]) hk
     ·exact hk.elim
   ·exact hk.elim
  ·exact hk.elim
theorem y9 (B:cz P O n) (hA:cC P O A) {rid:Nat} {all:List Oper} {base:Nat}:∀ (rest:List Oper) (i:Nat) (s:St) (kn:Kn) (acc:List (Nat × Foot)) {K:St→List (Nat × Foot)→Prop},KnOk kn s.slots→nP P O n A rid all base rest i s kn acc K→
  ∃call,ku P O.glob call∧∃s' feet,cH P O.glob call all base rest i s acc=some (s',feet)∧K s' feet
 |[],i,s,kn,acc,K,_,hk=>⟨_,B.calls,s,acc,rfl,hk⟩
 |o::rest,i,s,kn,acc,K,hkn,hk=>by
  simp only[nP] at hk
  obtain ⟨c1,h1,s1,ft,hs,kn',hkn',hk⟩:=Fz B hA hkn hk
  obtain ⟨c2,h2,s',feet,hr,hK⟩:=y9 B hA rest (i+1) s1 kn' _ hkn' hk
  refine ⟨fg (base+i) c1 c2,yL h1 h2,s',feet, ?_,hK⟩
  simp only[cH]
  rw[tt (call':=c1) (fun f args hp nx=>by unfold fg;rw[if_pos rfl]),hs]
  simp only
  rw[tu (call':=c2) rest (i+1) _ _ fun f args id hp nx hid=>by unfold fg;rw[if_neg (by omega)]]
  exact hr
def LsOk (P:Program) (G:aF) (nx0:Nat) (A:aV) (c:Code):Prop:=
 ∀r L,A.ls r=some L→∀b∈bX c r,∀s Q,L s Q→AWp P G nx0 (.loop b) s Q
theorem za {nx0:Nat} {body:Code} {W:St→(AExit→St→Prop)→Prop} (h:∀s Q,W s Q→AWp P O.glob nx0 body s Q):∀ (k:Nat) (s:St) (Q:AExit→St→Prop),pN W k s Q→ARnd P O.glob nx0 body Q k s
 |0,_,_,hk=>hk
 |k+1,s,Q,hk=>(h s _ hk).mono fun e s' hq=>by
  cases e with
  |normal=>exact za h k s' Q hq
  |exit i=>exact hq
  |ret=>exact hq
theorem zb {nx0:Nat} {c:Operand} {b:Bool} {s:St} {code:Code} {G:aF} {Q:AExit→St→Prop} (hc:aS s.slots c=some (.bool b)) (h:AWp P G nx0 code (tS c b s) Q):AWp P G nx0 code s Q:=by
 cases c with
 | tmp d=>
  have hg:∀k,(bM s.n s.slots (some d) (.bool b)).get k=s.slots.get k:=fun k=>by
   have hc:s.slots.get d=some (.bool b):=hc
   simp only[bM]
   split
   ·by_cases hk:k=d
    ·subst hk
     rcases Tr.get_set_self 12 s.slots (k:=k) (.bool b) with h|h
     ·rw[h,hc]
     ·exact h
    ·exact Tr.get_set_ne 12 s.slots _ hk
   ·rfl
  refine ⟨fun w0 I0 α0 H0 D a w hα hr=>h.out w0 I0 α0 H0 D a w hα ?_⟩
  obtain ⟨⟨I,α,ev,rel,hs,q1,q2,q3⟩,h7,h8,h9,h10,h11⟩:=hr
  exact ⟨⟨I,α,ev,rel,fun k v hv=>hs k v (by rw[←hg k];exact hv),q1,q2,q3⟩,h7,h8,h9,h10,h11⟩
 |_=>exact h
theorem pS {nx0:Nat} (B:cz P O n) (hA:cC P O A):∀ (c:Code) (s:St) (Q:AExit→St→Prop),LsOk P O.glob nx0 A c→aN P O n A c s Q→AWp P O.glob nx0 c s Q:=by
 intro c
 induction c with
 |skip=>exact fun s Q _ h=> .skip h
 |label l=>exact fun s Q _ h=> .label h
 |exit i=>exact fun s Q _ h=> .exit h
 |ret=>exact fun s Q _ h=> .ret h
 | region rid ops draw=>
  intro s Q _ h
  simp only[aN] at h
  have reg:∀ {s:St},nQ P O n A rid ops draw s Q→AWp P O.glob nx0 (.region rid ops draw) s Q:=fun {s} h=>by
   unfold nQ at h
   obtain ⟨call,⟨h1,h2⟩,s',feet,hr,hk⟩:=y9 B hA _ _ _ _ _ (fun _ _ h=>by cases h) h
   cases draw with
   |false=>exact .region B.mixed h1 h2 hr (fun h=>by cases h) hk
   |true=>
    obtain ⟨hb,hk⟩:=oblB_iff.1 hk
    rw[Bool.and_eq_true] at hb
    exact .region B.mixed h1 h2 hr (fun _=>hb) hk
  split at h
  ·rename_i C hC
   obtain ⟨s2,hs,hk⟩:=hA.cut rid C hC nx0 s _ h
   exact ⟨fun w0 I0 α0 H0 D a w hα hr=>(reg hk).out w0 I0 α0 H0 D a w hα (hs w0 I0 α0 H0 D a w hα hr)⟩
  ·exact reg h
 |seq a b iha ihb=>
  intro s Q hl h
  refine .seq ((iha s _ (fun r L hL b' hb=>hl r L hL b' (by simp[bX,hb])) h).mono fun e s' hq=> ?_)
  cases e with
  |normal=>exact ihb s' Q (fun r L hL b' hb=>hl r L hL b' (by simp[bX,hb])) hq
  |exit i=>exact hq
  |ret=>exact hq
 | cond c a b iha ihb=>
  intro s Q hl h
  simp only[aN] at h
  split at h
  ·rename_i t hc
   split at h
   ·exact .cond_true hc (zb hc (iha _ Q (fun r L hL b' hb=>hl r L hL b' (by simp[bX,hb])) h))
   ·exact .cond_false hc (zb hc (ihb _ Q (fun r L hL b' hb=>hl r L hL b' (by simp[bX,hb])) h))
  ·exact h.elim
 |block id body ih=>exact fun s Q hl h=> .block (ih s _ hl h)
 | loop body ih=>
  intro s Q hl h
  simp only[aN] at h
  split at h
  ·rename_i L hL
   exact hl _ L hL body (by simp[bX]) s Q h
  ·exact .loop O.lf (za (fun s Q h=>ih s Q (fun r L hL b' hb=>hl r L hL b' (by simp[bX,hb])) h) _ _ _ h)
 |rangeFunc f p x y _ _=>exact fun s Q _ h=>h.elim
 |scope c _=>exact fun s Q _ h=>h.elim
 |goto l=>exact fun s Q _ h=>h.elim
 |refuse y=>exact fun s Q _ h=>h.elim
def fh (P:Program) (G:aF) (nx0:Nat) (A:aV) (f:FuncId):Prop:=∀fn c,P.funcs[f]? =some fn→fn.body=some c→LsOk P G nx0 A c
theorem zc {G:aF} {nx0:Nat} {f:FuncId} (h:∀r,A.ls r=none):fh P G nx0 A f:=fun _ _ _ _ r L hL=>by rw[h] at hL;cases hL
theorem jp {f:FuncId} {args:List AV} {H:ab} {nx:Nat} {Q:AV→ab→Nat→Prop} (B:cz P O n) (hA:cC P O A) (hl:fh P O.glob nx A f) (h:aq P O n A f args H nx Q):
  ∃fn c,P.funcs[f]? =some fn∧fn.body=some c∧(fn.name== "runtime.NumGoroutine")=false∧(Nat.ble (ac args) fn.ntmps&&Nat.ble fn.ntmps 4095)=true∧
   AWp P O.glob nx c ⟨cX args 0 .tip,H,nx,fn.ntmps⟩ (fun e s=>(e= .normal∨e= .ret)∧∃l,db P O.glob s fn.results.toList=some l∧Q (cW l) s.heap s.nx):=by
 unfold aq at h
 split at h
 ·rename_i fn hfn
  split at h
  ·rename_i c hc
   split at h
   ·exact h.elim
   ·rename_i hname
    split at h
    ·exact h.elim
    ·rename_i hsz
     refine ⟨fn,c,hfn,hc,hname,hsz,(pS B hA c _ _ (hl fn c hfn hc) h).mono fun e s hq=> ?_⟩
     split at hq
     ·exact hq.elim
     ·rename_i hne
      split at hq
      ·rename_i l hl
       refine ⟨?_,l,hl,hq⟩
       cases e with
       |normal=>exact .inl rfl
       |ret=>exact .inr rfl
       |exit i=>exact absurd rfl (hne i)
      ·exact hq.elim
  ·exact h.elim
 ·exact h.elim
theorem im {f:FuncId} {args:List AV} {v:AV} (B:cz P O n) (hA:cC P O A) (hl:fh P O.glob 0 A f) (hcl:ae args=true)
  (h:aq P O n A f args [] 0 (fun u H _=>(∃d,aH 0 H d u=some v)∧ad v=true)):SemCall P O.glob f args v:=by
 obtain ⟨fn,c,hfn,hc,hname,hsz,hw⟩:=jp B hA hl h
 refine yT B hfn hc hname hsz hcl fun w I a hr=>wp_mono (hw.out w I _ [] [] a w (fun _ _=>rfl) hr) ?_
 rintro e a' w' ⟨x,s',rfl,h2,hx,l,hl,hq⟩
 refine ⟨s',l, ?_,h2,hl,hq.1,hq.2⟩
 rcases hx with rfl|rfl
 ·exact .inl rfl
 ·exact .inr rfl
theorem pT {f:FuncId} {args:List AV} {H:ab} {nx:Nat} {v:AV} {H':ab} {nx':Nat} (B:cz P O n) (hA:cC P O A) (hl:fh P O.glob nx A f)
    (h:aq P O n A f args H nx (fun u h m=>u=v∧h=H'∧m=nx')):BodySem P O.glob f args H nx v H' nx':=by
  obtain ⟨fn,c,hfn,hc,hname,hsz,hw⟩:=jp B hA hl h
  intro w I α vs r ha hf
  refine body_of_wp' hfn hc hname hsz (fun w I α a hα hr=>wp_mono (hw.out w I α H [] a w hα hr) ?_) w I α vs r ha hf
  rintro e a' w' ⟨x,s',rfl,h2,hx,l,hl,rfl,rfl,rfl⟩
  refine ⟨s',l, ?_,h2,hl,rfl,rfl,rfl⟩
  rcases hx with rfl|rfl
  · exact .inl rfl
  · exact .inr rfl
 where
  body_of_wp' {f:FuncId} {fn:Func} {c:Code} {args:List AV} {H:ab} {nx:Nat} {v:AV} {H':ab} {nx':Nat} (hfn:P.funcs[f]? =some fn) (hc:fn.body=some c) (hname:(fn.name== "runtime.NumGoroutine")=false) (hsz:(Nat.ble (ac args) fn.ntmps&&Nat.ble fn.ntmps 4095)=true)
    (h:∀w I α a,(∀id,nx≤id→α id=none)→CR O.glob w I α H nx [] ⟨cX args 0 .tip,H,nx,fn.ntmps⟩ a w→c.wp P (fun e a' w'=>∃s l,(co .normal=e∨co .ret=e)∧CR O.glob w I α H nx [] s a' w'∧db P O.glob s fn.results.toList=some l∧cW l=v∧s.heap=H'∧s.nx=nx') a w):
    BodySem P O.glob f args H nx v H' nx':=by
    intro w I α vs r ha hf
    rw[Bool.and_eq_true,Nat.ble_eq,Nat.ble_eq,aC] at hsz
    refine ⟨?_, ?_⟩
    · unfold callFunc
      simp only[Sem.run_bind,run_program,Result.andThen_ok,hfn,hname,hc,Bool.false_eq_true,if_false,Option.isNone_some,Sem.run_pure]
    · refine calls_of_wp hfn hc ?_
      have hvs:args.length=vs.size:=by rw[ha.1];simp
      have hr0:CR O.glob w I α H nx [] ⟨cX args 0 .tip,H,nx,fn.ntmps⟩ {tmps:=vs++Array.replicate (fn.ntmps-vs.size) undef,defers:=[]} w:=
        ⟨⟨I,α,.refl,r,jf ha (by omega),fun i hi=>absurd hi (Nat.not_lt_zero i),hf,fun id h=> .inl h⟩,Nat.le_refl _,Nat.le_refl _,rfl,by simp;omega,hsz.2⟩
      refine wp_mono (h w I α _ hf hr0) fun e a' w' hq=> ?_
      obtain ⟨s,l,he,hr,hl,rfl,rfl,rfl⟩:=hq
      obtain ⟨⟨I',α',h1,h2,h3,_,_,h6⟩,_,h8,h9,_,_⟩:=hr
      obtain ⟨u,e1,e2⟩:=jg (P:=P) (fn:=fn) h2 h3 hl
      rcases he with rfl|rfl<;>exact ⟨h9,u,e1,u,rfl,⟨I',α',h1,h2,e2,h6⟩,h8⟩
end
end Go.Proofs.Abs
/- Small laws of the abstract machine's functions: bytes, rows, numbers, what becomes part of a value. -/
namespace Go.Proofs.Abs
open Go
mutual
theorem tW {n:Nat} {h:ab}:∀ {d:Nat} {v r:AV},aH n h d v=some r→aH n h (d+1) v=some r
 |0,_,_,hv=>by simp[aH] at hv
 | d +1,v,r,hv=>by
  have L:∀ {l l':List AV},bJ (aH n h d) l=some l'→bJ (aH n h (d+1)) l=some l':=fun {l l'} hl=>tX hl
  cases v with
  | ptr id off=>
   rw[aH] at hv⊢
   split at hv
   ·exact hv
   ·rename_i hb
    split at hv
    ·rename_i l hl
     try rw[hl]
     try simp only
     split at hv
     ·rename_i l' hl';rw[L hl'];exact hv
     ·cases hv
    ·cases hv
  | rsl own id off len sz=>
   rw[aH] at hv⊢
   split at hv
   ·exact hv
   ·rename_i hb
    split at hv
    ·rename_i l hl
     try rw[hl]
     try simp only
     split at hv
     ·rename_i es hes
      split at hv
      ·rename_i l' hl';rw[L hl'];exact hv
      ·cases hv
     ·cases hv
    ·cases hv
  |fptr cs off=>
   rw[aH] at hv⊢
   split at hv
   ·rename_i l' hl';rw[L hl'];exact hv
   ·cases hv
  |fsl f es=>
   rw[aH] at hv⊢
   split at hv
   ·rename_i l' hl';rw[L hl'];exact hv
   ·cases hv
  |agg cs=>
   rw[aH] at hv⊢
   split at hv
   ·rename_i l' hl';rw[L hl'];exact hv
   ·cases hv
  |tuple cs=>
   rw[aH] at hv⊢
   split at hv
   ·rename_i l' hl';rw[L hl'];exact hv
   ·cases hv
  |func fn a b=>
   rw[aH] at hv⊢
   split at hv
   ·rename_i a' b' ha hb;rw[L ha,L hb];exact hv
   ·cases hv
  |iface t v=>
   rw[aH] at hv⊢
   split at hv
   ·rename_i l' hl';rw[tW hl'];exact hv
   ·cases hv
  |_=>exact hv
theorem tX {n:Nat} {h:ab} {d:Nat}:∀ {l l':List AV},bJ (aH n h d) l=some l'→bJ (aH n h (d+1)) l=some l'
 |[],_,hl=>by simpa [bJ] using hl
 | a::t,l',hl=>by
  simp only[bJ] at hl⊢
  split at hl
  ·rename_i b hb
   split at hl
   ·rename_i u hu
    simp only[tW hb,tX hu];exact hl
   ·cases hl
  ·cases hl
end
theorem FA {n:Nat} {h:ab} {d e:Nat} {v r:AV} (hd:d≤e) (hv:aH n h d v=some r):aH n h e v=some r:=by
 induction hd with
 |refl=>exact hv
 |step _ ih=>exact tW ih
theorem tY {n:Nat} {h:ab} {d e:Nat} {l l':List AV} (hd:d≤e) (hl:bJ (aH n h d) l=some l'):bJ (aH n h e) l=some l':=by
 induction hd with
 |refl=>exact hl
 |step _ ih=>exact tX ih
structure Frz (n:Nat) (h:ab) (v r:AV):Prop where
 out:∃d,aH n h d v=some r
structure FrzL (n:Nat) (h:ab) (l l':List AV):Prop where
 out:∃d,bJ (aH n h d) l=some l'
theorem FrzL.nil {n:Nat} {h:ab}:FrzL n h [] []:=⟨0,rfl⟩
theorem FrzL.cons {n:Nat} {h:ab} {a b:AV} {t u:List AV} (h1:Frz n h a b) (h2:FrzL n h t u):FrzL n h (a::t) (b::u):=by
 obtain ⟨d,h1⟩:=h1
 obtain ⟨e,h2⟩:=h2
 exact ⟨max d e,by simp only[bJ,FA (Nat.le_max_left d e) h1,tY (Nat.le_max_right d e) h2]⟩
theorem FrzL.append {n:Nat} {h:ab}:∀ {a b c d:List AV},FrzL n h a b→FrzL n h c d→FrzL n h (a++c) (b++d)
 |[],b,_,_,h1,h2=>by
  obtain ⟨e,h1⟩:=h1
  simp only[bJ,Option.some.injEq] at h1
  subst h1;exact h2
 | x::t,b,c,d,h1,h2=>by
  obtain ⟨e,h1⟩:=h1
  simp only[bJ] at h1
  split at h1
  ·rename_i y hy
   split at h1
   ·rename_i u hu
    simp only[Option.some.injEq] at h1
    subst h1
    exact FrzL.cons ⟨e,hy⟩ (FrzL.append ⟨e,hu⟩ h2)
   ·cases h1
  ·cases h1
theorem Frz.agg {n:Nat} {h:ab} {l l':List AV} (hl:FrzL n h l l'):Frz n h (.agg l) (.agg l'):=by
 obtain ⟨d,hl⟩:=hl;exact ⟨d+1,by simp only[aH,hl]⟩
theorem Frz.tuple {n:Nat} {h:ab} {l l':List AV} (hl:FrzL n h l l'):Frz n h (.tuple l) (.tuple l'):=by
 obtain ⟨d,hl⟩:=hl;exact ⟨d+1,by simp only[aH,hl]⟩
theorem Frz.fsl {n:Nat} {h:ab} {f:Bool} {l l':List AV} (hl:FrzL n h l l'):Frz n h (.fsl f l) (.fsl f l'):=by
 obtain ⟨d,hl⟩:=hl;exact ⟨d+1,by simp only[aH,hl]⟩
theorem Frz.fptr {n:Nat} {h:ab} {o:Nat} {l l':List AV} (hl:FrzL n h l l'):Frz n h (.fptr l o) (.fptr l' o):=by
 obtain ⟨d,hl⟩:=hl;exact ⟨d+1,by simp only[aH,hl]⟩
theorem Frz.rsl {n:Nat} {h:ab} {own:Bool} {id off len sz:Nat} {c es l':List AV} (hn:Nat.blt id n=false) (hg:hget h id=some (.cells c)) (hc:i3 sz len (c.drop off)=some es) (hl:FrzL n h es l'):Frz n h (.rsl own id off len sz) (.fsl false l'):=by
 obtain ⟨d,hl⟩:=hl;exact ⟨d+1,by simp only[aH,hn,hg,hc,hl]⟩
theorem Frz.ptr {n:Nat} {h:ab} {id off:Nat} {c l':List AV} (hn:Nat.blt id n=false) (hg:hget h id=some (.cells c)) (hl:FrzL n h c l'):Frz n h (.ptr id off) (.fptr l' off):=by
 obtain ⟨d,hl⟩:=hl;exact ⟨d+1,by simp only[aH,hn,hg,hl]⟩
theorem Frz.keepR {n:Nat} {h:ab} {own:Bool} {id off len sz:Nat} (hn:Nat.blt id n=true):Frz n h (.rsl own id off len sz) (.rsl own id off len sz):=⟨1,by simp only[aH,hn]⟩
theorem Frz.keepM {n:Nat} {h:ab} {id:Nat} (hn:Nat.blt id n=true):Frz n h (.map id) (.map id):=⟨1,by simp only[aH,hn]⟩
mutual
theorem Frz.closed {n:Nat} {h:ab}:∀ (v:AV),ad v=true→Frz n h v v
 | .ptr _ _,hc=>by simp[ad] at hc
 | .rsl _ _ _ _ _,hc=>by simp[ad] at hc
 | .map _,hc=>by simp[ad] at hc
 | .fptr cs _,hc=> .fptr (FrzL.closed cs (by simpa [ad] using hc))
 | .fsl _ cs,hc=> .fsl (FrzL.closed cs (by simpa [ad] using hc))
 | .agg cs,hc=> .agg (FrzL.closed cs (by simpa [ad] using hc))
 | .tuple cs,hc=> .tuple (FrzL.closed cs (by simpa [ad] using hc))
 | .func fn a b,hc=>by
  simp only[ad,Bool.and_eq_true] at hc
  obtain ⟨d,h1⟩:=FrzL.closed (n:=n) (h:=h) a hc.1
  obtain ⟨e,h2⟩:=FrzL.closed (n:=n) (h:=h) b hc.2
  exact ⟨max d e+1,by simp only[aH,tY (Nat.le_max_left d e) h1,tY (Nat.le_max_right d e) h2]⟩
 | .iface t v,hc=>by
  obtain ⟨d,h1⟩:=Frz.closed (n:=n) (h:=h) v (by simpa [ad] using hc)
  exact ⟨d+1,by simp only[aH,h1]⟩
 | .bool _,_=>⟨1,rfl⟩
 | .int _ _,_=>⟨1,rfl⟩
 | .str _,_=>⟨1,rfl⟩
 | .nilp,_=>⟨1,rfl⟩
 | .gptr _ _,_=>⟨1,rfl⟩
 | .nilsl,_=>⟨1,rfl⟩
 | .nesl,_=>⟨1,rfl⟩
 | .nilmap,_=>⟨1,rfl⟩
 | .nilFunc,_=>⟨1,rfl⟩
 | .nilIface,_=>⟨1,rfl⟩
theorem FrzL.closed {n:Nat} {h:ab}:∀ (l:List AV),ae l=true→FrzL n h l l
 |[],_=> .nil
 |a::t,hc=>by
  simp only[ae,Bool.and_eq_true] at hc
  exact .cons (Frz.closed a hc.1) (FrzL.closed t hc.2)
end
def dM (sz:Nat) (e:AV):Prop:=e.cells.length=sz∧g6 e.cells=e
theorem zd {sz:Nat}:∀ {es:List AV} (r:List AV),(∀e∈es,dM sz e)→i3 sz es.length (flat es++r)=some es
 |[],r,_=>rfl
 | e::t,r,h=>by
  obtain ⟨h1,h2⟩:=h e (by simp)
  have ih:=zd (es:=t) r fun x hx=>h x (by simp[hx])
  have hc:chunk (flat (e::t)++r) 0 sz=some e.cells:=by
   rw[pP _ _ _ (by simp only[flat,List.length_append];omega)]
   simp only[flat,List.drop_zero,List.append_assoc]
   rw[List.take_left' h1]
  simp only[List.length_cons,i3,hc]
  have hd:(flat (e::t)++r).drop sz=flat t++r:=by
   simp only[flat,List.append_assoc]
   rw[List.drop_left' h1]
  rw[hd,ih,h2]
  rfl
theorem Frz.row {n:Nat} {h:ab} {own:Bool} {id len sz:Nat} {c es:List AV} (hn:Nat.blt id n=false) (hg:hget h id=some (.cells c)) (hc:c=flat es) (hl:len=es.length) (hes:∀e∈es,dM sz e) (hcl:ae es=true):Frz n h (.rsl own id 0 len sz) (.fsl false es):=by
 subst hc hl
 refine .rsl hn hg ?_ (FrzL.closed es hcl)
 have:=zd (es:=es) [] hes
 simpa using this
theorem io:∀s:List UInt8,aj s=s.map fun b=> .int .u8 (.ofNat b.toNat)
 |[]=>rfl
 |b::t=>by simp only[aj,List.map_cons,io t]
theorem FB (s t:List UInt8):aj (s++t)=aj s++aj t:=by simp[io]
theorem ze (n:Nat) (s:List UInt8):(aj s).take n=aj (s.take n):=by simp[io,List.map_take]
theorem zf (n:Nat) (s:List UInt8):(aj s).drop n=aj (s.drop n):=by simp[io,List.map_drop]
@[simp] theorem dr (s:List UInt8):ac (aj s)=s.length:=by rw[aC,io];simp
@[simp] theorem tZ (s:List UInt8):flat (aj s)=aj s:=(sS s).1
@[simp] theorem zg:∀s:List UInt8,dh (aj s)=some s
 |[]=>rfl
 | b::t=>by
  have e:UInt8.ofNat (Int.ofNat b.toNat).toNat=b:=by
   show UInt8.ofNat b.toNat=b
   exact UInt8.ofNat_toNat
  simp only[aj,dh,zg t,Option.map_some,e]
@[simp] theorem nV (s:List UInt8):ig (aj s)=s:=by simp[ig]
@[simp] theorem pU:∀s:List UInt8,ae (aj s)=true
 |[]=>rfl
 |b::t=>by simp only[aj,ae,ad,pU t,Bool.and_self]
@[simp] theorem FC:∀s:List UInt8,bu (aj s)=true
 |[]=>rfl
 |b::t=>by simp only[aj,bu,AV.one,FC t,Bool.and_self]
@[simp] theorem FD:∀s:List UInt8,bT 1 (aj s)=true
 |[]=>rfl
 |b::t=>by
  have e:ac (AV.int .u8 (.ofNat b.toNat)).cells=1:=rfl
  simp only[aj,bT,FD t,e,Nat.beq_refl,Bool.and_self]
@[simp] theorem FE (s:List UInt8):mQ 1 (aj s)=true:=by cases s<;>rfl
theorem t4 {s:List UInt8}:∀e∈aj s,dM 1 e:=by
 intro e he
 rw[io,List.mem_map] at he
 obtain ⟨b,_,rfl⟩:=he
 exact ⟨rfl,rfl⟩
theorem zh:∀n:Nat,bV (.int .u8 0) n=aj (List.replicate n 0)
 |0=>rfl
 |n+1=>by
  simp only[bV,List.replicate_succ,aj,zh n]
  rfl
theorem FF (s:List UInt8) (i:Nat):cg (aj s) i=(s[i]?).map fun b=> .int .u8 (.ofNat b.toNat):=by rw[eA,io,List.getElem?_map]
theorem Frz.bytes {n:Nat} {h:ab} {own:Bool} {id len:Nat} {c:List AV} {s:List UInt8} (hn:Nat.blt id n=false) (hg:hget h id=some (.cells c)) (hc:c=aj s) (hl:len=s.length):Frz n h (.rsl own id 0 len 1) (.fsl false (aj s)):=
 .row hn hg (by rw[hc,tZ]) (by rw[hl,io];simp) t4 (pU s)
theorem allSize_iff {sz:Nat}:∀ {l:List AV},bT sz l=true↔∀e∈l,e.cells.length=sz
 |[]=>by simp[bT]
 |a::t=>by simp only[bT,Bool.and_eq_true,beq_iff,aC,allSize_iff (l:=t),List.forall_mem_cons]
theorem nW:∀ (a b:List AV),flat (a++b)=flat a++flat b
 |[],b=>rfl
 |x::t,b=>by simp only[List.cons_append,flat,nW t b,List.append_assoc]
theorem ltInt_iff {a b:Int}:au a b=true↔a<b:=by rw[gO];simp
theorem ltInt_false {a b:Int}:au a b=false↔b≤a:=by rw[gO];simp
theorem beqInt_iff {a b:Int}:ah a b=true↔a=b:=by rw[hU];simp
theorem beqInt_false {a b:Int}:ah a b=false↔a≠b:=by rw[hU];simp
theorem beqBytes_iff {a b:List UInt8}:ag a b=true↔a=b:=by rw[ly];simp
theorem eS {n:Int} (h1: -9223372036854775808≤n) (h2:n≤9223372036854775807):az .i64 n=n:=by
 rw[hJ];exact IntWalk.i64_in _ ⟨by omega,by omega⟩
theorem nonneg_iff {n:Int}:eB n=true↔0≤n:=by
 cases n with
 |ofNat m=>simp[eB]
 |negSucc m=>simp[eB]
end Go.Proofs.Abs
/- What arguments are: numbers, texts, slices of plain elements. -/
namespace Go.Proofs.Abs
open Go
theorem zi {α:Type} {Q:Nat→α→Prop}:∀ (n:Nat),(∀i,i<n→∃x,Q i x)→∃l:List α,l.length=n∧∀i x,l[i]? =some x→Q i x
 |0,_=>⟨[],rfl,by simp⟩
 | n+1,h=>by
  obtain ⟨l,h1,h2⟩:=zi n fun i hi=>h i (by omega)
  obtain ⟨x,hx⟩:=h n (by omega)
  refine ⟨l++[x],by simp[h1],fun i y hy=> ?_⟩
  rcases Nat.lt_or_ge i n with hi|hi
  ·rw[List.getElem?_append_left (by omega)] at hy
   exact h2 i y hy
  ·rw[List.getElem?_append_right (by omega)] at hy
   have:i-l.length=0:=by
    have:=(List.getElem?_eq_some_iff.1 hy).1
    simp at this;omega
   rw[this] at hy
   simp at hy;subst hy
   have:i=n:=by omega
   subst this;exact hx
theorem t5 {a:Addr} (h:a.spot=none) (n:Nat):a.add n=⟨a.block,a.off+n,none⟩:=by
 obtain ⟨b,o,s⟩:=a
 simp only at h;subst h
 unfold Addr.add
 split
 ·rename_i h0;subst h0;rfl
 ·rfl
section
variable {H:Type} {enc:TypeId × Value→H} {P:Program} {w:World} {base:Nat} {spare:Nat→Bool} {held:Bool} {t e:TypeId} {v:Value} {d:DataW H} {ps:List MemPlace}
theorem open_int {k:IntKind} (ht:P.underlying t=some (.int k)) (hok:Value.okWide P w .any base t v) (h:DataW.Trod enc P w 0 spare held t v d ps):∃n:Int,v= .int k n∧k.min≤n∧n≤k.max:=by
 obtain ⟨fuel,hd⟩:=h
 obtain ⟨n,e1,_,h2⟩:=DataW.trod_int ht hd
 have h2:k.min≤n∧n≤k.max:=by simpa [Lit.wf] using h2
 refine ⟨n, ?_,h2⟩
 simp only[Value.okWide,ht] at hok
 cases v with
 |agg cs=>simp[Cell.okWide,Cell.ok,ht] at hok
 |int k' n'=>simp only[Value.cells,List.cons.injEq] at e1;simpa using e1
 |_=>simp[Value.cells] at e1
def t6 (H:Type) (enc:TypeId × Value→H) (P:Program) (w:World) (spare:Nat→Bool) (held:Bool) (e:TypeId) (m:Nat) (p:List AV→Prop):Prop:=
 P.cellsOf e=m∧0<m∧∀ (fuel:Nat) (cs:List Value) (x:DataW H × List MemPlace),cs.length=m→DataW.trod enc P w 0 spare held fuel e cs=some x→∃l,RepL w (fun b=>b<w.heap.size) (fun _=>none) l cs∧p l
theorem t7 {a:Addr} {n:Nat} {cs:List Value} (h:w.cells? 0 a n=some cs):cs.length=n∧∀j,j<n→w.cell? (a.add j)=cs[j]? :=by
 unfold World.cells? at h
 rw[if_pos (Nat.zero_le _)] at h
 refine ⟨by simpa using mapM_some_length h,fun j hj=> ?_⟩
 exact mapM_some_get h j j (by simp[hj])
theorem open_slice {m:Nat} {p:List AV→Prop} (ht:P.underlying t=some (.slice e)) (he:t6 H enc P w spare held e m p) (hok:Value.okWide P w .any base t v) (h:DataW.Trod enc P w 0 spare held t v d ps):
  v= .slice none 0 0∨∃ess:List (List AV),Rep w (fun b=>b<w.heap.size) (fun _=>none) (.fsl false (ess.map g6)) v∧(∀c∈ess,p c∧c.length=m)∧ess.length≤maxLen:=by
 obtain ⟨hm,hpos,hread⟩:=he
 obtain ⟨fuel,hd⟩:=h
 simp only[Value.okWide,ht] at hok
 have hv:v.cells.toList=[v]:=by
  cases v with
  |agg cs=>simp[Cell.okWide,Cell.ok,ht] at hok
  |_=>rfl
 rw[hv] at hd
 rcases DataW.trod_slice ht hd with ⟨e1,_⟩|⟨a,len,cap,elems,rest,n,_,e1,_,_,hlc,hcap,hel,hget,_,_⟩
 ·left;simpa using e1
 ·right
  have e1:v= .slice (some a) len cap:=by simpa using e1
  subst e1
  have hspot:a.spot=none:=by
   simp only[Cell.okWide,Cell.ok,ht,World.has] at hok
   exact hok.2.2.2.1
  rw[hm] at hget
  have each:∀i,i<len→∃x:List AV × List Value,w.cells? 0 (a.add (i*m)) m=some x.2∧RepL w (fun b=>b<w.heap.size) (fun _=>none) x.1 x.2∧p x.1∧x.1.length=m:=fun i hi=>by
   have h1:=hget i hi
   have h2:elems[i]? ≠none:=by
    rw[List.getElem?_eq_getElem (by omega)];simp
   cases hc:w.cells? 0 (a.add (i*m)) m with
   |none=>rw[hc] at h1;exact absurd h1.symm h2
   | some cs=>
    rw[hc] at h1
    simp only[Option.bind_some] at h1
    cases hx:elems[i]? with
    |none=>exact absurd hx h2
    |some x=>
     rw[hx] at h1
     obtain ⟨l,hl,hp⟩:=hread n cs x (t7 hc).1 h1
     exact ⟨(l,cs),rfl,hl,hp,by rw[hl.1];exact (t7 hc).1⟩
  obtain ⟨xs,hlen,hxs⟩:=zi len each
  refine ⟨xs.map (·.1), ?_,fun c hc=> ?_, ?_⟩
  ·have hat:∀ (i:Nat) (u:AV),(List.map g6 (xs.map (·.1)))[i]? =some u→∃x:List AV × List Value,xs[i]? =some x∧u=g6 x.1:=fun i u hu=>by
    rw[List.getElem?_map,List.getElem?_map] at hu
    cases hx:xs[i]? with
    |none=>rw[hx] at hu;cases hu
    |some x=>rw[hx] at hu;exact ⟨x,rfl,by simpa using hu.symm⟩
   refine .fsl false _ (some a) len cap m a.block a.off (fun i j=>((xs[i]?.map (·.2)).getD [])[j]?.getD default) (by simp[hlen]) hlc (fun h=>by cases h) (.inl (by rw[←hspot])) (fun hne=> ?_) (fun u hu=> ?_) (fun i u j c hu hc=> ?_) (fun i u j c hu hc=> ?_)
   ·have hpos':0<len:=by
     rcases Nat.eq_zero_or_pos len with h0|h0
     ·have:xs=[]:=List.length_eq_zero_iff.1 (by omega)
      subst this;exact absurd rfl hne
     ·exact h0
    obtain ⟨x,hx⟩:∃x,xs[0]? =some x:=⟨xs[0]'(by omega),List.getElem?_eq_getElem (by omega)⟩
    have:=World.cells?_block (hxs 0 x hx).1 hpos
    rw[t5 hspot] at this
    exact this
   ·obtain ⟨i,hi⟩:=List.getElem?_of_mem hu
    obtain ⟨x,hx,rfl⟩:=hat i u hi
    rw[nr];exact (hxs i x hx).2.2.2
   ·obtain ⟨x,hx,rfl⟩:=hat i u hu
    rw[nr] at hc
    obtain ⟨h1,h2,h3,h4⟩:=hxs i x hx
    obtain ⟨y,hy,_⟩:=h2.get hc
    have hj:j<m:=by rw[←h4];exact (List.getElem?_eq_some_iff.1 hc).1
    have:=(t7 h1).2 j hj
    rw[t5 hspot,t5 rfl] at this
    simp only[hx,Option.map_some,Option.getD_some,hy]
    rw[this,hy]
   ·obtain ⟨x,hx,rfl⟩:=hat i u hu
    rw[nr] at hc
    obtain ⟨h1,h2,h3,h4⟩:=hxs i x hx
    obtain ⟨y,hy,hr⟩:=h2.get hc
    simpa only[hx,Option.map_some,Option.getD_some,hy] using hr
  ·obtain ⟨x,hx,rfl⟩:=List.mem_map.1 hc
   obtain ⟨i,hi⟩:=List.getElem?_of_mem hx
   exact (hxs i x hi).2.2
  ·simp only[List.length_map,hlen];exact Nat.le_trans hlc hcap
theorem FG (he:P.underlying e=some (.int .u8)) (hc:P.cellsOf e=1):t6 H enc P w spare held e 1 fun l=>∃b:UInt8,l=[.int .u8 (.ofNat b.toNat)]:=by
 refine ⟨hc,by omega,fun fuel cs x _ h=> ?_⟩
 obtain ⟨n,rfl,_,hw⟩:=DataW.trod_int he h
 have hw:IntKind.u8.min≤n∧n≤IntKind.u8.max:=by simpa [Lit.wf] using hw
 have h0:0≤n:=hw.1
 have h1:n≤255:=hw.2
 refine ⟨[.int .u8 n],.cons (.int _ _) .nil,UInt8.ofNat n.toNat, ?_⟩
 have:((UInt8.ofNat n.toNat).toNat:Int)=n:=by
  rw[UInt8.toNat_ofNat']
  omega
 show _=[AV.int .u8 ((UInt8.ofNat n.toNat).toNat:Int)]
 rw[this]
theorem FH {i:TypeId} {k:IntKind} {f0 f1 f2 f3:Field} (ht:P.underlying e=some (.struct #[f0,f1,f2,f3])) (h0:f0.type=i∧f0.offset=0) (h1:f1.type=i∧f1.offset=1) (h2:f2.type=i∧f2.offset=2) (h3:f3.type=i∧f3.offset=3)
  (he:P.underlying i=some (.int k)) (hc:P.cellsOf i=1) (hs:P.cellsOf e=4):t6 H enc P w spare held e 4 fun l=>∃a b c z:Int,l=[.int k a,.int k b,.int k c,.int k z]∧(k.min≤a∧a≤k.max)∧(k.min≤b∧b≤k.max)∧(k.min≤c∧c≤k.max)∧(k.min≤z∧z≤k.max):=by
 refine ⟨hs,by omega,fun fuel cs x hl h=> ?_⟩
 obtain ⟨xs,n,_,_,_,hxl,hel⟩:=DataW.trod_struct ht h
 have at':∀ (j:Nat) (f:Field),j<4→ #[f0,f1,f2,f3][j]? =some f→f.type=i→f.offset=j→∃z,cs[j]? =some (.int k z)∧k.min≤z∧z≤k.max:=fun j f hj hf hte ho=>by
  have hE:=hel j f hf
  rw[hte,hc,ho,List.getElem?_eq_getElem (by rw[hxl];simpa using hj)] at hE
  obtain ⟨z,e1,_,hw⟩:=DataW.trod_int he hE
  have e7:((cs.drop j).take 1)[0]? =some (.int k z):=by rw[e1];rfl
  rw[List.getElem?_take_of_lt (by omega),List.getElem?_drop] at e7
  exact ⟨z,by simpa using e7,by simpa [Lit.wf] using hw⟩
 obtain ⟨a,ha,wa⟩:=at' 0 f0 (by omega) rfl h0.1 h0.2
 obtain ⟨b,hb,wb⟩:=at' 1 f1 (by omega) rfl h1.1 h1.2
 obtain ⟨c,hc',wc⟩:=at' 2 f2 (by omega) rfl h2.1 h2.2
 obtain ⟨z,hz,wz⟩:=at' 3 f3 (by omega) rfl h3.1 h3.2
 refine ⟨[.int k a,.int k b,.int k c,.int k z], ?_,a,b,c,z,rfl,wa,wb,wc,wz⟩
 have:cs=[.int k a,.int k b,.int k c,.int k z]:=by
  apply List.ext_getElem?
  intro j
  match j with
  |0=>exact ha
  |1=>exact hb
  |2=>exact hc'
  |3=>exact hz
  |j+4=>rw[List.getElem?_eq_none (by omega),List.getElem?_eq_none (by simp)]
 subst this
 exact .cons (.int _ _) (.cons (.int _ _) (.cons (.int _ _) (.cons (.int _ _) .nil)))
end
end Go.Proofs.Abs
/- States seen anew, with rows that are written no more made part of the values. -/
namespace Go.Proofs.Abs
open Go
def lS (m:Nat) (h:ab):Blk→Blk→Prop
 | .cells l,.cells l'=>FrzL m h l l'
 | .siter s p,.siter s' p'=>s=s'∧p=p'
 | .mapb c s l,.mapb c' s' l'=>c=c'∧s=s'∧∃d,lv (aH m h d) l=some l'
 | .miter m a b c,.miter m' a' b' c'=>m=m'∧a=a'∧b=b'∧c=c'
 |_,_=>False
section
variable {G:aF} {w:World} {I:Nat→Prop} {α:Nat→Option Nat} {H:ab}
theorem zj {m b:Nat} {b0 b1:Blk} (r:Rel G w I α H) (hf:lS m H b0 b1) (h:BRel w I α b b0):BRel w (cT I α H m) α b b1:=by
 cases b0 with
 | cells l=>cases b1 with
  |cells l'=>
   obtain ⟨d,hl'⟩:=hf
   obtain ⟨c,e,h1,h2,h3⟩:=h
   have hlen:=(jh hl').1
   have h4:=(gi r m d).list hl' h3
   exact ⟨c,e,h1,by rw[hlen];exact h2,by rw[hlen];exact h4⟩
  |_=>exact hf.elim
 |siter s p=>cases b1 with
  |siter s' p'=>obtain ⟨rfl,rfl⟩:=hf;exact h
  |_=>exact hf.elim
 |miter m a b c=>cases b1 with
  |miter m' a' b' c'=>obtain ⟨rfl,rfl,rfl,rfl⟩:=hf;exact h
  |_=>exact hf.elim
 | mapb c s l=>cases b1 with
  |mapb c' s' l'=>
   obtain ⟨rfl,rfl,d,hes⟩:=hf
   obtain ⟨en,h1,h2,h4,h3⟩:=h
   obtain ⟨k1,k2⟩:=te (gi r m d) hes
   refine ⟨en,h1,by rw[k1];exact h2,h4,fun i x' y e1 e2=> ?_⟩
   obtain ⟨x,g1,g2,g3⟩:=k2 i x' e1
   obtain ⟨q1,q2⟩:=h3 i x y g1 e2
   exact ⟨g2 _ q1,g3 _ q2⟩
  |_=>exact hf.elim
end
section
variable {G:aF} {w0:World} {I0:Nat→Prop} {α0:Nat→Option Nat} {H0:ab} {nx0:Nat} {D:List Deferred}
theorem CR.freeze {s s2:St} {a:Act} {w:World} (m:Nat) (h:CR G w0 I0 α0 H0 nx0 D s a w) (hn:s2.n=s.n) (hnx:s2.nx=s.nx)
  (hS:∀k v,s2.slots.get k=some v→∃u,s.slots.get k=some u∧Frz m s.heap u v)
  (hH:∀i b,hget s2.heap i=some b→i<m∧∃b1,hget s.heap i=some b1∧lS m s.heap b1 b):CR G w0 I0 α0 H0 nx0 D s2 a w:=by
 obtain ⟨⟨I,α,ev,rel,hs,_,hf,hnew⟩,h7,h8,h9,h10,h11⟩:=h
 have hlive:∀i,hget s2.heap i≠none→i<m∧hget s.heap i≠none:=fun i hi=>by
  cases hb:hget s2.heap i with
  |none=>exact absurd hb hi
  |some b=>
   obtain ⟨h1,b1,h2,_⟩:=hH i b hb
   exact ⟨h1,by rw[h2];simp⟩
 have hown:∀b,bD α s2.heap b→bD α s.heap b:=fun b ⟨i,h1,h2⟩=>⟨i,(hlive i h1).2,h2⟩
 refine ⟨⟨cT I α s.heap m,α,⟨ev.os,fun b hb=> .inl (ev.I_mono b hb),ev.α_mono,ev.size,ev.frame,ev.shape,fun b hb=> ?_,fun b hb=>ev.own b (hown b hb)⟩, ?_, ?_,fun i hi=>absurd hi (Nat.not_lt_zero i),fun id hid=>hf id (by rw[hnx] at hid;exact hid),fun id hid=> ?_⟩,Nat.le_refl _,by rw[hnx];exact h8,h9,by rw[hn];exact h10,by rw[hn];exact h11⟩
 ·rcases hb with hb|⟨id,_,h2,h3⟩
  ·exact ev.Inew b hb
  ·rcases ev.own b ⟨id,h2,h3⟩ with h|h
   ·exact .inr (.inl h)
   ·exact .inr (.inr h)
 ·exact
  {live:=fun i blk hi=>by
    obtain ⟨hm,b1,e2,e3⟩:=hH i blk hi
    obtain ⟨b,k1,k2,k3⟩:=rel.live i b1 e2
    refine ⟨b,k1, ?_,zj rel e3 k3⟩
    rintro (hb|⟨id,h1,h2,h3⟩)
    ·exact k2 hb
    ·have:=rel.inj id i b h2 (by rw[e2];simp) h3 k1
     omega
   inj:=fun i i' b h1 h2 h3 h4=>rel.inj i i' b (hlive i h1).2 (hlive i' h2).2 h3 h4
   imm:=fun b hb=>by
    rcases hb with hb|⟨id,_,_,h3⟩
    ·exact rel.imm b hb
    ·exact rel.dom id b h3
   dom:=rel.dom
   glob:=fun g l hgl=>by
    obtain ⟨h1,h2⟩:=rel.glob g l hgl
    refine ⟨.inl h1,fun j x hx=> ?_⟩
    obtain ⟨y,e1,e2⟩:=h2 j x hx
    exact ⟨y,e1,e2.mono (fun _ h=> .inl h) (fun _ _ h=>h) (fun _ _ _=>rfl) (fun _ _ _=>rfl)⟩}
 ·intro k v hv
  obtain ⟨u,e1,d,e2⟩:=hS k v hv
  obtain ⟨y,e3,e4⟩:=hs k u e1
  exact ⟨y,e3,gi rel m d _ _ _ e2 e4⟩
 ·rw[hnx];exact hnew id hid
end
end Go.Proofs.Abs
/- Loops: states by number, seen anew behind each round. -/
namespace Go.Proofs.Abs
open Go
def nX (lk:List (Nat × Nat)):AV→AV→Prop
 | .ptr i o,u=>match u with
  | .ptr j p=>aG lk i=some j∧o=p
  |_=>False
 | .rsl w i o l z,u=>match u with
  | .rsl w' j o' l' z'=>w=w'∧aG lk i=some j∧o=o'∧l=l'∧z=z'
  |_=>False
 | .map i,u=>match u with
  | .map j=>aG lk i=some j
  |_=>False
 |v,u=>u=v∧ad v=true
theorem pV {lk:List (Nat × Nat)} {v u:AV} (h:nX lk v u):RenV lk v u:=by
 unfold nX at h
 split at h
 ·split at h
  ·obtain ⟨h1,rfl⟩:=h;exact .ptr _ _ _ h1
  ·exact h.elim
 ·split at h
  ·obtain ⟨rfl,h1,rfl,rfl,rfl⟩:=h;exact .rsl _ _ _ _ _ _ h1
  ·exact h.elim
 ·split at h
  ·exact .map _ _ h
  ·exact h.elim
 ·obtain ⟨rfl,hc⟩:=h;exact .same _ hc
def lT (lk:List (Nat × Nat)):List AV→List AV→Prop
 |[],[]=>True
 |a::t,b::u=>nX lk a b∧lT lk t u
 |_,_=>False
theorem zk {lk:List (Nat × Nat)}:∀ {l l':List AV},lT lk l l'→l.length=l'.length∧∀ (i:Nat) x y,l[i]? =some x→l'[i]? =some y→RenV lk x y
 |[],[],_=>⟨rfl,fun i x y h=>by simp at h⟩
 |a::t,b::u,h=>by
  obtain ⟨h1,h2⟩:=zk h.2
  refine ⟨by simp[h1],fun i x y hx hy=> ?_⟩
  cases i with
  |zero=>simp only[List.getElem?_cons_zero,Option.some.injEq] at hx hy;subst hx;subst hy;exact pV h.1
  |succ i=>exact h2 i x y (by simpa using hx) (by simpa using hy)
 |[],_::_,h=>h.elim
 |_::_,[],h=>h.elim
def t8 (lk:List (Nat × Nat)):AV→AV→Prop
 | .func fn f c,u=>match u with
  | .func fn' f' c'=>(fn=fn'∧f=f'∧ae f=true)∧lT lk c c'
  |_=>False
 | .iface t v,u=>match u with
  | .iface t' v'=>t=t'∧nX lk v v'
  |_=>False
 |v,u=>nX lk v u
theorem FI {lk:List (Nat × Nat)} {v u:AV} (h:t8 lk v u):RenV lk v u:=by
 unfold t8 at h
 split at h
 ·split at h
  ·obtain ⟨⟨rfl,rfl,hf⟩,hc⟩:=h
   obtain ⟨h1,h2⟩:=zk hc
   exact .func _ _ _ _ hf h1 h2
  ·exact h.elim
 ·split at h
  ·obtain ⟨rfl,h⟩:=h;exact .iface _ (pV h)
  ·exact h.elim
 ·exact pV h
inductive t9 where
 |whole
 |each
 |rel
 |split (pre suf old:List AV)
structure fL (lk:List (Nat × Nat)) (l l':List AV):Prop where
 out:RenL lk l l'
def pW:List (AV × AV)→Bool
 |[]=>true
 |(a,b)::t=>ad a&&(ad b&&pW t)
theorem RenP.same (lk:List (Nat × Nat)):∀ {l:List (AV × AV)},pW l=true→RenP lk l l
 |[],_=>trivial
 |(a,b)::t,h=>by
  simp only[pW,Bool.and_eq_true] at h
  exact ⟨.same a h.1,.same b h.2.1,RenP.same lk h.2.2⟩
def ua (lk:List (Nat × Nat)) (mode:t9):Blk→Blk→Prop
 | .cells l,.cells l'=>match mode with
  | .whole=>l'=l∧ae l=true
  | .each=>lT lk l l'
  | .rel=>fL lk l l'
  | .split pre suf old=>(l=pre++suf∧l'=pre++old)∧(ae pre=true∧lT lk suf old)
 | .siter s p,.siter s' p'=>s=s'∧p=p'
 | .miter m a b c,.miter m' a' b' c'=>a=a'∧b=b'∧c=c'∧aG lk m=some m'
 | .mapb c s l,.mapb c' s' l'=>(c=c'∧s=s'∧l'=l)∧pW l=true
 |_,_=>False
theorem ub {lk:List (Nat × Nat)}:∀ {l l':List AV},lT lk l l'→RenL lk l l'
 |[],[],_=>trivial
 |_a::_t,_b::_u,h=>⟨pV h.1,ub h.2⟩
 |[],_::_,h=>h.elim
 |_::_,[],h=>h.elim
theorem RenL.append' {lk:List (Nat × Nat)}:∀ {a b c d:List AV},RenL lk a b→RenL lk c d→RenL lk (a++c) (b++d)
 |[],[],_,_,_,h=>h
 |_::_,_::_,_,_,h1,h2=>⟨h1.1,RenL.append' h1.2 h2⟩
 |[],_::_,_,_,h,_=>h.elim
 |_::_,[],_,_,h,_=>h.elim
theorem FJ {lk:List (Nat × Nat)} {wh:t9} {b b':Blk} (h:ua lk wh b b'):gk lk b b':=by
 cases b with
 | cells l=>cases b' with
  | cells l'=>
   simp only[ua] at h
   split at h
   ·obtain ⟨rfl,hc⟩:=h;exact RenL.same lk hc
   ·exact ub h
   ·exact h.out
   ·obtain ⟨⟨rfl,rfl⟩,hc,h⟩:=h
    exact RenL.append' (RenL.same lk hc) (ub h)
  |_=>exact h.elim
 |siter s p=>cases b' with
  |siter s' p'=>exact h
  |_=>exact h.elim
 |miter m a b c'=>cases b' with
  |miter m' a' b' c'=>exact h
  |_=>exact h.elim
 | mapb c s l=>cases b' with
  |mapb c' s' l'=>
   obtain ⟨⟨rfl,rfl,rfl⟩,hc⟩:=h
   exact ⟨rfl,rfl,RenP.same lk hc⟩
  |_=>exact h.elim
abbrev Heap2:=List (Nat × Blk × t9)
def Heap2.heap:Heap2→ab
 |[]=>[]
 |(i,b,_)::t=>(i,some b)::Heap2.heap t
def uc (lk:List (Nat × Nat)) (g:Nat→Option AV):List (Nat × AV)→Prop
 |[]=>True
 |(k,v)::t=>(match g k with
  |some u=>t8 lk v u
  |none=>False)∧uc lk g t
def ud (g:Nat→Option AV):List (Nat × AV)→Prop
 |[]=>True
 |(k,v)::t=>(match g k with
  |some u=>u=v∧ad v=true
  |none=>False)∧ud g t
def ue (lk:List (Nat × Nat)) (g:Nat→Option Blk):Heap2→Prop
 |[]=>True
 | (i,b,wh)::t=>(match aG lk i with
  |some j=>match g j with
   |some c=>ua lk wh b c
   |none=>False
  |none=>False)∧ue lk g t
structure View where
 slots:List (Nat × AV)
 refs:List (Nat × AV)
 heap:Heap2
 nx:Nat
 n:Nat
noncomputable def View.st (V:View):St:=⟨sl (V.slots++V.refs),V.heap.heap,V.nx,V.n⟩
def pX:List Nat→Bool
 |[]=>true
 |a::t=> !dD t a&&pX t
def zl (nx0 nx:Nat) (lk:List (Nat × Nat)):Bool:=pX (lk.map (·.2))&&(jZ (lk.map (·.1)) nx&&Nat.ble nx0 nx)
def pY (lk:List (Nat × Nat)):Nat→Bool
 |0=>true
 |n+1=>(match aG lk n with
  |some j=>Nat.beq j n
  |none=>false)&&pY lk n
def dd (nx0:Nat) (lk:List (Nat × Nat)) (V:View) (s:St):Prop:=
 ax (zl nx0 V.nx lk&&(pY lk nx0&&Nat.beq V.n s.n)) (ud s.slots.get V.slots∧(uc lk s.slots.get V.refs∧ue lk (hget s.heap) V.heap))
def Says2 (G:aF) (nx0:Nat) (s s2:St):Prop:=
 ∀w0 I0 α0 H0 D a w,(∀id,nx0≤id→α0 id=none)→CR G w0 I0 α0 H0 nx0 D s a w→CR G w0 I0 α0 H0 nx0 D s2 a w
theorem zm:∀ {l:List Nat},pX l=true→l.Nodup
 |[],_=> .nil
 |a::t,h=>by
  simp only[pX,Bool.and_eq_true,Bool.not_eq_true'] at h
  refine List.nodup_cons.2 ⟨fun hm=> ?_,zm h.2⟩
  rw[memN_iff.2 hm] at h;exact Bool.noConfusion h.1
theorem zn {lk:List (Nat × Nat)}:∀ {n:Nat},pY lk n=true→∀i,i<n→aG lk i=some i
 |0,_=>by simp
 | n+1,h=>fun i hi=>by
  simp only[pY,Bool.and_eq_true] at h
  rcases Nat.lt_or_ge i n with h'|h'
  ·exact zn h.2 i h'
  ·have:i=n:=by omega
   subst this
   have h1:=h.1
   split at h1
   ·rename_i j hj;rw[hj,beq_iff.1 h1]
   ·cases h1
theorem zo {H2:Heap2} {i:Nat} {b:Blk} (h:hget H2.heap i=some b):∃wh,(i,b,wh)∈H2:=by
 induction H2 with
 |nil=>simp[Heap2.heap,hget] at h
 | cons p t ih=>
  obtain ⟨j,c,wh⟩:=p
  simp only[Heap2.heap,hget] at h
  split at h
  ·rename_i he
   have he:=beq_iff.1 he
   simp only[Option.some.injEq] at h
   subst he;subst h
   exact ⟨wh,by simp⟩
  ·obtain ⟨wh,hm⟩:=ih h
   exact ⟨wh,by simp[hm]⟩
theorem zp {lk:List (Nat × Nat)} {g:Nat→Option AV}:∀ {L:List (Nat × AV)},uc lk g L→∀k v,(k,v)∈L→∃u,g k=some u∧RenV lk v u
 |[],_,_,_,h=>by cases h
 | (k',v')::t,h,k,v,hm=>by
  rcases List.mem_cons.1 hm with e|hm
  ·cases e
   have h1:=h.1
   split at h1
   ·rename_i u hu;exact ⟨u,hu,FI h1⟩
   ·exact h1.elim
  ·exact zp h.2 k v hm
theorem zq {lk:List (Nat × Nat)} {g:Nat→Option AV}:∀ {L:List (Nat × AV)},ud g L→∀k v,(k,v)∈L→∃u,g k=some u∧RenV lk v u
 |[],_,_,_,h=>by cases h
 | (k',v')::t,h,k,v,hm=>by
  rcases List.mem_cons.1 hm with e|hm
  ·cases e
   have h1:=h.1
   split at h1
   ·rename_i u hu
    obtain ⟨rfl,hc⟩:=h1
    exact ⟨u,hu,.same _ hc⟩
   ·exact h1.elim
  ·exact zq h.2 k v hm
theorem zr {lk:List (Nat × Nat)} {g:Nat→Option Blk}:∀ {H2:Heap2},ue lk g H2→∀i b wh,(i,b,wh)∈H2→∃j b1,aG lk i=some j∧g j=some b1∧gk lk b b1
 |[],_,_,_,_,h=>by cases h
 | (i',b',wh')::t,h,i,b,wh,hm=>by
  rcases List.mem_cons.1 hm with e|hm
  ·cases e
   have h1:=h.1
   split at h1
   ·rename_i j hj
    split at h1
    ·rename_i c hc;exact ⟨j,c,hj,hc,FJ h1⟩
    ·exact h1.elim
   ·exact h1.elim
  ·exact zr h.2 i b wh hm
theorem eE {G:aF} {nx0:Nat} {lk:List (Nat × Nat)} {V:View} {s:St} (hg:∀g l,G g=some l→ae l=true) (h:dd nx0 lk V s):Says2 G nx0 s V.st:=by
 obtain ⟨hb,h0,h1,h2⟩:=oblB_iff.1 h
 simp only[zl,Bool.and_eq_true] at hb
 obtain ⟨⟨b1,b2,b3⟩,b4,b5⟩:=hb
 intro w0 I0 α0 H0 D a w hα hr
 refine hr.turnIn lk hg hα (beq_iff.1 b5) (fun k v hv=>by
   rcases List.mem_append.1 (pH hv) with hm|hm
   ·exact zq h0 k v hm
   ·exact zp h1 k v hm) (fun i b hi=> ?_) (zm b1) (fun i hi=> ?_) (zn b4) (Nat.le_of_ble_eq_true b3)
 ·obtain ⟨wh,hm⟩:=zo hi
  exact zr h2 i b wh hm
 ·cases hl:aG lk i with
  |none=>rfl
  |some j=>
   have:=ia b2 i (List.mem_map.2 ⟨_,gj hl,rfl⟩)
   have hi:V.nx≤i:=hi
   omega
def uf (m:Nat) (h:ab) (g:Nat→Option AV):List (Nat × AV)→Prop
 |[]=>True
 |(k,v)::t=>(match g k with
  |some u=>Frz m h u v
  |none=>False)∧uf m h g t
def ug (m:Nat) (h:ab):Heap2→Prop
 |[]=>True
 |(i,b,_)::t=>(ax (Nat.blt i m) (match hget h i with
  |some c=>lS m h c b
  |none=>False))∧ug m h t
def zs (m:Nat) (V:View) (s:St):Prop:=ax (Nat.beq V.n s.n&&Nat.beq V.nx s.nx) (uf m s.heap s.slots.get (V.slots++V.refs)∧ug m s.heap V.heap)
theorem zt {m:Nat} {h:ab} {g:Nat→Option AV}:∀ {L:List (Nat × AV)},uf m h g L→∀k v,(k,v)∈L→∃u,g k=some u∧Frz m h u v
 |[],_,_,_,h=>by cases h
 | (k',v')::t,h,k,v,hm=>by
  rcases List.mem_cons.1 hm with e|hm
  ·cases e
   have h1:=h.1
   split at h1
   ·rename_i u hu;exact ⟨u,hu,h1⟩
   ·exact h1.elim
  ·exact zt h.2 k v hm
theorem zu {m:Nat} {h:ab}:∀ {H2:Heap2},ug m h H2→∀i b wh,(i,b,wh)∈H2→i<m∧∃b1,hget h i=some b1∧lS m h b1 b
 |[],_,_,_,_,h=>by cases h
 | (i',b',wh')::t,h,i,b,wh,hm=>by
  rcases List.mem_cons.1 hm with e|hm
  ·cases e
   obtain ⟨hb,h1⟩:=oblB_iff.1 h.1
   refine ⟨blt_iff.1 hb, ?_⟩
   split at h1
   ·rename_i c hc;exact ⟨c,hc,h1⟩
   ·exact h1.elim
  ·exact zu h.2 i b wh hm
theorem FK {G:aF} {nx0 m:Nat} {V:View} {s:St} (h:zs m V s):Says2 G nx0 s V.st:=by
 obtain ⟨hb,h1,h2⟩:=oblB_iff.1 h
 rw[Bool.and_eq_true] at hb
 intro w0 I0 α0 H0 D a w _ hr
 refine hr.freeze m (beq_iff.1 hb.1) (beq_iff.1 hb.2) (fun k v hv=>zt h1 k v (pH hv)) fun i b hi=> ?_
 obtain ⟨wh,hm⟩:=zo hi
 exact zu h2 i b wh hm
theorem Says2.trans {G:aF} {nx0:Nat} {s s1 s2:St} (h1:Says2 G nx0 s s1) (h2:Says2 G nx0 s1 s2):Says2 G nx0 s s2:=fun w0 I0 α0 H0 D a w hα hr=>h2 w0 I0 α0 H0 D a w hα (h1 w0 I0 α0 H0 D a w hα hr)
theorem Says2.refl {G:aF} {nx0:Nat} {s:St}:Says2 G nx0 s s:=fun _ _ _ _ _ _ _ _ h=>h
section
variable {P:Program} {G:aF} {nx0:Nat} {s s2:St} {Q Q':AExit→St→Prop}
theorem AWp.says {c:Code} (hs:Says2 G nx0 s s2) (h:AWp P G nx0 c s2 Q):AWp P G nx0 c s Q:=
 ⟨fun w0 I0 α0 H0 D a w hα hr=>h.out w0 I0 α0 H0 D a w hα (hs w0 I0 α0 H0 D a w hα hr)⟩
theorem AWp.saysEnd {c:Code} (h:AWp P G nx0 c s Q) (hq:∀e s',Q e s'→∃s2,Says2 G nx0 s' s2∧Q' e s2):AWp P G nx0 c s Q':=
 ⟨fun w0 I0 α0 H0 D a w hα hr=>wp_mono (h.out w0 I0 α0 H0 D a w hα hr) fun _ _ _ ⟨x,s',h1,h2,h3⟩=>by
  obtain ⟨s2,k1,k2⟩:=hq x s' h3
  exact ⟨x,s2,h1,k1 w0 I0 α0 H0 D _ _ hα h2,k2⟩⟩
theorem AWp.loopN {body:Code} (S:Nat→St):∀ (k j:Nat),(∀i,j≤i→i≤j+k→AWp P G nx0 body (S i) (fun e s'=>(e= .normal∧i<j+k∧Says2 G nx0 s' (S (i+1)))∨(e≠ .normal∧∃s2,Says2 G nx0 s' s2∧Q e s2)))→
  AWp P G nx0 (.loop body) (S j) Q:=fun k j h=>by
 refine .loop (k+1) ?_
 induction k generalizing j with
 | zero=>
  refine (h j (Nat.le_refl _) (Nat.le_refl _)).saysEnd fun e s' hq=> ?_
  rcases hq with ⟨_,h1,_⟩|⟨hne,s2,h1,h2⟩
  ·omega
  ·refine ⟨s2,h1, ?_⟩
   cases e with
   |normal=>exact absurd rfl hne
   |exit i=>exact h2
   |ret=>exact h2
 | succ k ih=>
  refine (h j (Nat.le_refl _) (by omega)).saysEnd fun e s' hq=> ?_
  rcases hq with ⟨rfl,h1,h2⟩|⟨hne,s2,h1,h2⟩
  ·exact ⟨_,h2,ih (j+1) fun i h3 h4=>(h i (by omega) (by omega)).mono fun e s'' hq=>by
    rcases hq with ⟨h5,h6,h7⟩|h5
    ·exact .inl ⟨h5,by omega,h7⟩
    ·exact .inr h5⟩
  ·refine ⟨s2,h1, ?_⟩
   cases e with
   |normal=>exact absurd rfl hne
   |exit i=>exact h2
   |ret=>exact h2
end
def lU (nx0:Nat) (lk:List (Nat × Nat)) (V:View) (lk':List (Nat × Nat)) (F:View) (go:Bool) (Q:AExit→St→Prop):AExit→St→Prop:=fun e s=>match e with
 | .normal=>ax go (dd nx0 lk V s)
 |e=>dd nx0 lk' F s∧Q e F.st
theorem AWp.loopV {P:Program} {O:aT} {n:Nat} {nx0:Nat} {Q:AExit→St→Prop} {body:Code} (B:cz P O n) (A:Nat→aV) (V F:Nat→View) (lk lk':Nat→List (Nat × Nat)) (k j:Nat) (hA:∀i,cC P O (A i)) (hls:∀i,LsOk P O.glob nx0 (A i) body)
  (h:∀i,j≤i→i≤j+k→aN P O n (A i) body (V i).st (lU nx0 (lk i) (V (i+1)) (lk' i) (F i) (Nat.blt i (j+k)) Q)):AWp P O.glob nx0 (.loop body) (V j).st Q:=by
 refine AWp.loopN (fun i=>(V i).st) k j fun i h1 h2=>(pS B (hA i) body _ _ (hls i) (h i h1 h2)).mono fun e s hq=> ?_
 cases e with
 |normal=>
  obtain ⟨hb,hs⟩:=oblB_iff.1 hq
  exact .inl ⟨rfl,blt_iff.1 hb,eE B.glob hs⟩
 |exit x=>exact .inr ⟨(fun h=>by cases h),(F i).st,eE B.glob hq.1,hq.2⟩
 |ret=>exact .inr ⟨(fun h=>by cases h),(F i).st,eE B.glob hq.1,hq.2⟩
theorem AWp.loopM {P:Program} {O:aT} {n:Nat} {nx0:Nat} {Q:AExit→St→Prop} {body:Code} (B:cz P O n) (A:Nat→aV) (V M F:Nat→View) (lk lk':Nat→List (Nat × Nat)) (k j:Nat) (hA:∀i,cC P O (A i)) (hls:∀i,LsOk P O.glob nx0 (A i) body)
  (hM:∀i,j≤i→i<j+k→Says2 O.glob nx0 (M i).st (V (i+1)).st)
  (h:∀i,j≤i→i≤j+k→aN P O n (A i) body (V i).st (lU nx0 (lk i) (M i) (lk' i) (F i) (Nat.blt i (j+k)) Q)):AWp P O.glob nx0 (.loop body) (V j).st Q:=by
 refine AWp.loopN (fun i=>(V i).st) k j fun i h1 h2=>(pS B (hA i) body _ _ (hls i) (h i h1 h2)).mono fun e s hq=> ?_
 cases e with
 |normal=>
  obtain ⟨hb,hs⟩:=oblB_iff.1 hq
  exact .inl ⟨rfl,blt_iff.1 hb,(eE B.glob hs).trans (hM i h1 (blt_iff.1 hb))⟩
 |exit x=>exact .inr ⟨(fun h=>by cases h),(F i).st,eE B.glob hq.1,hq.2⟩
 |ret=>exact .inr ⟨(fun h=>by cases h),(F i).st,eE B.glob hq.1,hq.2⟩
def lV (r0:Nat) (L:bL):Nat→Option bL:=fun r=>match Nat.beq r r0 with
 |true=>some L
 |false=>none
def FL (r0 i0:Nat) (h:dy):Nat→Nat→Option dy:=fun r i=>match Nat.beq r r0&&Nat.beq i i0 with
 |true=>some h
 |false=>none
def lW:aI:=fun _ _ _ _ _=>none
noncomputable def ip (hint:Nat→Nat→Option dy) (ls:Nat→Option bL):aV:=⟨hint,ls,lW,aA,tN,gn⟩
theorem pZ {P:Program} {O:aT} {hint:Nat→Nat→Option dy} {ls:Nat→Option bL} (h:∀f args v,O.summ f args=some v→SemCall P O.glob f args v):cC P O (ip hint ls):=⟨nR,h,fun _ _ h=>(by cases h),fun _ _ h=>(by cases h)⟩
noncomputable def uh (hint:Nat→Nat→Option dy) (ls:Nat→Option bL) (sem:dF):aV:=⟨hint,ls,lW,sem,tN,gn⟩
theorem lX {P:Program} {O:aT} {hint:Nat→Nat→Option dy} {ls:Nat→Option bL} {sem:dF} (h:∀f args v,O.summ f args=some v→SemCall P O.glob f args v):cC P O (uh hint ls sem):=⟨nR,h,fun _ _ h=>(by cases h),fun _ _ h=>(by cases h)⟩
theorem LsOk.none {P:Program} {G:aF} {nx0:Nat} {c:Code} {hint:Nat→Nat→Option dy}:LsOk P G nx0 (ip hint (fun _=>Option.none)) c:=fun r L hL=>by cases hL
theorem LsOk.one {P:Program} {G:aF} {nx0 r0:Nat} {L0:bL} {c b:Code} {hint:Nat→Nat→Option dy} (hat:bX c r0=[b]) (h:∀s Q,L0 s Q→AWp P G nx0 (.loop b) s Q):LsOk P G nx0 (ip hint (lV r0 L0)) c:=by
 intro r L hL x hx s Q hs
 simp only[ip,lV] at hL
 split at hL
 ·rename_i hr
  have hr:=beq_iff.1 hr
  simp only[Option.some.injEq] at hL
  rw[hr,hat,List.mem_singleton] at hx
  rw[hx]
  rw[←hL] at hs
  exact h s Q hs
 ·cases hL
def kx:List (Nat × bL)→Nat→Option bL
 |[],_=>none
 |(r,L)::t,k=>match Nat.beq k r with
  |true=>some L
  |false=>kx t k
def p5:List (Nat × Nat × dy)→Nat→Nat→Option dy
 |[],_,_=>none
 |(r,i,h)::t,k,j=>match Nat.beq k r&&Nat.beq j i with
  |true=>some h
  |false=>p5 t k j
theorem LsOk.no {P:Program} {G:aF} {nx0:Nat} {c:Code} {A:aV} (h:A.ls=fun _=>Option.none):LsOk P G nx0 A c:=fun r L hL=>by rw[h] at hL;cases hL
theorem zw:∀ {l:List (Nat × bL)} {r:Nat} {L:bL},kx l r=some L→(r,L)∈l
 |[],_,_,h=>by cases h
 | (r0,L0)::t,r,L,h=>by
  simp only[kx] at h
  split at h
  ·rename_i hr
   have hr:=beq_iff.1 hr
   simp only[Option.some.injEq] at h
   subst hr;subst h;exact List.mem_cons_self ..
  ·exact List.mem_cons_of_mem _ (zw h)
theorem LsOk.many {P:Program} {G:aF} {nx0:Nat} {l:List (Nat × bL)} {c:Code} {A:aV} (hA:A.ls=kx l) (h:∀p∈l,∀b∈bX c p.1,∀s Q,p.2 s Q→AWp P G nx0 (.loop b) s Q):LsOk P G nx0 A c:=by
 intro r L hL x hx s Q hs
 rw[hA] at hL
 exact h (r,L) (zw hL) x hx s Q hs
def dG (P:Program) (f:FuncId):Code:=match P.funcs[f]? with
 |some fn=>match fn.body with
  |some c=>c
  |none=> .skip
 |none=> .skip
def aJ (P:Program) (f r:Nat):Code:=match bX (dG P f) r with
 |b::_=>b
 |[]=> .skip
theorem FM {P:Program} {f:FuncId} {fn:Func} {c:Code} (h1:P.funcs[f]? =some fn) (h2:fn.body=some c):c=dG P f:=by
 unfold dG;rw[h1];simp only;rw[h2]
theorem ar {P:Program} {G:aF} {nx0:Nat} {A:aV} {f:FuncId} (h:LsOk P G nx0 A (dG P f)):fh P G nx0 A f:=fun fn c h1 h2=>by rw[FM h1 h2];exact h
end Go.Proofs.Abs
/- Calls that make blocks, known from a heap of their own. -/
namespace Go.Proofs.Abs
open Go
def shl (nx m:Nat):List (Nat × Nat):=(List.range m).map fun k=>(nx+k,k)
theorem zx {l:List (Nat × Nat)} (h:(l.map (·.1)).Nodup) {i j:Nat} (hm:(i,j)∈l):aG l i=some j:=by
 induction l with
 |nil=>cases hm
 | cons p t ih=>
  obtain ⟨a,b⟩:=p
  simp only[List.map_cons,List.nodup_cons] at h
  simp only[aG]
  rcases List.mem_cons.1 hm with e|hm
  ·cases e;simp
  ·split
   ·rename_i he
    have he:=beq_iff.1 he
    exact absurd (List.mem_map.2 ⟨_,hm,by simp[he]⟩) h.1
   ·exact ih h.2 hm
theorem iq {nx m i:Nat}:aG (shl nx m) i=if nx≤i∧i<nx+m then some (i-nx) else none:=by
 split
 ·rename_i h
  refine zx ?_ ?_
  ·unfold shl
   rw[List.map_map]
   rw[List.nodup_iff_pairwise_ne,List.pairwise_map]
   refine (List.nodup_range (n:=m)).imp fun {a b} h=> ?_
   simpa using h
  ·unfold shl
   exact List.mem_map.2 ⟨i-nx,by simp;omega,by simp;omega⟩
 ·rename_i h
  cases hl:aG (shl nx m) i with
  |none=>rfl
  |some j=>
   have:=gj hl
   unfold shl at this
   obtain ⟨k,hk,e⟩:=List.mem_map.1 this
   simp at hk e
   omega
section
variable {P:Program} {G:aF} {f:FuncId} {args:List AV} {v v2:AV} {H' H2:ab} {m nx:Nat}
theorem ui (hg:∀g l,G g=some l→ae l=true) (hcl:ae args=true) (h:BodySem P G f args [] 0 v H' m) (hV:RenV (shl nx m) v2 v)
    (hH:∀i b2,hget H2 i=some b2→∃j b,aG (shl nx m) i=some j∧hget H' j=some b∧gk (shl nx m) b2 b):BodySem P G f args [] nx v2 H2 (nx+m):=by
  intro w I α vs r ha hf
  obtain ⟨e1,e2⟩:=h w I (fun _=>none) vs (ji hg r) (gP ha hcl) (fun _ _=>rfl)
  refine ⟨e1,e2.mono ?_⟩
  rintro e w' ⟨u,rfl,⟨⟨I',α',ev,rel,rep,hnew⟩,_⟩⟩
  refine ⟨u,rfl,⟨I',fun i=>match aG (shl nx m) i with|some j=>α' j|none=>α i, ?_, ?_, ?_, ?_⟩,by omega⟩
  · have hown:∀b,bD (fun i=>match aG (shl nx m) i with|some j=>α' j|none=>α i) H2 b→bD α' H' b:=fun b ⟨i,h1,h2⟩=>by
      cases hi:hget H2 i with
      |none=>exact absurd hi h1
      | some blk=>
        obtain ⟨j,b1,k1,k2,_⟩:=hH i blk hi
        exact ⟨j,by rw[k2];simp,by simpa [k1] using h2⟩
    refine ⟨ev.os,ev.I_mono,fun id b hb=> ?_,ev.size,fun b hb _=>ev.frame b hb fK,ev.shape,fun b hb=> ?_,fun b hb=> ?_⟩
    · have:aG (shl nx m) id=none:=by
        rw[iq,if_neg]
        intro hc
        rw[hf id hc.1] at hb;cases hb
      simp only[this];exact hb
    · rcases ev.Inew b hb with h|h|h
      · exact .inl h
      · exact .inr (.inl h)
      · exact absurd h fK
    · rcases ev.own b (hown b hb) with h|h
      · exact .inl h
      · exact absurd h fK
  · exact
    { live:=fun i blk hi=>by
        obtain ⟨j,b1,k1,k2,k3⟩:=hH i blk hi
        obtain ⟨b,q1,q2,q3⟩:=rel.live j b1 k2
        exact ⟨b,by simpa [k1] using q1,q2,brel_ext (nC k3 q3)⟩
      inj :=fun i i' b h1 h2 h3 h4=>by
        cases hi:hget H2 i with
        |none=>exact absurd hi h1
        | some blk=>
          cases hi':hget H2 i' with
          |none=>exact absurd hi' h2
          | some blk'=>
            obtain ⟨j,b1,k1,k2,_⟩:=hH i blk hi
            obtain ⟨j',b1',k1',k2',_⟩:=hH i' blk' hi'
            have hj:j=j':=rel.inj j j' b (by rw[k2];simp) (by rw[k2'];simp) (by simpa [k1] using h3) (by simpa [k1'] using h4)
            rw[iq] at k1 k1'
            split at k1<;>split at k1'<;>simp_all<;>omega
      imm:=rel.imm
      dom:=fun i b hb=>by
        split at hb
        · exact rel.dom _ b hb
        · exact Nat.lt_of_lt_of_le (r.dom i b hb) ev.size
      glob:=fun g l hgl=>by
        obtain ⟨h1,h2⟩:=rel.glob g l hgl
        refine ⟨h1,fun j x hx=> ?_⟩
        obtain ⟨y,k1,k2⟩:=h2 j x hx
        exact ⟨y,k1,rep_closed k2 (kp (hg g l hgl) hx)⟩}
  · exact rep_ext (ko hV rep)
  · intro i hi
    simp only at hi
    split at hi
    · rename_i j hj
      right
      rw[iq] at hj
      split at hj
      · assumption
      · cases hj
    · exact .inl hi
 where
  sub {α α':Nat→Option Nat} {nx m:Nat}:∀id b,((aG (shl nx m) id).bind α')=some b→(match aG (shl nx m) id with|some j=>α' j|none=>α id)=some b:=fun id b hb=>by
    cases hl:aG (shl nx m) id with
    |none=>rw[hl] at hb;cases hb
    |some j=>simpa [hl] using hb
  rep_ext {w:World} {I:Nat→Prop} {α α':Nat→Option Nat} {nx m:Nat} {a:AV} {v:Value} (h:Rep w I (fun i=>(aG (shl nx m) i).bind α') a v):Rep w I (fun i=>match aG (shl nx m) i with|some j=>α' j|none=>α i) a v:=
    h.mono (fun _ h=>h) sub (fun _ _ _=>rfl) (fun _ _ _=>rfl)
  brel_ext {w:World} {I:Nat→Prop} {α α':Nat→Option Nat} {nx m b:Nat} {blk:Blk} (h:BRel w I (fun i=>(aG (shl nx m) i).bind α') b blk):BRel w I (fun i=>match aG (shl nx m) i with|some j=>α' j|none=>α i) b blk:=by
    cases blk with
    |cells l=>obtain ⟨c,e,h1,h2,h3⟩:=h;exact ⟨c,e,h1,h2,h3.1,fun i x y hx hy=>rep_ext (h3.2 i x y hx hy)⟩
    |siter s p=>exact h
    |mapb c s es=>obtain ⟨en,h1,h2,h4,h3⟩:=h;exact ⟨en,h1,h2,h4,fun i x y hx hy=>⟨rep_ext (h3 i x y hx hy).1,rep_ext (h3 i x y hx hy).2⟩⟩
    |miter q a b c=>obtain ⟨mb,h1,h2⟩:=h;exact ⟨mb,sub _ _ h1,h2⟩
def lY (tbl:FuncId→List AV→Nat→Option (AV × ab × Nat)):aI:=fun f args _ h nx=>match tbl f args nx with
 |some (v,H2,m)=>some (v,Mods.app (gL (eP H2 []) (ey nx H2 H2)) h,nx+m,⟨true,[],[nx]⟩)
 |none=>none
theorem FN {tbl:FuncId→List AV→Nat→Option (AV × ab × Nat)} (h:∀f args nx v H2 m,tbl f args nx=some (v,H2,m)→BodySem P G f args [] nx v H2 (nx+m)):bo P G (lY tbl)∧bp (lY tbl):=by
 refine ⟨?_, ?_⟩
 ·intro f args rid H nx v H' nx' ft hc w I α vs hr ha hrid hlt hf
  unfold lY at hc
  split at hc
  ·rename_i v0 H2 m ht
   simp only[Option.some.injEq,Prod.mk.injEq] at hc
   obtain ⟨rfl,rfl,rfl,rfl⟩:=hc
   have hcut:bG H []=[]:=rfl
   obtain ⟨e1,e2⟩:=h f args nx v0 H2 m ht w I α vs (hcut▸lC hr []) ha hf
   rw[e1]
   refine Calls.mono e2 ?_
   rintro e w' ⟨u,rfl,hp⟩
   exact ⟨u,rfl,tn (L:=[]) hr hf hp⟩
  ·cases hc
 ·intro f args id hp nx v h' nx' ft hc
  unfold lY at hc
  split at hc
  ·rename_i v0 H2 m ht
   simp only[Option.some.injEq,Prod.mk.injEq] at hc
   obtain ⟨rfl,rfl,rfl,rfl⟩:=hc
   refine ⟨fun hall=>(by cases hall),fun _ n l hw=> ?_⟩
   simp only[List.cons.injEq] at hw
   obtain ⟨rfl,rfl⟩:=hw
   refine ⟨rfl,by omega,_,rfl,fun p hp=> ?_,fun h2 _=> ?_⟩
   ·right
    rw[nz] at hp
    rcases List.mem_append.1 hp with hp|hp
    ·cases hp
    ·exact (lE hp).1
   ·unfold lY;rw[ht]
  ·cases hc
theorem FO {O:aT} {n:Nat} (hm:P.follows .mixedOrders=true) (hsum:∀f args v,O.summ f args=some v→SemCall P O.glob f args v) (hcx:bo P O.glob O.cx∧bp O.cx) (hg:∀g l,O.glob g=some l→ae l=true)
  (h:pD (ep P O (a8 P O n) f [] [] 0)=true):SemCall P O.glob f [] (.bool true):=by
 generalize hr:ep P O (a8 P O n) f [] [] 0=r at h
 unfold pD at h
 split at h
 ·rename_i b hp
  obtain ⟨H',nx'⟩:=hp
  subst h
  obtain ⟨h1,h2⟩:=lF (P:=P) (O:=O) hm hsum hg hcx n
  refine ⟨fun w I α H rid nx vs r ha hrid hlt hf=> ?_⟩
  obtain ⟨e1,e2⟩:=ki (w:=w) (vs:=vs) hm h1 h2 hr (ji hg r) (gP ha rfl) (fun _ _=>rfl)
  rw[e1]
  refine Calls.mono e2 ?_
  rintro e w' ⟨u,rfl,hp⟩
  exact ⟨u,rfl,kj (d:=1) r hp rfl rfl⟩
 ·cases h
end
end Go.Proofs.Abs
/- Calls that look at rows and answer plainly, known for closed arguments. -/
namespace Go.Proofs.Abs
open Go
def zy:AV→Bool
 | .int _ _| .bool _| .str _=>true
 |_=>false
def lZ (S:FuncId→List AV→Option AV):aI:=fun f args _ h nx=>
 match bJ (aH 0 (bG h (bv h 3 (bg args []))) 40) args with
 | some args'=>match ae args',S f args' with
  |true,some r=>match zy r with
   |true=>some (r,h,nx,⟨false,bv h 3 (bg args []),[]⟩)
   |false=>none
  |_,_=>none
 |none=>none
section
variable {P:Program} {G:aF}
theorem FP {w w':World} {I I':Nat→Prop} {α α':Nat→Option Nat} {r:AV} {u:Value} (h:zy r=true) (hr:Rep w I α r u):Rep w' I' α' r u:=by
 cases r with
 |int k n=>cases hr;exact .int _ _
 |bool b=>cases hr;exact .bool _
 |str s=>cases hr with|str _ b hb=>exact .str s b hb
 |_=>cases h
theorem FQ {S:FuncId→List AV→Option AV} (hg:∀g l,G g=some l→ae l=true) (hS:∀f args r,ae args=true→S f args=some r→SemCall P G f args r):bo P G (lZ S)∧bp (lZ S):=by
  refine ⟨?_, ?_⟩
  · intro f args rid H nx v H' nx' ft hc w I α vs hr ha hrid hlt hf
    unfold lZ at hc
    split at hc
    · rename_i args' hfz
      split at hc
      · rename_i r hcl hsm
        split at hc
        · rename_i hsc
          simp only[Option.some.injEq,Prod.mk.injEq] at hc
          obtain ⟨rfl,rfl,rfl,rfl⟩:=hc
          have hcut:=lC hr (bv H 3 (bg args []))
          have h1:RepL w (cT I α (bG H (bv H 3 (bg args []))) 0) α args' vs.toList:=(gi hcut 0 40).list hfz ha
          have h2:Rel G w (cT I α (bG H (bv H 3 (bg args []))) 0) (fun _=>none) []:=
            { live:=fun id blk h=>by simp[hget] at h
              inj:=fun id id' b h=>absurd rfl h
              imm:=fun b hb=>by
                rcases hb with hb|⟨id,_,_,h3⟩
                · exact hcut.imm b hb
                · exact hcut.dom id b h3
              dom:=fun id b h=>by cases h
              glob:=fun g l hgl=>by
                obtain ⟨h1,h2⟩:=hcut.glob g l hgl
                refine ⟨.inl h1,fun j x hx=> ?_⟩
                obtain ⟨y,e1,e2⟩:=h2 j x hx
                exact ⟨y,e1,(rep_closed e2 (kp (hg g l hgl) hx)).mono (fun _ h=> .inl h) (fun _ _ h=>h) (fun _ _ _=>rfl) (fun _ _ _=>rfl)⟩}
          have h3:=(hS f args' _ hcl hsm).out w _ (fun _=>none) [] rid nx vs h2 (gP h1 hcl) rfl hlt (fun _ _=>rfl)
          refine out_mono h3 fun u w' ⟨⟨I',α',ev,_,hv,_⟩,_⟩=> ?_
          have eo:Ev w I α H w' I α H:=
            { os:=ev.os
              I_mono:=fun _ h=>h
              α_mono:=fun _ _ h=>h
              size:=ev.size
              frame:=fun b hb _=>ev.frame b hb fK
              shape:=ev.shape
              Inew:=fun _ h=> .inl h
              own:=fun _ h=> .inr h}
          have hsame:∀b,b<w.heap.size→w'.heap[b]? =w.heap[b]? :=fun b hb=>ev.frame b hb fK
          refine ⟨⟨I,α,eo,⟨fun id blk h=> ?_,hr.inj,fun b hb=>Nat.lt_of_lt_of_le (hr.imm b hb) ev.size,fun id b hb=>Nat.lt_of_lt_of_le (hr.dom id b hb) ev.size,f8 hr eo⟩,FP hsc hv,fun id h=> .inl h⟩,Nat.le_refl _⟩
          obtain ⟨b,k1,k2,k3⟩:=hr.live id blk h
          exact ⟨b,k1,k2,k3.ev hr eo (hsame b (hr.dom id b k1))⟩
        · cases hc
      · cases hc
    · cases hc
  · intro f args id h nx v h' nx' ft hc
    unfold lZ at hc
    split at hc
    · rename_i args' hfz
      split at hc
      · rename_i r hcl hsm
        split at hc
        · rename_i hsc
          simp only[Option.some.injEq,Prod.mk.injEq] at hc
          obtain ⟨rfl,rfl,rfl,rfl⟩:=hc
          refine .one rfl ⟨rfl,[],rfl,by simp,fun h2 nx2 hk=> ?_⟩
          have hk':∀i∈bv h 3 (bg args []),hget h2 i=hget h i:=fun i hi=>hk i (by simp[hi])
          have e1:=nw 3 (bg args []) hk'
          have e2:=lD (bv h 3 (bg args [])) hk'
          unfold lZ
          rw[e1,e2]
          simp only[hfz,hcl,hsm,hsc]
          rfl
        · cases hc
      · cases hc
    · cases hc
 where
  out_mono {Q Q':Value→World→Prop} {m:Result Next} (h:dK P Q m) (hq:∀v w,Q v w→Q' v w):dK P Q' m:=by
    cases m with
    | ok n w=>
      cases n with
      |value v=>exact hq v w h
      |skip=>exact hq _ w h
      |enter f args=>exact Calls.mono h fun e w' ⟨v,h1,h2⟩=>⟨v,h1,hq v w' h2⟩
      |_=>exact h.elim
    |_=>exact h.elim
def gq (p:FuncId→Bool) (c1 c2:aI):aI:=fun f=>match p f with
 |true=>c1 f
 |false=>c2 f
theorem FR {p:FuncId→Bool} {c1 c2:aI} (h1:bo P G c1∧bp c1) (h2:bo P G c2∧bp c2):bo P G (gq p c1 c2)∧bp (gq p c1 c2):=by
 refine ⟨?_, ?_⟩
 ·intro f args rid H nx v H' nx' ft hc
  cases hp:p f with
  |true=>
   have e:gq p c1 c2 f=c1 f:=by unfold gq;rw[hp]
   rw[e] at hc
   exact h1.1 f args rid H nx v H' nx' ft hc
  |false=>
   have e:gq p c1 c2 f=c2 f:=by unfold gq;rw[hp]
   rw[e] at hc
   exact h2.1 f args rid H nx v H' nx' ft hc
 ·intro f args id h nx v h' nx' ft hc
  cases hp:p f with
  |true=>
   have e:gq p c1 c2 f=c1 f:=by unfold gq;rw[hp]
   rw[e] at hc⊢
   exact h1.2 f args id h nx v h' nx' ft hc
  |false=>
   have e:gq p c1 c2 f=c2 f:=by unfold gq;rw[hp]
   rw[e] at hc⊢
   exact h2.2 f args id h nx v h' nx' ft hc
end
end Go.Proofs.Abs
/- The abstract machine, written so that the kernel runs it with less ado; it is the same machine. -/
namespace Go.Proofs.Abs
open Go
noncomputable section
def asInt (x:AV):Option (IntKind × Int):=AV.rec (motive_1:=fun _=>Option (IntKind × Int)) (motive_2:=fun _=>Unit) (fun _=>none) (fun k n=>some (k,n)) (fun _=>none) (fun _ _=>none) (none) (fun _ _ _=>none) (fun _ _=>none) (fun _ _ _=>none) (fun _ _ _ _ _=>none) (none) (none) (fun _=>none) (none) (fun _ _ _ _ _=>none) (none) (fun _ _ _=>none) (none) (fun _ _=>none) (fun _ _=>none) () (fun _ _ _ _=>()) x
def asBool (x:AV):Option Bool:=AV.rec (motive_1:=fun _=>Option Bool) (motive_2:=fun _=>Unit) (fun b=>some b) (fun _ _=>none) (fun _=>none) (fun _ _=>none) (none) (fun _ _ _=>none) (fun _ _=>none) (fun _ _ _=>none) (fun _ _ _ _ _=>none) (none) (none) (fun _=>none) (none) (fun _ _ _ _ _=>none) (none) (fun _ _ _=>none) (none) (fun _ _=>none) (fun _ _=>none) () (fun _ _ _ _=>()) x
inductive VP where
 |ptr (i o:Nat)
 |fptr (cs:List AV) (o:Nat)
 |gptr (g o:Nat)
 |oth
def p6 (x:AV):VP:=AV.rec (motive_1:=fun _=>VP) (motive_2:=fun _=>Unit) (fun _=>VP.oth) (fun _ _=>VP.oth) (fun _=>VP.oth) (fun i o=>VP.ptr i o) (VP.oth) (fun cs o _=>VP.fptr cs o) (fun g o=>VP.gptr g o) (fun _ _ _=>VP.oth) (fun _ _ _ _ _=>VP.oth) (VP.oth) (VP.oth) (fun _=>VP.oth) (VP.oth) (fun _ _ _ _ _=>VP.oth) (VP.oth) (fun _ _ _=>VP.oth) (VP.oth) (fun _ _=>VP.oth) (fun _ _=>VP.oth) () (fun _ _ _ _=>()) x
def FS (x:AV):Option (List AV):=AV.rec (motive_1:=fun _=>Option (List AV)) (motive_2:=fun _=>Unit) (fun _=>none) (fun _ _=>none) (fun _=>none) (fun _ _=>none) (none) (fun _ _ _=>none) (fun _ _=>none) (fun _ _ _=>none) (fun _ _ _ _ _=>none) (none) (none) (fun _=>none) (none) (fun _ _ _ _ _=>none) (none) (fun _ _ _=>none) (none) (fun _ _=>none) (fun cs _=>some cs) () (fun _ _ _ _=>()) x
inductive VS where
 |fsl (f:Bool) (es:List AV)
 |rsl (w:Bool) (i o l z:Nat)
 |oth
def nY (x:AV):VS:=AV.rec (motive_1:=fun _=>VS) (motive_2:=fun _=>Unit) (fun _=>VS.oth) (fun _ _=>VS.oth) (fun _=>VS.oth) (fun _ _=>VS.oth) (VS.oth) (fun _ _ _=>VS.oth) (fun _ _=>VS.oth) (fun f es _=>VS.fsl f es) (fun w i o l z=>VS.rsl w i o l z) (VS.oth) (VS.oth) (fun _=>VS.oth) (VS.oth) (fun _ _ _ _ _=>VS.oth) (VS.oth) (fun _ _ _=>VS.oth) (VS.oth) (fun _ _=>VS.oth) (fun _ _=>VS.oth) () (fun _ _ _ _=>()) x
def p7 (x:AV):List AV:=AV.rec (motive_1:=fun _=>List AV) (motive_2:=fun _=>Unit) (fun b=>[.bool b]) (fun k n=>[.int k n]) (fun s=>[.str s]) (fun i o=>[.ptr i o]) ([.nilp]) (fun cs o _=>[.fptr cs o]) (fun g o=>[.gptr g o]) (fun f es _=>[.fsl f es]) (fun w i o l z=>[.rsl w i o l z]) ([.nilsl]) ([.nesl]) (fun i=>[.map i]) ([.nilmap]) (fun fn a c _ _=>[.func fn a c]) ([.nilFunc]) (fun t v _=>[.iface t v]) ([.nilIface]) (fun cs _=>cs) (fun cs _=>[.tuple cs]) () (fun _ _ _ _=>()) x
def uj (x:AV):Bool:=AV.rec (motive_1:=fun _=>Bool) (motive_2:=fun _=>Unit) (fun _=>true) (fun _ _=>true) (fun _=>true) (fun _ _=>true) (true) (fun _ _ _=>true) (fun _ _=>true) (fun _ _ _=>true) (fun _ _ _ _ _=>true) (true) (true) (fun _=>true) (true) (fun _ _ _ _ _=>true) (true) (fun _ _ _=>true) (true) (fun _ _=>false) (fun _ _=>false) () (fun _ _ _ _=>()) x
def uk (l:List AV):Bool:=List.rec true (fun a _ ih=>uj a&&ih) l
theorem ul {x:AV} {p:IntKind × Int} (h:asInt x=some p):x= .int p.1 p.2:=by cases x<;>simp[asInt] at h<;>(subst h;rfl)
theorem FT:p7=AV.cells:=by funext x;cases x<;>rfl
theorem FU:uj=AV.one:=by funext x;cases x<;>rfl
theorem FV:uk=bu:=by
 funext l
 induction l with
 |nil=>rfl
 |cons a t ih=>show (uj a&&uk t)=_;rw[ih,FU];rfl
def zz:BinOp→IntKind→Int→Int→Option (Option AV)
 | .add=>fun k a b=>some (some (.int k (az k (a+b))))
 | .sub=>fun k a b=>some (some (.int k (az k (a-b))))
 | .mul=>fun k a b=>some (some (.int k (az k (a*b))))
 | .eql=>fun _ a b=>some (some (.bool (ah a b)))
 | .neq=>fun _ a b=>some (some (.bool (!ah a b)))
 | .lss=>fun _ a b=>some (some (.bool (au a b)))
 | .leq=>fun _ a b=>some (some (.bool (!au b a)))
 | .gtr=>fun _ a b=>some (some (.bool (au b a)))
 | .geq=>fun _ a b=>some (some (.bool (!au a b)))
 |_=>fun _ _ _=>none
def FW (k k':IntKind):Bool:=decide (k=k')
section
variable (P:Program)
def um (op:BinOp) (t:TypeId) (xo yo:Operand) (x y:AV):Option AV:=
 match asInt x with
 | some p=>match asInt y with
  | some q=>match FW p.1 q.1 with
   |true=>match zz op p.1 p.2 q.2 with
    |some r=>r
    |none=>aU P op t xo yo x y
   |false=>aU P op t xo yo x y
  |none=>aU P op t xo yo x y
 |none=>aU P op t xo yo x y
theorem FX:um P=aU P:=by
 funext op t xo yo x y
 unfold um
 split
 ·rename_i p hx
  split
  ·rename_i q hy
   split
   ·rename_i hk
    have hk:p.1=q.1:=of_decide_eq_true hk
    split
    ·rename_i r hr
     rw[ul hx,ul hy]
     rw[←hk]
     unfold zz at hr
     split at hr<;>simp only[Option.some.injEq] at hr<;>first|(subst hr;simp[aU];done)|(cases hr;done)
    ·rfl
   ·rfl
  ·rfl
 ·rfl
def zA (t:TypeId) (glob:Nat→Option (List AV)) (a:AV):Option Eff:=
 match p6 a with
 | .ptr id off=>some<| .read id fun
  | .cells l=>(ch P t l off).map .val
  |_=>none
 | .fptr cs off=>(ch P t cs off).map .val
 | .gptr g off=>match glob g with
  |some l=>(ch P t l off).map .val
  |none=>none
 | .oth=>none
theorem FY (t:TypeId) (glob:Nat→Option (List AV)) (a:AV):zA P t glob a=eh P t a glob:=by cases a<;>rfl
def uo (t:TypeId) (a v:AV):Option Eff:=
 match p6 a with
 | .ptr id off=>match bC P t with
  |some n=>match Nat.beq (ac (p7 v)) n&&uk (p7 v) with
   | true=>some<| .upd id fun
     | .cells l=>(splice l off (p7 v)).map fun l'=>(.cells l',dW)
     |_=>none
   |false=>none
  |none=>none
 |_=>none
theorem FZ (t:TypeId) (a v:AV):uo P t a v=jS P t a v:=by
 unfold uo
 rw[FT,FV]
 cases a<;>first|rfl|skip
 rename_i id off
 show (match bC P t with
  |some n=>(match Nat.beq (ac v.cells) n&&bu v.cells with
   | true=>some<|Eff.upd id fun
     | .cells l=>(splice l off v.cells).map fun l'=>(Blk.cells l',dW)
     |_=>none
   |false=>none)
  |none=>none)=_
 unfold jS
 simp only
 cases bC P t with
 |none=>rfl
 |some n=>
  simp only
  cases Nat.beq (ac v.cells) n&&bu v.cells<;>rfl
def zB (a:AV):Option AV:=match p6 a with
 | .ptr i o=>some (.ptr i o)
 | .fptr c o=>some (.fptr c o)
 | .gptr g o=>some (.gptr g o)
 | .oth=>mO a
theorem F2 (a:AV):zB a=mO a:=by cases a<;>rfl
def uq (t:TypeId) (x:AV) (f:Nat):Option AV:=
 match jU P t f with
 | some fd=>match bC P fd.type with
  |some (_+1)=>match p6 x with
   | .ptr id off=>some (.ptr id (off+fd.offset))
   | .fptr cs off=>some (.fptr cs (off+fd.offset))
   | .gptr g off=>some (.gptr g (off+fd.offset))
   | .oth=>none
  |_=>none
 |none=>none
theorem F3 (t:TypeId) (x:AV) (f:Nat):uq P t x f=mT P t x f:=by
 unfold uq mT
 cases jU P t f with
 |none=>rfl
 | some fd=>
  simp only
  cases bC P fd.type with
  |none=>rfl
  |some n=>
   cases n with
   |zero=>rfl
   |succ n=>cases x<;>rfl
def zC (a:AV):Option Nat:=match asInt a with
 |some p=>Int.rec (fun n=>some n) (fun _=>none) p.2
 |none=>none
theorem F4 (a:AV):zC a=ej a:=by
 cases a<;>try rfl
 rename_i k n
 cases n<;>rfl
def ur (t:TypeId) (x i:AV):Option AV:=
 match da P t,nY x,zC i with
 | some e,.rsl _ id off len sz',some i=>match bC P e with
  |some sz=>match Nat.blt i len&&Nat.beq sz sz' with
   |true=>some (.ptr id (off+i*sz))
   |false=>none
  |none=>none
 |_,_,_=>aQ P t x i
theorem F5 (t:TypeId) (x i:AV):ur P t x i=aQ P t x i:=by
 unfold ur
 split
 ·rename_i e w id off len sz' k he hx hi
  rw[F4] at hi
  have hu:P.underlying t=some (.slice e):=by
   unfold da at he
   split at he
   ·simp only[Option.some.injEq] at he;subst he;assumption
   ·cases he
  have hx:x= .rsl w id off len sz':=by cases x<;>simp[nY] at hx<;>simp[hx]
  subst hx
  simp only[aQ,hi,hu,Option.bind_eq_bind,Option.bind_some]
  split
  ·rename_i sz hs
   simp only[hs,Option.bind_some]
   split
   ·rename_i h;simp only[h,if_true]
   ·rename_i h;simp only[h,Bool.false_eq_true,if_false]
  ·rename_i hs
   simp only[hs,Option.bind_none]
 ·rfl
def zD (v:Option AV) (i:Nat):Option Eff:=
 match v with
 |some a=>match FS a with
  |some vs=>bz (cg vs i)
  |none=>none
 |none=>none
def uu (s d:TypeId) (x:AV):Option Eff:=
 match asInt x with
 |some p=>match P.underlying s,P.underlying d with
  |some _,some (.int k)=>some (.val (.int k (az k p.2)))
  |_,_=>ei P s d x
 |none=>ei P s d x
theorem F6 (s d:TypeId) (x:AV):uu P s d x=ei P s d x:=by
 unfold uu
 split
 ·rename_i p hx
  split
  ·rename_i k h1 h2
   rw[ul hx]
   unfold ei
   simp only[h1,h2]
  ·rfl
 ·rfl
def uv (argTypes:Array TypeId) (x:AV):Option Eff:=
 match argTypes[0]?,nY x with
 |some t,.rsl _ _ _ n _=>match da P t with
  |some _=>some (.val (.int .i64 (.ofNat n)))
  |none=>g7 P argTypes x
 |some t,.fsl _ es=>match da P t with
  |some _=>some (.val (.int .i64 (.ofNat (ac es))))
  |none=>g7 P argTypes x
 |_,_=>g7 P argTypes x
theorem F7 (argTypes:Array TypeId) (x:AV):uv P argTypes x=g7 P argTypes x:=by
 have he:∀ {t e},da P t=some e→P.underlying t=some (.slice e):=fun {t e} he=>by
  unfold da at he
  split at he
  ·simp only[Option.some.injEq] at he;subst he;assumption
  ·cases he
 unfold uv
 split
 ·rename_i t w i o n z ht hx
  split
  ·rename_i e h
   have hx:x= .rsl w i o n z:=by cases x<;>simp[nY] at hx<;>simp[hx]
   subst hx
   simp only[g7,ht,he h]
  ·rfl
 ·rename_i t f es ht hx
  split
  ·rename_i e h
   have hx:x= .fsl f es:=by cases x<;>simp[nY] at hx<;>simp[hx]
   subst hx
   simp only[g7,ht,he h]
  ·rfl
 ·rfl
def uw (glob:Nat→Option (List AV)) (ev:Operand→Option AV) (c:Call):Option Eff:=
 match c.callee with
 | .builtin .len=>match eN ev c.args.toList with
  |some [x]=>uv P c.argTypes x
  |_=>f6 P glob ev c
 |_=>f6 P glob ev c
theorem F8 (glob:Nat→Option (List AV)) (ev:Operand→Option AV) (c:Call):uw P glob ev c=f6 P glob ev c:=by
 unfold uw
 split
 ·rename_i hc
  split
  ·rename_i x hx
   simp only[f6,hx,hc,i5,F7]
  ·rfl
 ·rfl
end
def zE (o:Op):Program→(Nat→Option (List AV))→(Operand→Option AV)→Option (Option Eff):=
 Op.rec (motive:=fun _=>Program→(Nat→Option (List AV))→(Operand→Option AV)→Option (Option Eff))
  (fun x _ _ ev=>some (bz (ev x))) (fun x _ _ ev=>some (bz (ev x))) (fun _ _ _ _ _ _=>none) (fun _ _ _ _=>none) (fun _ _ _ _ _=>none) (fun _ _ _ _ _=>none) (fun _ _ _ _ _ _=>none) (fun _ _ _ _ _ _ _=>none) (fun t a P glob ev=>some (e1 ev a fun a=>zA P t glob a)) (fun t a x P _ ev=>some (e2 ev a x (uo P t))) (fun _ _ _ _=>none) (fun _ _ _ _=>none) (fun x _ _ ev=>some (e1 ev x fun v=>bz (zB v))) (fun op t x y _ P _ ev=>some (e2 ev x y fun v w=>bz (um P op t x y v w))) (fun _ _ _ _ _ _=>none) (fun s d x P _ ev=>some (e1 ev x (uu P s d))) (fun _ _ _ _ _=>none) (fun _ _ _ _ _=>none) (fun _ _ _ _ _ _=>none) (fun _ _ _ _ _=>none) (fun _ _ _ _ _=>none) (fun _ _ _ _ _ _=>none) (fun _ _ _ _ _ _ _ _=>none) (fun t x f P _ ev=>some (e1 ev x fun v=>bz (uq P t v f))) (fun _ _ _ _ _ _=>none) (fun t x i P _ ev=>some (e2 ev x i fun v w=>bz (ur P t v w))) (fun _ _ _ _ _ _=>none) (fun _ _ _ _ _ _ _=>none) (fun _ _ _ _ _ _ _=>none) (fun _ _ _ _ _ _=>none) (fun _ _ _ _ _ _ _=>none) (fun _ _ _ _ _=>none) (fun _ _ _ _ _=>none) (fun _ _ _ _=>none) (fun _ _ _ _ _ _ _=>none) (fun t i _ _ ev=>some (zD (ev t) i)) (fun c P glob ev=>some (uw P glob ev c)) (fun _ _ _ _=>none) (fun _ _ _ _=>none) (fun _ _ _ _=>none) (fun _ _ _ _ _=>none) (fun _ _ _ _ _ _=>none) (fun _ _ _ _ _=>none) o
def ux (P:Program) (glob:Nat→Option (List AV)) (ev:Operand→Option AV) (o:Oper):Option Eff:=match zE o.op P glob ev with
 |some r=>r
 |none=>a7 P glob ev o
theorem F9 (P:Program) (glob:Nat→Option (List AV)) (ev:Operand→Option AV) (o:Oper):ux P glob ev o=a7 P glob ev o:=by
  unfold ux
  split
  · rename_i r hr
    cases ho:o.op<;>rw[ho] at hr<;>simp only[zE,Option.some.injEq,reduceCtorEq] at hr<;>(subst hr;simp only[a7,ho,FX,FY,F2,F3,F5,F8])<;>first
      |rfl
      | (unfold zD o3;rename_i t i;cases ev t with
         |none=>rfl
         |some a=>cases a<;>rfl)
      |(congr 1;funext a b;exact FZ P _ a b)
      |(congr 1;funext a;exact F6 P _ _ a)
  · rfl
def Ga (o:Op):Bool:=Op.rec (motive:=fun _=>Bool) (fun _=>false) (fun _=>false) (fun _ _ _=>false) (fun _=>false) (fun _ _=>false) (fun _ _=>false) (fun _ _ _=>true) (fun _ _ _ _=>false) (fun _ _=>false) (fun _ _ _=>false) (fun _=>false) (fun _=>false) (fun _=>false) (fun _ _ _ _ _=>false) (fun _ _ _=>false) (fun _ _ _=>false) (fun _ _=>false) (fun _ _=>false) (fun _ _ _=>false) (fun _ _=>false) (fun _ _=>false) (fun _ _ _=>false) (fun _ _ _ _ _=>false) (fun _ _ _=>false) (fun _ _ _=>false) (fun _ _ _=>false) (fun _ _ _=>false) (fun _ _ _ _=>false) (fun _ _ _ _=>false) (fun _ _ _=>false) (fun _ _ _ _=>false) (fun _ _=>false) (fun _ _=>false) (fun _=>false) (fun _ _ _ _=>false) (fun _ _=>false) (fun _=>false) (fun _=>false) (fun _=>false) (fun _=>false) (fun _ _=>false) (fun _ _ _=>false) (fun _ _=>false) o
def uz (P:Program) (glob:Nat→Option (List AV)) (ops:List Oper) (ev:Operand→Option AV) (o:Oper):Option Eff:=match Ga o.op with
 |true=>bE P glob ops ev o
 |false=>ux P glob ev o
theorem Gb (P:Program) (glob:Nat→Option (List AV)) (ops:List Oper) (ev:Operand→Option AV) (o:Oper):uz P glob ops ev o=bE P glob ops ev o:=by
 unfold uz
 split
 ·rfl
 ·rename_i h
  rw[F9,bZ]
  cases ho:o.op<;>first|rfl|(rw[ho] at h;cases h)
def uA (e:Eff):Option AV:=match e with
 | .val v=>some v
 |_=>none
theorem Gc {e:Eff} {v:AV} (h:uA e=some v):e= .val v:=by cases e<;>simp[uA] at h<;>(subst h;rfl)
def uB (call:aI) (id:Nat) (e:Eff) (h:ab) (nx:Nat):Option (AV × ab × Nat × Foot):=match uA e with
 |some v=>some (v,h,nx,⟨false,[],[]⟩)
 |none=>aM call id 2 e h nx
theorem Gd (call:aI) (id:Nat) (e:Eff) (h:ab) (nx:Nat):uB call id e h nx=aM call id 2 e h nx:=by
 unfold uB
 split
 ·rename_i v hv;rw[Gc hv];rfl
 ·rfl
section
variable (P:Program) (glob:Nat→Option (List AV)) (call:aI)
def uC (ops:List Oper) (id:Nat) (o:Oper) (s:St):Option (St × Foot):=
 match cw ops o s.slots with
 | some true=>match uz P glob ops (aS s.slots) o with
  |some e=>match uB call id e s.heap s.nx with
   |some (v,h,nx,ft)=>some (⟨bM s.n s.slots o.dst v,h,nx,s.n⟩,ft)
   |none=>none
  |none=>none
 |some false=>some (⟨bM s.n s.slots o.dst dW,s.heap,s.nx,s.n⟩,⟨false,[],[]⟩)
 |none=>none
theorem Gf (ops:List Oper) (id:Nat) (o:Oper) (s:St):uC P glob call ops id o s=cQ P glob call ops id o s:=by
 unfold uC cQ
 simp only[Gb,Gd]
 rfl
def p8 (all:List Oper) (base:Nat):List Oper→Nat→St→List (Nat × Foot)→Option (St × List (Nat × Foot))
 |[],_,s,acc=>some (s,acc)
 |o::rest,i,s,acc=>match uC P glob call all (base+i) o s with
  |some (s',ft)=>p8 all base rest (i+1) s' (match ft.none with|true=>acc|false=>(i,ft)::acc)
  |none=>none
theorem zF (all:List Oper) (base:Nat):∀ (l:List Oper) (i:Nat) (s:St) (acc:List (Nat × Foot)),p8 P glob call all base l i s acc=cH P glob call all base l i s acc
 |[],_,_,_=>rfl
 |o::rest,i,s,acc=>by
  simp only[p8,cH,Gf]
  split
  ·rename_i s' ft h;simp only[h];exact zF all base rest (i+1) s' _
  ·rename_i h;simp only[h]
def Gg (v:Option AV):Option Bool:=match v with
 |some a=>asBool a
 |none=>none
def fl (lf:Nat):Code→St→Option (AExit × St)
 | .skip,s| .label _,s=>some (.normal,s)
 | .region _ ops draw,s=>
  match p8 P glob call ops.toList s.nx ops.toList 0 ⟨s.slots,s.heap,s.nx+ac ops.toList,s.n⟩ [] with
  | some (s',feet)=>match draw with
   |false=>some (.normal,s')
   |true=>match g9 ops.toList&&gK (dq ops.toList []) feet with
    |true=>some (.normal,s')
    |false=>none
  |none=>none
 | .seq a b,s=>match fl lf a s with
  |some (.normal,s')=>fl lf b s'
  |r=>r
 | .cond c a b,s=>match Gg (aS s.slots c) with
  |some true=>fl lf a s
  |some false=>fl lf b s
  |_=>none
 | .block id body,s=>match fl lf body s with
  |some (.exit i,s')=>match Nat.beq i id with
   |true=>some (.normal,s')
   |false=>some (.exit i,s')
  |r=>r
 | .loop body,s=>lm (fl lf body) lf s
 | .exit id,s=>some (.exit id,s)
 | .ret,s=>some (.ret,s)
 |_,_=>none
theorem Gh (lf:Nat) (c:Code):fl P glob call lf c=bW P glob call lf c:=by
 induction c with
 |region id ops draw=>funext s;simp only[fl,bW,zF];rfl
 |seq a b iha ihb=>funext s;simp only[fl,bW,iha,ihb];rfl
 | cond c a b iha ihb=>
  funext s
  simp only[fl,bW,iha,ihb]
  cases aS s.slots c with
  |none=>rfl
  |some v=>
   cases v<;>first|rfl|skip
   rename_i b;cases b<;>rfl
 |block id body ih=>funext s;simp only[fl,bW,ih];rfl
 |loop body ih=>funext s;simp only[fl,bW,ih]
 |_=>rfl
end
def fm (P:Program) (O:aT) (call:aI) (f:FuncId) (args:List AV) (h:ab) (nx:Nat):Option (AV × ab × Nat):=
  match P.funcs[f]? with
  | some fn=>match fn.body with
    | some c=>match fn.name== "runtime.NumGoroutine" with
      |true=>none
      | false=>match Nat.ble (ac args) fn.ntmps&&Nat.ble fn.ntmps 4095 with
       |false=>none
       |true=>match fl P O.glob call O.lf c ⟨cX args 0 .tip,h,nx,fn.ntmps⟩ with
        | some (.normal,s)|some (.ret,s)=>match db P O.glob s fn.results.toList with
          |some l=>some (cW l,s.heap,s.nx)
          |none=>none
        |_=>none
    |none=>none
  |none=>none
theorem zG (P:Program) (O:aT) (call:aI) (f:FuncId) (args:List AV) (h:ab) (nx:Nat):fm P O call f args h nx=ep P O call f args h nx:=by
 unfold fm ep
 simp only[Gh]
 rfl
def zH (P:Program) (O:aT) (call:aI) (d:Nat) (f:FuncId) (args:List AV) (id:Nat) (h:ab) (nx:Nat):Option (AV × ab × Nat × Foot):=
 match fm P O call f args (bG h (bv h d (bg args []))) nx with
 |some (v,h1,_)=>match lookEnd (bv h d (bg args [])) id nx h v h1 with
  |some r=>some (eu (bv h d (bg args [])) id nx h r)
  |none=>none
 |none=>none
def zI (P:Program) (O:aT) (call:aI) (d:Nat) (f:FuncId) (args:List AV) (h:ab) (nx:Nat):Option (AV × ab × Nat × Foot):=
  match fm P O call f args (bG h (bv h d (bg args []))) nx with
  |some (v,h1,nx')=>match Nat.ble nx nx' with
   |false=>none
   |true=>some (v,Mods.app (gL (eP h1 (bv h d (bg args []))) (ey nx h1 h1)) h,nx',⟨true,bv h d (bg args []),nx::bv h d (bg args [])⟩)
  |none=>none
def eT (P:Program) (O:aT):Nat→aI
 |0,_,_,_,_,_=>none
 | n +1,f,args,id,h,nx=>
  match O.how f,ae args with
  | .look d,_=>zH P O (eT P O n) d f args id h nx
  | .each d,_=>j8 P O (eT P O n) d f args id h nx
  | .clone,_=>ja P f args id h nx
  | .part d,_=>zI P O (eT P O n) d f args h nx
  | .cmp,_=>jb P f args h nx
  | .known,_=>O.cx f args id h nx
  | .pure,true=>match O.summ f args with
   |some v=>some (v,h,nx,⟨false,[],[]⟩)
   | none=>match fm P O (eT P O n) f args [] 0 with
    | some (v,h',_)=>match aH 0 h' 40 v with
     |some v'=>match ad v' with
      |true=>some (v',h,nx,⟨false,[],[]⟩)
      |false=>none
     |none=>none
    |none=>none
  | .fresh,true=>match fm P O (eT P O n) f args [] 0 with
   |some (v,h',_)=>fH h' v id h nx
   |none=>none
  | .pure,false=>match fm P O (eT P O n) f args h nx with
   |some (v,h',nx')=>match aH nx h' 40 v with
    |some v'=>some (v',fa nx h',nx',⟨true,[],[]⟩)
    |none=>none
   |none=>none
  |_,_=>match fm P O (eT P O n) f args h nx with
   |some (v,h',nx')=>some (v,h',nx',⟨true,[],[]⟩)
   |none=>none
theorem zJ (P:Program) (O:aT):∀n,eT P O n=a8 P O n
 |0=>rfl
 |n+1=>by
  funext f args id h nx
  simp only[eT,a8,zJ P O n,zG,zH,zI,j7,j9]
  rfl
theorem uE (P:Program) (O:aT) (n:Nat) (f:FuncId) (args:List AV) (h:ab) (nx:Nat):fm P O (eT P O n) f args h nx=ep P O (a8 P O n) f args h nx:=by
 rw[zG,zJ]
end
theorem Gi {P:Program} {O:aT} {n:Nat} {f:FuncId} (hm:P.follows .mixedOrders=true) (hsum:∀f args v,O.summ f args=some v→SemCall P O.glob f args v) (hcx:bo P O.glob O.cx∧bp O.cx) (hg:∀g l,O.glob g=some l→ae l=true)
  (h:pD (fm P O (eT P O n) f [] [] 0)=true):SemCall P O.glob f [] (.bool true):=
 FO (n:=n) hm hsum hcx hg (by rw[←uE];exact h)
end Go.Proofs.Abs
/- Calls with closed arguments, run by themselves: what they answer, what blocks they make. -/
namespace Go.Proofs.Abs
open Go
def nZ (h1:ab):ab→Bool
 |[]=>true
 |(i,some b)::t=>(match hget h1 i with
  |some c=>o9 c b
  |none=>false)&&nZ h1 t
 |(_,none)::_=>false
noncomputable def uF (P:Program) (O:aT) (n:Nat) (f:FuncId) (args:List AV) (nx:Nat) (v:AV) (H2:ab) (m:Nat):Bool:=match fm P O (eT P O n) f args [] nx with
 |some (v',h1,nx')=>i7 v' v&&(nZ h1 H2&&Nat.beq nx' (nx+m))
 |none=>false
section
variable {P:Program} {O:aT} {n:Nat} {f:FuncId} {args:List AV}
theorem uG {h1:ab}:∀ {H2:ab},nZ h1 H2=true→∀i b,hget H2 i=some b→hget h1 i=some b
 |[],_,i,b,hi=>by simp[hget] at hi
 | (j,some c)::t,h,i,b,hi=>by
  simp only[nZ,Bool.and_eq_true] at h
  simp only[hget] at hi
  split at hi
  ·rename_i he
   have he:=beq_iff.1 he
   simp only[Option.some.injEq] at hi
   subst he;subst hi
   have h0:=h.1
   split at h0
   ·rename_i d hd
    rw[hd,yg h0]
   ·cases h0
  ·exact uG h.2 i b hi
 |(j,none)::t,h,_,_,_=>by simp[nZ] at h
theorem Gj {nx m:Nat} {v:AV} {H2:ab} (hm:P.follows .mixedOrders=true) (hsum:∀f args v,O.summ f args=some v→SemCall P O.glob f args v) (hcx:bo P O.glob O.cx∧bp O.cx) (hg:∀g l,O.glob g=some l→ae l=true)
  (h:uF P O n f args nx v H2 m=true):BodySem P O.glob f args [] nx v H2 (nx+m):=by
 unfold uF at h
 rw[uE] at h
 split at h
 ·rename_i v' H1 nx' hr
  simp only[Bool.and_eq_true] at h
  obtain ⟨k1,k2,k3⟩:=h
  have e:=lB _ _ k1
  have e':=beq_iff.1 k3
  subst e;subst e'
  obtain ⟨h1,h2⟩:=lF (P:=P) (O:=O) hm hsum hg hcx n
  intro w I α vs r ha hf
  obtain ⟨e1,e2⟩:=ki (w:=w) (vs:=vs) hm h1 h2 hr r ha hf
  refine ⟨e1,e2.mono ?_⟩
  rintro e w' ⟨u,rfl,⟨⟨I',α',ev,rel,rep,hnew⟩,hle⟩⟩
  have hsub:∀i,hget H2 i≠none→hget H1 i≠none:=fun i hi=>by
   cases hb:hget H2 i with
   |none=>exact absurd hb hi
   |some b=>rw[uG k2 i b hb];simp
  refine ⟨u,rfl,⟨I',α',⟨ev.os,ev.I_mono,ev.α_mono,ev.size,ev.frame,ev.shape,ev.Inew,fun b ⟨i,q1,q2⟩=>ev.own b ⟨i,hsub i q1,q2⟩⟩, ?_,rep,hnew⟩,hle⟩
  exact
   {live:=fun i blk hi=>rel.live i blk (uG k2 i blk hi)
    inj:=fun i i' b q1 q2=>rel.inj i i' b (hsub i q1) (hsub i' q2)
    imm:=rel.imm
    dom:=rel.dom
    glob:=rel.glob}
 ·cases h
end
end Go.Proofs.Abs
/- A law whose answer is known: the call. -/
namespace Go.Proofs.Abs
open Go
theorem SemCall.calls {P:Program} {G:aF} {f:FuncId} {fn:Func} {c:Code} {args:List AV} {vs:Array Value} {w:World} (hfn:P.funcs[f]? =some fn) (hc:fn.body=some c) (hname:(fn.name== "runtime.NumGoroutine")=false)
  (h:SemCall P G f args (.bool true)) (hr:Rel G w (fun b=>b<w.heap.size) (fun _=>none) []) (ha:RepL w (fun b=>b<w.heap.size) (fun _=>none) args vs.toList):
  Calls P f vs w fun e w'=>e= .returned (.bool true)∧RowKit.Below w.heap.size w w':=by
 have e1:(callFunc f vs).run P w= .ok (.enter f vs) w:=by
  unfold callFunc
  simp only[Sem.run_bind,run_program,Result.andThen_ok,hfn,hname,hc,Bool.false_eq_true,if_false,Option.isNone_some,Sem.run_pure]
 have:=h.out w _ _ [] 0 1 vs hr ha rfl (by omega) (fun _ _=>rfl)
 rw[e1] at this
 refine Calls.mono this ?_
 rintro e w' ⟨v,rfl,⟨⟨I',α',ev,_,hv,_⟩,_⟩⟩
 cases hv
 exact ⟨rfl,ev.os.1,ev.os.2.1,ev.os.2.2.1,ev.size,fun k hk=>ev.frame k hk fK⟩
theorem zK:∀ {ess:List (List AV)},(∀c∈ess,(∃b:UInt8,c=[.int .u8 (.ofNat b.toNat)])∧c.length=1)→∃l:List UInt8,ess.map g6=aj l∧l.length=ess.length
 |[],_=>⟨[],rfl,rfl⟩
 |c::t,h=>by
  obtain ⟨⟨b,rfl⟩,_⟩:=h c (by simp)
  obtain ⟨l,e,hl⟩:=zK (ess:=t) fun c hc=>h c (by simp[hc])
  refine ⟨b::l, ?_,by simp[hl]⟩
  rw[List.map_cons,e]
  rfl
end Go.Proofs.Abs
/- A run in continuation form leads to one end: so calls may be followed where they stand. -/
namespace Go.Proofs.Abs
open Go
def ky (F:(AV→ab→Nat→Foot→Prop)→Prop):Prop:=∀K,F K→∃v h nx ft,K v h nx ft∧∀K',K' v h nx ft→F K'
def p9 (F:(AV→ab→Nat→Prop)→Prop):Prop:=∀K,F K→∃v h nx,K v h nx∧∀K',K' v h nx→F K'
def uH (F:(Kn→St→Foot→Prop)→Prop):Prop:=∀K,F K→∃kn s ft,K kn s ft∧∀K',K' kn s ft→F K'
def Gk (F:(St→List (Nat × Foot)→Prop)→Prop):Prop:=∀K,F K→∃s ft,K s ft∧∀K',K' s ft→F K'
def n3 (F:(AExit→St→Prop)→Prop):Prop:=∀Q,F Q→∃e s,Q e s∧∀Q',Q' e s→F Q'
section
variable {P:Program} {O:aT} {n:Nat} {A:aV}
theorem qa {id d:Nat} {e:Eff} {h:ab} {nx:Nat}:ky (eR P O n id d e h nx):=by
 intro K hk
 unfold eR at hk⊢
 split at hk
 ·rename_i v h' nx' ft hr
  refine ⟨v,h',nx',ft,hk,fun K' h=> ?_⟩
  exact h
 ·exact hk.elim
def gS (A:aV):Prop:=∀f T,A.inl f=some T→∀args h nx,p9 (T.run args h nx)
theorem Gl {f:FuncId} {args:List AV} {h:ab} {nx:Nat} (r:nJ):ky (fun K=>lP P O f args h nx K r):=by
 intro K hk
 cases r with
 |val v=>exact ⟨v,h,nx,_,hk.2,fun K' h=>⟨hk.1,h⟩⟩
 |part L v H2 m=>exact ⟨v,_,_,_,hk.2,fun K' h=>⟨hk.1,h⟩⟩
theorem Gm {args:List AV} {h:ab} {nx:Nat} {T:nK} (hT:∀args h nx,p9 (T.run args h nx)):ky (fun K=>nL args h nx K T):=by
 intro K hk
 obtain ⟨v,H2,nx2,h1,h2⟩:=hT _ _ _ _ hk
 obtain ⟨hle,h1⟩:=oblB_iff.1 h1
 exact ⟨v,_,_,_,h1,fun K' h=>h2 _ (oblB_iff.2 ⟨hle,h⟩)⟩
theorem zM (hi:gS A) {id d:Nat} {f:FuncId} {args:List AV} {h:ab} {nx:Nat}:ky (fun K=>match A.cx f args id h nx with
      |some (v,h',nx',ft)=>K v h' nx' ft
      | none=>match A.sem f args h nx with
       |some r=>lP P O f args h nx K r
       | none=>match A.inl f with
        |some T=>nL args h nx K T
        |none=>match O.how f with
         | .pure=>match O.summ f args with
           |some v=>ax (ae args) (K v h nx ⟨false,[],[]⟩)
           |none=>eR P O n id d (.call f args) h nx K
         |_=>eR P O n id d (.call f args) h nx K):=by
  intro K hk
  simp only at hk⊢
  split at hk
  · rename_i v h' nx' ft hc
    exact ⟨v,h',nx',ft,hk,fun K' h=>by first|(rw[hc];exact h)|exact h⟩
  · rename_i hc
    split at hk
    · rename_i r hr
      obtain ⟨v,h',nx',ft,h1,h2⟩:=Gl r K hk
      exact ⟨v,h',nx',ft,h1,fun K' h=>by first|exact h2 K' h|(rw[hc,hr];exact h2 K' h)⟩
    · rename_i hr
      split at hk
      · rename_i T hT
        obtain ⟨v,h',nx',ft,h1,h2⟩:=Gm (hi f T hT) K hk
        exact ⟨v,h',nx',ft,h1,fun K' h=>by first|exact h2 K' h|(rw[hc,hr,hT];exact h2 K' h)⟩
      · rename_i hT
        split at hk
        · rename_i ho
          split at hk
          · rename_i v hs
            obtain ⟨hb,hk⟩:=oblB_iff.1 hk
            exact ⟨v,h,nx,_,hk,fun K' h=>by first|exact oblB_iff.2 ⟨hb,h⟩|(rw[hc,hr,hT,ho,hs];exact oblB_iff.2 ⟨hb,h⟩)⟩
          · rename_i hs
            obtain ⟨v,h',nx',ft,h1,h2⟩:=qa K hk
            exact ⟨v,h',nx',ft,h1,fun K' h=>by first|exact h2 K' h|(rw[hc,hr,hT,ho,hs];exact h2 K' h)⟩
        · obtain ⟨v,h',nx',ft,h1,h2⟩:=qa K hk
          exact ⟨v,h',nx',ft,h1,fun K' h=>h2 K' h⟩
theorem uI (hi:gS A) {id:Nat}:∀ (d:Nat) (e:Eff) {h:ab} {nx:Nat},ky (eC P O n A id d e h nx):=by
 intro d
 induction d with
 | zero=>
  intro e h nx K hk
  unfold eC at hk
  split at hk
  ·obtain ⟨v,h',nx',ft,h1,h2⟩:=zM hi K hk
   exact ⟨v,h',nx',ft,h1,fun K' h=>by unfold eC;exact h2 K' h⟩
  ·rename_i hne
   obtain ⟨v,h',nx',ft,h1,h2⟩:=qa K hk
   refine ⟨v,h',nx',ft,h1,fun K' h=> ?_⟩
   unfold eC
   split
   ·exact absurd rfl (hne _ _)
   ·exact h2 K' h
 | succ d ih=>
  intro e h nx K hk
  unfold eC at hk
  split at hk
  ·obtain ⟨v,h',nx',ft,h1,h2⟩:=zM hi K hk
   exact ⟨v,h',nx',ft,h1,fun K' h=>by unfold eC;exact h2 K' h⟩
  ·rename_i i k
   split at hk
   ·rename_i b hb
    split at hk
    ·rename_i e' he
     obtain ⟨v,h',nx',ft,h1,h2⟩:=ih e' _ hk
     exact ⟨v,h',nx',_,h1,fun K' h=>by unfold eC;simp only[hb,he];exact h2 _ h⟩
    ·exact hk.elim
   ·exact hk.elim
  ·rename_i hne hnr
   obtain ⟨v,h',nx',ft,h1,h2⟩:=qa K hk
   refine ⟨v,h',nx',ft,h1,fun K' h=> ?_⟩
   unfold eC
   split
   ·exact absurd rfl (hne _ _)
   ·exact absurd rfl (hnr _ _)
   ·exact h2 K' h
theorem Gn (hi:gS A) {id:Nat} {h:ab} {nx:Nat} (oe:Option ES):ky (fun K=>nM P O n A id h nx K oe):=by
 intro K hk
 cases oe with
 |none=>exact hk.elim
 | some es=>cases es with
  |eff e=>exact uI hi 2 e K hk
  |obl b e=>
   obtain ⟨hb,hk⟩:=oblB_iff.1 hk
   obtain ⟨v,h',nx',ft,h1,h2⟩:=uI hi 2 e K hk
   exact ⟨v,h',nx',ft,h1,fun K' h=>oblB_iff.2 ⟨hb,h2 K' h⟩⟩
  | app b i k v=>
   obtain ⟨hb,hk⟩:=oblB_iff.1 hk
   split at hk
   ·rename_i l hl
    obtain ⟨hq,hk⟩:=oblB_iff.1 hk
    refine ⟨_,_,_,_,hk,fun K' h=>oblB_iff.2 ⟨hb, ?_⟩⟩
    simp only[hl]
    exact oblB_iff.2 ⟨hq,h⟩
   ·exact hk.elim
  | put b i k v=>
   obtain ⟨hb,hk⟩:=oblB_iff.1 hk
   split at hk
   ·rename_i l hl
    obtain ⟨hq,hk⟩:=oblB_iff.1 hk
    refine ⟨_,_,_,_,hk,fun K' h=>oblB_iff.2 ⟨hb, ?_⟩⟩
    simp only[hl]
    exact oblB_iff.2 ⟨hq,h⟩
   ·exact hk.elim
  | pick b x y=>
   cases b with
   |true=>cases x with
    |none=>exact hk.elim
    |some v=>exact ⟨v,h,nx,_,hk,fun K' h=>h⟩
   |false=>cases y with
    |none=>exact hk.elim
    |some v=>exact ⟨v,h,nx,_,hk,fun K' h=>h⟩
theorem Gp (hi:gS A) {ops:List Oper} {id:Nat} {o:Oper} {s:St} (a:dy):ky (fun K=>eD P O n A ops id o s K a):=by
 intro K hk
 cases a with
 | plain=>
  simp only[eD] at hk⊢
  split at hk
  ·rename_i e he
   exact uI hi 2 e K hk
  ·exact hk.elim
 |ans a=>
  simp only[eD] at hk⊢
  split at hk
  ·exact ⟨_,_,_,_,hk.2,fun K' h=>⟨hk.1,h⟩⟩
  ·exact hk.elim
 | el v=>
  simp only[eD] at hk⊢
  split at hk
  ·split at hk
   ·split at hk
    ·split at hk
     ·obtain ⟨hg,hk⟩:=hk
      obtain ⟨hb,hk⟩:=oblB_iff.1 hk
      exact ⟨_,_,_,_,hk,fun K' h=>⟨hg,oblB_iff.2 ⟨hb,h⟩⟩⟩
     ·exact hk.elim
    ·exact hk.elim
   ·exact hk.elim
  ·exact hk.elim
 | ld v=>
  simp only[eD] at hk⊢
  split at hk
  ·split at hk
   ·split at hk
    ·exact ⟨_,_,_,_,hk.2,fun K' h=>⟨hk.1,h⟩⟩
    ·exact hk.elim
   ·exact ⟨_,_,_,_,hk.2,fun K' h=>⟨hk.1,h⟩⟩
   ·exact ⟨_,_,_,_,hk.2,fun K' h=>⟨hk.1,h⟩⟩
   ·exact hk.elim
  ·exact hk.elim
 |res r=>
  simp only[eD] at hk⊢
  split at hk
  ·exact ⟨_,_,_,_,hk.2,fun K' h=>⟨hk.1,h⟩⟩
  ·exact hk.elim
 | lk r=>
  simp only[eD] at hk⊢
  split at hk
  ·split at hk
   ·split at hk
    ·split at hk
     ·exact ⟨_,_,_,_,hk.2,fun K' h=>⟨hk.1,h⟩⟩
     ·exact hk.elim
    ·exact hk.elim
   ·exact hk.elim
  ·exact hk.elim
 | up es' same=>
  simp only[eD] at hk⊢
  split at hk
  ·split at hk
   ·split at hk
    ·split at hk
     ·exact ⟨_,_,_,_,hk.2,fun K' h=>⟨hk.1,h⟩⟩
     ·exact hk.elim
    ·exact hk.elim
   ·exact hk.elim
  ·exact hk.elim
 | dl j=>
  simp only[eD] at hk⊢
  split at hk
  ·split at hk
   ·split at hk
    ·split at hk
     ·exact ⟨_,_,_,_,hk.2,fun K' h=>⟨hk.1,h⟩⟩
     ·exact hk.elim
    ·exact hk.elim
   ·exact hk.elim
  ·exact hk.elim
 | en j=>
  simp only[eD] at hk⊢
  split at hk
  ·split at hk
   ·split at hk
    ·split at hk
     ·exact ⟨_,_,_,_,hk.2,fun K' h=>⟨hk.1,h⟩⟩
     ·exact hk.elim
    ·exact hk.elim
   ·exact hk.elim
  ·exact hk.elim
theorem n5 (hi:gS A) {rid:Nat} {ops:List Oper} {id i:Nat} {o:Oper} {s:St} {kn:Kn}:uH (gp P O n A rid ops id i o s kn):=by
 intro K hk
 unfold gp at hk
 split at hk
 ·rename_i a ha
  obtain ⟨v,h',nx',ft,h1,h2⟩:=Gp hi a _ hk
  exact ⟨_,_,_,h1,fun K' h=>by unfold gp;simp only[ha];exact h2 _ h⟩
 ·rename_i ha
  obtain ⟨v,h',nx',ft,h1,h2⟩:=Gn hi _ _ hk
  exact ⟨_,_,_,h1,fun K' h=>by unfold gp;simp only[ha];exact h2 _ h⟩
theorem n6 {o:Oper} {s:St} {kn:Kn}:uH (kr o s kn):=fun _K hk=>⟨_,_,_,hk,fun _ h=>h⟩
theorem Gq (hi:gS A) {rid:Nat} {ops:List Oper} {id i:Nat} {o:Oper} {s:St} {kn:Kn}:uH (nO P O n A rid ops id i o s kn):=by
 intro K hk
 unfold nO at hk⊢
 split at hk
 ·exact n5 hi K hk
 ·split at hk
  ·split at hk
   ·split at hk
    ·split at hk
     ·split at hk
      ·exact n5 hi K hk
      ·exact n6 K hk
     ·split at hk
      ·exact n6 K hk
      ·exact n5 hi K hk
    ·split at hk
     ·split at hk
      ·split at hk
       ·exact n5 hi K hk
       ·exact n6 K hk
      ·split at hk
       ·exact n6 K hk
       ·exact n5 hi K hk
     ·exact n6 K hk
     ·exact hk.elim
   ·exact hk.elim
  ·exact hk.elim
theorem zN (hi:gS A) {rid:Nat} {all:List Oper} {base:Nat}:∀ (rest:List Oper) (i:Nat) (s:St) (kn:Kn) (acc:List (Nat × Foot)),Gk (nP P O n A rid all base rest i s kn acc)
 |[],_,_,_,_=>fun _ hk=>⟨_,_,hk,fun _ h=>h⟩
 |o::rest,i,s,kn,acc=>fun K hk=>by
  obtain ⟨kn',s',ft,h1,h2⟩:=Gq hi _ hk
  obtain ⟨s2,ft2,h3,h4⟩:=zN hi rest (i+1) s' kn' _ _ h1
  exact ⟨s2,ft2,h3,fun K' h=>h2 _ (h4 K' h)⟩
theorem zP {B:St→(AExit→St→Prop)→Prop} (hB:∀s,n3 (B s)):∀ (k:Nat) (s:St),n3 (pN B k s)
 |0,_=>fun _ hk=>hk.elim
 | k+1,s=>fun Q hk=>by
  obtain ⟨e,s',h1,h2⟩:=hB s _ hk
  cases e with
  |normal=>
   obtain ⟨e,s2,h3,h4⟩:=zP hB k s' Q h1
   exact ⟨e,s2,h3,fun Q' h=>h2 _ (h4 Q' h)⟩
  |exit i=>exact ⟨_,_,h1,fun Q' h=>h2 _ h⟩
  |ret=>exact ⟨_,_,h1,fun Q' h=>h2 _ h⟩
theorem Gr (hi:gS A) (hcut:A.cut=gn) (hls:∀r L,A.ls r=some L→∀s,n3 (L s)):∀ (c:Code) (s:St),n3 (aN P O n A c s):=by
 intro c
 induction c with
 |skip=>exact fun s Q hk=>⟨_,_,hk,fun _ h=>h⟩
 |label l=>exact fun s Q hk=>⟨_,_,hk,fun _ h=>h⟩
 |exit i=>exact fun s Q hk=>⟨_,_,hk,fun _ h=>h⟩
 |ret=>exact fun s Q hk=>⟨_,_,hk,fun _ h=>h⟩
 | region rid ops draw=>
  intro s Q hk
  simp only[aN,hcut,gn,nQ] at hk⊢
  obtain ⟨s',ft,h1,h2⟩:=zN hi _ _ _ _ _ _ hk
  cases draw with
  |false=>exact ⟨_,_,h1,fun Q' h=>h2 _ h⟩
  |true=>
   obtain ⟨hb,h1⟩:=oblB_iff.1 h1
   exact ⟨_,_,h1,fun Q' h=>h2 _ (oblB_iff.2 ⟨hb,h⟩)⟩
 | seq a b iha ihb=>
  intro s Q hk
  simp only[aN] at hk⊢
  obtain ⟨e,s',h1,h2⟩:=iha s _ hk
  cases e with
  |normal=>
   obtain ⟨e,s2,h3,h4⟩:=ihb s' Q h1
   exact ⟨e,s2,h3,fun Q' h=>h2 _ (h4 Q' h)⟩
  |exit i=>exact ⟨_,_,h1,fun Q' h=>h2 _ h⟩
  |ret=>exact ⟨_,_,h1,fun Q' h=>h2 _ h⟩
 | cond c a b iha ihb=>
  intro s Q hk
  simp only[aN] at hk⊢
  split at hk
  ·split at hk
   ·exact iha _ Q hk
   ·exact ihb _ Q hk
  ·exact hk.elim
 | block id body ih=>
  intro s Q hk
  simp only[aN] at hk⊢
  obtain ⟨e,s',h1,h2⟩:=ih s _ hk
  cases e with
  |normal=>exact ⟨_,_,h1,fun Q' h=>h2 _ h⟩
  |ret=>exact ⟨_,_,h1,fun Q' h=>h2 _ h⟩
  | exit i=>
   simp only[lN] at h1
   split at h1
   ·rename_i hb
    exact ⟨_,_,h1,fun Q' h=>h2 _ (by simp only[lN,hb];exact h)⟩
   ·rename_i hb
    exact ⟨_,_,h1,fun Q' h=>h2 _ (by simp only[lN,hb];exact h)⟩
 | loop body ih=>
  intro s Q hk
  simp only[aN] at hk⊢
  split at hk
  ·rename_i L hL
   exact hls _ L hL s Q hk
  ·exact zP ih _ s Q hk
 |_=>exact fun s Q hk=>hk.elim
theorem zQ (hi:gS A) (hcut:A.cut=gn) (hls:∀r L,A.ls r=some L→∀s,n3 (L s)) {f:FuncId} {args:List AV} {H:ab} {nx:Nat}:p9 (aq P O n A f args H nx):=by
 intro K hk
 unfold aq at hk
 split at hk
 ·rename_i fn hfn
  split at hk
  ·rename_i c hc
   split at hk
   ·exact hk.elim
   ·rename_i hname
    split at hk
    ·exact hk.elim
    ·rename_i hsz
     obtain ⟨e,s,h1,h2⟩:=Gr hi hcut hls c _ _ hk
     have fin:∀ {e:AExit},(∀i,e≠ .exit i)→(match e with
       | .exit _=>False
       |_=>match db P O.glob s fn.results.toList with
        |some l=>K (cW l) s.heap s.nx
        |none=>False)→∃l,db P O.glob s fn.results.toList=some l∧K (cW l) s.heap s.nx:=fun {e} hne h=>by
      split at h
      ·exact h.elim
      ·split at h
       ·rename_i l hl
        exact ⟨l,hl,h⟩
       ·exact h.elim
     have back:∀ {l:List AV},db P O.glob s fn.results.toList=some l→(∀i,e≠ .exit i)→∀K':AV→ab→Nat→Prop,K' (cW l) s.heap s.nx→aq P O n A f args H nx K':=fun {l} hl hne K' h=>by
      unfold aq
      simp only[hfn,hc,hname,hsz]
      refine h2 _ ?_
      split
      ·exact absurd rfl (hne _)
      ·simp only[hl];exact h
     cases e with
     |exit i=>exact h1.elim
     |normal=>
      obtain ⟨l,hl,hK⟩:=fin (e:= .normal) (fun _ h=>by cases h) h1
      exact ⟨_,_,_,hK,fun K' h=>back hl (fun _ h=>by cases h) K' h⟩
     |ret=>
      obtain ⟨l,hl,hK⟩:=fin (e:= .ret) (fun _ h=>by cases h) h1
      exact ⟨_,_,_,hK,fun K' h=>back hl (fun _ h=>by cases h) K' h⟩
  ·exact hk.elim
 ·exact hk.elim
theorem Gs (B:cz P O n) (hA:cC P O A) (hi:gS A) (hcut:A.cut=gn) (hls:A.ls=fun _=>none) {f:FuncId} {args:List AV} {h:ab} {nx:Nat} {K:AV→ab→Nat→Prop} (hk:aq P O n A f args h nx K):
  ∃v h' nx',K v h' nx'∧BodySem P O.glob f args h nx v h' nx':=by
 obtain ⟨v,h',nx',h1,h2⟩:=zQ hi hcut (fun r L hL=>by rw[hls] at hL;cases hL) K hk
 exact ⟨v,h',nx',h1,pT B hA (zc fun r=>by rw[hls]) (h2 _ ⟨rfl,rfl,rfl⟩)⟩
end
noncomputable def jq (P:Program) (O:aT) (n:Nat) (sem:dF) (isI:FuncId→Option (List AV→ab→List Nat)):Nat→FuncId→Option nK
 |0=>fun _=>none
 |d+1=>fun f=>match isI f with
  |some see=>some ⟨see,aq P O n ⟨fun _ _=>none,fun _=>none,lW,sem,jq P O n sem isI d,gn⟩ f⟩
  |none=>none
section
variable {P:Program} {O:aT} {n:Nat} {sem:dF} {isI:FuncId→Option (List AV→ab→List Nat)}
theorem zR:∀ (d:Nat) f T,jq P O n sem isI d f=some T→∀args h nx,p9 (T.run args h nx)
 |0,_,_,h=>by cases h
 | d+1,f,T,h=>by
  simp only[jq] at h
  split at h
  ·simp only[Option.some.injEq] at h
   subst h
   exact fun args h nx=>zQ (A:=⟨fun _ _=>none,fun _=>none,lW,sem,jq P O n sem isI d,gn⟩) (fun f T hT=>zR d f T hT) rfl (fun r L hL=>by cases hL)
  ·cases h
theorem zS (B:cz P O n) (hsum:∀f args v,O.summ f args=some v→SemCall P O.glob f args v):∀ (d:Nat) f T,jq P O n sem isI d f=some T→∀args h nx K,T.run args h nx K→∃v h' nx',K v h' nx'∧BodySem P O.glob f args h nx v h' nx'
 |0,_,_,h=>by cases h
 | d+1,f,T,h=>by
  simp only[jq] at h
  split at h
  ·simp only[Option.some.injEq] at h
   subst h
   exact fun args h nx K hk=>Gs B (A:=⟨fun _ _=>none,fun _=>none,lW,sem,jq P O n sem isI d,gn⟩) ⟨nR,hsum,fun f T hT=>zS B hsum d f T hT,fun _ _ h=>(by cases h)⟩ (fun f T hT=>zR d f T hT) rfl rfl hk
  ·cases h
end
def Gt:List AV→ab→List Nat:=fun _ h=>h.map (·.1)
def Gu:List AV→ab→List Nat:=fun _ _=>[]
def Gv:List FuncId→List FuncId→FuncId→Option (List AV→ab→List Nat):=fun pure all f=>match dD pure f with
 |true=>some Gu
 |false=>match dD all f with
  |true=>some Gt
  |false=>none
noncomputable def zT (P:Program) (O:aT) (n:Nat) (hint:Nat→Nat→Option dy) (ls:Nat→Option bL) (sem:dF) (isI:FuncId→Option (List AV→ab→List Nat)):aV:=⟨hint,ls,lW,sem,jq P O n sem isI 8,gn⟩
theorem Gw {P:Program} {O:aT} {n:Nat} {hint:Nat→Nat→Option dy} {ls:Nat→Option bL} {sem:dF} {isI:FuncId→Option (List AV→ab→List Nat)} (B:cz P O n) (h:∀f args v,O.summ f args=some v→SemCall P O.glob f args v):cC P O (zT P O n hint ls sem isI):=
 ⟨nR,h,fun f T hT=>zS B h 8 f T hT,fun _ _ h=>(by cases h)⟩
end Go.Proofs.Abs
/- What calls answer, by their numbers; values that say less; items as trees. -/
namespace Go.Proofs.Abs
open Go
noncomputable section
def bq:List (FuncId × AV)→dF
 |[],_,_,_,_=>none
 |(f,v)::t,g,a,h,nx=>match Nat.beq g f with
  |true=>some (.val v)
  |false=>bq t g a h nx
def de:List (FuncId × (List AV→Option AV))→dF
 |[],_,_,_,_=>none
 | (f,k)::t,g,a,h,nx=>match Nat.beq g f with
  |true=>match k a with
   |some v=>some (.val v)
   |none=>none
  |false=>de t g a h nx
structure Wk (v v':AV):Prop where
 out:∀w I α x,Rep w I α v x→Rep w I α v' x
structure WkL (l l':List AV):Prop where
 out:∀w I α x,RepL w I α l x→RepL w I α l' x
 len:l.length=l'.length
 at_:∀ (i:Nat) x y,l[i]? =some x→l'[i]? =some y→Wk x y
theorem Wk.refl (v:AV):Wk v v:=⟨fun _ _ _ _ h=>h⟩
theorem Wk.trans {u v w:AV} (h:Wk u v) (h':Wk v w):Wk u w:=⟨fun _ _ _ _ r=>h'.out _ _ _ _ (h.out _ _ _ _ r)⟩
theorem WkL.nil:WkL [] []:=⟨fun _ _ _ _ h=>h,rfl,by simp⟩
theorem WkL.refl (l:List AV):WkL l l:=⟨fun _ _ _ _ h=>h,rfl,fun i x y h1 h2=>by rw[h1] at h2;cases h2;exact .refl x⟩
theorem WkL.cons {a b:AV} {t u:List AV} (h:Wk a b) (ht:WkL t u):WkL (a::t) (b::u):=
 ⟨fun w I α x r=>by
  obtain ⟨y,v',rfl,h1,h2⟩:=RepL.cons_inv r
  exact .cons (h.out _ _ _ _ h1) (ht.out _ _ _ _ h2),by simp[ht.len],fun i x y h1 h2=>by
  cases i with
  |zero=>simp at h1 h2;subst h1;subst h2;exact h
  |succ i=>simp at h1 h2;exact ht.at_ i x y h1 h2⟩
theorem WkL.append {a b c d:List AV} (h:WkL a b) (h':WkL c d):WkL (a++c) (b++d):=by
 have hl:=h.len
 have hl':=h'.len
 refine ⟨fun w I α x r=>⟨by have:=r.1;simp only[List.length_append] at this⊢;omega,fun i p q e1 e2=> ?_⟩,by simp only[List.length_append];omega,fun i p q e1 e2=> ?_⟩
 ·have hi:i<(a++c).length:=by
   have:i<(b++d).length:=by
    rcases Nat.lt_or_ge i (b++d).length with h|h
    ·exact h
    ·rw[List.getElem?_eq_none h] at e1;cases e1
   simp only[List.length_append] at this⊢;omega
  have r':=r.2 i _ q (List.getElem?_eq_getElem hi) e2
  have key:Wk ((a++c)[i]) p:=by
   have e3:=List.getElem?_eq_getElem hi
   by_cases hlt:i<a.length
   ·rw[List.getElem?_append_left hlt] at e3
    rw[List.getElem?_append_left (by omega)] at e1
    exact h.at_ i _ _ e3 e1
   ·rw[List.getElem?_append_right (by omega)] at e3 e1
    rw[hl] at e3
    exact h'.at_ _ _ _ e3 e1
  exact key.out _ _ _ _ r'
 ·by_cases hlt:i<a.length
  ·rw[List.getElem?_append_left hlt] at e1
   rw[List.getElem?_append_left (by omega)] at e2
   exact h.at_ i _ _ e1 e2
  ·rw[List.getElem?_append_right (by omega)] at e1 e2
   rw[hl] at e1
   exact h'.at_ _ _ _ e1 e2
theorem Wk.nil {f:Bool}:Wk .nilsl (.fsl f []):=⟨fun w I α x h=>by
 cases h
 exact .fsl f [] none 0 0 0 0 0 (fun _ _=>undef) rfl (Nat.le_refl _) (fun _=>rfl) (.inr rfl) (fun h=>absurd rfl h) (by simp) (by simp) (by simp)⟩
theorem Wk.full {l:List AV}:Wk (.fsl true l) (.fsl false l):=⟨fun w I α x h=>by
 cases h with
 |fsl _ _ a len cap sz b base g hl hc hf ha hI hs hg hr=>
  exact .fsl false l a len cap sz b base g hl hc (fun h=>by cases h) ha hI hs hg hr⟩
theorem Wk.row {f:Bool} {l:List AV}:Wk (.fsl f l) (.fsl false l):=by
 cases f with
 |true=>exact .full
 |false=>exact .refl _
theorem Wk.els {l l':List AV} (hlen:l.length=l'.length) (h:∀ (i:Nat) (x y:AV),l[i]? =some x→l'[i]? =some y→WkL x.cells y.cells):Wk (.fsl false l) (.fsl false l'):=⟨fun w I α x hx=>by
 have get:∀ (i:Nat) (y:AV),l'[i]? =some y→∃x:AV,l[i]? =some x∧WkL x.cells y.cells:=fun i y hy=>by
  have hi:i<l.length:=by
   rw[hlen]
   rcases Nat.lt_or_ge i l'.length with h|h
   ·exact h
   ·rw[List.getElem?_eq_none h] at hy;cases hy
  exact ⟨_,List.getElem?_eq_getElem hi,h i _ _ (List.getElem?_eq_getElem hi) hy⟩
 cases hx with
 | fsl _ _ a len cap sz b base g hl hc hf ha hI hs hg hr=>
  have cell:∀ (i:Nat) (e:AV) (j:Nat) (c:AV),l'[i]? =some e→e.cells[j]? =some c→∃ (e0 c0:AV),l[i]? =some e0∧e0.cells[j]? =some c0∧Wk c0 c:=fun i e j c h1 h2=>by
   obtain ⟨e0,k1,k2⟩:=get i e h1
   have hj:j<e0.cells.length:=by
    rw[k2.len]
    rcases Nat.lt_or_ge j e.cells.length with h|h
    ·exact h
    ·rw[List.getElem?_eq_none h] at h2;cases h2
   exact ⟨e0,_,k1,List.getElem?_eq_getElem hj,k2.at_ j _ _ (List.getElem?_eq_getElem hj) h2⟩
  refine .fsl false l' a len cap sz b base g (by omega) hc (fun h=>by cases h) ?_ (fun hne=>hI fun h0=>hne ?_) (fun e he=> ?_) (fun i e j c h1 h2=> ?_) (fun i e j c h1 h2=> ?_)
  ·exact ha
  ·subst h0;exact List.eq_nil_of_length_eq_zero hlen.symm
  ·obtain ⟨i,hi⟩:=List.getElem?_of_mem he
   obtain ⟨e0,k1,k2⟩:=get i e hi
   rw[←k2.len]
   exact hs e0 (List.mem_of_getElem? k1)
  ·obtain ⟨e0,c0,k1,k2,_⟩:=cell i e j c h1 h2
   exact hg i e0 j c0 k1 k2
  ·obtain ⟨e0,c0,k1,k2,k3⟩:=cell i e j c h1 h2
   exact k3.out _ _ _ _ (hr i e0 j c0 k1 k2)⟩
structure WkE (l l':List AV):Prop where
 len:l.length=l'.length
 at_:∀ (i:Nat) (x y:AV),l[i]? =some x→l'[i]? =some y→WkL x.cells y.cells
theorem WkE.nil:WkE [] []:=⟨rfl,by simp⟩
theorem WkE.refl (l:List AV):WkE l l:=⟨rfl,fun i x y h1 h2=>by rw[h1] at h2;cases h2;exact .refl _⟩
theorem WkE.cons {x y:AV} {l l':List AV} (h:WkL x.cells y.cells) (t:WkE l l'):WkE (x::l) (y::l'):=
 ⟨by simp[t.len],fun i x' y' h1 h2=>by
  cases i with
  |zero=>simp at h1 h2;subst h1;subst h2;exact h
  |succ i=>simp at h1 h2;exact t.at_ i x' y' h1 h2⟩
theorem WkE.consA {a b:List AV} {l l':List AV} (h:WkL a b) (t:WkE l l'):WkE (.agg a::l) (.agg b::l'):= .cons h t
theorem WkE.map {α:Type} {f g:α→AV} {l:List α} (h:∀x∈l,WkL (f x).cells (g x).cells):WkE (l.map f) (l.map g):=
 ⟨by simp,fun i x y h1 h2=>by
  rw[List.getElem?_map,Option.map_eq_some_iff] at h1 h2
  obtain ⟨a,ha,rfl⟩:=h1
  obtain ⟨b,hb,rfl⟩:=h2
  rw[ha] at hb;cases hb
  exact h a (List.mem_of_getElem? ha)⟩
theorem Wk.rows {f:Bool} {l l':List AV} (h:WkE l l'):Wk (.fsl f l) (.fsl false l'):=Wk.row.trans (.els h.len h.at_)
theorem Wk.agg {l l':List AV} (h:WkL l l'):Wk (.agg l) (.agg l'):=⟨fun w I α x r=>by
 obtain ⟨a',rfl,h1⟩:=Rep.agg_iff.1 r
 exact Rep.agg_iff.2 ⟨a',rfl,h.out _ _ _ _ h1⟩⟩
theorem Wk.tuple {l l':List AV} (h:WkL l l'):Wk (.tuple l) (.tuple l'):=⟨fun w I α x r=>by
 obtain ⟨a',rfl,h1⟩:=Rep.tuple_iff.1 r
 exact Rep.tuple_iff.2 ⟨a',rfl,h.out _ _ _ _ h1⟩⟩
theorem Wk.iface {t:TypeId} {v v':AV} (h:Wk v v'):Wk (.iface t v) (.iface t v'):=⟨fun w I α x r=>by
 cases r with
 |iface _ _ v'' hv=>exact .iface t _ _ (h.out _ _ _ _ hv)⟩
theorem Wk.func {fn:Fn} {a c a' c':List AV} (h1:WkL a a') (h2:WkL c c'):Wk (.func fn a c) (.func fn a' c'):=⟨fun w I α x r=>by
 obtain ⟨u,v,rfl,k1,k2⟩:=Rep.func_iff.1 r
 exact Rep.func_iff.2 ⟨u,v,rfl,h1.out _ _ _ _ k1,h2.out _ _ _ _ k2⟩⟩
theorem Wk.fptr {l l':List AV} {o:Nat} (h:WkL l l'):Wk (.fptr l o) (.fptr l' o):=⟨fun w I α x r=>by
 cases r with
 | fptr _ _ b base g hI hg hr=>
  have cell:∀ (j:Nat) (c:AV),l'[j]? =some c→∃c0:AV,l[j]? =some c0∧Wk c0 c:=fun j c h2=>by
   have hj:j<l.length:=by
    rw[h.len]
    rcases Nat.lt_or_ge j l'.length with h|h
    ·exact h
    ·rw[List.getElem?_eq_none h] at h2;cases h2
   exact ⟨_,List.getElem?_eq_getElem hj,h.at_ j _ _ (List.getElem?_eq_getElem hj) h2⟩
  refine .fptr l' o b base g hI (fun j c hc=> ?_) (fun j c hc=> ?_)
  ·obtain ⟨c0,k1,_⟩:=cell j c hc
   exact hg j c0 k1
  ·obtain ⟨c0,k1,k2⟩:=cell j c hc
   exact k2.out _ _ _ _ (hr j c0 k1)⟩
theorem zU {f:Bool} {w:World} {I:Nat→Prop} {α:Nat→Option Nat} {x:Value} (h:Rep w I α (.fsl f []) x):Rep w I α .nilsl x∨Rep w I α .nesl x:=by
 cases h with
 | fsl _ _ a len cap sz b base g hl hc hf ha hI hs hg hr=>
  obtain rfl:len=0:=by simpa using hl.symm
  rcases ha with rfl|rfl
  ·exact .inr (.nesl _ _)
  ·cases a with
   |none=>exact .inl .nilsl
   |some a=>exact .inr (.nesl _ _)
section
variable {P:Program} {G:aF} {f:FuncId} {args args':List AV} {v v':AV}
theorem SemCall.wkA (h:SemCall P G f args' v) (hw:WkL args args'):SemCall P G f args v:=
 ⟨fun w I α H rid nx vs r hr=>h.out w I α H rid nx vs r (hw.out _ _ _ _ hr)⟩
theorem Gx {Q Q':Value→World→Prop} {r:Result Next} (h:dK P Q r) (hq:∀v w,Q v w→Q' v w):dK P Q' r:=by
 unfold dK at h⊢
 split at h
 ·exact hq _ _ h
 ·exact hq _ _ h
 ·exact Calls.mono h fun e w' ⟨v,h1,h2⟩=>⟨v,h1,hq _ _ h2⟩
 ·exact h
theorem SemCall.wk (h:SemCall P G f args' v) (ha:WkL args args') (hv:Wk v v'):SemCall P G f args v':=
 ⟨fun w I α H rid nx vs r hr h1 h2 h3=>Gx (h.out w I α H rid nx vs r (ha.out _ _ _ _ hr) h1 h2 h3) fun _ _ ⟨⟨I',α',q1,q2,q3,q4⟩,hle⟩=>⟨⟨I',α',q1,q2,hv.out _ _ _ _ q3,q4⟩,hle⟩⟩
theorem SemCall.res (h:SemCall P G f args v) (hv:Wk v v'):SemCall P G f args v':=h.wk (.refl _) hv
theorem SemCall.empty (h1:SemCall P G f [.nilsl] v) (h2:SemCall P G f [.nesl] v):SemCall P G f [.fsl false []] v:=
 ⟨fun w I α H rid nx vs r hr k1 k2 k3=>by
  obtain ⟨y,v',e,hy,ht⟩:=RepL.cons_inv hr
  have:RepL w I α [.nilsl] vs.toList∨RepL w I α [.nesl] vs.toList:=by
   rw[e]
   rcases zU hy with h|h
   ·exact .inl (.cons h ht)
   ·exact .inr (.cons h ht)
  rcases this with h|h
  ·exact h1.out w I α H rid nx vs r h k1 k2 k3
  ·exact h2.out w I α H rid nx vs r h k1 k2 k3⟩
end
inductive It where
 |mk (tag ty n:Int) (data:List UInt8) (kids:List It)
mutual
def aD:It→AV
 | .mk t y n d ks=> .agg [.int .i64 t,.int .i64 y,.int .i64 n,.fsl false (aj d),.fsl false (af ks)]
def af:List It→List AV
 |[]=>[]
 |k::r=>aD k::af r
end
mutual
def bO (m:Nat):It→Prop
 | .mk _ _ _ d ks=>d.length≤m∧ks.length≤m∧gu m ks
def gu (m:Nat):List It→Prop
 |[]=>True
 |k::r=>bO m k∧gu m r
end
mutual
def fo:It→It→Bool
 | .mk t y n d ks,.mk t' y' n' d' ks'=>ah t t'&&(ah y y'&&(ah n n'&&(ag d d'&&eU ks ks')))
def eU:List It→List It→Bool
 |[],[]=>true
 |k::r,k'::r'=>fo k k'&&eU r r'
 |_,_=>false
end
mutual
theorem Gy:∀x y:It,fo x y=true↔x=y
 | .mk t y n d ks,.mk t' y' n' d' ks'=>by
  simp only[fo,Bool.and_eq_true,beqInt_iff,beqBytes_iff,uJ ks ks',It.mk.injEq]
theorem uJ:∀l r:List It,eU l r=true↔l=r
 |[],[]=>by simp[eU]
 |[],_::_=>by simp[eU]
 |_::_,[]=>by simp[eU]
 |k::r,k'::r'=>by simp only[eU,Bool.and_eq_true,Gy k k',uJ r r',List.cons.injEq]
end
theorem Gz {l r:List It} (h:eU l r=true):l.length=r.length:=by rw[(uJ l r).1 h]
@[simp] theorem zV {k:IntKind} {n:Int}:(AV.int k n).one=true:=rfl
@[simp] theorem zW {s:List UInt8}:(AV.str s).one=true:=rfl
@[simp] theorem zX {b:Bool}:(AV.bool b).one=true:=rfl
@[simp] theorem GA {f:Bool} {l:List AV}:(AV.fsl f l).one=true:=rfl
theorem qb {P:Program} {t:TypeId} {v:AV} (h:eg P t=some false) (hv:v.one=true):a9 P t v 1=true:=by simp only[a9,h,hv];rfl
theorem zY {P:Program} {t:TypeId} {l:List AV} {n:Nat} (h:eg P t=some true) (hl:Nat.beq (ac l) n=true) (ho:bu l=true):a9 P t (.agg l) n=true:=by simp only[a9,h,AV.cells,hl,ho];rfl
theorem br {b:Bool} {K:Prop} (h:b=true) (k:K):ax b K:=oblB_iff.2 ⟨h,k⟩
theorem ir:∀l:List It,af l=l.map aD
 |[]=>rfl
 |k::r=>by simp only[af,List.map_cons,ir r]
theorem okIs_iff {m:Nat}:∀ {l:List It},gu m l↔∀k∈l,bO m k
 |[]=>by simp[gu]
 |k::r=>by simp only[gu,okIs_iff (l:=r),List.forall_mem_cons]
mutual
theorem cD:∀x:It,ad (aD x)=true
 | .mk t y n d ks=>by
  have h:=cY ks
  simp[aD,ad,ae,h]
theorem cY:∀l:List It,ae (af l)=true
 |[]=>rfl
 |k::r=>by simp only[af,ae,cD k,cY r,Bool.and_self]
end
end
end Go.Proofs.Abs
/- Loops, round by round; what hints ask. -/
namespace Go.Proofs.Abs
open Go
section
variable {P:Program} {G:aF} {nx0:Nat} {s s2:St} {Q:AExit→St→Prop} {body:Code}
structure ALp (P:Program) (G:aF) (nx0:Nat) (body:Code) (s:St) (Q:AExit→St→Prop):Prop where
 out:∃k,ARnd P G nx0 body Q k s
theorem ALp.loop (h:ALp P G nx0 body s Q):AWp P G nx0 (.loop body) s Q:=by
 obtain ⟨k,h⟩:=h
 exact .loop k h
theorem ARnd.says (hs:Says2 G nx0 s s2):∀ {k:Nat},ARnd P G nx0 body Q k s2→ARnd P G nx0 body Q k s
 |0,h=>h
 |_+1,h=>AWp.says hs h
theorem ALp.says (hs:Says2 G nx0 s s2) (h:ALp P G nx0 body s2 Q):ALp P G nx0 body s Q:=by
 obtain ⟨k,h⟩:=h
 exact ⟨k,h.says hs⟩
end
def bP (nx0:Nat) (lk:List (Nat × Nat)) (V:View) (N:Prop) (lk':List (Nat × Nat)) (F:View) (Q:AExit→St→Prop):AExit→St→Prop:=fun e s=>match e with
 | .normal=>dd nx0 lk V s∧N
 |e=>dd nx0 lk' F s∧Q e F.st
theorem ALp.round {P:Program} {O:aT} {n:Nat} {nx0:Nat} {Q:AExit→St→Prop} {body:Code} {A:aV} {V0 V1 V2 F:View} {lk lk':List (Nat × Nat)} (B:cz P O n) (hA:cC P O A) (hls:LsOk P O.glob nx0 A body)
  (hM:Says2 O.glob nx0 V1.st V2.st) (h:aN P O n A body V0.st (bP nx0 lk V1 (ALp P O.glob nx0 body V2.st Q) lk' F Q)):ALp P O.glob nx0 body V0.st Q:=by
 have h:=pS B hA body _ _ hls h
 by_cases hN:ALp P O.glob nx0 body V2.st Q
 ·obtain ⟨k,hk⟩:=hN
  refine ⟨k+1,h.saysEnd fun e s hq=> ?_⟩
  cases e with
  |normal=>exact ⟨_,(eE B.glob hq.1).trans hM,hk⟩
  |exit i=>exact ⟨_,eE B.glob hq.1,hq.2⟩
  |ret=>exact ⟨_,eE B.glob hq.1,hq.2⟩
 ·refine ⟨1,h.saysEnd fun e s hq=> ?_⟩
  cases e with
  |normal=>exact absurd hq.2 hN
  |exit i=>exact ⟨_,eE B.glob hq.1,hq.2⟩
  |ret=>exact ⟨_,eE B.glob hq.1,hq.2⟩
theorem LsOk.at1 {P:Program} {G:aF} {nx0 r1:Nat} {L1:bL} {b1:Code} {c:Code} {A:aV} (hA:A.ls=kx [(r1,L1)]) (a1:bX c r1=[b1]) (h1:∀s Q,L1 s Q→AWp P G nx0 (.loop b1) s Q):LsOk P G nx0 A c:=
 LsOk.many hA fun p hp b hb s Q hs=>by
  simp only[List.mem_singleton] at hp;subst hp
  rw[a1,List.mem_singleton] at hb;subst hb;exact h1 s Q hs
theorem AWp.seen {P:Program} {G:aF} {nx0:Nat} {lk:List (Nat × Nat)} {V:View} {s:St} {Q:AExit→St→Prop} {body:Code} (hg:∀g l,G g=some l→ae l=true) (hs:dd nx0 lk V s) (h:ALp P G nx0 body V.st Q):AWp P G nx0 (.loop body) s Q:=(h.says (eE hg hs)).loop
theorem cJ {P:Program} {O:aT} {n:Nat} {A:aV} {f:FuncId} {args:List AV} {v:AV} (B:cz P O n) (hA:cC P O A) (hl:fh P O.glob 0 A f) (hcl:ae args=true) (hv:ad v=true)
  (h:aq P O n A f args [] 0 (fun u _ _=>u=v)):SemCall P O.glob f args v:=by
 obtain ⟨fn,c,hfn,hc,hname,hsz,hw⟩:=jp B hA hl h
 refine yT B hfn hc hname hsz hcl fun w I a hr=>wp_mono (hw.out w I _ [] [] a w (fun _ _=>rfl) hr) ?_
 rintro e a' w' ⟨x,s',rfl,h2,hx,l,hl,hq⟩
 refine ⟨s',l, ?_,h2,hl, ?_,hv⟩
 ·rcases hx with rfl|rfl
  ·exact .inl rfl
  ·exact .inr rfl
 ·rw[hq];exact (Frz.closed v hv).out
def jr (v u:AV) (H:ab):Prop:=∃r,(∃d,aH 0 H d u=some r)∧ad r=true∧Wk r v
def cZ (v u:AV):Prop:=ad u=true∧Wk u v
theorem uK {P:Program} {O:aT} {n:Nat} (B:cz P O n) {f:FuncId} {fn:Func} {c:Code} {args:List AV} {v:AV} (hfn:P.funcs[f]? =some fn) (hc:fn.body=some c) (hname:(fn.name== "runtime.NumGoroutine")=false) (hsz:(Nat.ble (ac args) fn.ntmps&&Nat.ble fn.ntmps 4095)=true)
  (hcl:ae args=true) (h:∀w I a,CR O.glob w I (fun _=>none) [] 0 [] ⟨cX args 0 .tip,[],0,fn.ntmps⟩ a w→
   c.wp P (fun e a' w'=>∃s l,(co .normal=e∨co .ret=e)∧CR O.glob w I (fun _=>none) [] 0 [] s a' w'∧db P O.glob s fn.results.toList=some l∧jr v (cW l) s.heap) a w):
  SemCall P O.glob f args v:=by
 refine ⟨?_⟩
 intro w I α H rid nx vs r ha hrid hlt hf
 rw[Bool.and_eq_true,Nat.ble_eq,Nat.ble_eq,aC] at hsz
 have e1:(callFunc f vs).run P w= .ok (.enter f vs) w:=by
  unfold callFunc
  simp only[Sem.run_bind,run_program,Result.andThen_ok,hfn,hname,hc,Bool.false_eq_true,if_false,Option.isNone_some,Sem.run_pure]
 rw[e1]
 refine calls_of_wp hfn hc ?_
 have hra:RepL w I (fun _=>none) args vs.toList:=gP ha hcl
 have hvs:args.length=vs.size:=by rw[hra.1];simp
 have hr0:CR O.glob w I (fun _=>none) [] 0 [] ⟨cX args 0 .tip,[],0,fn.ntmps⟩ {tmps:=vs++Array.replicate (fn.ntmps-vs.size) undef,defers:=[]} w:=
  ⟨⟨I,fun _=>none,.refl,ji B.glob r,jf hra (by omega),fun i hi=>absurd hi (Nat.not_lt_zero i),fun _ _=>rfl,fun id h=>absurd rfl h⟩,Nat.le_refl _,Nat.le_refl _,rfl,by simp;omega,hsz.2⟩
 refine wp_mono (h w I _ hr0) fun e a' w' hq=> ?_
 obtain ⟨s,l,he,hr,hl,v0,⟨d,hfz⟩,hcv,hwk⟩:=hq
 obtain ⟨⟨I',α',h1,h2,h3,_,_,h6⟩,_,h8,h9,_,_⟩:=hr
 obtain ⟨u,e1,e2⟩:=jg (P:=P) (fn:=fn) h2 h3 hl
 have hp:dX O.glob w I (fun _=>none) [] 0 (cW l) s.heap s.nx u w':=⟨⟨I',α',h1,h2,e2,h6⟩,h8⟩
 have hpost:Post O.glob w I α H rid nx v H nx u w':=by
  obtain ⟨⟨I2,α2,q1,q2,q3,q4⟩,hle⟩:=kj r hp hfz hcv
  exact ⟨⟨I2,α2,q1,q2,hwk.out _ _ _ _ q3,q4⟩,hle⟩
 rcases he with rfl|rfl<;>exact ⟨h9,u,e1,u,rfl,hpost⟩
theorem fu {P:Program} {O:aT} {n:Nat} {A:aV} {f:FuncId} {args:List AV} {v:AV} (B:cz P O n) (hA:cC P O A) (hl:fh P O.glob 0 A f) (hcl:ae args=true)
  (h:aq P O n A f args [] 0 (fun u H _=>jr v u H)):SemCall P O.glob f args v:=by
 obtain ⟨fn,c,hfn,hc,hname,hsz,hw⟩:=jp B hA hl h
 refine uK B hfn hc hname hsz hcl fun w I a hr=>wp_mono (hw.out w I _ [] [] a w (fun _ _=>rfl) hr) ?_
 rintro e a' w' ⟨x,s',rfl,h2,hx,l,hl,hq⟩
 refine ⟨s',l, ?_,h2,hl,hq⟩
 rcases hx with rfl|rfl
 ·exact .inl rfl
 ·exact .inr rfl
theorem bt {P:Program} {O:aT} {n:Nat} {A:aV} {f:FuncId} {args:List AV} {v:AV} (B:cz P O n) (hA:cC P O A) (hl:fh P O.glob 0 A f) (hcl:ae args=true)
  (h:aq P O n A f args [] 0 (fun u _ _=>cZ v u)):SemCall P O.glob f args v:=by
 obtain ⟨fn,c,hfn,hc,hname,hsz,hw⟩:=jp B hA hl h
 refine uK B hfn hc hname hsz hcl fun w I a hr=>wp_mono (hw.out w I _ [] [] a w (fun _ _=>rfl) hr) ?_
 rintro e a' w' ⟨x,s',rfl,h2,hx,l,hl,hq⟩
 refine ⟨s',l, ?_,h2,hl,_,(Frz.closed _ hq.1).out,hq.1,hq.2⟩
 rcases hx with rfl|rfl
 ·exact .inl rfl
 ·exact .inr rfl
theorem dZ {v:AV} (h:ad v=true):cZ v v:=⟨h,.refl v⟩
theorem qc {u v:AV} (h:u=v) (hc:ad v=true):cZ v u:=by subst h;exact ⟨hc,.refl _⟩
theorem GB {n:Nat} {H:ab} {b c:Bool} (h:b=c):(∃d,aH n H d (.bool b)=some (.bool c))∧ad (.bool c)=true:=⟨⟨1,by rw[h];rfl⟩,rfl⟩
theorem zZ {n:Nat} {H:ab} {k:IntKind} {a b:Int} (h:a=b):(∃d,aH n H d (.int k a)=some (.int k b))∧ad (.int k b)=true:=⟨⟨1,by rw[h];rfl⟩,rfl⟩
theorem gT {n:Nat} {H:ab} {v:AV} (h:ad v=true):(∃d,aH n H d v=some v)∧ad v=true:=⟨(Frz.closed v h).out,h⟩
theorem n7 {n:Nat} {H:ab} {v r:AV} (h:Frz n H v r) (hc:ad r=true):(∃d,aH n H d v=some r)∧ad r=true:=⟨h.out,hc⟩
theorem CR.up {G:aF} {w0:World} {I0:Nat→Prop} {α0:Nat→Option Nat} {H0:ab} {nx0:Nat} {D:List Deferred} {s:St} {a:Act} {w:World} {m:Nat} (h:CR G w0 I0 α0 H0 nx0 D s a w) (hm:s.nx≤m):CR G w0 I0 α0 H0 nx0 D ⟨s.slots,s.heap,m,s.n⟩ a w:=by
 obtain ⟨⟨I,α,ev,rel,hs,_,hf,hnew⟩,h7,h8,h9,h10,h11⟩:=h
 refine ⟨⟨I,α,ev,rel,hs,fun i hi=>absurd hi (Nat.not_lt_zero i),fun id hid=>hf id (Nat.le_trans hm hid),fun id hid=> ?_⟩,Nat.le_refl _,Nat.le_trans h8 hm,h9,h10,h11⟩
 rcases hnew id hid with h|h
 ·exact .inl h
 ·exact .inr ⟨h.1,Nat.lt_of_lt_of_le h.2 hm⟩
section
variable {P:Program} {G:aF}
theorem GC {s d e:TypeId} {f:Bool} {b:List UInt8} (h1:P.underlying s=some (.slice e)) (h2:P.underlying d=some .string) (h3:jT P e=true):ei P s d (.fsl f (aj b))=some (.val (.str b)):=by
 simp only[ei,h1,h2,h3,oU,zg,iZ]
theorem l5 {t e:TypeId} {sz i:Nat} {f:Bool} {l:List AV} {v:AV} (h1:P.underlying t=some (.slice e)) (h2:bC P e=some sz) (hv:l[i]? =some v) (hs:v.cells.length=sz):aQ P t (.fsl f l) (.int .i64 (.ofNat i))=some (.fptr v.cells 0):=by
 have h5:Nat.beq (ac v.cells) sz=true:=by rw[beq_iff,aC,hs]
 simp only[aQ,ej,h1,h2,eA,hv,h5,if_true,Option.bind_eq_bind,Option.bind_some]
end
end Go.Proofs.Abs
/- Objects as values. -/
namespace Go.Proofs.Abs
open Go
noncomputable section
structure Dt where
 has:Bool
 t:Int
structure Lk where
 ty:Int
 id:List UInt8
structure Cu where
 name:List UInt8
 text:List UInt8
structure Ob where
 id:List UInt8
 ty:Int
 alg:Int
 len:Int
 mask:Int
 mat:List UInt8
 st:Int
 d0:Dt
 d1:Dt
 d2:Dt
 d3:Dt
 d4:Dt
 d5:Dt
 d6:Dt
 d7:Dt
 d8:Dt
 d9:Dt
 why:Int
 msg:List UInt8
 names:List (List UInt8)
 links:List Lk
 cust:List Cu
 lh:Bool
 lt:Int
 lc:Int
 lu:Int
 arch:Bool
def aO (l:Lk):AV:= .agg [.int .i64 l.ty,.str l.id]
def aK (c:Cu):AV:= .agg [.str c.name,.str c.text]
def cU (o:Ob):AV:= .fsl false (aj o.mat)
def b6 (o:Ob):AV:= .fsl false (o.names.map .str)
def b7 (o:Ob):AV:= .fsl false (o.links.map aO)
def bw (o:Ob):AV:= .fsl false (o.cust.map aK)
def ai (o:Ob) (M N L C:AV):List AV:=[.str o.id,.int .i64 o.ty,.int .i64 o.alg,.int .i64 o.len,.int .i64 o.mask,M,.int .i64 o.st,
 .bool o.d0.has,.int .i64 o.d0.t,.bool o.d1.has,.int .i64 o.d1.t,.bool o.d2.has,.int .i64 o.d2.t,.bool o.d3.has,.int .i64 o.d3.t,.bool o.d4.has,.int .i64 o.d4.t,
 .bool o.d5.has,.int .i64 o.d5.t,.bool o.d6.has,.int .i64 o.d6.t,.bool o.d7.has,.int .i64 o.d7.t,.bool o.d8.has,.int .i64 o.d8.t,.bool o.d9.has,.int .i64 o.d9.t,
 .int .i64 o.why,.str o.msg,N,L,C,.bool o.lh,.int .i64 o.lt,.int .i64 o.lc,.int .i64 o.lu,.bool o.arch]
def aB (o:Ob):List AV:=ai o (cU o) (b6 o) (b7 o) (bw o)
def aw (o:Ob):AV:= .agg (aB o)
theorem qd:∀l:List (List UInt8),ae (l.map .str)=true
 |[]=>rfl
 |s::t=>by simp only[List.map_cons,ae,qd t,Bool.and_true];rfl
theorem qe:∀l:List Lk,ae (l.map aO)=true
 |[]=>rfl
 |s::t=>by simp only[List.map_cons,ae,qe t,Bool.and_true];rfl
theorem n8:∀l:List Cu,ae (l.map aK)=true
 |[]=>rfl
 |s::t=>by simp only[List.map_cons,ae,n8 t,Bool.and_true];rfl
theorem l6 (o:Ob):ad (cU o)=true:=pU _
theorem l7 (o:Ob):ad (b6 o)=true:=qd _
theorem l8 (o:Ob):ad (b7 o)=true:=qe _
theorem kz (o:Ob):ad (bw o)=true:=n8 _
theorem bR (o:Ob):ae (aB o)=true:=by
 simp only[aB,ai,ae,ad,l6,l7,l8,kz,Bool.and_self]
theorem GD (o:Ob):ad (aw o)=true:=bR o
theorem GE (o:Ob):bu (aB o)=true:=by
 simp only[aB,ai,bu,zW,zV,zX,cU,b6,b7,bw,GA,Bool.and_self]
theorem GF (o:Ob):Nat.beq (ac (aB o)) 37=true:=rfl
end
end Go.Proofs.Abs
/- Calls with closed arguments, run by themselves, whose answers say enough; bodies that say less. -/
namespace Go.Proofs.Abs
open Go
noncomputable section
def bi (P:Program) (O:aT) (n:Nat) (f:FuncId) (args:List AV):Option AV:=
 match fm P O (eT P O n) f args [] 0 with
 |some (v,h',_)=>aH 0 h' 40 v
 |none=>none
section
variable {P:Program} {O:aT} {n:Nat} {f:FuncId} {args:List AV} {v r:AV}
theorem z0 (hm:P.follows .mixedOrders=true) (hsum:∀f args v,O.summ f args=some v→SemCall P O.glob f args v) (hg:∀g l,O.glob g=some l→ae l=true) (hcx:bo P O.glob O.cx∧bp O.cx)
  (hcl:ae args=true) (h:bi P O n f args=some v) (hv:ad v=true):SemCall P O.glob f args v:=by
 unfold bi at h
 rw[uE] at h
 split at h
 ·rename_i v0 h0 m0 hr
  obtain ⟨hc,hl⟩:=lF (P:=P) (O:=O) hm hsum hg hcx n
  refine ⟨?_⟩
  intro w I α H rid nx vs r ha hrid hlt hf
  obtain ⟨e1,e2⟩:=ki hm hc hl hr (ji hg r) (gP ha hcl) (fun _ _=>rfl)
  rw[e1]
  exact Calls.mono e2 fun e w' ⟨u,h1,h2⟩=>⟨u,h1,kj r h2 h hv⟩
 ·cases h
theorem SemCall.emptyAt {f':Bool} {rest:List AV} (h1:SemCall P O.glob f (.nilsl::rest) v) (h2:SemCall P O.glob f (.nesl::rest) v):SemCall P O.glob f (.fsl f' []::rest) v:=
 ⟨fun w I α H rid nx vs r hr k1 k2 k3=>by
  obtain ⟨y,v',e,hy,ht⟩:=RepL.cons_inv hr
  have:RepL w I α (.nilsl::rest) vs.toList∨RepL w I α (.nesl::rest) vs.toList:=by
   rw[e]
   rcases zU hy with h|h
   ·exact .inl (.cons h ht)
   ·exact .inr (.cons h ht)
  rcases this with h|h
  ·exact h1.out w I α H rid nx vs r h k1 k2 k3
  ·exact h2.out w I α H rid nx vs r h k1 k2 k3⟩
end
def WkB:Blk→Blk→Prop
 | .cells l,.cells l'=>WkL l l'
 |b,b'=>b=b'
theorem WkB.rel {w:World} {I:Nat→Prop} {α:Nat→Option Nat} {b:Nat} {x y:Blk} (h:WkB x y) (r:BRel w I α b x):BRel w I α b y:=by
 cases x with
 | cells l=>cases y with
  |cells l'=>
   obtain ⟨c,e,h1,h2,h3⟩:=r
   have h:WkL l l':=h
   exact ⟨c,e,h1,by rw[←h.len];exact h2,by rw[←h.len];exact h.out _ _ _ _ h3⟩
  |_=>cases h
 |_=>cases y<;>first|(cases h;done)|(cases h;exact r)
def uM (k:Nat) (h:ab):ab→Prop
 |[]=>True
 |(i,some b)::t=>(Nat.blt i k=true∧∃b0 b1,hget h i=some b0∧lS k h b0 b1∧WkB b1 b)∧uM k h t
 |(_,none)::_=>False
theorem uN {k:Nat} {h:ab}:∀ {H2:ab},uM k h H2→∀i b,hget H2 i=some b→i<k∧∃b0 b1,hget h i=some b0∧lS k h b0 b1∧WkB b1 b
 |[],_,i,b,hb=>by cases hb
 | (j,some c)::t,he,i,b,hb=>by
  simp only[hget] at hb
  split at hb
  ·rename_i hj
   have hj:=beq_iff.1 hj
   subst hj
   cases hb
   exact ⟨blt_iff.1 he.1.1,he.1.2⟩
  ·exact uN he.2 i b hb
 |(_,none)::_,he,_,_,_=>he.elim
def l9 (k:Nat) (v:AV) (H2:ab) (nx2:Nat) (u:AV) (h:ab) (m:Nat):Prop:=Nat.ble m nx2=true∧(∃r,Frz k h u r∧Wk r v)∧uM k h H2
theorem z1 {G:aF} {w w':World} {I:Nat→Prop} {α:Nat→Option Nat} {H hE H2:ab} {nx m nx2 k:Nat} {u v:AV} {x:Value} (h:dX G w I α H nx u hE m x w') (he:l9 k v H2 nx2 u hE m):dX G w I α H nx v H2 nx2 x w':=by
 obtain ⟨hm,⟨r,hfr,hwk⟩,hH⟩:=he
 have hm:=Nat.le_of_ble_eq_true hm
 obtain ⟨⟨I',α',ev,rel,hrep,hnew⟩,hle⟩:=h
 have hlive:∀i,hget H2 i≠none→i<k∧hget hE i≠none:=fun i hi=>by
  cases hb:hget H2 i with
  |none=>exact absurd hb hi
  |some b=>
   obtain ⟨h1,b0,b1,h2,_⟩:=uN hH i b hb
   exact ⟨h1,by rw[h2];simp⟩
 have hown:∀b,bD α' H2 b→bD α' hE b:=fun b ⟨i,h1,h2⟩=>⟨i,(hlive i h1).2,h2⟩
 refine ⟨⟨cT I' α' hE k,α',⟨ev.os,fun b hb=> .inl (ev.I_mono b hb),ev.α_mono,ev.size,ev.frame,ev.shape,fun b hb=> ?_,fun b hb=>ev.own b (hown b hb)⟩, ?_, ?_,fun id hid=> ?_⟩,Nat.le_trans hle hm⟩
 ·rcases hb with hb|⟨id,_,h2,h3⟩
  ·exact ev.Inew b hb
  ·rcases ev.own b ⟨id,h2,h3⟩ with h|h
   ·exact .inr (.inl h)
   ·exact .inr (.inr h)
 ·exact
  {live:=fun i blk hi=>by
    obtain ⟨hmk,b0,b1,e2,e3,e4⟩:=uN hH i blk hi
    obtain ⟨b,k1,k2,k3⟩:=rel.live i b0 e2
    refine ⟨b,k1, ?_,e4.rel (zj rel e3 k3)⟩
    rintro (hb|⟨id,h1,h2,h3⟩)
    ·exact k2 hb
    ·have:=rel.inj id i b h2 (by rw[e2];simp) h3 k1
     omega
   inj:=fun i i' b h1 h2 h3 h4=>rel.inj i i' b (hlive i h1).2 (hlive i' h2).2 h3 h4
   imm:=fun b hb=>by
    rcases hb with hb|⟨id,_,_,h3⟩
    ·exact rel.imm b hb
    ·exact rel.dom id b h3
   dom:=rel.dom
   glob:=fun g l hgl=>by
    obtain ⟨h1,h2⟩:=rel.glob g l hgl
    refine ⟨.inl h1,fun j x hx=> ?_⟩
    obtain ⟨y,e1,e2⟩:=h2 j x hx
    exact ⟨y,e1,e2.mono (fun _ h=> .inl h) (fun _ _ h=>h) (fun _ _ _=>rfl) (fun _ _ _=>rfl)⟩}
 ·obtain ⟨d,hfr⟩:=hfr
  exact hwk.out _ _ _ _ (gi rel k d _ _ _ hfr hrep)
 ·rcases hnew id hid with h|h
  ·exact .inl h
  ·exact .inr ⟨h.1,Nat.lt_of_lt_of_le h.2 hm⟩
theorem fM {P:Program} {O:aT} {n:Nat} {A:aV} {f:FuncId} {args:List AV} {H:ab} {nx k:Nat} {v:AV} {H2:ab} {nx2:Nat} (B:cz P O n) (hA:cC P O A) (hl:fh P O.glob nx A f)
  (h:aq P O n A f args H nx (fun u h m=>l9 k v H2 nx2 u h m)):BodySem P O.glob f args H nx v H2 nx2:=by
 obtain ⟨fn,c,hfn,hc,hname,hsz,hw⟩:=jp B hA hl h
 intro w I α vs r ha hf
 rw[Bool.and_eq_true,Nat.ble_eq,Nat.ble_eq,aC] at hsz
 refine ⟨?_, ?_⟩
 ·unfold callFunc
  simp only[Sem.run_bind,run_program,Result.andThen_ok,hfn,hname,hc,Bool.false_eq_true,if_false,Option.isNone_some,Sem.run_pure]
 ·refine calls_of_wp hfn hc ?_
  have hvs:args.length=vs.size:=by rw[ha.1];simp
  have hr0:CR O.glob w I α H nx [] ⟨cX args 0 .tip,H,nx,fn.ntmps⟩ {tmps:=vs++Array.replicate (fn.ntmps-vs.size) undef,defers:=[]} w:=
   ⟨⟨I,α,.refl,r,jf ha (by omega),fun i hi=>absurd hi (Nat.not_lt_zero i),hf,fun id h=> .inl h⟩,Nat.le_refl _,Nat.le_refl _,rfl,by simp;omega,hsz.2⟩
  refine wp_mono (hw.out w I α H [] _ w hf hr0) ?_
  rintro e a' w' ⟨x,s,rfl,hr,hx,l,hl,hq⟩
  obtain ⟨⟨I',α',h1,h2,h3,_,_,h6⟩,_,h8,h9,_,_⟩:=hr
  obtain ⟨u,e1,e2⟩:=jg (P:=P) (fn:=fn) h2 h3 hl
  have hp:dX O.glob w I α H nx (cW l) s.heap s.nx u w':=⟨⟨I',α',h1,h2,e2,h6⟩,h8⟩
  rcases hx with rfl|rfl<;>exact ⟨h9,u,e1,u,rfl,z1 hp hq⟩
theorem GG {P:Program} {G:aF} {f:FuncId} {args:List AV} {u v:AV} {H1:ab} {m:Nat} (hg:∀g l,G g=some l→ae l=true) (hcl:ae args=true) (h:BodySem P G f args [] 0 u H1 m) (he:jr v u H1):SemCall P G f args v:=by
 refine ⟨fun w I α H rid nx vs r ha hrid hlt hf=> ?_⟩
 obtain ⟨e1,e2⟩:=h w I (fun _=>none) vs (ji hg r) (gP ha hcl) (fun _ _=>rfl)
 obtain ⟨v0,⟨d,hfz⟩,hcv,hwk⟩:=he
 rw[e1]
 refine Calls.mono e2 fun e w' ⟨x,h1,h2⟩=>⟨x,h1, ?_⟩
 obtain ⟨⟨I2,α2,q1,q2,q3,q4⟩,hle⟩:=kj r h2 hfz hcv
 exact ⟨⟨I2,α2,q1,q2,hwk.out _ _ _ _ q3,q4⟩,hle⟩
end
end Go.Proofs.Abs
/- States with blocks that may be there or not. -/
namespace Go.Proofs.Abs
open Go
noncomputable section
end
end Go.Proofs.Abs
/- States that say less: fewer blocks. -/
namespace Go.Proofs.Abs
open Go
noncomputable section
theorem Says2.sub {G:aF} {nx0:Nat} {s s2:St} (hs:s2.slots=s.slots) (hh:∀i b,hget s2.heap i=some b→hget s.heap i=some b) (hnx:s2.nx=s.nx) (hn:s2.n=s.n):Says2 G nx0 s s2:=by
 intro w0 I0 α0 H0 D a w hα h
 obtain ⟨⟨I,α,ev,rel,hsl,h4,hf,hnew⟩,h7,h8,h9,h10,h11⟩:=h
 have hne:∀i,hget s2.heap i≠none→hget s.heap i≠none:=fun i h=>by
  cases hi:hget s2.heap i with
  |none=>exact absurd hi h
  |some b=>rw[hh i b hi];simp
 refine ⟨⟨I,α,⟨ev.os,ev.I_mono,ev.α_mono,ev.size,ev.frame,ev.shape,ev.Inew,fun b ⟨i,h1,h2⟩=>ev.own b ⟨i,hne i h1,h2⟩⟩, ?_, ?_,fun i hi=>absurd hi (Nat.not_lt_zero i),fun id hid=>hf id (by rw[←hnx];exact hid),fun id hid=> ?_⟩,Nat.le_refl _,by rw[hnx];exact h8,h9,by rw[hn];exact h10,by rw[hn];exact h11⟩
 ·exact ⟨fun i blk hi=>rel.live i blk (hh i blk hi),fun i i' b h1 h2=>rel.inj i i' b (hne i h1) (hne i' h2),rel.imm,rel.dom,rel.glob⟩
 ·rw[hs];exact hsl
 ·rw[hnx];exact hnew id hid
end
end Go.Proofs.Abs
/- What a body comes to, under other numbers: of the blocks that it is handed, and of those that are new. -/
namespace Go.Proofs.Abs
open Go
def dt:List (Nat × Nat)→List (Nat × Nat)
 |[]=>[]
 |(a,b)::t=>(b,a)::dt t
theorem kA:∀ {lk:List (Nat × Nat)} {i j:Nat},(lk.map (·.1)).Nodup→(lk.map (·.2)).Nodup→(aG lk i=some j↔aG (dt lk) j=some i)
 |[],i,j,_,_=>by simp[aG,dt]
 | (a,b)::t,i,j,h1,h2=>by
  simp only[List.map_cons,List.nodup_cons] at h1 h2
  have ih:=kA (lk:=t) (i:=i) (j:=j) h1.2 h2.2
  simp only[aG,dt]
  cases hi:Nat.beq a i with
  | true=>
   have hi:=beq_iff.1 hi
   subst hi
   cases hj:Nat.beq b j with
   |true=>have hj:=beq_iff.1 hj;subst hj;simp
   | false=>
    simp only
    constructor
    ·intro h
     cases h
     rw[beq_iff.2 rfl] at hj;cases hj
    ·intro h
     have:=ih.2 h
     exact absurd (List.mem_map.2 ⟨_,gj this,rfl⟩) h1.1
  | false=>
   cases hj:Nat.beq b j with
   | true=>
    have hj:=beq_iff.1 hj
    subst hj
    simp only
    constructor
    ·intro h
     have:=ih.1 h
     exact absurd (List.mem_map.2 ⟨_,gj h,rfl⟩) h2.1
    ·intro h
     cases h
     rw[beq_iff.2 rfl] at hi;cases hi
   |false=>exact ih
section
variable {P:Program} {G:aF} {f:FuncId} {args args2:List AV} {v v2:AV} {H H' H2 H2':ab} {nx nx' nx2 nx2':Nat} {lk:List (Nat × Nat)}
theorem BodySem.ren (hg:∀g l,G g=some l→ae l=true) (h:BodySem P G f args H nx v H' nx')
  (h1:(lk.map (·.1)).Nodup) (h2:(lk.map (·.2)).Nodup) (hlo:∀p∈lk,p.1<nx∨(nx2≤p.2∧p.2<nx2')) (hA:RenL lk args args2)
  (hH:∀i b,hget H i=some b→∃j b2,aG lk i=some j∧hget H2 j=some b2∧gk lk b b2)
  (hV:RenV (dt lk) v2 v) (hH':∀j b2,hget H2' j=some b2→∃i b,aG (dt lk) j=some i∧hget H' i=some b∧gk (dt lk) b2 b)
  (hm:nx2≤nx2'):BodySem P G f args2 H2 nx2 v2 H2' nx2':=by
 intro w I α vs r ha hf
 have rb:Rel G w I (fun i=>(aG lk i).bind α) H:=
  {live:=fun i blk hi=>by
    obtain ⟨j,b2,k1,k2,k3⟩:=hH i blk hi
    obtain ⟨b,q1,q2,q3⟩:=r.live j b2 k2
    exact ⟨b,by simp[k1,q1],q2,nC k3 q3⟩
   inj:=fun i i' b g1 g2 g3 g4=>by
    cases hi:hget H i with
    |none=>exact absurd hi g1
    | some blk=>
     cases hi':hget H i' with
     |none=>exact absurd hi' g2
     |some blk'=>
      obtain ⟨j,b1,k1,k2,_⟩:=hH i blk hi
      obtain ⟨j',b1',k1',k2',_⟩:=hH i' blk' hi'
      have hj:j=j':=r.inj j j' b (by rw[k2];simp) (by rw[k2'];simp) (by simpa [k1] using g3) (by simpa [k1'] using g4)
      subst hj
      exact tw h2 k1 k1'
   imm:=r.imm
   dom:=fun i b hb=>by
    cases hl:aG lk i with
    |none=>simp[hl] at hb
    |some j=>exact r.dom j b (by simpa [hl] using hb)
   glob:=fun g l hgl=>by
    obtain ⟨g1,g2⟩:=r.glob g l hgl
    refine ⟨g1,fun j x hx=> ?_⟩
    obtain ⟨y,k1,k2⟩:=g2 j x hx
    exact ⟨y,k1,rep_closed k2 (kp (hg g l hgl) hx)⟩}
 have own1:∀b,bD (fun i=>(aG lk i).bind α) H b→bD α H2 b:=fun b ⟨i,g1,g2⟩=>by
  cases hi:hget H i with
  |none=>exact absurd hi g1
  |some blk=>
   obtain ⟨j,b2,k1,k2,_⟩:=hH i blk hi
   exact ⟨j,by rw[k2];simp,by simpa [k1] using g2⟩
 obtain ⟨e1,e2⟩:=h w I (fun i=>(aG lk i).bind α) vs rb (tz hA ha) (fun id hid=>by
  cases hl:aG lk id with
  |none=>rfl
  |some j=>
   rcases hlo _ (gj hl) with h|h
   ·exact absurd h (by simp only;omega)
   ·exact hf j h.1)
 refine ⟨e1,e2.mono ?_⟩
 rintro e w' ⟨u,rfl,⟨⟨I',α',ev,rel,rep,hnew⟩,_⟩⟩
 have sub:∀id b,((aG (dt lk) id).bind α')=some b→(match aG (dt lk) id with|some i=>α' i|none=>α id)=some b:=fun id b hb=>by
  cases hl:aG (dt lk) id with
  |none=>rw[hl] at hb;cases hb
  |some j=>simpa [hl] using hb
 have rex:∀ {a:AV} {x:Value},Rep w' I' (fun i=>(aG (dt lk) i).bind α') a x→Rep w' I' (fun id=>match aG (dt lk) id with|some i=>α' i|none=>α id) a x:=fun hr=>hr.mono (fun _ h=>h) sub (fun _ _ _=>rfl) (fun _ _ _=>rfl)
 have bex:∀ {b:Nat} {blk:Blk},BRel w' I' (fun i=>(aG (dt lk) i).bind α') b blk→BRel w' I' (fun id=>match aG (dt lk) id with|some i=>α' i|none=>α id) b blk:=fun {b blk} hb=>by
  cases blk with
  |cells l=>obtain ⟨c,e,h1,h2,h3⟩:=hb;exact ⟨c,e,h1,h2,h3.1,fun i x y hx hy=>rex (h3.2 i x y hx hy)⟩
  |siter s p=>exact hb
  |mapb c s es=>obtain ⟨en,h1,h2,h4,h3⟩:=hb;exact ⟨en,h1,h2,h4,fun i x y hx hy=>⟨rex (h3 i x y hx hy).1,rex (h3 i x y hx hy).2⟩⟩
  |miter q a b c=>obtain ⟨mb,h1,h2⟩:=hb;exact ⟨mb,sub _ _ h1,h2⟩
 have own2:∀b,bD (fun id=>match aG (dt lk) id with|some i=>α' i|none=>α id) H2' b→bD α' H' b:=fun b ⟨j,g1,g2⟩=>by
  cases hi:hget H2' j with
  |none=>exact absurd hi g1
  |some blk=>
   obtain ⟨i,b1,k1,k2,_⟩:=hH' j blk hi
   exact ⟨i,by rw[k2];simp,by simpa [k1] using g2⟩
 refine ⟨u,rfl,⟨I',fun id=>match aG (dt lk) id with|some i=>α' i|none=>α id, ?_, ?_, ?_, ?_⟩,hm⟩
 ·refine ⟨ev.os,ev.I_mono,fun id b hb=> ?_,ev.size,fun b hb hn=>ev.frame b hb fun hc=>hn (own1 b hc),ev.shape,fun b hb=> ?_,fun b hb=> ?_⟩
  ·cases hl:aG (dt lk) id with
   |none=>simpa only[hl] using hb
   | some i=>
    simp only
    exact ev.α_mono i b (by
     have:=(kA h1 h2).2 hl
     simpa [this] using hb)
  ·rcases ev.Inew b hb with h|h|h
   ·exact .inl h
   ·exact .inr (.inl h)
   ·exact .inr (.inr (own1 b h))
  ·rcases ev.own b (own2 b hb) with h|h
   ·exact .inl h
   ·exact .inr (own1 b h)
 ·exact
  {live:=fun j blk hj=>by
    obtain ⟨i,b1,k1,k2,k3⟩:=hH' j blk hj
    obtain ⟨b,q1,q2,q3⟩:=rel.live i b1 k2
    exact ⟨b,by simpa [k1] using q1,q2,bex (nC k3 q3)⟩
   inj:=fun j j' b g1 g2 g3 g4=>by
    cases hj:hget H2' j with
    |none=>exact absurd hj g1
    | some blk=>
     cases hj':hget H2' j' with
     |none=>exact absurd hj' g2
     |some blk'=>
      obtain ⟨i,b1,k1,k2,_⟩:=hH' j blk hj
      obtain ⟨i',b1',k1',k2',_⟩:=hH' j' blk' hj'
      have hi:i=i':=rel.inj i i' b (by rw[k2];simp) (by rw[k2'];simp) (by simpa [k1] using g3) (by simpa [k1'] using g4)
      subst hi
      have m1:=(kA h1 h2).2 k1
      have m2:=(kA h1 h2).2 k1'
      rw[m1] at m2
      exact Option.some.inj m2
   imm:=rel.imm
   dom:=fun j b hb=>by
    cases hl:aG (dt lk) j with
    |none=>exact Nat.lt_of_lt_of_le (r.dom j b (by simpa only[hl] using hb)) ev.size
    |some i=>exact rel.dom i b (by simpa only[hl] using hb)
   glob:=fun g l hgl=>by
    obtain ⟨g1,g2⟩:=rel.glob g l hgl
    refine ⟨g1,fun j x hx=> ?_⟩
    obtain ⟨y,k1,k2⟩:=g2 j x hx
    exact ⟨y,k1,rep_closed k2 (kp (hg g l hgl) hx)⟩}
 ·exact rex (ko hV rep)
 ·intro j hj
  cases hl:aG (dt lk) j with
  |none=>exact .inl (by simpa only[hl] using hj)
  | some i=>
   simp only[hl] at hj
   rcases hnew i hj with h|h
   ·left
    intro h0
    have:=(kA h1 h2).2 hl
    exact h (by simp[this,h0])
   ·rcases hlo _ (gj ((kA h1 h2).2 hl)) with h'|h'
    ·exact absurd h.1 (by simpa using h')
    ·exact .inr h'
end
end Go.Proofs.Abs
/- Ends that are said in other words; closed answers of bodies; pointers of the caller's under other numbers. -/
namespace Go.Proofs.Abs
open Go
theorem GH {P:Program} {O:aT} {n:Nat} {A:aV} {f:FuncId} {args:List AV} {H:ab} {nx k:Nat} {v:AV} {H2:ab} {nx2:Nat} {Q:AV→ab→Nat→Prop} (B:cz P O n) (hA:cC P O A) (hl:fh P O.glob nx A f)
  (hQ:∀u h m,Q u h m→l9 k v H2 nx2 u h m) (h:aq P O n A f args H nx Q):BodySem P O.glob f args H nx v H2 nx2:=by
 obtain ⟨fn,c,hfn,hc,hname,hsz,hw⟩:=jp B hA hl h
 intro w I α vs r ha hf
 rw[Bool.and_eq_true,Nat.ble_eq,Nat.ble_eq,aC] at hsz
 refine ⟨?_, ?_⟩
 ·unfold callFunc
  simp only[Sem.run_bind,run_program,Result.andThen_ok,hfn,hname,hc,Bool.false_eq_true,if_false,Option.isNone_some,Sem.run_pure]
 ·refine calls_of_wp hfn hc ?_
  have hvs:args.length=vs.size:=by rw[ha.1];simp
  have hr0:CR O.glob w I α H nx [] ⟨cX args 0 .tip,H,nx,fn.ntmps⟩ {tmps:=vs++Array.replicate (fn.ntmps-vs.size) undef,defers:=[]} w:=
   ⟨⟨I,α,.refl,r,jf ha (by omega),fun i hi=>absurd hi (Nat.not_lt_zero i),hf,fun id h=> .inl h⟩,Nat.le_refl _,Nat.le_refl _,rfl,by simp;omega,hsz.2⟩
  refine wp_mono (hw.out w I α H [] _ w hf hr0) ?_
  rintro e a' w' ⟨x,s,rfl,hr,hx,l,hl,hq⟩
  obtain ⟨⟨I',α',h1,h2,h3,_,_,h6⟩,_,h8,h9,_,_⟩:=hr
  obtain ⟨u,e1,e2⟩:=jg (P:=P) (fn:=fn) h2 h3 hl
  have hp:dX O.glob w I α H nx (cW l) s.heap s.nx u w':=⟨⟨I',α',h1,h2,e2,h6⟩,h8⟩
  rcases hx with rfl|rfl<;>exact ⟨h9,u,e1,u,rfl,z1 hp (hQ _ _ _ hq)⟩
def EndC (r:AV) (nx2:Nat) (u:AV) (_:ab) (m:Nat):Prop:=Nat.ble m nx2=true∧u=r
theorem EndC.b {r v:AV} {nx2 k:Nat} (hc:ad r=true) (hw:Wk r v):∀u h m,EndC r nx2 u h m→l9 k v [] nx2 u h m:=fun _ _ _ h=>⟨h.1,⟨r,by rw[h.2];exact .closed r hc,hw⟩,trivial⟩
def EndF (r:AV) (k nx2:Nat) (u:AV) (h:ab) (m:Nat):Prop:=Nat.ble m nx2=true∧aH k h 40 u=some r
theorem EndF.b {r v:AV} {nx2 k:Nat} (hw:Wk r v):∀u h m,EndF r k nx2 u h m→l9 k v [] nx2 u h m:=fun _ _ _ h=>⟨h.1,⟨r,⟨40,h.2⟩,hw⟩,trivial⟩
end Go.Proofs.Abs
/- Calls whose answers are known by their arguments alone, others run as they stand. -/
namespace Go.Proofs.Abs
open Go
end Go.Proofs.Abs
/- A row that is written on, in a block of the caller's: under any numbers. -/
namespace Go.Proofs.Abs
open Go
end Go.Proofs.Abs
/- A step along a map of which less is known: whichever entry comes next. -/
namespace Go.Proofs.Abs
open Go
noncomputable section
section
variable (P:Program) (O:aT) (n:Nat) (A:aV)
end
section
variable {P:Program} {O:aT} {n:Nat} {A:aV} {nx0:Nat}
end
end
end Go.Proofs.Abs
/- Whatever comes; rows that are shortened; what a body leaves, said with less. -/
namespace Go.Proofs.Abs
open Go
def LessH (H H2:ab):Prop:=∀i b2,hget H2 i=some b2→∃b,hget H i=some b∧∀w I α b0,BRel w I α b0 b→BRel w I α b0 b2
theorem LessH.rel {G:aF} {w:World} {I:Nat→Prop} {α:Nat→Option Nat} {H H2:ab} (h:LessH H H2) (r:Rel G w I α H):Rel G w I α H2 where
 live id blk hb:=by
  obtain ⟨b,h1,h2⟩:=h id blk hb
  obtain ⟨b0,q1,q2,q3⟩:=r.live id b h1
  exact ⟨b0,q1,q2,h2 _ _ _ _ q3⟩
 inj id id' b h1 h2 h3 h4:=by
  have k:∀ {i},hget H2 i≠none→hget H i≠none:=fun {i} hi=>by
   cases e:hget H2 i with
   |none=>exact absurd e hi
   |some b2=>
    obtain ⟨b,q,_⟩:=h i b2 e
    rw[q];exact fun h=>by cases h
  exact r.inj id id' b (k h1) (k h2) h3 h4
 imm:=r.imm
 dom:=r.dom
 glob:=r.glob
theorem LessH.owned {α:Nat→Option Nat} {H H2:ab} (h:LessH H H2) {b:Nat} (ho:bD α H2 b):bD α H b:=by
 obtain ⟨id,h1,h2⟩:=ho
 refine ⟨id, ?_,h2⟩
 cases e:hget H2 id with
 |none=>exact absurd e h1
 |some b2=>
  obtain ⟨b,q,_⟩:=h id b2 e
  rw[q];exact fun h=>by cases h
theorem BodySem.less {P:Program} {G:aF} {f:FuncId} {args:List AV} {H H' H2:ab} {nx nx' nx2:Nat} {v v2:AV} (h:BodySem P G f args H nx v H' nx') (hl:LessH H' H2) (hv:Wk v v2) (hn:nx'≤nx2):BodySem P G f args H nx v2 H2 nx2:=by
 intro w I α vs r ha hf
 obtain ⟨h1,h2⟩:=h w I α vs r ha hf
 refine ⟨h1,h2.mono ?_⟩
 rintro e w' ⟨u,rfl,⟨I',α',ev,rel,rep,hnew⟩,hle⟩
 refine ⟨u,rfl,⟨I',α',⟨ev.os,ev.I_mono,ev.α_mono,ev.size,ev.frame,ev.shape,ev.Inew,fun b hb=>ev.own b (hl.owned hb)⟩,hl.rel rel,hv.out _ _ _ _ rep,fun id hid=> ?_⟩,Nat.le_trans hle hn⟩
 rcases hnew id hid with h|h
 ·exact .inl h
 ·exact .inr ⟨h.1,Nat.lt_of_lt_of_le h.2 hn⟩
theorem Says2.less {G:aF} {nx0:Nat} {s s2:St} (hs:s2.slots=s.slots) (hh:LessH s.heap s2.heap) (hnx:s2.nx=s.nx) (hn:s2.n=s.n):Says2 G nx0 s s2:=by
 intro w0 I0 α0 H0 D a w hα h
 obtain ⟨⟨I,α,ev,rel,hsl,h4,hf,hnew⟩,h7,h8,h9,h10,h11⟩:=h
 refine ⟨⟨I,α,⟨ev.os,ev.I_mono,ev.α_mono,ev.size,ev.frame,ev.shape,ev.Inew,fun b hb=>ev.own b (hh.owned hb)⟩,hh.rel rel, ?_,fun i hi=>absurd hi (Nat.not_lt_zero i),fun id hid=>hf id (by rw[←hnx];exact hid),fun id hid=> ?_⟩,Nat.le_refl _,by rw[hnx];exact h8,h9,by rw[hn];exact h10,by rw[hn];exact h11⟩
 ·rw[hs];exact hsl
 ·rw[hnx];exact hnew id hid
end Go.Proofs.Abs
/- Values that lead to low blocks alone: under any numbers above, a body's run is the same. -/
namespace Go.Proofs.Abs
open Go
mutual
def fv (m:Nat):AV→Bool
 | .ptr i _=>Nat.blt i m
 | .map i=>Nat.blt i m
 | .rsl _ i _ _ _=>Nat.blt i m
 | .fptr cs _=>fN m cs
 | .agg cs=>fN m cs
 | .fsl _ cs=>ae cs
 | .tuple cs=>ae cs
 | .func _ a b=>fN m a&&fN m b
 | .iface _ v=>fv m v
 |_=>true
def fN (m:Nat):List AV→Bool
 |[]=>true
 |a::t=>fv m a&&fN m t
end
mutual
theorem mc {m:Nat} {lk:List (Nat × Nat)} (hlk:∀i,i<m→aG lk i=some i):∀v:AV,fv m v=true→RenV lk v v
 | .ptr i _,hb=> .ptr _ _ _ (hlk i (blt_iff.1 hb))
 | .map i,hb=> .map _ _ (hlk i (blt_iff.1 hb))
 | .rsl _ i _ _ _,hb=> .rsl _ _ _ _ _ _ (hlk i (blt_iff.1 hb))
 | .fptr cs _,hb=> .fptrL _ rfl fun i x y hx hy=>by
  have h:=n9 hlk cs (by simpa [fv] using hb) i x hx
  rw[hx] at hy;cases hy;exact h
 | .agg cs,hb=> .aggL rfl fun i x y hx hy=>by
  have h:=n9 hlk cs (by simpa [fv] using hb) i x hx
  rw[hx] at hy;cases hy;exact h
 | .fsl f cs,hb=> .same _ (by simpa [fv,ad] using hb)
 | .tuple cs,hb=> .same _ (by simpa [fv,ad] using hb)
 | .func fn a b,hb=> .funcB fn a a b b rfl rfl (fun i x y hx hy=>by
  simp only[fv,Bool.and_eq_true] at hb
  have h:=n9 hlk a hb.1 i x hx
  rw[hx] at hy;cases hy;exact h) fun i x y hx hy=>by
  simp only[fv,Bool.and_eq_true] at hb
  have h:=n9 hlk b hb.2 i x hx
  rw[hx] at hy;cases hy;exact h
 | .iface t v,hb=> .iface t (mc hlk v (by simpa [fv] using hb))
 | .bool _,_=> .same _ rfl
 | .int _ _,_=> .same _ rfl
 | .str _,_=> .same _ rfl
 | .nilp,_=> .same _ rfl
 | .gptr _ _,_=> .same _ rfl
 | .nilsl,_=> .same _ rfl
 | .nesl,_=> .same _ rfl
 | .nilmap,_=> .same _ rfl
 | .nilFunc,_=> .same _ rfl
 | .nilIface,_=> .same _ rfl
theorem n9 {m:Nat} {lk:List (Nat × Nat)} (hlk:∀i,i<m→aG lk i=some i):∀l:List AV,fN m l=true→∀ (i:Nat) x,l[i]? =some x→RenV lk x x
 |[],_,i,x,hx=>by simp at hx
 |a::t,hb,0,x,hx=>by
  simp only[fN,Bool.and_eq_true] at hb
  simp only[List.getElem?_cons_zero,Option.some.injEq] at hx
  subst hx;exact mc hlk a hb.1
 |a::t,hb,i+1,x,hx=>by
  simp only[fN,Bool.and_eq_true] at hb
  exact n9 hlk t hb.2 i x (by simpa using hx)
end
theorem uO {m:Nat} {lk:List (Nat × Nat)} (hlk:∀i,i<m→aG lk i=some i):∀l:List AV,fN m l=true→RenL lk l l
 |[],_=>trivial
 |a::t,hb=>by
  simp only[fN,Bool.and_eq_true] at hb
  exact ⟨mc hlk a hb.1,uO hlk t hb.2⟩
def qf (m:Nat):List (AV × AV)→Bool
 |[]=>true
 |p::t=>fv m p.1&&(fv m p.2&&qf m t)
def uP (m:Nat):Blk→Bool
 | .cells l=>fN m l
 | .siter _ _=>true
 | .mapb _ _ es=>qf m es
 | .miter i _ _ _=>Nat.blt i m
theorem z2 {m:Nat} {lk:List (Nat × Nat)} (hlk:∀i,i<m→aG lk i=some i):∀l:List (AV × AV),qf m l=true→RenP lk l l
 |[],_=>trivial
 |a::t,hb=>by
  simp only[qf,Bool.and_eq_true] at hb
  exact ⟨mc hlk _ hb.1,mc hlk _ hb.2.1,z2 hlk t hb.2.2⟩
theorem z3 {m:Nat} {lk:List (Nat × Nat)} (hlk:∀i,i<m→aG lk i=some i):∀b:Blk,uP m b=true→gk lk b b
 | .cells l,hb=>uO hlk l hb
 | .siter _ _,_=>⟨rfl,rfl⟩
 | .mapb _ _ es,hb=>⟨rfl,rfl,z2 hlk es hb⟩
 | .miter i _ _ _,hb=>⟨rfl,rfl,rfl,hlk i (blt_iff.1 hb)⟩
def kB (m:Nat):ab→Bool
 |[]=>true
 |(i,some b)::t=>Nat.blt i m&&(uP m b&&kB m t)
 |(_,none)::t=>kB m t
theorem qg {m:Nat}:∀ {H:ab} {i:Nat} {b:Blk},kB m H=true→hget H i=some b→i<m∧uP m b=true
 |[],_,_,_,h=>by cases h
 | (j,some c)::t,i,b,hb,h=>by
  simp only[kB,Bool.and_eq_true] at hb
  simp only[hget] at h
  split at h
  ·rename_i e
   have e:=beq_iff.1 e
   subst e;cases h
   exact ⟨blt_iff.1 hb.1,hb.2.1⟩
  ·exact qg hb.2.2 h
 |(j,none)::t,i,b,hb,h=>by
  simp only[hget] at h
  split at h
  ·cases h
  ·exact qg (H:=t) (by simpa [kB] using hb) h
def gv (m:Nat):List (Nat × Nat):=(List.range m).map fun i=>(i,i)
theorem GI (m:Nat):(gv m).map (·.1)=List.range m:=by simp[gv,List.map_map,Function.comp_def]
theorem GJ (m:Nat):(gv m).map (·.2)=List.range m:=by simp[gv,List.map_map,Function.comp_def]
theorem GK {m:Nat} {p:Nat × Nat} (h:p∈gv m):p.1<m∧p.2=p.1:=by
 simp only[gv,List.mem_map,List.mem_range] at h
 obtain ⟨i,hi,rfl⟩:=h
 exact ⟨hi,rfl⟩
theorem BodySem.up {P:Program} {G:aF} {f:FuncId} {args:List AV} {v:AV} {H H':ab} {nx nx' nx2 m:Nat} (hg:∀g l,G g=some l→ae l=true) (h:BodySem P G f args H nx v H' nx') (hm:m≤nx) (ha:fN m args=true) (hH:kB m H=true) (hv:fv m v=true) (hH':kB m H'=true):BodySem P G f args H nx2 v H' nx2:=by
 have hn1:((gv m).map (·.1)).Nodup:=by rw[GI];exact List.nodup_range
 have hn2:((gv m).map (·.2)).Nodup:=by rw[GJ];exact List.nodup_range
 have l1:∀i,i<m→aG (gv m) i=some i:=fun i hi=>zx hn1 (by simp[gv,hi])
 have l2:∀i,i<m→aG (dt (gv m)) i=some i:=fun i hi=>(kA hn1 hn2).1 (l1 i hi)
 refine h.ren hg hn1 hn2 (fun p hp=> .inl (Nat.lt_of_lt_of_le (GK hp).1 hm)) (uO l1 args ha) (fun i b hi=> ?_) (mc l2 v hv) (fun j b hj=> ?_) (Nat.le_refl _)
 ·obtain ⟨q1,q2⟩:=qg hH hi
  exact ⟨i,b,l1 i q1,hi,z3 l1 b q2⟩
 ·obtain ⟨q1,q2⟩:=qg hH' hj
  exact ⟨j,b,l2 j q1,hj,z3 l2 b q2⟩
end Go.Proofs.Abs
/- Calls that read alone: what they see is not taken from the others of the region. -/
namespace Go.Proofs.Abs
open Go
end Go.Proofs.Abs
