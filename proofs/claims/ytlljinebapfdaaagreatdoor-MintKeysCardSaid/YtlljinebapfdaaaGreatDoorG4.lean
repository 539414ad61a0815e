import Derived.Test.YtlljinebapfdaaaGreatDoorG3
import Derived.Below
import Derived.OpenShut
import Derived.LaidMore
namespace Go.Proofs.Abs
open Go
noncomputable section
def pD:Option (AV × ab × Nat)→Bool
 |some (.bool b,_)=>b
 |_=>false
end
end Go.Proofs.Abs
/- Runs over values that are not known: where an operation hangs on them, its answer is handed in, and noted as a fact that is left to be shown. -/
namespace Go.Proofs.Abs
open Go
noncomputable section
inductive lG where
 |b (r:Bool)
 |v (r:AV)
 |c (r:AV)
 |h (l:List Blk)
 |e (e:Eff)
 |n (l:List (Nat × Nat × lG))
 |w (b:Blk) (v:Nat→AV)
 |r (i:Nat) (b b':Blk) (v:Nat→AV)
 |u (i:Nat) (b b':Blk) (v:AV)
inductive Fact where
 |beq (a b:Int) (r:Bool)
 |lt (a b:Int) (r:Bool)
 |seq (s t:List UInt8) (r:Bool)
 |gen (op:Op) (vs:List (Option AV)) (r:AV)
 |call (f:FuncId) (args:List AV) (r:AV)
 |blk (h:ab) (id:Nat) (b:Blk)
 |eff (op:Op) (vs:List (Option AV)) (e:Eff)
 |up (F:Fact)
 |fresh (f:FuncId) (args:List AV) (b:Blk) (v:Nat→AV)
 |repl (op:Op) (vs:List (Option AV)) (i:Nat) (b b':Blk) (v:Nat→AV)
 |updt (op:Op) (vs:List (Option AV)) (i:Nat) (b b':Blk) (v:AV)
def Fact.ok (P:Program) (O:aT):Fact→Nat→Prop
 | .beq a b r,_=>ah a b=r
 | .lt a b r,_=>au a b=r
 | .seq s t r,_=>ag s t=r
 | .gen op vs r,_=>∀ev,op.operands.toList.map ev=vs→∀o,o.op=op→a7 P O.glob ev o=some (.val r)
 | .call f args r,n=>∀id h nx,a8 P O n f args id h nx=some (r,h,nx,⟨false,[],[]⟩)
 | .blk h id b,_=>hget h id=some b
 | .eff op vs e,_=>∀ev,op.operands.toList.map ev=vs→∀o,o.op=op→a7 P O.glob ev o=some e
 | .up F,n=>match n with
  |0=>False
  |m+1=>Fact.ok P O F m
 | .fresh f args b v,n=>∀id h nx,a8 P O n f args id h nx=some (v id,aY h id b,nx,⟨false,[],[id]⟩)
 | .repl op vs i b b' v,_=>∀ev,op.operands.toList.map ev=vs→∀o,o.op=op→∃k,a7 P O.glob ev o=some (.repl i k)∧k b=some (b',v)
 | .updt op vs i b b' v,_=>∀ev,op.operands.toList.map ev=vs→∀o,o.op=op→∃k,a7 P O.glob ev o=some (.upd i k)∧k b=some (b',v)
def pE (P:Program) (O:aT) (n:Nat):List Fact→Prop
 |[]=>True
 |F::t=>F.ok P O n∧pE P O n t
def nA:BinOp→AV→AV→Bool→Option Fact
 | .eql,.int k a,.int k' b,r=>match decide (k=k') with
  |true=>some (.beq a b r)
  |false=>none
 | .neq,.int k a,.int k' b,r=>match decide (k=k') with
  |true=>some (.beq a b (!r))
  |false=>none
 | .lss,.int k a,.int k' b,r=>match decide (k=k') with
  |true=>some (.lt a b r)
  |false=>none
 | .leq,.int k a,.int k' b,r=>match decide (k=k') with
  |true=>some (.lt b a (!r))
  |false=>none
 | .gtr,.int k a,.int k' b,r=>match decide (k=k') with
  |true=>some (.lt b a r)
  |false=>none
 | .geq,.int k a,.int k' b,r=>match decide (k=k') with
  |true=>some (.lt a b (!r))
  |false=>none
 | .eql,.str a,.str b,r=>some (.seq a b r)
 | .neq,.str a,.str b,r=>some (.seq a b (!r))
 |_,_,_,_=>none
abbrev cI:=List (Nat × Nat × lG)
def hit (rid i:Nat):cI→Option (lG × cI)
 |(r,j,a)::t=>match Nat.beq r rid&&Nat.beq j i with
  |true=>some (a,t)
  |false=>none
 |[]=>none
def lH (call:aI) (id d:Nat) (e:Eff) (h:ab) (nx:Nat) (bs:List Blk):Option ((AV × ab × Nat × Foot) × List Fact):=
 match e,bs with
 | .upd i k,b::_=>match k b with
  |some (b',v)=>some ((v,aY h i b',nx,⟨false,[],[i]⟩),[.blk h i b])
  |none=>none
 | .repl i k,b::_=>match k b with
  |some (b',v)=>some ((v id,aY (aZ h i) id b',nx,⟨false,[],[i,id]⟩),[.blk h i b])
  |none=>none
 |e,_=>match aM call id d e h nx with
  |some r=>some (r,[])
  |none=>none
def lI (call:aI) (id:Nat):Nat→Eff→ab→Nat→List Blk→Option ((AV × ab × Nat × Foot) × List Fact)
 |0,e,h,nx,bs=>lH call id 0 e h nx bs
 | n+1,e,h,nx,bs=>match e,bs with
  | .read i k,b::bs=>match k b with
   |some e=>match lI call id n e h nx bs with
    |some ((v,h',nx',ft),F)=>some ((v,h',nx',⟨ft.all,i::ft.r,ft.w⟩),.blk h i b::F)
    |none=>none
   |none=>none
  |e,bs=>lH call id (n+1) e h nx bs
def lJ:Op→Bool
 | .buildSlice _ _ _=>false
 |_=>true
def lK:List Fact→List Fact
 |[]=>[]
 |F::t=> .up F::lK t
abbrev ib:=FuncId→List AV→ab→Nat→cI→Option (AV × ab × Nat × List Fact)
section
variable (P:Program) (O:aT) (n:Nat) (nest:ib)
def pF (ops:List Oper) (id:Nat) (o:Oper) (s:St) (a:lG):Option ((AV × ab × Nat × Foot) × List Fact):=
 match a with
 | .b r=>match o.op with
  | .binOp op _ x y _=>match aS s.slots x,aS s.slots y with
   |some v,some w=>match nA op v w r with
    |some F=>some ((.bool r,s.heap,s.nx,⟨false,[],[]⟩),[F])
    |none=>none
   |_,_=>none
  |_=>none
 | .v r=>match lJ o.op with
  |true=>some ((r,s.heap,s.nx,⟨false,[],[]⟩),[.gen o.op (o.op.operands.toList.map (aS s.slots)) r])
  |false=>none
 | .c r=>match bE P O.glob ops (aS s.slots) o with
  |some (.call f args)=>some ((r,s.heap,s.nx,⟨false,[],[]⟩),[.call f args r])
  |_=>none
 | .h l=>match bE P O.glob ops (aS s.slots) o with
  |some e=>lI (a8 P O n) id 2 e s.heap s.nx l
  |none=>none
 | .e e=>match lJ o.op with
  |true=>match aM (a8 P O n) id 2 e s.heap s.nx with
   |some r=>some (r,[.eff o.op (o.op.operands.toList.map (aS s.slots)) e])
   |none=>none
  |false=>none
 | .w b v=>match bE P O.glob ops (aS s.slots) o with
  |some (.call f args)=>some ((v id,aY s.heap id b,s.nx,⟨false,[],[id]⟩),[.fresh f args b v])
  |_=>none
 | .r i b b' v=>match lJ o.op with
  |true=>some ((v id,aY (aZ s.heap i) id b',s.nx,⟨false,[],[i,id]⟩),[.blk s.heap i b,.repl o.op (o.op.operands.toList.map (aS s.slots)) i b b' v])
  |false=>none
 | .u i b b' v=>match lJ o.op with
  |true=>some ((v,aY s.heap i b',s.nx,⟨false,[],[i]⟩),[.blk s.heap i b,.updt o.op (o.op.operands.toList.map (aS s.slots)) i b b' v])
  |false=>none
 | .n T=>match bE P O.glob ops (aS s.slots) o with
  | some (.call f args)=>match O.how f,ae args with
   | .pure,true=>none
   | .fresh,true=>match nest f args [] 0 T with
    |some (v,h',_,F)=>match fH h' v id s.heap s.nx with
     |some r=>some (r,lK F)
     |none=>none
    |none=>none
   | .pure,false=>match nest f args s.heap s.nx T with
    |some (v,h',nx',F)=>match aH s.nx h' 40 v with
     |some v'=>some ((v',fa s.nx h',nx',⟨true,[],[]⟩),lK F)
     |none=>none
    |none=>none
   | .keep,_=>match nest f args s.heap s.nx T with
    |some (v,h',nx',F)=>some ((v,h',nx',⟨true,[],[]⟩),lK F)
    |none=>none
   | .fresh,false=>match nest f args s.heap s.nx T with
    |some (v,h',nx',F)=>some ((v,h',nx',⟨true,[],[]⟩),lK F)
    |none=>none
   |_,_=>none
  |_=>none
def ic (rid:Nat) (all:List Oper) (base:Nat):List Oper→Nat→St→List (Nat × Foot)→cI→List Fact→Option (St × List (Nat × Foot) × cI × List Fact)
 |[],_,s,acc,T,F=>some (s,acc,T,F)
 | o::rest,i,s,acc,T,F=>match hit rid i T with
  |none=>match cQ P O.glob (a8 P O n) all (base+i) o s with
   |some (s',ft)=>ic rid all base rest (i+1) s' (match ft.none with|true=>acc|false=>(i,ft)::acc) T F
   |none=>none
  | some (a,T')=>match cw all o s.slots with
   |some true=>match pF P O n nest all (base+i) o s a with
    |some ((v,h,nx,ft),F')=>ic rid all base rest (i+1) ⟨bM s.n s.slots o.dst v,h,nx,s.n⟩ (match ft.none with|true=>acc|false=>(i,ft)::acc) T' (F'++F)
    |none=>none
   |_=>none
abbrev lL:=Option (AExit × St × cI × List Fact)
def jk (body:St→cI→List Fact→lL):Nat→St→cI→List Fact→lL
 |0,_,_,_=>none
 |n+1,s,T,F=>match body s T F with
  |some (.normal,s',T',F')=>jk body n s' T' F'
  |r=>r
def bN (lf:Nat):Code→St→cI→List Fact→lL
 | .skip,s,T,F| .label _,s,T,F=>some (.normal,s,T,F)
 | .region rid ops draw,s,T,F=>
  match ic P O n nest rid ops.toList s.nx ops.toList 0 ⟨s.slots,s.heap,s.nx+ac ops.toList,s.n⟩ [] T F with
  | some (s',feet,T',F')=>match draw with
   |false=>some (.normal,s',T',F')
   |true=>match g9 ops.toList&&gK (dq ops.toList []) feet with
    |true=>some (.normal,s',T',F')
    |false=>none
  |none=>none
 | .seq a b,s,T,F=>match bN lf a s T F with
  |some (.normal,s',T',F')=>bN lf b s' T' F'
  |r=>r
 | .cond c a b,s,T,F=>match aS s.slots c with
  |some (.bool true)=>bN lf a s T F
  |some (.bool false)=>bN lf b s T F
  |_=>none
 | .block id body,s,T,F=>match bN lf body s T F with
  |some (.exit i,s',T',F')=>match Nat.beq i id with
   |true=>some (.normal,s',T',F')
   |false=>some (.exit i,s',T',F')
  |r=>r
 | .loop body,s,T,F=>jk (bN lf body) lf s T F
 | .exit id,s,T,F=>some (.exit id,s,T,F)
 | .ret,s,T,F=>some (.ret,s,T,F)
 |_,_,_,_=>none
def tp (f:FuncId) (args:List AV) (h:ab) (nx:Nat) (T:cI):Option (AV × ab × Nat × List Fact):=
  match P.funcs[f]? with
  | some fn=>match fn.body with
    | some c=>match fn.name== "runtime.NumGoroutine" with
      |true=>none
      | false=>match Nat.ble (ac args) fn.ntmps&&Nat.ble fn.ntmps 4095 with
       |false=>none
       |true=>match bN P O n nest O.lf c ⟨cX args 0 .tip,h,nx,fn.ntmps⟩ T [] with
        | some (.normal,s,_,F)|some (.ret,s,_,F)=>match db P O.glob s fn.results.toList with
          |some l=>some (cW l,s.heap,s.nx,F)
          |none=>none
        |_=>none
    |none=>none
  |none=>none
end
def pG (P:Program) (O:aT):Nat→ib
 |0=>fun _ _ _ _ _=>none
 |n+1=>tp P O n (pG P O n)
end
section
variable {P:Program} {O:aT} {n:Nat} {nest:ib}
theorem EY {op:BinOp} {t:TypeId} {xo yo:Operand} {x y:AV} {r:Bool} {F:Fact} (h:nA op x y r=some F) (hF:F.ok P O n):aU P op t xo yo x y=some (.bool r):=by
  unfold nA at h
  split at h<;>first
    |(cases h;done)
    | (split at h
       · rename_i hk
         have hk:=of_decide_eq_true hk
         subst hk
         simp only[Option.some.injEq] at h;subst h
         simp only[Fact.ok] at hF
         simp[aU,hF]
       · cases h)
    | (simp only[Option.some.injEq] at h;subst h
       simp only[Fact.ok] at hF
       simp[aU,hF])
theorem yF {id d:Nat} {e:Eff} {h:ab} {nx:Nat} {bs:List Blk} {r:AV × ab × Nat × Foot} {F:List Fact} (hr:lH (a8 P O n) id d e h nx bs=some (r,F)) (hF:pE P O n F):aM (a8 P O n) id d e h nx=some r:=by
 unfold lH at hr
 split at hr
 ·split at hr
  ·rename_i b' v hk
   simp only[Option.some.injEq,Prod.mk.injEq] at hr
   obtain ⟨rfl,rfl⟩:=hr
   have hb:=hF.1
   simp only[Fact.ok] at hb
   cases d<;>simp only[aM,hb,hk]
  ·cases hr
 ·split at hr
  ·rename_i b' v hk
   simp only[Option.some.injEq,Prod.mk.injEq] at hr
   obtain ⟨rfl,rfl⟩:=hr
   have hb:=hF.1
   simp only[Fact.ok] at hb
   cases d<;>simp only[aM,hb,hk]
  ·cases hr
 ·split at hr
  ·rename_i r' hr'
   simp only[Option.some.injEq,Prod.mk.injEq] at hr
   obtain ⟨rfl,rfl⟩:=hr
   exact hr'
  ·cases hr
theorem yG {id:Nat}:∀ (d:Nat) (e:Eff) {h:ab} {nx:Nat} {bs:List Blk} {r:AV × ab × Nat × Foot} {F:List Fact},lI (a8 P O n) id d e h nx bs=some (r,F)→pE P O n F→aM (a8 P O n) id d e h nx=some r
 |0,_,_,_,_,_,_,hr,hF=>yF hr hF
 | d +1,e,h,nx,bs,r,F,hr,hF=>by
  unfold lI at hr
  split at hr
  ·split at hr
   ·rename_i e' hk
    split at hr
    ·rename_i v h' nx' ft F' hr'
     simp only[Option.some.injEq,Prod.mk.injEq] at hr
     obtain ⟨rfl,rfl⟩:=hr
     have hb:=hF.1
     simp only[Fact.ok] at hb
     have:=yG d e' hr' hF.2
     simp only[aM,hb,hk,this]
    ·cases hr
   ·cases hr
  ·exact yF hr hF
end
end Go.Proofs.Abs
/- A law with arguments; tables that lie ready. -/
namespace Go.Proofs.Abs
open Go
theorem EZ {G:aF} {w:World} (h:∀g l,G g=some l→g<w.heap.size∧∀ (j:Nat) x,l[j]? =some x→∃y,w.cell? ⟨g,j,none⟩=some y∧Rep w (fun b=>b<w.heap.size) (fun _=>none) x y):
  Rel G w (fun b=>b<w.heap.size) (fun _=>none) [] where
 live id blk h:=by simp[hget] at h
 inj id id' b h:=absurd rfl h
 imm b h:=h
 dom id b h:=by simp at h
 glob g l hg:=h g l hg
end Go.Proofs.Abs
/- What a run with answers means, where the facts about calls are facts of the model: no fuel, any proof. -/
namespace Go.Proofs.Abs
open Go
structure yH (P:Program) (G:aF) (f:FuncId) (args:List AV) (b:Blk) (v:Nat→AV):Prop where
 out:∀w I α H rid nx (vs:Array Value),Rel G w I α H→RepL w I α args vs.toList→α rid=none→rid<nx→(∀id,nx≤id→α id=none)→dK P (Post G w I α H rid nx (v rid) (aY H rid b) nx) ((callFunc f vs).run P w)
def BodySem (P:Program) (G:aF) (f:FuncId) (args:List AV) (H:ab) (nx:Nat) (v:AV) (H':ab) (nx':Nat):Prop:=
 ∀w I α (vs:Array Value),Rel G w I α H→RepL w I α args vs.toList→(∀id,nx≤id→α id=none)→
  (callFunc f vs).run P w= .ok (.enter f vs) w∧Calls P f vs w fun e w'=>∃u,e= .returned u∧dX G w I α H nx v H' nx' u w'
def Fact.sem (P:Program) (O:aT):Fact→Prop
 | .beq a b r=>ah a b=r
 | .lt a b r=>au a b=r
 | .seq s t r=>ag s t=r
 | .gen op vs r=>∀ev,op.operands.toList.map ev=vs→∀o,o.op=op→a7 P O.glob ev o=some (.val r)
 | .call f args r=>SemCall P O.glob f args r
 | .blk h id b=>hget h id=some b
 | .eff op vs e=>∀ev,op.operands.toList.map ev=vs→∀o,o.op=op→a7 P O.glob ev o=some e
 | .up F=>Fact.sem P O F
 | .fresh f args b v=>yH P O.glob f args b v
 | .repl op vs i b b' v=>∀ev,op.operands.toList.map ev=vs→∀o,o.op=op→∃k,a7 P O.glob ev o=some (.repl i k)∧k b=some (b',v)
 | .updt op vs i b b' v=>∀ev,op.operands.toList.map ev=vs→∀o,o.op=op→∃k,a7 P O.glob ev o=some (.upd i k)∧k b=some (b',v)
def dx (P:Program) (O:aT):List Fact→Prop
 |[]=>True
 |F::t=>F.sem P O∧dx P O t
def Fact.plain:Fact→Bool
 | .call _ _ _| .up _| .fresh _ _ _ _=>false
 |_=>true
section
variable {P:Program} {O:aT}
theorem factsSem_append:∀ {a b:List Fact},dx P O (a++b)↔dx P O a∧dx P O b
 |[],b=>by simp[dx]
 |F::t,b=>by simp only[List.cons_append,dx,factsSem_append (a:=t)];exact and_assoc.symm
theorem nB:∀ {F:List Fact},dx P O (lK F)→dx P O F
 |[],_=>trivial
 |_::_,h=>⟨h.1,nB h.2⟩
theorem tq {n:Nat}:∀ {l:List Fact},(∀F∈l,F.plain=true)→dx P O l→pE P O n l
 |[],_,_=>trivial
 |F::t,hp,h=>by
  refine ⟨?_,tq (fun G hG=>hp G (by simp[hG])) h.2⟩
  have h1:=hp F (by simp)
  have h2:=h.1
  cases F<;>first|(simp[Fact.plain] at h1;done)|exact h2
theorem E0 {op:BinOp} {x y:AV} {r:Bool} {F:Fact} (h:nA op x y r=some F):F.plain=true:=by
 unfold nA at h
 split at h<;>first
  |(cases h;done)
  |(split at h<;>first|(cases h;done)|(simp only[Option.some.injEq] at h;subst h;rfl))
  |(simp only[Option.some.injEq] at h;subst h;rfl)
theorem yI {call:aI} {id d:Nat} {e:Eff} {h:ab} {nx:Nat} {bs:List Blk} {r:AV × ab × Nat × Foot} {F:List Fact} (hr:lH call id d e h nx bs=some (r,F)):∀X∈F,X.plain=true:=by
 unfold lH at hr
 split at hr
 ·split at hr
  ·simp only[Option.some.injEq,Prod.mk.injEq] at hr
   obtain ⟨_,rfl⟩:=hr
   simp[Fact.plain]
  ·cases hr
 ·split at hr
  ·simp only[Option.some.injEq,Prod.mk.injEq] at hr
   obtain ⟨_,rfl⟩:=hr
   simp[Fact.plain]
  ·cases hr
 ·split at hr
  ·simp only[Option.some.injEq,Prod.mk.injEq] at hr
   obtain ⟨_,rfl⟩:=hr
   simp
  ·cases hr
theorem yJ {call:aI} {id:Nat}:∀ (d:Nat) (e:Eff) {h:ab} {nx:Nat} {bs:List Blk} {r:AV × ab × Nat × Foot} {F:List Fact},lI call id d e h nx bs=some (r,F)→∀X∈F,X.plain=true
 |0,_,_,_,_,_,_,hr=>yI hr
 | d +1,e,h,nx,bs,r,F,hr=>by
  unfold lI at hr
  split at hr
  ·split at hr
   ·rename_i e' hk
    split at hr
    ·rename_i v h' nx' ft F' hr'
     simp only[Option.some.injEq,Prod.mk.injEq] at hr
     obtain ⟨_,rfl⟩:=hr
     intro X hX
     rcases List.mem_cons.1 hX with rfl|hX
     ·rfl
     ·exact yJ d e' hr' X hX
    ·cases hr
   ·cases hr
  ·exact yI hr
open Classical in
noncomputable def jl (f0:FuncId) (args0:List AV) (r:AV):aI:=fun f args _ h nx=>if f=f0∧args=args0 then some (r,h,nx,⟨false,[],[]⟩) else none
open Classical in
noncomputable def kl (f0:FuncId) (args0:List AV) (h':ab) (v:AV):aI:=fun f args id h nx=>if f=f0∧args=args0 then fH h' v id h nx else none
open Classical in
noncomputable def gR (f0:FuncId) (args0:List AV) (h0:ab) (nx0:Nat) (r:AV × ab × Nat):aI:=fun f args _ h nx=>if f=f0∧args=args0∧h=h0∧nx=nx0 then some (r.1,r.2.1,r.2.2,⟨true,[],[]⟩) else none
theorem tr {G:aF} {f0:FuncId} {args0:List AV} {r:AV} (h:SemCall P G f0 args0 r):bo P G (jl f0 args0 r)∧bp (jl f0 args0 r):=by
 constructor
 ·intro f args rid H nx v H' nx' ft hc w I α vs hr ha hrid hlt hf
  unfold jl at hc
  split at hc
  ·rename_i he
   obtain ⟨rfl,rfl⟩:=he
   simp only[Option.some.injEq,Prod.mk.injEq] at hc
   obtain ⟨rfl,rfl,rfl,rfl⟩:=hc
   exact h.out w I α _ rid _ vs hr ha hrid hlt hf
  ·cases hc
 ·intro f args id hp nx v h' nx' ft hc
  unfold jl at hc
  split at hc
  ·rename_i he
   simp only[Option.some.injEq,Prod.mk.injEq] at hc
   obtain ⟨rfl,rfl,rfl,rfl⟩:=hc
   exact .one rfl ⟨rfl,[],rfl,by simp,fun h2 nx2 _=>by unfold jl;rw[if_pos he];rfl⟩
  ·cases hc
open Classical in
noncomputable def lM (f0:FuncId) (args0:List AV) (b:Blk) (v:Nat→AV):aI:=fun f args id h nx=>if f=f0∧args=args0 then some (v id,aY h id b,nx,⟨false,[],[id]⟩) else none
theorem E1 {G:aF} {f0:FuncId} {args0:List AV} {b:Blk} {v0:Nat→AV} (h:yH P G f0 args0 b v0):bo P G (lM f0 args0 b v0)∧bp (lM f0 args0 b v0):=by
 constructor
 ·intro f args rid H nx v H' nx' ft hc w I α vs hr ha hrid hlt hf
  unfold lM at hc
  split at hc
  ·rename_i he
   obtain ⟨rfl,rfl⟩:=he
   simp only[Option.some.injEq,Prod.mk.injEq] at hc
   obtain ⟨rfl,rfl,rfl,rfl⟩:=hc
   exact h.out w I α _ rid _ vs hr ha hrid hlt hf
  ·cases hc
 ·intro f args id hp nx v h' nx' ft hc
  unfold lM at hc
  split at hc
  ·rename_i he
   simp only[Option.some.injEq,Prod.mk.injEq] at hc
   obtain ⟨rfl,rfl,rfl,rfl⟩:=hc
   exact .one rfl ⟨rfl,[(id,some b)],rfl,by simp,fun h2 nx2 _=>by unfold lM;rw[if_pos he];rfl⟩
  ·cases hc
theorem ts {G:aF} {f0:FuncId} {args0:List AV} {h0:ab} {nx0:Nat} {r:AV × ab × Nat}
  (h:∀w I α rid (vs:Array Value),Rel G w I α h0→RepL w I α args0 vs.toList→α rid=none→rid<nx0→(∀id,nx0≤id→α id=none)→dK P (Post G w I α h0 rid nx0 r.1 r.2.1 r.2.2) ((callFunc f0 vs).run P w)):
  bo P G (gR f0 args0 h0 nx0 r)∧bp (gR f0 args0 h0 nx0 r):=by
 constructor
 ·intro f args rid H nx v H' nx' ft hc w I α vs hr ha hrid hlt hf
  unfold gR at hc
  split at hc
  ·rename_i he
   obtain ⟨rfl,rfl,rfl,rfl⟩:=he
   simp only[Option.some.injEq,Prod.mk.injEq] at hc
   obtain ⟨rfl,rfl,rfl,rfl⟩:=hc
   exact h w I α rid vs hr ha hrid hlt hf
  ·cases hc
 ·intro f args id hp nx v h' nx' ft hc
  unfold gR at hc
  split at hc
  ·simp only[Option.some.injEq,Prod.mk.injEq] at hc
   obtain ⟨rfl,rfl,rfl,rfl⟩:=hc
   exact .any rfl rfl
  ·cases hc
theorem E2 {f0:FuncId} {args0:List AV} {h':ab} {m:Nat} {v:AV} (hg:∀g l,O.glob g=some l→ae l=true) (hc0:ae args0=true) (h:BodySem P O.glob f0 args0 [] 0 v h' m):
  bo P O.glob (kl f0 args0 h' v)∧bp (kl f0 args0 h' v):=by
 constructor
 ·intro f args rid H nx v1 H' nx' ft hc w I α vs hr ha hrid hlt hf
  unfold kl at hc
  split at hc
  ·rename_i he
   obtain ⟨rfl,rfl⟩:=he
   obtain ⟨e1,e2⟩:=h w I (fun _=>none) vs (ji hg hr) (gP ha hc0) (fun _ _=>rfl)
   rw[e1]
   refine Calls.mono e2 ?_
   rintro e w' ⟨u,rfl,hp⟩
   exact ⟨u,rfl,yu hr hrid hp hc⟩
  ·cases hc
 ·intro f args id hp nx v1 h1 nx' ft hc
  unfold kl at hc
  split at hc
  ·rename_i he
   obtain ⟨l1,l2⟩:=yv hc
   exact ⟨fun hall=>by
    obtain ⟨e1,md,e2,e3,e4⟩:=l1 hall
    exact ⟨e1,md,e2,e3,fun h2 nx2 hk hx=>by unfold kl;rw[if_pos he];exact e4 h2 nx2 hk hx⟩,fun hall k l hw=>by
    obtain ⟨e1,e0,md,e2,e3,e4⟩:=l2 hall k l hw
    exact ⟨e1,e0,md,e2,e3,fun h2 hk=>by unfold kl;rw[if_pos he];exact e4 h2 hk⟩⟩
  ·cases hc
def km (P:Program) (O:aT) (nest:ib):Prop:=∀f args h nx T v h' nx' F,nest f args h nx T=some (v,h',nx',F)→dx P O F→BodySem P O.glob f args h nx v h' nx'
theorem yK {n:Nat} {nest:ib} (hb:bo P O.glob (a8 P O n)∧bp (a8 P O n)) (hg:∀g l,O.glob g=some l→ae l=true) (hn:km P O nest) {ops:List Oper} {id:Nat} {o:Oper} {s:St} {a:lG} {v:AV} {h:ab} {nx:Nat} {ft:Foot} {F:List Fact}
  (hw:cw ops o s.slots=some true) (ha:pF P O n nest ops id o s a=some ((v,h,nx,ft),F)) (hF:dx P O F):
  ∃call,(bo P O.glob call∧bp call)∧cQ P O.glob call ops id o s=some (⟨bM s.n s.slots o.dst v,h,nx,s.n⟩,ft):=by
 have fin:∀ {call:aI} {e:Eff},bE P O.glob ops (aS s.slots) o=some e→aM call id 2 e s.heap s.nx=some (v,h,nx,ft)→cQ P O.glob call ops id o s=some (⟨bM s.n s.slots o.dst v,h,nx,s.n⟩,ft):=fun h1 h2=>by
  unfold cQ
  simp only[hw,h1,h2]
 have notB:lJ o.op=true→bE P O.glob ops (aS s.slots) o=a7 P O.glob (aS s.slots) o:=fun hn=>by
  unfold bE
  split
  ·rename_i ho _;rw[ho] at hn;cases hn
  ·rfl
 have lift:∀ {f:FuncId} {args:List AV} {call:aI} {r:AV × ab × Nat × Foot},call f args id s.heap s.nx=some r→aM call id 2 (.call f args) s.heap s.nx=some r:=fun h=>by simpa [aM] using h
 unfold pF at ha
 split at ha
 ·rename_i r
  split at ha
  ·rename_i op t x y t' ho
   split at ha
   ·rename_i u w hu hw'
    split at ha
    ·rename_i Fc hc
     simp only[Option.some.injEq,Prod.mk.injEq] at ha
     obtain ⟨⟨rfl,rfl,rfl,rfl⟩,rfl⟩:=ha
     refine ⟨_,hb,fin (e:= .val (.bool r)) ?_ rfl⟩
     have hok:=(tq (n:=n) (l:=[Fc]) (by simp[E0 hc]) hF).1
     rw[notB (by rw[ho];rfl)]
     simp only[a7,ho,e2,hu,hw',EY (P:=P) hc hok,bz]
    ·cases ha
   ·cases ha
  ·cases ha
 ·rename_i r
  split at ha
  ·rename_i hnr
   simp only[Option.some.injEq,Prod.mk.injEq] at ha
   obtain ⟨⟨rfl,rfl,rfl,rfl⟩,rfl⟩:=ha
   refine ⟨_,hb,fin (e:= .val r) ?_ rfl⟩
   rw[notB hnr]
   exact hF.1 (aS s.slots) rfl o rfl
  ·cases ha
 ·rename_i r
  split at ha
  ·rename_i f args he
   simp only[Option.some.injEq,Prod.mk.injEq] at ha
   obtain ⟨⟨rfl,rfl,rfl,rfl⟩,rfl⟩:=ha
   exact ⟨_,tr hF.1,fin he (lift (by unfold jl;rw[if_pos ⟨rfl,rfl⟩]))⟩
  ·cases ha
 ·rename_i l
  split at ha
  ·rename_i e he
   exact ⟨_,hb,fin he (yG 2 e ha (tq (yJ 2 e ha) hF))⟩
  ·cases ha
 ·rename_i e
  split at ha
  ·rename_i hnr
   split at ha
   ·rename_i r hr
    simp only[Option.some.injEq,Prod.mk.injEq] at ha
    obtain ⟨rfl,rfl⟩:=ha
    refine ⟨_,hb,fin (e:=e) ?_ hr⟩
    rw[notB hnr]
    exact hF.1 (aS s.slots) rfl o rfl
   ·cases ha
  ·cases ha
 ·rename_i b vv
  split at ha
  ·rename_i f args he
   simp only[Option.some.injEq,Prod.mk.injEq] at ha
   obtain ⟨⟨rfl,rfl,rfl,rfl⟩,rfl⟩:=ha
   exact ⟨_,E1 hF.1,fin he (lift (by unfold lM;rw[if_pos ⟨rfl,rfl⟩]))⟩
  ·cases ha
 ·rename_i i b b' vv
  split at ha
  ·rename_i hnr
   simp only[Option.some.injEq,Prod.mk.injEq] at ha
   obtain ⟨⟨rfl,rfl,rfl,rfl⟩,rfl⟩:=ha
   obtain ⟨k,h1,h2⟩:=hF.2.1 (aS s.slots) rfl o rfl
   have hbk:hget s.heap i=some b:=hF.1
   refine ⟨_,hb,fin (e:= .repl i k) ?_ (by simp only[aM,hbk,h2])⟩
   rw[notB hnr];exact h1
  ·cases ha
 ·rename_i i b b' vv
  split at ha
  ·rename_i hnr
   simp only[Option.some.injEq,Prod.mk.injEq] at ha
   obtain ⟨⟨rfl,rfl,rfl,rfl⟩,rfl⟩:=ha
   obtain ⟨k,h1,h2⟩:=hF.2.1 (aS s.slots) rfl o rfl
   have hbk:hget s.heap i=some b:=hF.1
   refine ⟨_,hb,fin (e:= .upd i k) ?_ (by simp only[aM,hbk,h2])⟩
   rw[notB hnr];exact h1
  ·cases ha
 ·rename_i T
  split at ha
  ·rename_i f args he
   split at ha
   ·cases ha
   ·rename_i hh hc
    split at ha
    ·rename_i v0 h0 nx0 F0 hnest
     split at ha
     ·rename_i r hi
      simp only[Option.some.injEq,Prod.mk.injEq] at ha
      obtain ⟨rfl,rfl⟩:=ha
      exact ⟨_,E2 hg hc (hn _ _ _ _ _ _ _ _ _ hnest (nB hF)),fin he (lift (by unfold kl;rw[if_pos ⟨rfl,rfl⟩];exact hi))⟩
     ·cases ha
    ·cases ha
   ·rename_i hh hc
    split at ha
    ·rename_i v0 h0 nx0 F0 hnest
     split at ha
     ·rename_i v1 hfz
      simp only[Option.some.injEq,Prod.mk.injEq] at ha
      obtain ⟨⟨rfl,rfl,rfl,rfl⟩,rfl⟩:=ha
      have hbs:=hn _ _ _ _ _ _ _ _ _ hnest (nB hF)
      refine ⟨gR f args s.heap s.nx (v1,fa s.nx h0,nx0),ts fun w I α rid vs hr hra hrid hlt hf=> ?_,fin he (lift (by unfold gR;rw[if_pos ⟨rfl,rfl,rfl,rfl⟩]))⟩
      obtain ⟨e1,e2⟩:=hbs w I α vs hr hra hf
      rw[e1]
      refine Calls.mono e2 ?_
      rintro e w' ⟨u,rfl,hp⟩
      exact ⟨u,rfl,yt hp hfz⟩
     ·cases ha
    ·cases ha
   ·split at ha
    ·rename_i v0 h0 nx0 F0 hnest
     simp only[Option.some.injEq,Prod.mk.injEq] at ha
     obtain ⟨⟨rfl,rfl,rfl,rfl⟩,rfl⟩:=ha
     have hbs:=hn _ _ _ _ _ _ _ _ _ hnest (nB hF)
     refine ⟨gR f args s.heap s.nx (v0,h0,nx0),ts fun w I α rid vs hr hra hrid hlt hf=> ?_,fin he (lift (by unfold gR;rw[if_pos ⟨rfl,rfl,rfl,rfl⟩]))⟩
     obtain ⟨e1,e2⟩:=hbs w I α vs hr hra hf
     rw[e1]
     refine Calls.mono e2 ?_
     rintro e w' ⟨u,rfl,hp⟩
     exact ⟨u,rfl,tg hp⟩
    ·cases ha
   ·split at ha
    ·rename_i v0 h0 nx0 F0 hnest
     simp only[Option.some.injEq,Prod.mk.injEq] at ha
     obtain ⟨⟨rfl,rfl,rfl,rfl⟩,rfl⟩:=ha
     have hbs:=hn _ _ _ _ _ _ _ _ _ hnest (nB hF)
     refine ⟨gR f args s.heap s.nx (v0,h0,nx0),ts fun w I α rid vs hr hra hrid hlt hf=> ?_,fin he (lift (by unfold gR;rw[if_pos ⟨rfl,rfl,rfl,rfl⟩]))⟩
     obtain ⟨e1,e2⟩:=hbs w I α vs hr hra hf
     rw[e1]
     refine Calls.mono e2 ?_
     rintro e w' ⟨u,rfl,hp⟩
     exact ⟨u,rfl,tg hp⟩
    ·cases ha
   ·cases ha
  ·cases ha
theorem tt {call call':aI} {ops:List Oper} {id:Nat} {o:Oper} {s:St} (h:∀f args hp nx,call f args id hp nx=call' f args id hp nx):cQ P O.glob call ops id o s=cQ P O.glob call' ops id o s:=by
 have he:∀ (d:Nat) (e:Eff) hp nx,aM call id d e hp nx=aM call' id d e hp nx:=by
  intro d
  induction d with
  |zero=>intro e hp nx;cases e<;>simp[aM,h]
  |succ d ih=>
   intro e hp nx
   cases e with
   |read i k=>simp only[aM,ih]
   |call f args=>simp[aM,h]
   |_=>simp[aM]
 unfold cQ
 simp only[he]
theorem tu {call call':aI} {all:List Oper} {base:Nat}:∀ (rest:List Oper) (i:Nat) (s:St) (acc:List (Nat × Foot)),(∀f args id hp nx,base+i≤id→call f args id hp nx=call' f args id hp nx)→
  cH P O.glob call all base rest i s acc=cH P O.glob call' all base rest i s acc
 |[],_,_,_,_=>rfl
 |o::rest,i,s,acc,h=>by
  simp only[cH]
  rw[tt (call':=call') (fun f args hp nx=>h f args _ hp nx (Nat.le_refl _))]
  split
  ·exact tu rest (i+1) _ _ fun f args id hp nx hid=>h f args id hp nx (by omega)
  ·rfl
open Classical in
noncomputable def fg (k:Nat) (c1 c2:aI):aI:=fun f args id h nx=>if id=k then c1 f args id h nx else c2 f args id h nx
theorem yL {G:aF} {k:Nat} {c1 c2:aI} (h1:bo P G c1∧bp c1) (h2:bo P G c2∧bp c2):bo P G (fg k c1 c2)∧bp (fg k c1 c2):=by
 constructor
 ·intro f args rid H nx v H' nx' ft hc
  unfold fg at hc
  split at hc
  ·exact h1.1 f args rid H nx v H' nx' ft hc
  ·exact h2.1 f args rid H nx v H' nx' ft hc
 ·intro f args id h nx v h' nx' ft hc
  by_cases hk:id=k
  ·have e:fg k c1 c2 f args id=c1 f args id:=by funext h nx;unfold fg;rw[if_pos hk]
   rw[e] at hc⊢
   exact h1.2 f args id h nx v h' nx' ft hc
  ·have e:fg k c1 c2 f args id=c2 f args id:=by funext h nx;unfold fg;rw[if_neg hk]
   rw[e] at hc⊢
   exact h2.2 f args id h nx v h' nx' ft hc
theorem runOpsT_sem {n:Nat} {nest:ib} (hb:bo P O.glob (a8 P O n)∧bp (a8 P O n)) (hg:∀g l,O.glob g=some l→ae l=true) (hn:km P O nest) {rid:Nat} {all:List Oper} {base:Nat}:
    ∀ (rest:List Oper) (i:Nat) (s:St) (acc:List (Nat × Foot)) (T:cI) (F:List Fact) {s':St} {feet:List (Nat × Foot)} {T':cI} {F':List Fact},
    ic P O n nest rid all base rest i s acc T F=some (s',feet,T',F')→dx P O F'→∃call,(bo P O.glob call∧bp call)∧cH P O.glob call all base rest i s acc=some (s',feet)
  | [],i,s,acc,T,F,s',feet,T',F',h,_=>by
    simp only[ic,Option.some.injEq,Prod.mk.injEq] at h
    obtain ⟨rfl,rfl,rfl,rfl⟩:=h
    exact ⟨_,hb,rfl⟩
  | o ::rest,i,s,acc,T,F,s',feet,T',F',h,hF=>by
    have join:∀ {c1 c2:aI} {s1:St} {ft:Foot},(bo P O.glob c1∧bp c1)→(bo P O.glob c2∧bp c2)→cQ P O.glob c1 all (base+i) o s=some (s1,ft)→
        cH P O.glob c2 all base rest (i+1) s1 (match ft.none with|true=>acc|false=>(i,ft)::acc)=some (s',feet)→∃call,(bo P O.glob call∧bp call)∧cH P O.glob call all base (o::rest) i s acc=some (s',feet):=fun {c1 c2 s1 ft} h1 h2 hs hr=>by
      refine ⟨fg (base+i) c1 c2,yL h1 h2, ?_⟩
      simp only[cH]
      rw[tt (call':=c1) (fun f args hp nx=>by unfold fg;rw[if_pos rfl]),hs]
      simp only
      rw[tu (call':=c2) rest (i+1) _ _ fun f args id hp nx hid=>by unfold fg;rw[if_neg (by omega)]]
      exact hr
    simp only[ic] at h
    split at h
    · split at h
      · rename_i s1 ft hst
        obtain ⟨c2,h2,hr⟩:=runOpsT_sem hb hg hn rest (i+1) s1 _ T F h hF
        exact join hb h2 hst hr
      · cases h
    · rename_i a T1 _
      split at h
      · rename_i hw
        split at h
        · rename_i v h' nx ft F1 ha
          obtain ⟨c2,h2,hr⟩:=runOpsT_sem hb hg hn rest (i+1) _ _ T1 (F1++F) h hF
          obtain ⟨D,hD⟩:=runOpsT_app rest (i+1) _ _ T1 (F1++F) h
          rw[hD,factsSem_append,factsSem_append] at hF
          obtain ⟨c1,h1,hs⟩:=yK hb hg hn hw ha hF.2.1
          exact join h1 h2 hs hr
        · cases h
      · cases h
 where
  runOpsT_app {n:Nat} {nest:ib} {rid:Nat} {all:List Oper} {base:Nat}:∀ (rest:List Oper) (i:Nat) (s:St) (acc:List (Nat × Foot)) (T:cI) (F:List Fact) {s':St} {feet:List (Nat × Foot)} {T':cI} {F':List Fact},
      ic P O n nest rid all base rest i s acc T F=some (s',feet,T',F')→∃D,F'=D++F
    | [],i,s,acc,T,F,s',feet,T',F',h=>by
      simp only[ic,Option.some.injEq,Prod.mk.injEq] at h
      obtain ⟨rfl,rfl,rfl,rfl⟩:=h
      exact ⟨[],rfl⟩
    | o ::rest,i,s,acc,T,F,s',feet,T',F',h=>by
      simp only[ic] at h
      split at h
      · split at h
        · exact runOpsT_app rest (i+1) _ _ T F h
        · cases h
      · split at h
        · split at h
          · obtain ⟨D,rfl⟩:=runOpsT_app rest (i+1) _ _ _ _ h
            exact ⟨D++_,by rw[List.append_assoc]⟩
          · cases h
        · cases h
end
end Go.Proofs.Abs
/- Code, bodies, laws, by runs with answers. -/
namespace Go.Proofs.Abs
open Go
section
variable {P:Program} {O:aT} {n:Nat} {nest:ib} {lf:Nat}
theorem tv {bodyT:St→cI→List Fact→lL} (hb:∀s T F x s' T' F',bodyT s T F=some (x,s',T',F')→∃D,F'=D++F):
  ∀ (k:Nat) (s:St) (T:cI) (F:List Fact) {x:AExit} {s':St} {T':cI} {F':List Fact},jk bodyT k s T F=some (x,s',T',F')→∃D,F'=D++F
 |0,_,_,_,_,_,_,_,h=>by simp[jk] at h
 | k+1,s,T,F,x,s',T',F',h=>by
  simp only[jk] at h
  split at h
  ·rename_i s1 T1 F1 hb1
   obtain ⟨D1,rfl⟩:=hb _ _ _ _ _ _ _ hb1
   obtain ⟨D,rfl⟩:=tv hb k s1 T1 _ h
   exact ⟨D++D1,by rw[List.append_assoc]⟩
  ·exact hb _ _ _ _ _ _ _ h
theorem yM:∀ (c:Code) (s:St) (T:cI) (F:List Fact) {x:AExit} {s':St} {T':cI} {F':List Fact},bN P O n nest lf c s T F=some (x,s',T',F')→∃D,F'=D++F:=by
 intro c
 induction c with
 |skip=>
  intro s T F x s' T' F' h
  simp only[bN,Option.some.injEq,Prod.mk.injEq] at h
  obtain ⟨rfl,rfl,rfl,rfl⟩:=h
  exact ⟨[],rfl⟩
 |label l=>
  intro s T F x s' T' F' h
  simp only[bN,Option.some.injEq,Prod.mk.injEq] at h
  obtain ⟨rfl,rfl,rfl,rfl⟩:=h
  exact ⟨[],rfl⟩
 | region rid ops draw=>
  intro s T F x s' T' F' h
  simp only[bN] at h
  split at h
  ·rename_i s1 feet T1 F1 hr
   obtain ⟨D,rfl⟩:=runOpsT_sem.runOpsT_app _ _ _ _ _ _ hr
   split at h
   ·simp only[Option.some.injEq,Prod.mk.injEq] at h
    obtain ⟨rfl,rfl,rfl,rfl⟩:=h
    exact ⟨D,rfl⟩
   ·split at h
    ·simp only[Option.some.injEq,Prod.mk.injEq] at h
     obtain ⟨rfl,rfl,rfl,rfl⟩:=h
     exact ⟨D,rfl⟩
    ·cases h
  ·cases h
 | seq a b iha ihb=>
  intro s T F x s' T' F' h
  simp only[bN] at h
  split at h
  ·rename_i s1 T1 F1 ha
   obtain ⟨D1,rfl⟩:=iha _ _ _ ha
   obtain ⟨D,rfl⟩:=ihb _ _ _ h
   exact ⟨D++D1,by rw[List.append_assoc]⟩
  ·exact iha _ _ _ h
 |cond v a b iha ihb=>
  intro s T F x s' T' F' h
  simp only[bN] at h
  split at h
  ·exact iha _ _ _ h
  ·exact ihb _ _ _ h
  ·cases h
 | block id body ih=>
  intro s T F x s' T' F' h
  simp only[bN] at h
  split at h
  ·rename_i i s1 T1 F1 hb
   obtain ⟨D,rfl⟩:=ih _ _ _ hb
   split at h
   ·simp only[Option.some.injEq,Prod.mk.injEq] at h
    obtain ⟨rfl,rfl,rfl,rfl⟩:=h
    exact ⟨D,rfl⟩
   ·simp only[Option.some.injEq,Prod.mk.injEq] at h
    obtain ⟨rfl,rfl,rfl,rfl⟩:=h
    exact ⟨D,rfl⟩
  ·exact ih _ _ _ h
 |loop body ih=>
  intro s T F x s' T' F' h
  simp only[bN] at h
  exact tv (fun s T F x s' T' F' h=>ih s T F h) lf s T F h
 |exit id=>
  intro s T F x s' T' F' h
  simp only[bN,Option.some.injEq,Prod.mk.injEq] at h
  obtain ⟨rfl,rfl,rfl,rfl⟩:=h
  exact ⟨[],rfl⟩
 |ret=>
  intro s T F x s' T' F' h
  simp only[bN,Option.some.injEq,Prod.mk.injEq] at h
  obtain ⟨rfl,rfl,rfl,rfl⟩:=h
  exact ⟨[],rfl⟩
 |_=>
  intro s T F x s' T' F' h
  simp[bN] at h
variable {w0:World} {I0:Nat→Prop} {α0:Nat→Option Nat} {H0:ab} {nx0:Nat} {D:List Deferred}
theorem yN (hm:P.follows .mixedOrders=true) (hb:bo P O.glob (a8 P O n)∧bp (a8 P O n)) (hg:∀g l,O.glob g=some l→ae l=true) (hn:km P O nest):
    ∀ (c:Code) (s s':St) (T T':cI) (F F':List Fact) (e:AExit) (a:Act) (w:World) (Q:Exit→Act→World→Prop),bN P O n nest lf c s T F=some (e,s',T',F')→dx P O F'→CR O.glob w0 I0 α0 H0 nx0 D s a w→
      (∀a' w',CR O.glob w0 I0 α0 H0 nx0 D s' a' w'→Q (co e) a' w')→c.wp P Q a w:=by
  intro c
  induction c with
  | skip=>
    intro s s' T T' F F' e a w Q h hF hr hq
    simp only[bN,Option.some.injEq,Prod.mk.injEq] at h
    obtain ⟨rfl,rfl,rfl,rfl⟩:=h
    exact wp_skip (hq _ _ hr)
  | label l=>
    intro s s' T T' F F' e a w Q h hF hr hq
    simp only[bN,Option.some.injEq,Prod.mk.injEq] at h
    obtain ⟨rfl,rfl,rfl,rfl⟩:=h
    exact wp_label (hq _ _ hr)
  | exit id=>
    intro s s' T T' F F' e a w Q h hF hr hq
    simp only[bN,Option.some.injEq,Prod.mk.injEq] at h
    obtain ⟨rfl,rfl,rfl,rfl⟩:=h
    exact wp_exit (hq _ _ hr)
  | ret=>
    intro s s' T T' F F' e a w Q h hF hr hq
    simp only[bN,Option.some.injEq,Prod.mk.injEq] at h
    obtain ⟨rfl,rfl,rfl,rfl⟩:=h
    exact wp_ret (hq _ _ hr)
  | region id ops draw=>
    intro s s' T T' F F' e a w Q h hF hr hq
    simp only[bN] at h
    split at h
    · rename_i s1 feet T1 F1 hro
      cases draw with
      | false=>
        simp only[Option.some.injEq,Prod.mk.injEq] at h
        obtain ⟨rfl,rfl,rfl,rfl⟩:=h
        obtain ⟨call,⟨h1,h2⟩,h3⟩:=runOpsT_sem hb hg hn _ _ _ _ _ _ hro hF
        exact nq hm h1 h2 hr h3 (by simp) hq
      | true=>
        simp only at h
        split at h
        · rename_i hok
          simp only[Option.some.injEq,Prod.mk.injEq] at h
          obtain ⟨rfl,rfl,rfl,rfl⟩:=h
          rw[Bool.and_eq_true] at hok
          obtain ⟨call,⟨h1,h2⟩,h3⟩:=runOpsT_sem hb hg hn _ _ _ _ _ _ hro hF
          exact nq hm h1 h2 hr h3 (fun _=>hok) hq
        · simp at h
    · simp at h
  | seq x y ihx ihy=>
    intro s s' T T' F F' e a w Q h hF hr hq
    simp only[bN] at h
    refine wp_seq ?_
    split at h
    · rename_i s1 T1 F1 h1
      obtain ⟨D',rfl⟩:=yM _ _ _ _ h
      exact ihx s s1 T T1 F F1 .normal a w _ h1 (factsSem_append.1 hF).2 hr fun a' w' hr'=>ihy s1 s' T1 T' F1 _ e a' w' Q h hF hr' hq
    · rename_i hne
      cases e with
      |normal=>exact absurd h (hne _ _ _)
      |exit id=>exact ihx s s' T T' F F' _ a w _ h hF hr fun a' w' hr'=>hq a' w' hr'
      |ret=>exact ihx s s' T T' F F' _ a w _ h hF hr fun a' w' hr'=>hq a' w' hr'
  | cond c x y ihx ihy=>
    intro s s' T T' F F' e a w Q h hF hr hq
    simp only[bN] at h
    have hs:=hr.ex
    obtain ⟨I,α,_,_,hs,_⟩:=hs
    split at h
    · rename_i hc
      exact wp_cond_true (be hs hc).bool_val (ihx s s' T T' F F' e a w Q h hF hr hq)
    · rename_i hc
      exact wp_cond_false (be hs hc).bool_val (ihy s s' T T' F F' e a w Q h hF hr hq)
    · simp at h
  | block id body ih=>
    intro s s' T T' F F' e a w Q h hF hr hq
    simp only[bN] at h
    refine wp_block ?_
    split at h
    · rename_i i s1 T1 F1 h1
      have hFF:F1=F':=by
        split at h<;>(simp only[Option.some.injEq,Prod.mk.injEq] at h;exact h.2.2.2)
      subst hFF
      refine ih s s1 T T1 F F1 (.exit i) a w _ h1 hF hr fun a' w' hr'=> ?_
      split at h
      · rename_i hi
        simp only[Option.some.injEq,Prod.mk.injEq] at h
        obtain ⟨rfl,rfl,_,_⟩:=h
        simp only[co,Exit.inBlock]
        rw[if_pos (beq_iff.1 hi)]
        exact hq a' w' hr'
      · rename_i hi
        simp only[Option.some.injEq,Prod.mk.injEq] at h
        obtain ⟨rfl,rfl,_,_⟩:=h
        simp only[co,Exit.inBlock]
        rw[if_neg (beq_false_iff.1 hi)]
        exact hq a' w' hr'
    · rename_i hne
      cases e with
      |normal=>exact ih s s' T T' F F' _ a w _ h hF hr fun a' w' hr'=>hq a' w' hr'
      |exit id=>exact absurd h (hne _ _ _ _)
      |ret=>exact ih s s' T T' F F' _ a w _ h hF hr fun a' w' hr'=>hq a' w' hr'
  | loop body ih=>
    intro s s' T T' F F' e a w Q h hF hr hq
    simp only[bN] at h
    refine wp_loop_rounds lf ?_
    exact go ih lf s T F a w h hF hr hq
  |rangeFunc f p x y _ _=>intro s s' T T' F F' e a w Q h;simp[bN] at h
  |scope c _=>intro s s' T T' F F' e a w Q h;simp[bN] at h
  |goto l=>intro s s' T T' F F' e a w Q h;simp[bN] at h
  |refuse y=>intro s s' T T' F F' e a w Q h;simp[bN] at h
 where
  go {body:Code} {lf:Nat} {s':St} {T':cI} {F':List Fact} {e:AExit} {Q:Exit→Act→World→Prop} (ih:∀ (s s':St) (T T':cI) (F F':List Fact) (e:AExit) (a:Act) (w:World) (Q:Exit→Act→World→Prop),bN P O n nest lf body s T F=some (e,s',T',F')→dx P O F'→CR O.glob w0 I0 α0 H0 nx0 D s a w→
      (∀a' w',CR O.glob w0 I0 α0 H0 nx0 D s' a' w'→Q (co e) a' w')→body.wp P Q a w):∀ (k:Nat) (s:St) (T:cI) (F:List Fact) (a:Act) (w:World),jk (bN P O n nest lf body) k s T F=some (e,s',T',F')→dx P O F'→CR O.glob w0 I0 α0 H0 nx0 D s a w→
      (∀a' w',CR O.glob w0 I0 α0 H0 nx0 D s' a' w'→Q (co e) a' w')→Code.rounds P body Q k a w
    |0,s,T,F,a,w,h,_,_,_=>by simp[jk] at h
    | k +1,s,T,F,a,w,h,hF,hr,hq=>by
      simp only[jk] at h
      rw[rounds_succ]
      split at h
      · rename_i s1 T1 F1 h1
        obtain ⟨D',hD⟩:=tv (fun s T F x s' T' F' h=>yM body s T F h) k s1 T1 F1 h
        have hF1:dx P O F1:=by rw[hD] at hF;exact (factsSem_append.1 hF).2
        exact ih s s1 T T1 F F1 .normal a w _ h1 hF1 hr fun a' w' hr'=>go ih k s1 T1 F1 a' w' h hF hr' hq
      · rename_i hne
        cases e with
        |normal=>exact absurd h (hne _ _ _)
        |exit id=>exact ih s s' T T' F F' _ a w _ h hF hr fun a' w' hr'=>hq a' w' hr'
        |ret=>exact ih s s' T T' F F' _ a w _ h hF hr fun a' w' hr'=>hq a' w' hr'
theorem E3 {f:FuncId} {fn:Func} {c:Code} {args:List AV} {H:ab} {nx:Nat} {v:AV} {H':ab} {nx':Nat} (hfn:P.funcs[f]? =some fn) (hc:fn.body=some c) (hname:(fn.name== "runtime.NumGoroutine")=false) (hsz:(Nat.ble (ac args) fn.ntmps&&Nat.ble fn.ntmps 4095)=true)
  (h:∀w I α a,CR O.glob w I α H nx [] ⟨cX args 0 .tip,H,nx,fn.ntmps⟩ a w→c.wp P (fun e a' w'=>∃s l,(co .normal=e∨co .ret=e)∧CR O.glob w I α H nx [] s a' w'∧db P O.glob s fn.results.toList=some l∧cW l=v∧s.heap=H'∧s.nx=nx') a w):
  BodySem P O.glob f args H nx v H' nx':=by
 intro w I α vs r ha hf
 rw[Bool.and_eq_true,Nat.ble_eq,Nat.ble_eq,aC] at hsz
 refine ⟨?_, ?_⟩
 ·unfold callFunc
  simp only[Sem.run_bind,run_program,Result.andThen_ok,hfn,hname,hc,Bool.false_eq_true,if_false,Option.isNone_some,Sem.run_pure]
 ·refine calls_of_wp hfn hc ?_
  have hvs:args.length=vs.size:=by rw[ha.1];simp
  have hr0:CR O.glob w I α H nx [] ⟨cX args 0 .tip,H,nx,fn.ntmps⟩ {tmps:=vs++Array.replicate (fn.ntmps-vs.size) undef,defers:=[]} w:=
   ⟨⟨I,α,.refl,r,jf ha (by omega),fun i hi=>absurd hi (Nat.not_lt_zero i),hf,fun id h=> .inl h⟩,Nat.le_refl _,Nat.le_refl _,rfl,by simp;omega,hsz.2⟩
  refine wp_mono (h w I α _ hr0) fun e a' w' hq=> ?_
  obtain ⟨s,l,he,hr,hl,rfl,rfl,rfl⟩:=hq
  obtain ⟨⟨I',α',h1,h2,h3,_,_,h6⟩,_,h8,h9,_,_⟩:=hr
  obtain ⟨u,e1,e2⟩:=jg (P:=P) (fn:=fn) h2 h3 hl
  rcases he with rfl|rfl<;>exact ⟨h9,u,e1,u,rfl,⟨I',α',h1,h2,e2,h6⟩,h8⟩
end
end Go.Proofs.Abs
/- States seen anew: blocks under other numbers, what is wanted no more let go. Functions' answers by walks. -/
namespace Go.Proofs.Abs
open Go
def aG:List (Nat × Nat)→Nat→Option Nat
 |[],_=>none
 |(i,j)::t,k=>match Nat.beq i k with
  |true=>some j
  |false=>aG t k
theorem gj:∀ {l:List (Nat × Nat)} {i j:Nat},aG l i=some j→(i,j)∈l
 |[],_,_,h=>by cases h
 | (a,b)::t,i,j,h=>by
  simp only[aG] at h
  split at h
  ·rename_i he
   have he:=beq_iff.1 he
   simp only[Option.some.injEq] at h
   subst he;subst h;simp
  ·exact List.mem_cons_of_mem _ (gj h)
theorem tw {l:List (Nat × Nat)} (h:(l.map (·.2)).Nodup) {i i' j:Nat} (h1:aG l i=some j) (h2:aG l i'=some j):i=i':=by
 have m1:=gj h1
 have m2:=gj h2
 clear h1 h2
 induction l with
 |nil=>cases m1
 |cons p t ih=>
  simp only[List.map_cons,List.nodup_cons] at h
  rcases List.mem_cons.1 m1 with e1|m1<;>rcases List.mem_cons.1 m2 with e2|m2
  ·rw[←e2] at e1;exact (Prod.mk.inj e1).1
  ·exact absurd (List.mem_map.2 ⟨_,m2,by rw[←e1]⟩) h.1
  ·exact absurd (List.mem_map.2 ⟨_,m1,by rw[←e2]⟩) h.1
  ·exact ih h.2 m1 m2
inductive RenV (lk:List (Nat × Nat)):AV→AV→Prop
 |same (v:AV) (h:ad v=true):RenV lk v v
 |ptr (i j off:Nat) (h:aG lk i=some j):RenV lk (.ptr i off) (.ptr j off)
 |rsl (own:Bool) (i j off len sz:Nat) (h:aG lk i=some j):RenV lk (.rsl own i off len sz) (.rsl own j off len sz)
 |map (i j:Nat) (h:aG lk i=some j):RenV lk (.map i) (.map j)
 |fptrL (off:Nat) {c d:List AV} (hl:c.length=d.length) (h:∀ (i:Nat) x y,c[i]? =some x→d[i]? =some y→RenV lk x y):RenV lk (.fptr c off) (.fptr d off)
 |tuple2 {a b c d:AV} (h1:RenV lk a b) (h2:RenV lk c d):RenV lk (.tuple [a,c]) (.tuple [b,d])
 |iface (t:TypeId) {a b:AV} (h:RenV lk a b):RenV lk (.iface t a) (.iface t b)
 |aggL {c d:List AV} (hl:c.length=d.length) (h:∀ (i:Nat) x y,c[i]? =some x→d[i]? =some y→RenV lk x y):RenV lk (.agg c) (.agg d)
 |funcB (fn:Fn) (f g c d:List AV) (hf:f.length=g.length) (hl:c.length=d.length) (h1:∀ (i:Nat) x y,f[i]? =some x→g[i]? =some y→RenV lk x y) (h2:∀ (i:Nat) x y,c[i]? =some x→d[i]? =some y→RenV lk x y):RenV lk (.func fn f c) (.func fn g d)
 |func (fn:Fn) (f c d:List AV) (hf:ae f=true) (hl:c.length=d.length) (h:∀ (i:Nat) x y,c[i]? =some x→d[i]? =some y→RenV lk x y):RenV lk (.func fn f c) (.func fn f d)
def RenL (lk:List (Nat × Nat)):List AV→List AV→Prop
 |[],[]=>True
 |a::t,b::u=>RenV lk a b∧RenL lk t u
 |_,_=>False
def RenP (lk:List (Nat × Nat)):List (AV × AV)→List (AV × AV)→Prop
 |[],[]=>True
 |a::t,b::u=>RenV lk a.1 b.1∧RenV lk a.2 b.2∧RenP lk t u
 |_,_=>False
def gk (lk:List (Nat × Nat)):Blk→Blk→Prop
 | .cells l,.cells l'=>RenL lk l l'
 | .siter s p,.siter s' p'=>s=s'∧p=p'
 | .mapb c s l,.mapb c' s' l'=>c=c'∧s=s'∧RenP lk l l'
 | .miter m a b c,.miter m' a' b' c'=>a=a'∧b=b'∧c=c'∧aG lk m=some m'
 |_,_=>False
theorem RenL.same (lk:List (Nat × Nat)):∀ {l:List AV},ae l=true→RenL lk l l
 |[],_=>trivial
 |a::t,h=>by
  simp only[ae,Bool.and_eq_true] at h
  exact ⟨.same a h.1,RenL.same lk h.2⟩
section
variable {w:World} {I:Nat→Prop} {α:Nat→Option Nat} {lk:List (Nat × Nat)}
theorem yO:∀ {l:List AV} {j:Nat} {x:AV},ae l=true→l[j]? =some x→ad x=true
 |a::t,0,x,h,hx=>by
  simp only[ae,Bool.and_eq_true] at h
  simp only[List.getElem?_cons_zero,Option.some.injEq] at hx
  subst hx;exact h.1
 |a::t,j+1,x,h,hx=>by
  simp only[ae,Bool.and_eq_true] at h
  exact yO h.2 (by simpa using hx)
 |[],j,x,_,hx=>by simp at hx
theorem ko {v u:AV} {x:Value} (h:RenV lk v u) (hr:Rep w I α u x):Rep w I (fun i=>(aG lk i).bind α) v x:=by
 induction h generalizing x with
 |same _ hc=>exact rep_closed hr hc
 |tuple2 _ _ ih1 ih2=>
  obtain ⟨a',rfl,hl⟩:=Rep.tuple_iff.1 hr
  obtain ⟨y,v',e1,k1,hl⟩:=hl.cons_inv
  obtain ⟨z,v'',e2,k2,hl⟩:=hl.cons_inv
  have e3:=hl.nil_inv
  exact Rep.tuple_iff.2 ⟨a',rfl,by rw[e1,e2,e3];exact .cons (ih1 k1) (.cons (ih2 k2) .nil)⟩
 |iface t _ ih=>cases hr with|iface _ _ v' hv=>exact .iface t _ v' (ih hv)
 | aggL hl _ ih=>
  rename_i c d _
  obtain ⟨a',rfl,hq⟩:=Rep.agg_iff.1 hr
  refine Rep.agg_iff.2 ⟨a',rfl,hl.trans hq.1,fun i x y hx hy=> ?_⟩
  have hi:i<d.length:=by
   rw[←hl];exact (List.getElem?_eq_some_iff.1 hx).1
  have hd:=List.getElem?_eq_getElem hi
  exact ih i x _ hx hd (hq.2 i _ y hd hy)
 | funcB fn f g c d hf hl _ _ ih1 ih2=>
  cases hr with
  | func _ _ _ a' c' h1 h2 h3 h4=>
   refine .func fn f c a' c' (hf.trans h1) (hl.trans h2) (fun i x y hx hy=> ?_) fun i x y hx hy=> ?_
   ·have hi:i<g.length:=by
     rw[←hf];exact (List.getElem?_eq_some_iff.1 hx).1
    have hd:=List.getElem?_eq_getElem hi
    exact ih1 i x _ hx hd (h3 i _ y hd hy)
   ·have hi:i<d.length:=by
     rw[←hl];exact (List.getElem?_eq_some_iff.1 hx).1
    have hd:=List.getElem?_eq_getElem hi
    exact ih2 i x _ hx hd (h4 i _ y hd hy)
 | func fn f c d hf hl _ ih=>
  cases hr with
  | func _ _ _ a' c' h1 h2 h3 h4=>
   refine .func fn f c a' c' h1 (hl.trans h2) (fun i x y hx hy=>rep_closed (h3 i x y hx hy) (yO hf hx)) fun i x y hx hy=> ?_
   have hi:i<d.length:=by
    rw[←hl];exact (List.getElem?_eq_some_iff.1 hx).1
   have hd:=List.getElem?_eq_getElem hi
   exact ih i x _ hx hd (h4 i _ y hd hy)
 |ptr i j off hl=>cases hr with|ptr _ _ b hb=>exact .ptr i off b (by simp[hl,hb])
 |rsl own i j off len sz hl=>cases hr with|rsl _ _ _ _ _ cap b hb hc ho=>exact .rsl own i off len sz cap b (by simp[hl,hb]) hc ho
 |map i j hl=>cases hr with|map _ b hb=>exact .map i b (by simp[hl,hb])
 | fptrL off hl _ ih=>
  rename_i c d _
  cases hr with
  | fptr _ _ b base g hI hg hr2=>
   have at_:∀ (j:Nat) x,c[j]? =some x→∃y,d[j]? =some y:=fun j x hx=>by
    have hi:j<d.length:=by
     rw[←hl];exact (List.getElem?_eq_some_iff.1 hx).1
    exact ⟨_,List.getElem?_eq_getElem hi⟩
   exact .fptr c off b base g hI (fun j x hx=>by
    obtain ⟨y,hy⟩:=at_ j x hx
    exact hg j y hy) (fun j x hx=>by
    obtain ⟨y,hy⟩:=at_ j x hx
    exact ih j x y hx hy (hr2 j y hy))
theorem tz:∀ {l l':List AV} {xs:List Value},RenL lk l l'→RepL w I α l' xs→RepL w I (fun i=>(aG lk i).bind α) l xs
 |[],[],xs,_,h=>by rw[h.nil_inv];exact .nil
 |a::t,b::u,xs,h,hr=>by
  obtain ⟨y,v',rfl,h1,h2⟩:=hr.cons_inv
  exact .cons (ko h.1 h1) (tz h.2 h2)
 |[],_::_,_,h,_=>h.elim
 |_::_,[],_,h,_=>h.elim
theorem yP:∀ {l l':List AV},RenL lk l l'→l.length=l'.length
 |[],[],_=>rfl
 |_::t,_::u,h=>by simp[yP h.2]
 |[],_::_,h=>h.elim
 |_::_,[],h=>h.elim
theorem yQ:∀ {l l':List (AV × AV)},RenP lk l l'→l.length=l'.length∧∀ (i:Nat) x,l[i]? =some x→∃y,l'[i]? =some y∧RenV lk x.1 y.1∧RenV lk x.2 y.2
 |[],[],_=>⟨rfl,by simp⟩
 |a::t,b::u,h=>by
  obtain ⟨h1,h2⟩:=yQ h.2.2
  refine ⟨by simp[h1],fun i x hx=> ?_⟩
  cases i with
  |zero=>simp at hx;subst hx;exact ⟨b,rfl,h.1,h.2.1⟩
  |succ i=>simpa using h2 i x (by simpa using hx)
 |[],_::_,h=>h.elim
 |_::_,[],h=>h.elim
theorem nC {b:Nat} {b2 b1:Blk} (h:gk lk b2 b1) (hr:BRel w I α b b1):BRel w I (fun i=>(aG lk i).bind α) b b2:=by
 cases b2 with
 | cells l=>cases b1 with
  |cells l'=>
   obtain ⟨c,e,h1,h2,h3⟩:=hr
   have hl:=yP h
   exact ⟨c,e,h1,by rw[hl];exact h2,by rw[hl];exact tz h h3⟩
  |_=>exact h.elim
 |siter s p=>cases b1 with
  |siter s' p'=>obtain ⟨rfl,rfl⟩:=h;exact hr
  |_=>exact h.elim
 | miter m a b c=>cases b1 with
  |miter m' a' b' c'=>
   obtain ⟨rfl,rfl,rfl,h⟩:=h
   obtain ⟨mb,h1,h2⟩:=hr
   exact ⟨mb,by simp[h,h1],h2⟩
  |_=>exact h.elim
 | mapb c s l=>cases b1 with
  |mapb c' s' l'=>
   obtain ⟨rfl,rfl,h⟩:=h
   obtain ⟨en,h1,h2,h4,h3⟩:=hr
   obtain ⟨k1,k2⟩:=yQ h
   refine ⟨en,h1,by rw[k1];exact h2,h4,fun i x y hx hy=> ?_⟩
   obtain ⟨z,e1,e2,e3⟩:=k2 i x hx
   exact ⟨ko e2 (h3 i z y e1 hy).1,ko e3 (h3 i z y e1 hy).2⟩
  |_=>exact h.elim
end
theorem kp:∀ {l:List AV} {j:Nat} {x:AV},ae l=true→l[j]? =some x→ad x=true
 |[],_,_,_,h=>by simp at h
 |a::t,0,x,h,hx=>by
  simp only[ae,Bool.and_eq_true] at h
  simp at hx;subst hx;exact h.1
 |a::t,j+1,x,h,hx=>by
  simp only[ae,Bool.and_eq_true] at h
  exact kp h.2 (by simpa using hx)
noncomputable def sl (l:List (Nat × AV)):Tr:=l.foldl (fun t p=>t.set 12 p.1 p.2) .tip
theorem yR:∀ (l:List (Nat × AV)) (t:Tr) {k:Nat} {v:AV},(l.foldl (fun t p=>t.set 12 p.1 p.2) t).get k=some v→(k,v)∈l∨t.get k=some v
 |[],_,_,_,h=> .inr h
 | (i,x)::r,t,k,v,h=>by
  rcases yR r _ h with h|h
  ·exact .inl (List.mem_cons_of_mem _ h)
  ·by_cases e:k=i
   ·subst e
    rcases Tr.get_set_self 12 t (k:=k) x with h'|h'
    ·rw[h'] at h
     simp only[Option.some.injEq] at h
     subst h;exact .inl (by simp)
    ·rw[h'] at h;exact .inr h
   ·rw[Tr.get_set_ne 12 t x e] at h;exact .inr h
theorem pH {l:List (Nat × AV)} {k:Nat} {v:AV} (h:(sl l).get k=some v):(k,v)∈l:=by
 rcases yR l .tip h with h|h
 ·exact h
 ·rw[Tr.get_tip] at h;cases h
theorem tA:∀ {H:ab} {i:Nat} {b:Blk},hget H i=some b→(i,some b)∈H
 |[],_,_,h=>by simp[hget] at h
 | (k,c)::t,i,b,h=>by
  simp only[hget] at h
  split at h
  ·rename_i he
   have he:=beq_iff.1 he
   subst he;subst h;simp
  ·exact List.mem_cons_of_mem _ (tA h)
section
variable {G:aF} {w0:World} {I0:Nat→Prop} {D:List Deferred}
theorem CR.turn {s s2:St} {a:Act} {w:World} (lk:List (Nat × Nat)) (hg:∀g l,G g=some l→ae l=true) (h:CR G w0 I0 (fun _=>none) [] 0 D s a w) (hn:s2.n=s.n)
  (hS:∀k v,s2.slots.get k=some v→∃u,s.slots.get k=some u∧RenV lk v u)
  (hH:∀i b,hget s2.heap i=some b→∃j b1,aG lk i=some j∧hget s.heap j=some b1∧gk lk b b1)
  (hI:(lk.map (·.2)).Nodup) (hB:∀i,s2.nx≤i→aG lk i=none):CR G w0 I0 (fun _=>none) [] 0 D s2 a w:=by
 obtain ⟨⟨I,α,ev,rel,hs,_,hf,hnew⟩,h7,h8,h9,h10,h11⟩:=h
 have hown:∀b,bD (fun i=>(aG lk i).bind α) s2.heap b→bD α s.heap b:=fun b ⟨i,h1,h2⟩=>by
  cases hi:hget s2.heap i with
  |none=>exact absurd hi h1
  |some blk=>
   obtain ⟨j,b1,e1,e2,_⟩:=hH i blk hi
   exact ⟨j,by rw[e2];simp,by simpa [e1] using h2⟩
 refine ⟨⟨I,fun i=>(aG lk i).bind α,⟨ev.os,ev.I_mono,fun id b hb=>(by cases hb),ev.size,ev.frame,ev.shape,ev.Inew,fun b hb=>ev.own b (hown b hb)⟩, ?_, ?_,fun i hi=>absurd hi (Nat.not_lt_zero i),fun id hid=>by simp[hB id hid],fun id hid=> ?_⟩,Nat.le_refl _,Nat.zero_le _,h9,by rw[hn];exact h10,by rw[hn];exact h11⟩
 ·exact
  {live:=fun i blk hi=>by
    obtain ⟨j,b1,e1,e2,e3⟩:=hH i blk hi
    obtain ⟨b,k1,k2,k3⟩:=rel.live j b1 e2
    exact ⟨b,by simp[e1,k1],k2,nC e3 k3⟩
   inj:=fun i i' b h1 h2 h3 h4=>by
    cases hi:hget s2.heap i with
    |none=>exact absurd hi h1
    | some blk=>
     cases hi':hget s2.heap i' with
     |none=>exact absurd hi' h2
     |some blk'=>
      obtain ⟨j,b1,e1,e2,_⟩:=hH i blk hi
      obtain ⟨j',b1',e1',e2',_⟩:=hH i' blk' hi'
      have:j=j':=rel.inj j j' b (by rw[e2];simp) (by rw[e2'];simp) (by simpa [e1] using h3) (by simpa [e1'] using h4)
      subst this
      exact tw hI e1 e1'
   imm:=rel.imm
   dom:=fun i b hb=>by
    cases hl:aG lk i with
    |none=>simp[hl] at hb
    |some j=>exact rel.dom j b (by simpa [hl] using hb)
   glob:=fun g l hgl=>by
    obtain ⟨h1,h2⟩:=rel.glob g l hgl
    refine ⟨h1,fun j x hx=> ?_⟩
    obtain ⟨y,e1,e2⟩:=h2 j x hx
    exact ⟨y,e1,rep_closed e2 (kp (hg g l hgl) hx)⟩}
 ·intro k v hv
  obtain ⟨u,e1,e2⟩:=hS k v hv
  obtain ⟨y,e3,e4⟩:=hs k u e1
  exact ⟨y,e3,ko e2 e4⟩
 ·right
  refine ⟨Nat.zero_le _, ?_⟩
  rcases Nat.lt_or_ge id s2.nx with h'|h'
  ·exact h'
  ·exact absurd (by simp[hB id h']) hid
end
noncomputable def seen (r:lL) (keys ids:List Nat):Option (AExit × List (Option AV) × List (Option Blk) × Nat × List Fact):=match r with
 |some (x,s,_,F)=>some (x,keys.map s.slots.get,ids.map (hget s.heap),s.n,F)
 |none=>none
theorem E4 {r:lL} {keys ids:List Nat} {x:AExit} {vs:List (Option AV)} {bs:List (Option Blk)} {k:Nat} {F:List Fact} (h:seen r keys ids=some (x,vs,bs,k,F)):
  ∃s T,r=some (x,s,T,F)∧s.n=k∧keys.map s.slots.get=vs∧ids.map (hget s.heap)=bs:=by
 unfold seen at h
 split at h
 ·rename_i x0 s T F0
  simp only[Option.some.injEq,Prod.mk.injEq] at h
  obtain ⟨rfl,rfl,rfl,rfl,rfl⟩:=h
  exact ⟨s,T,rfl,rfl,rfl,rfl⟩
 ·cases h
def pI (lk:List (Nat × Nat)):List (Nat × AV)→List Nat→List (Option AV)→Prop
 |[],[],[]=>True
 |(k,v)::t,k'::ks,u::us=>k=k'∧(∃x,u=some x∧RenV lk v x)∧pI lk t ks us
 |_,_,_=>False
def pJ (lk:List (Nat × Nat)):ab→List Nat→List (Option Blk)→Prop
 |[],[],[]=>True
 |(i,b)::t,j::js,c::cs=>aG lk i=some j∧(∃x y,b=some x∧c=some y∧gk lk x y)∧pJ lk t js cs
 |_,_,_=>False
theorem tB {lk:List (Nat × Nat)} {g:Nat→Option AV}:∀ {l:List (Nat × AV)} {ks:List Nat},pI lk l ks (ks.map g)→∀k v,(k,v)∈l→∃u,g k=some u∧RenV lk v u
 |[],[],_,_,_,h=>by cases h
 |(k0,v0)::t,k'::ks,h,k,v,hm=>by
  obtain ⟨rfl,⟨x,h1,h2⟩,h3⟩:=h
  rcases List.mem_cons.1 hm with e|hm
  ·cases e;exact ⟨x,h1,h2⟩
  ·exact tB h3 k v hm
 |[],_::_,h,_,_,_=>h.elim
 |_::_,[],h,_,_,_=>h.elim
theorem tC {lk:List (Nat × Nat)} {g:Nat→Option Blk}:∀ {H:ab} {js:List Nat},pJ lk H js (js.map g)→∀i b,(i,some b)∈H→∃j b1,aG lk i=some j∧g j=some b1∧gk lk b b1
 |[],[],_,_,_,h=>by cases h
 |(i0,b0)::t,j::js,h,i,b,hm=>by
  obtain ⟨h1,⟨x,y,rfl,h2,h3⟩,h4⟩:=h
  rcases List.mem_cons.1 hm with e|hm
  ·cases e;exact ⟨j,y,h1,h2,h3⟩
  ·exact tC h4 i b hm
 |[],_::_,h,_,_,_=>h.elim
 |_::_,[],h,_,_,_=>h.elim
section
variable {P:Program} {O:aT} {n:Nat} {lf:Nat} {w0:World} {I0:Nat→Prop} {D:List Deferred}
structure cz (P:Program) (O:aT) (n:Nat):Prop where
 mixed:P.follows .mixedOrders=true
 calls:bo P O.glob (a8 P O n)∧bp (a8 P O n)
 glob:∀g l,O.glob g=some l→ae l=true
 nest:km P O (pG P O n)
theorem Pt (B:cz P O n) {c:Code} {s s2:St} {T:cI} {x:AExit} {keys ids:List Nat} {L2:List (Nat × AV)} {vs:List (Option AV)} {bs:List (Option Blk)} {F:List Fact} {a:Act} {w:World} {Q:Exit→Act→World→Prop} (lk:List (Nat × Nat))
  (hrun:seen (bN P O n (pG P O n) lf c s T []) keys ids=some (x,vs,bs,s2.n,F)) (hF:dx P O F) (h:CR O.glob w0 I0 (fun _=>none) [] 0 D s a w)
  (hL:s2.slots=sl L2) (hS:pI lk L2 keys vs) (hH:pJ lk s2.heap ids bs) (hI:(lk.map (·.2)).Nodup) (hB:∀p∈lk,p.1<s2.nx)
  (hq:∀a' w',CR O.glob w0 I0 (fun _=>none) [] 0 D s2 a' w'→Q (co x) a' w'):c.wp P Q a w:=by
 obtain ⟨s',T',hex,hn,rfl,rfl⟩:=E4 hrun
 refine yN B.mixed B.calls B.glob B.nest c s s' T T' [] F x a w Q hex hF h fun a' w' hr=>hq a' w' ?_
 refine hr.turn lk B.glob hn.symm (fun k v hv=> ?_) (fun i b hi=>tC hH i b (tA hi)) hI (fun i hi=> ?_)
 ·rw[hL] at hv
  exact tB hS k v (pH hv)
 ·cases hl:aG lk i with
  |none=>rfl
  |some j=>have:=hB _ (gj hl);omega
end
end Go.Proofs.Abs
/- What functions answer, and laws, by walks. -/
namespace Go.Proofs.Abs
open Go
section
variable {P:Program} {O:aT}
theorem E5 {n:Nat} {nest:ib} (hm:P.follows .mixedOrders=true) (hb:bo P O.glob (a8 P O n)∧bp (a8 P O n)) (hg:∀g l,O.glob g=some l→ae l=true) (hn:km P O nest)
  {f:FuncId} {args:List AV} {hp:ab} {nx:Nat} {T:cI} {v:AV} {h':ab} {nx':Nat} {F:List Fact} (h:tp P O n nest f args hp nx T=some (v,h',nx',F)) (hF:dx P O F):BodySem P O.glob f args hp nx v h' nx':=by
 unfold tp at h
 split at h
 ·rename_i fn hfn
  split at h
  ·rename_i c hc
   split at h
   ·cases h
   ·rename_i hname
    split at h
    ·cases h
    ·rename_i hle
     have fin:∀ {x:AExit} {st:St} {T':cI} {F':List Fact},(x= .normal∨x= .ret)→bN P O n nest O.lf c ⟨cX args 0 .tip,hp,nx,fn.ntmps⟩ T []=some (x,st,T',F')→
       (match db P O.glob st fn.results.toList with
        |some l=>some (cW l,st.heap,st.nx,F')
        |none=>none)=some (v,h',nx',F)→BodySem P O.glob f args hp nx v h' nx':=fun {x st T' F'} hx he h=>by
      split at h
      ·rename_i l hl
       simp only[Option.some.injEq,Prod.mk.injEq] at h
       obtain ⟨rfl,rfl,rfl,rfl⟩:=h
       refine E3 hfn hc hname hle fun w I α a hr=>yN hm hb hg hn c _ st T T' [] F' x a w _ he hF hr fun a' w' hr'=>⟨st,l, ?_,hr',hl,rfl,rfl,rfl⟩
       rcases hx with rfl|rfl
       ·exact .inl rfl
       ·exact .inr rfl
      ·cases h
     split at h
     ·rename_i he;exact fin (.inl rfl) he h
     ·rename_i he;exact fin (.inr rfl) he h
     ·cases h
  ·cases h
 ·cases h
theorem yS (hm:P.follows .mixedOrders=true) (hb:∀n,bo P O.glob (a8 P O n)∧bp (a8 P O n)) (hg:∀g l,O.glob g=some l→ae l=true):∀n,km P O (pG P O n)
 |0=>fun _ _ _ _ _ _ _ _ _ h=>by cases h
 |n+1=>fun _ _ _ _ _ _ _ _ _ h hF=>E5 hm (hb n) hg (yS hm hb hg n) h hF
theorem E6 {n:Nat} (hm:P.follows .mixedOrders=true) (hsum:∀f args v,O.summ f args=some v→SemCall P O.glob f args v) (hg:∀g l,O.glob g=some l→ae l=true) (hcx:bo P O.glob O.cx∧bp O.cx:=by exact yE):cz P O n:=
 ⟨hm,lF hm hsum hg hcx n,hg,yS hm (lF hm hsum hg hcx) hg n⟩
variable {n:Nat}
theorem yT (B:cz P O n) {f:FuncId} {fn:Func} {c:Code} {args:List AV} {v:AV} (hfn:P.funcs[f]? =some fn) (hc:fn.body=some c) (hname:(fn.name== "runtime.NumGoroutine")=false) (hsz:(Nat.ble (ac args) fn.ntmps&&Nat.ble fn.ntmps 4095)=true)
  (hcl:ae args=true) (h:∀w I a,CR O.glob w I (fun _=>none) [] 0 [] ⟨cX args 0 .tip,[],0,fn.ntmps⟩ a w→
   c.wp P (fun e a' w'=>∃s l,(co .normal=e∨co .ret=e)∧CR O.glob w I (fun _=>none) [] 0 [] s a' w'∧db P O.glob s fn.results.toList=some l∧(∃d,aH 0 s.heap d (cW l)=some v)∧ad v=true) a w):
  SemCall P O.glob f args v:=by
 refine ⟨?_⟩
 intro w I α H rid nx vs r ha hrid hlt hf
 rw[Bool.and_eq_true,Nat.ble_eq,Nat.ble_eq,aC] at hsz
 have e1:(callFunc f vs).run P w= .ok (.enter f vs) w:=by
  unfold callFunc
  simp only[Sem.run_bind,run_program,Result.andThen_ok,hfn,hname,hc,Bool.false_eq_true,if_false,Option.isNone_some,Sem.run_pure]
 rw[e1]
 refine calls_of_wp hfn hc ?_
 have hra:RepL w I (fun _=>none) args vs.toList:=gP ha hcl
 have hvs:args.length=vs.size:=by rw[hra.1];simp
 have hr0:CR O.glob w I (fun _=>none) [] 0 [] ⟨cX args 0 .tip,[],0,fn.ntmps⟩ {tmps:=vs++Array.replicate (fn.ntmps-vs.size) undef,defers:=[]} w:=
  ⟨⟨I,fun _=>none,.refl,ji B.glob r,jf hra (by omega),fun i hi=>absurd hi (Nat.not_lt_zero i),fun _ _=>rfl,fun id h=>absurd rfl h⟩,Nat.le_refl _,Nat.le_refl _,rfl,by simp;omega,hsz.2⟩
 refine wp_mono (h w I _ hr0) fun e a' w' hq=> ?_
 obtain ⟨s,l,he,hr,hl,⟨d,hfz⟩,hcv⟩:=hq
 obtain ⟨⟨I',α',h1,h2,h3,_,_,h6⟩,_,h8,h9,_,_⟩:=hr
 obtain ⟨u,e1,e2⟩:=jg (P:=P) (fn:=fn) h2 h3 hl
 have hp:dX O.glob w I (fun _=>none) [] 0 (cW l) s.heap s.nx u w':=⟨⟨I',α',h1,h2,e2,h6⟩,h8⟩
 rcases he with rfl|rfl<;>exact ⟨h9,u,e1,u,rfl,kj r hp hfz hcv⟩
end
end Go.Proofs.Abs
/- Functions that answer with a pointer into what they were handed, and turn nothing. -/
namespace Go.Proofs.Abs
open Go
end Go.Proofs.Abs
/- From a state of the abstract machine on: what code leads to, its rules; states seen anew. -/
namespace Go.Proofs.Abs
open Go
structure AWp (P:Program) (G:aF) (nx0:Nat) (c:Code) (s:St) (Q:AExit→St→Prop):Prop where
 out:∀w0 I0 α0 H0 D a w,(∀id,nx0≤id→α0 id=none)→CR G w0 I0 α0 H0 nx0 D s a w→c.wp P (fun e a' w'=>∃x s',e=co x∧CR G w0 I0 α0 H0 nx0 D s' a' w'∧Q x s') a w
section
variable {P:Program} {G:aF} {nx0:Nat} {s:St} {Q Q':AExit→St→Prop}
theorem AWp.mono {c:Code} (h:AWp P G nx0 c s Q) (hq:∀e s',Q e s'→Q' e s'):AWp P G nx0 c s Q':=
 ⟨fun w0 I0 α0 H0 D a w hα hr=>wp_mono (h.out w0 I0 α0 H0 D a w hα hr) fun _ _ _ ⟨x,s',h1,h2,h3⟩=>⟨x,s',h1,h2,hq _ _ h3⟩⟩
theorem AWp.skip (h:Q .normal s):AWp P G nx0 .skip s Q:=⟨fun _ _ _ _ _ _ _ _ hr=>wp_skip ⟨.normal,s,rfl,hr,h⟩⟩
theorem AWp.label {l:Nat} (h:Q .normal s):AWp P G nx0 (.label l) s Q:=⟨fun _ _ _ _ _ _ _ _ hr=>wp_label ⟨.normal,s,rfl,hr,h⟩⟩
theorem AWp.exit {i:Nat} (h:Q (.exit i) s):AWp P G nx0 (.exit i) s Q:=⟨fun _ _ _ _ _ _ _ _ hr=>wp_exit ⟨.exit i,s,rfl,hr,h⟩⟩
theorem AWp.ret (h:Q .ret s):AWp P G nx0 .ret s Q:=⟨fun _ _ _ _ _ _ _ _ hr=>wp_ret ⟨.ret,s,rfl,hr,h⟩⟩
def pK (K:St→Prop) (Q:AExit→St→Prop):AExit→St→Prop
 | .normal,s=>K s
 |e,s=>Q e s
theorem AWp.seq {x y:Code} (h:AWp P G nx0 x s (pK (fun s'=>AWp P G nx0 y s' Q) Q)):AWp P G nx0 (.seq x y) s Q:=by
 refine ⟨fun w0 I0 α0 H0 D a w hα hr=>wp_seq (wp_mono (h.out w0 I0 α0 H0 D a w hα hr) ?_)⟩
 rintro e a' w' ⟨x,s',rfl,h2,h3⟩
 cases x with
 |normal=>exact h3.out w0 I0 α0 H0 D a' w' hα h2
 |exit i=>exact ⟨_,s',rfl,h2,h3⟩
 |ret=>exact ⟨_,s',rfl,h2,h3⟩
theorem AWp.cond_true {c:Operand} {x y:Code} (hc:aS s.slots c=some (.bool true)) (h:AWp P G nx0 x s Q):AWp P G nx0 (.cond c x y) s Q:=
 ⟨fun w0 I0 α0 H0 D a w hα hr=>by
  have hs:=hr.ex
  obtain ⟨I,α,_,_,hs,_⟩:=hs
  exact wp_cond_true (be hs hc).bool_val (h.out w0 I0 α0 H0 D a w hα hr)⟩
theorem AWp.cond_false {c:Operand} {x y:Code} (hc:aS s.slots c=some (.bool false)) (h:AWp P G nx0 y s Q):AWp P G nx0 (.cond c x y) s Q:=
 ⟨fun w0 I0 α0 H0 D a w hα hr=>by
  have hs:=hr.ex
  obtain ⟨I,α,_,_,hs,_⟩:=hs
  exact wp_cond_false (be hs hc).bool_val (h.out w0 I0 α0 H0 D a w hα hr)⟩
def lN (id:Nat) (Q:AExit→St→Prop):AExit→St→Prop
 | .exit i,s=>match Nat.beq i id with
  |true=>Q .normal s
  |false=>Q (.exit i) s
 |e,s=>Q e s
theorem AWp.block {id:Nat} {body:Code} (h:AWp P G nx0 body s (lN id Q)):AWp P G nx0 (.block id body) s Q:=by
 refine ⟨fun w0 I0 α0 H0 D a w hα hr=>wp_block (wp_mono (h.out w0 I0 α0 H0 D a w hα hr) ?_)⟩
 rintro e a' w' ⟨x,s',rfl,h2,h3⟩
 cases x with
 |normal=>exact ⟨_,s',rfl,h2,h3⟩
 |ret=>exact ⟨_,s',rfl,h2,h3⟩
 | exit i=>
  simp only[co,Exit.inBlock]
  simp only[lN] at h3
  split at h3
  ·rename_i hi
   rw[if_pos (beq_iff.1 hi)]
   exact ⟨.normal,s',rfl,h2,h3⟩
  ·rename_i hi
   rw[if_neg (beq_false_iff.1 hi)]
   exact ⟨.exit i,s',rfl,h2,h3⟩
def ARnd (P:Program) (G:aF) (nx0:Nat) (body:Code) (Q:AExit→St→Prop):Nat→St→Prop
 |0,_=>False
 |k+1,s=>AWp P G nx0 body s (pK (ARnd P G nx0 body Q k) Q)
theorem ARnd.rounds {body:Code}:∀ {k:Nat} {s:St},ARnd P G nx0 body Q k s→∀w0 I0 α0 H0 D a w,(∀id,nx0≤id→α0 id=none)→CR G w0 I0 α0 H0 nx0 D s a w→
  Code.rounds P body (fun e a' w'=>∃x s',e=co x∧CR G w0 I0 α0 H0 nx0 D s' a' w'∧Q x s') k a w
 |0,_,h=>h.elim
 |k+1,s,h=>fun w0 I0 α0 H0 D a w hα hr=>by
  rw[rounds_succ]
  refine wp_mono (AWp.out h w0 I0 α0 H0 D a w hα hr) ?_
  rintro e a' w' ⟨x,s',rfl,h2,h3⟩
  cases x with
  |normal=>exact ARnd.rounds h3 w0 I0 α0 H0 D a' w' hα h2
  |exit i=>exact ⟨_,s',rfl,h2,h3⟩
  |ret=>exact ⟨_,s',rfl,h2,h3⟩
theorem AWp.loop {body:Code} (k:Nat) (h:ARnd P G nx0 body Q k s):AWp P G nx0 (.loop body) s Q:=
 ⟨fun w0 I0 α0 H0 D a w hα hr=>wp_loop_rounds k (h.rounds w0 I0 α0 H0 D a w hα hr)⟩
theorem AWp.region {call:aI} {id:Nat} {ops:Array Oper} {draw:Bool} {s':St} {feet:List (Nat × Foot)} (hm:P.follows .mixedOrders=true) (hcall:bo P G call) (hloc:bp call)
  (h:cH P G call ops.toList s.nx ops.toList 0 ⟨s.slots,s.heap,s.nx+ac ops.toList,s.n⟩ []=some (s',feet))
  (hd:draw=true→g9 ops.toList=true∧gK (dq ops.toList []) feet=true) (hq:Q .normal s'):AWp P G nx0 (.region id ops draw) s Q:=
 ⟨fun _w0 _I0 _α0 _H0 _D _a _w _hα hr=>nq hm hcall hloc hr h hd fun _a' _w' hr'=>⟨.normal,s',rfl,hr',hq⟩⟩
end
section
variable {G:aF} {w0:World} {I0:Nat→Prop} {α0:Nat→Option Nat} {H0:ab} {nx0:Nat} {D:List Deferred}
theorem CR.turnIn {s s2:St} {a:Act} {w:World} (lk:List (Nat × Nat)) (hg:∀g l,G g=some l→ae l=true) (hα:∀id,nx0≤id→α0 id=none) (h:CR G w0 I0 α0 H0 nx0 D s a w) (hn:s2.n=s.n)
  (hS:∀k v,s2.slots.get k=some v→∃u,s.slots.get k=some u∧RenV lk v u)
  (hH:∀i b,hget s2.heap i=some b→∃j b1,aG lk i=some j∧hget s.heap j=some b1∧gk lk b b1)
  (hI:(lk.map (·.2)).Nodup) (hB:∀i,s2.nx≤i→aG lk i=none) (hlo:∀i,i<nx0→aG lk i=some i) (hnx:nx0≤s2.nx):CR G w0 I0 α0 H0 nx0 D s2 a w:=by
 obtain ⟨⟨I,α,ev,rel,hs,_,hf,hnew⟩,h7,h8,h9,h10,h11⟩:=h
 have hown:∀b,bD (fun i=>(aG lk i).bind α) s2.heap b→bD α s.heap b:=fun b ⟨i,h1,h2⟩=>by
  cases hi:hget s2.heap i with
  |none=>exact absurd hi h1
  |some blk=>
   obtain ⟨j,b1,e1,e2,_⟩:=hH i blk hi
   exact ⟨j,by rw[e2];simp,by simpa [e1] using h2⟩
 have hmono:∀id b,α0 id=some b→(aG lk id).bind α=some b:=fun id b hb=>by
  rcases Nat.lt_or_ge id nx0 with h'|h'
  ·simp[hlo id h',ev.α_mono id b hb]
  ·rw[hα id h'] at hb;cases hb
 refine ⟨⟨I,fun i=>(aG lk i).bind α,⟨ev.os,ev.I_mono,hmono,ev.size,ev.frame,ev.shape,ev.Inew,fun b hb=>ev.own b (hown b hb)⟩, ?_, ?_,fun i hi=>absurd hi (Nat.not_lt_zero i),fun id hid=>by simp[hB id hid],fun id hid=> ?_⟩,Nat.le_refl _,hnx,h9,by rw[hn];exact h10,by rw[hn];exact h11⟩
 ·exact
  {live:=fun i blk hi=>by
    obtain ⟨j,b1,e1,e2,e3⟩:=hH i blk hi
    obtain ⟨b,k1,k2,k3⟩:=rel.live j b1 e2
    exact ⟨b,by simp[e1,k1],k2,nC e3 k3⟩
   inj:=fun i i' b h1 h2 h3 h4=>by
    cases hi:hget s2.heap i with
    |none=>exact absurd hi h1
    | some blk=>
     cases hi':hget s2.heap i' with
     |none=>exact absurd hi' h2
     |some blk'=>
      obtain ⟨j,b1,e1,e2,_⟩:=hH i blk hi
      obtain ⟨j',b1',e1',e2',_⟩:=hH i' blk' hi'
      have:j=j':=rel.inj j j' b (by rw[e2];simp) (by rw[e2'];simp) (by simpa [e1] using h3) (by simpa [e1'] using h4)
      subst this
      exact tw hI e1 e1'
   imm:=rel.imm
   dom:=fun i b hb=>by
    cases hl:aG lk i with
    |none=>simp[hl] at hb
    |some j=>exact rel.dom j b (by simpa [hl] using hb)
   glob:=fun g l hgl=>by
    obtain ⟨h1,h2⟩:=rel.glob g l hgl
    refine ⟨h1,fun j x hx=> ?_⟩
    obtain ⟨y,e1,e2⟩:=h2 j x hx
    exact ⟨y,e1,rep_closed e2 (kp (hg g l hgl) hx)⟩}
 ·intro k v hv
  obtain ⟨u,e1,e2⟩:=hS k v hv
  obtain ⟨y,e3,e4⟩:=hs k u e1
  exact ⟨y,e3,ko e2 e4⟩
 ·rcases Nat.lt_or_ge id nx0 with h'|h'
  ·left
   have:α id≠none:=by simpa [hlo id h'] using hid
   rcases hnew id this with h|h
   ·exact h
   ·omega
  ·right
   refine ⟨h', ?_⟩
   rcases Nat.lt_or_ge id s2.nx with h''|h''
   ·exact h''
   ·exact absurd (by simp[hB id h'']) hid
end
structure E7 (nx0:Nat) (lk:List (Nat × Nat)) (L2:List (Nat × AV)) (s s2:St):Prop where
 n:s2.n=s.n
 slots:s2.slots=sl L2
 S:pI lk L2 (L2.map (·.1)) ((L2.map (·.1)).map s.slots.get)
 H:pJ lk s2.heap (lk.map (·.2)) ((lk.map (·.2)).map (hget s.heap))
 I:(lk.map (·.2)).Nodup
 B:∀p∈lk,p.1<s2.nx
 lo:∀i,i<nx0→aG lk i=some i
 nx:nx0≤s2.nx
theorem AWp.turn {P:Program} {G:aF} {nx0:Nat} {c:Code} {s s2:St} {Q:AExit→St→Prop} {lk:List (Nat × Nat)} {L2:List (Nat × AV)} (hg:∀g l,G g=some l→ae l=true) (hs:E7 nx0 lk L2 s s2) (h:AWp P G nx0 c s2 Q):AWp P G nx0 c s Q:=
 ⟨fun w0 I0 α0 H0 D a w hα hr=>h.out w0 I0 α0 H0 D a w hα (hr.turnIn lk hg hα hs.n (fun k v hv=>by
   rw[hs.slots] at hv
   exact tB hs.S k v (pH hv)) (fun i b hi=>tC hs.H i b (tA hi)) hs.I (fun i hi=>by
   cases hl:aG lk i with
   |none=>rfl
   |some j=>have:=hs.B _ (gj hl);omega) hs.lo hs.nx)⟩
end Go.Proofs.Abs
