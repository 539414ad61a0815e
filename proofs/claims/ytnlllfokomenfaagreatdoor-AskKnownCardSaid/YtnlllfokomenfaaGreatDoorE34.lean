/- The abstract machine in continuation form: where a branch hangs on what is not known, both ways are followed; what must hold on the way is asked. -/
import Derived.Test.YtnlllfokomenfaaGreatDoorE33
namespace Go.Proofs.Abs
open Go
noncomputable section

/-- It must be so. -/
def oblB (b : Bool) (K : Prop) : Prop := match b with
  | true => K
  | false => False

/-- Two ways. -/
def mtB (b : Bool) (T F : Prop) : Prop := match b with
  | true => T
  | false => F

/-- An effect, where parts of it are not known. -/
inductive ES where
  | eff (e : Eff)
  | obl (b : Bool) (e : Eff)
  | app (b : Bool) (i : Nat) (k : List AV → Bool × List AV) (v : Nat → AV)
  | pick (b : Bool) (x y : Option AV)
  | put (b : Bool) (i : Nat) (k : List AV → Bool × List AV) (v : AV)

def ES.ok (oe : Option Eff) : ES → Prop
  | .eff e => oe = some e
  | .obl b e => b = true → oe = some e
  | .app b i k v => b = true → ∃ kk, oe = some (.repl i kk) ∧ ∀ l, (k l).1 = true → kk (.cells l) = some (.cells (k l).2, v)
  | .pick b x y => (b = true → oe = valO x) ∧ (b = false → oe = valO y)
  | .put b i k v => b = true → ∃ kk, oe = some (.upd i kk) ∧ ∀ l, (k l).1 = true → kk (.cells l) = some (.cells (k l).2, v)

/-- Help with an operation: as it stands; an answer; the element that is met; what is loaded. -/
inductive Hint where
  | plain
  | ans (a : Ans)
  | el (v : AV)
  | ld (v : AV)

def nonneg : Int → Bool
  | .ofNat _ => true
  | _ => false
def natS : AV → Option (Bool × Nat)
  | .int _ n => some (nonneg n, n.toNat)
  | _ => none
def optS : Option AV → Option (Bool × Option Nat)
  | none => some (true, none)
  | some v => match natS v with
    | some (b, n) => some (b, some n)
    | none => none
def strOf (es : List AV) : List UInt8 := (bytesOf es).getD []
/-- Cells laid over a row. -/
def splD (l : List AV) (o : Nat) (vs : List AV) : List AV := l.take o ++ (vs ++ l.drop (o + lenN vs))
def nthU (s : List UInt8) (i : Nat) : UInt8 := s[i]?.getD 0

section
variable (P : Program)

/-- Equality by fields, in one go. -/
def eqF (eq : TypeId → AV → AV → Option Bool) : List Field → List AV → List AV → Option Bool
  | [], _, _ => some true
  | f :: fs, xs, ys => match f.name == "_" with
    | true => eqF eq fs xs ys
    | false => match partA P f.type xs f.offset, partA P f.type ys f.offset with
      | some a, some b => match eq f.type a b, eqF eq fs xs ys with
        | some p, some q => some (p && q)
        | _, _ => none
      | _, _ => none
def eqB : Nat → TypeId → AV → AV → Option Bool
  | 0, _, _, _ => none
  | d + 1, t, x, y => match x, y with
    | .agg xs, .agg ys => match P.underlying t with
      | some (.struct fs) => match P.stoodInHeld t with
        | true => none
        | false => eqF P (eqB d) fs.toList xs ys
      | _ => none
    | x, y => equalA P (d + 1) t x y

def srcS (sz : Nat) (x : AV) : Option (Bool × Nat × List AV) := match x with
  | .fsl _ es => some (allSize sz es, lenN es, flat es)
  | .nilsl => some (true, 0, [])
  | .str s => some (Nat.beq sz 1, lenN s, toBytes s)
  | _ => none

def appendK (i : TypeInfo) (s : AV) (b : Bool) (n : Nat) (cs : List AV) : Option ES := match s with
  | .nilsl => match Nat.beq n 0 with
    | true => some (.obl b (.val .nilsl))
    | false => some (.obl (b && Nat.ble (n * i.bytes) 140737488355328) (.new (.cells cs) fun id => .rsl true id 0 n i.size))
  | .fsl true es => match Nat.beq n 0 with
    | true => some (.obl b (.val (.fsl true es)))
    | false => some (.obl (b && (Nat.ble ((lenN es + n) * i.bytes) 140737488355328 && allSize i.size es)) (.new (.cells (flat es ++ cs)) fun id => .rsl true id 0 (lenN es + n) i.size))
  | .rsl true id 0 len sz => match Nat.beq n 0 with
    | true => none
    | false => some (.app (b && (Nat.ble ((len + n) * i.bytes) 140737488355328 && (allOne cs && Nat.beq sz i.size))) id (fun l => (Nat.beq (lenN l) (len * i.size), l ++ cs)) fun id' => .rsl true id' 0 (len + n) i.size)
  | _ => none

def isSrc : TypeDesc → Bool
  | .slice _ | .string => true
  | _ => false

def appendS (argTypes : Array TypeId) (s x : AV) : Option ES :=
  match argTypes[0]?, argTypes[1]? with
  | some st, some xt => match P.underlying st, P.underlying xt with
    | some (.slice e), some xd => match isSrc xd, P.info? e, zeroA P e with
      | true, some i, some z => match Nat.beq i.size 0 || Nat.beq i.bytes 0 || !Nat.beq (lenN z.cells) i.size with
        | true => none
        | false => match srcS i.size x with
          | some (b, n, cs) => appendK i s b n cs
          | none => none
      | _, _, _ => none
    | _, _ => none
  | _, _ => none

def sliceS (t : TypeId) (x : AV) (lo hi mx : Option AV) : Option ES :=
  match optS lo, optS hi, mx with
  | some (b1, lo), some (b2, hi), none => match x with
    | .str s => match P.underlying t with
      | some .string => some (.obl (b1 && (b2 && (Nat.ble (lo.getD 0) (hi.getD (lenN s)) && Nat.ble (hi.getD (lenN s)) (lenN s)))) (.val (.str ((s.drop (lo.getD 0)).take (hi.getD (lenN s) - lo.getD 0)))))
      | _ => none
    | .fsl full es => match elemOfA P t with
      | some e => match sizeA P e with
        | some sz => some (.obl (b1 && (b2 && (headSize sz es && (Nat.ble (lo.getD 0) (hi.getD (lenN es)) && Nat.ble (hi.getD (lenN es)) (lenN es))))) (.val (.fsl (fslFull full none (hi.getD (lenN es)) (lenN es)) ((es.drop (lo.getD 0)).take (hi.getD (lenN es) - lo.getD 0)))))
        | none => none
      | none => none
    | .rsl own id off len sz' => match lo, hi with
      | none, some h => match elemOfA P t with
        | some e => match sizeA P e with
          | some sz => some (.obl (b2 && (Nat.beq sz sz' && Nat.ble h len)) (.val (.rsl own id off h sz)))
          | none => none
        | none => none
      | _, _ => none
    | _ => none
  | _, _, _ => none

def convS (src dst : TypeId) (x : AV) : Option ES :=
  match P.underlying src, P.underlying dst, x with
  | some (.slice e), some .string, .fsl _ es => match isByteType P e with
    | true => some (.obl (bytesOf es).isSome (.val (.str (strOf es))))
    | false => none
  | _, _, _ => none

def makeS (t : TypeId) (l c : AV) : Option ES :=
  match elemOfA P t, natS l, natS c with
  | some e, some (b1, l), some (b2, c) => match P.info? e, zeroA P e with
    | some i, some z =>
      some (.obl (b1 && (b2 && (Nat.ble l c && Nat.ble (i.bytes * c) 281474976710656 && Nat.ble c 9223372036854775807 && Nat.beq (lenN z.cells) i.size && Nat.blt 0 i.size))) (.new (.cells (flat (repE z c))) fun id => .rsl true id 0 l i.size))
    | _, _ => none
  | _, _, _ => none

def copyS (argTypes : Array TypeId) (d x : AV) : Option ES :=
  match argTypes[0]? with
  | some t => match elemOfA P t with
    | some e => match sizeA P e with
      | some sz => match d with
        | .rsl _ id off len _ => match srcS sz x with
          | some (b, n, cs) => some (.put (b && allOne cs) id (fun l => (Nat.ble (off + lenN (cs.take (min n len * sz))) (lenN l), splD l off (cs.take (min n len * sz)))) (.int .i64 (.ofNat (min n len))))
          | none => none
        | _ => none
      | none => none
    | none => none
  | none => none

def storeS (t : TypeId) (a v : AV) : Option ES :=
  match a with
  | .ptr id off => match sizeA P t with
    | some n => some (.put (Nat.beq (lenN v.cells) n && allOne v.cells) id (fun l => (Nat.ble (off + n) (lenN l), splD l off v.cells)) undefA)
    | none => none
  | _ => none

def indexS (t : TypeId) (x i : AV) : Option ES :=
  match P.underlying t, x, natS i with
  | some (.slice e), .rsl _ id off len sz', some (b, i) => match sizeA P e with
    | some sz => some (.obl (b && (Nat.blt i len && Nat.beq sz sz')) (.val (.ptr id (off + i * sz))))
    | none => none
  | _, _, _ => none

def effS (glob : Nat → Option (List AV)) (ops : List Oper) (ev : Operand → Option AV) (o : Oper) : Option ES :=
  match o.op with
  | .pick c a b => match ev c with
    | some (.bool t) => some (.pick t (ev a) (ev b))
    | _ => none
  | .binOp op t x y _ => match op, ev x, ev y with
    | .add, some (.str a), some (.str b) => some (.obl (Nat.ble (lenN a + lenN b) 9223372036854775807) (.val (.str (a ++ b))))
    | .eql, some (.agg a), some (.agg b) => match P.eqGuardType P.depth t, eqB P 16 t (.agg a) (.agg b) with
      | false, some r => some (.eff (.val (.bool r)))
      | _, _ => none
    | .neq, some (.agg a), some (.agg b) => match P.eqGuardType P.depth t, eqB P 16 t (.agg a) (.agg b) with
      | false, some r => some (.eff (.val (.bool !r)))
      | _, _ => none
    | .quo, some (.int k a), some (.int k' b) => match decide (k = k') with
      | true => some (.obl (!beqInt b 0) (.val (.int k (wrapA k (a.tdiv b)))))
      | false => none
    | .rem, some (.int k a), some (.int k' b) => match decide (k = k') with
      | true => some (.obl (!beqInt b 0) (.val (.int k (a.tmod b))))
      | false => none
    | _, _, _ => match effB P glob ops ev o with
      | some e => some (.eff e)
      | none => none
  | .store t a x => match ev a, ev x with
    | some a, some x => storeS P t a x
    | _, _ => none
  | .indexAddr t x i => match ev x, ev i with
    | some x, some i => match indexS P t x i with
      | some e => some e
      | none => match effB P glob ops ev o with
        | some e => some (.eff e)
        | none => none
    | _, _ => none
  | .convert s d x => match ev x with
    | some (.fsl f es) => match convS P s d (.fsl f es) with
      | some e => some e
      | none => match effB P glob ops ev o with
        | some e => some (.eff e)
        | none => none
    | _ => match effB P glob ops ev o with
      | some e => some (.eff e)
      | none => none
  | .index t x i => match P.underlying t, ev x, ev i with
    | some .string, some (.str s), some w => match natS w with
      | some (b, k) => some (.obl (b && Nat.blt k (lenN s)) (.val (.int .u8 (.ofNat (nthU s k).toNat))))
      | none => none
    | _, _, _ => match effB P glob ops ev o with
      | some e => some (.eff e)
      | none => none
  | .makeSlice t l c => match ev l, ev c with
    | some l, some c => makeS P t l c
    | _, _ => none
  | .slice t x lo hi mx => match ev x, mapOpt ev lo, mapOpt ev hi, mapOpt ev mx with
    | some x, some lo, some hi, some mx => match sliceS P t x lo hi mx with
      | some e => some e
      | none => match sliceA P t x lo hi mx with
        | some e => some (.eff e)
        | none => none
    | _, _, _, _ => none
  | .call c => match c.callee, mapOp ev c.args.toList with
    | .builtin .append, some [s, x] => match appendS P c.argTypes s x with
      | some e => some e
      | none => match appendA P c.argTypes s x with
        | some e => some (.eff e)
        | none => none
    | .builtin .copy, some [d, x] => match copyS P c.argTypes d x with
      | some e => some e
      | none => match copyA P c.argTypes d x with
        | some e => some (.eff e)
        | none => none
    | _, _ => match effB P glob ops ev o with
      | some e => some (.eff e)
      | none => none
  | _ => match effB P glob ops ev o with
    | some e => some (.eff e)
    | none => none

variable (O : Opts) (n : Nat)

abbrev LoopS := St → (AExit → St → Prop) → Prop
/-- What a walk is helped by: hints for operations; loops that are known; calls that are known. -/
structure Aid where
  hint : Nat → Nat → Option Hint := fun _ _ => none
  ls : Nat → Option LoopS := fun _ => none
  cx : Caller := fun _ _ _ _ _ => none

variable (A : Aid)

def plainK (id d : Nat) (e : Eff) (h : Heap) (nx : Nat) (K : AV → Heap → Nat → Foot → Prop) : Prop :=
  match runEff (callN P O n) id d e h nx with
  | some (v, h', nx', ft) => K v h' nx' ft
  | none => False

def effK (id : Nat) : Nat → Eff → Heap → Nat → (AV → Heap → Nat → Foot → Prop) → Prop
  | 0, e, h, nx, K => match e with
    | .call f args => match A.cx f args id h nx with
      | some (v, h', nx', ft) => K v h' nx' ft
      | none => match O.how f with
        | .pure => match O.summ f args with
          | some v => oblB (closedAll args) (K v h nx ⟨false, [], []⟩)
          | none => plainK P O n id 0 (.call f args) h nx K
        | _ => plainK P O n id 0 (.call f args) h nx K
    | e => plainK P O n id 0 e h nx K
  | d + 1, e, h, nx, K => match e with
    | .call f args => match A.cx f args id h nx with
      | some (v, h', nx', ft) => K v h' nx' ft
      | none => match O.how f with
        | .pure => match O.summ f args with
          | some v => oblB (closedAll args) (K v h nx ⟨false, [], []⟩)
          | none => plainK P O n id (d + 1) (.call f args) h nx K
        | _ => plainK P O n id (d + 1) (.call f args) h nx K
    | .read i k => match hget h i with
      | some b => match k b with
        | some e => effK id d e h nx fun v h' nx' ft => K v h' nx' ⟨ft.all, i :: ft.r, ft.w⟩
        | none => False
      | none => False
    | e => plainK P O n id (d + 1) e h nx K

def esK (id : Nat) (h : Heap) (nx : Nat) (K : AV → Heap → Nat → Foot → Prop) : Option ES → Prop
  | none => False
  | some (.eff e) => effK P O n A id 2 e h nx K
  | some (.obl b e) => oblB b (effK P O n A id 2 e h nx K)
  | some (.app b i k v) => oblB b (match hget h i with
    | some (.cells l) => oblB (k l).1 (K (v id) (hins (hdel h i) id (.cells (k l).2)) nx ⟨false, [], [i, id]⟩)
    | _ => False)
  | some (.put b i k v) => oblB b (match hget h i with
    | some (.cells l) => oblB (k l).1 (K v (hins h i (.cells (k l).2)) nx ⟨false, [], [i]⟩)
    | _ => False)
  | some (.pick b x y) => match b with
    | true => match x with
      | some v => K v h nx ⟨false, [], []⟩
      | none => False
    | false => match y with
      | some v => K v h nx ⟨false, [], []⟩
      | none => False

def hintK (ops : List Oper) (id : Nat) (o : Oper) (s : St) (K : AV → Heap → Nat → Foot → Prop) : Hint → Prop
  | .plain => match effB P O.glob ops (evA s.slots) o with
    | some e => effK P O n A id 2 e s.heap s.nx K
    | none => False
  | .ans a => match ansT P O n (fun _ _ _ _ _ => none) ops id o s a with
    | some ((v, h, nx, ft), F) => FactsSem P O F ∧ K v h nx ft
    | none => False
  | .el v => match o.op with
    | .indexAddr t x i => match evA s.slots x, evA s.slots i with
      | some (.fsl _ es), some w => match natS w, elemOfA P t with
        | some (b, k), some e => match sizeA P e with
          | some sz => getN es k = some v ∧ oblB (b && Nat.beq (lenN v.cells) sz) (K (.fptr v.cells 0) s.heap s.nx ⟨false, [], []⟩)
          | none => False
        | _, _ => False
      | _, _ => False
    | _ => False
  | .ld v => match o.op with
    | .load t a => match evA s.slots a with
      | some (.ptr i off) => match hget s.heap i with
        | some (.cells l) => partA P t l off = some v ∧ K v s.heap s.nx ⟨false, [i], []⟩
        | _ => False
      | some (.fptr cs off) => partA P t cs off = some v ∧ K v s.heap s.nx ⟨false, [], []⟩
      | _ => False
    | _ => False

/-- Truth values of slots that are known by now. -/
abbrev Kn := List (Nat × Bool)
def kget : Kn → Nat → Option Bool
  | [], _ => none
  | (d, b) :: t, k => match Nat.beq d k with
    | true => some b
    | false => kget t k
def kdrop : Kn → Nat → Kn
  | [], _ => []
  | (d, b) :: t, k => match Nat.beq d k with
    | true => kdrop t k
    | false => (d, b) :: kdrop t k
def kput (kn : Kn) : Option Tmp → Kn
  | some d => kdrop kn d
  | none => kn
def evN (kn : Kn) (slots : Tr) (x : Operand) : Option AV := match x with
  | .tmp t => match kget kn t with
    | some b => some (.bool b)
    | none => evA slots (.tmp t)
  | x => evA slots x

def goK (rid : Nat) (ops : List Oper) (id i : Nat) (o : Oper) (s : St) (kn : Kn) (K : Kn → St → Foot → Prop) : Prop :=
  match A.hint rid i with
  | some a => hintK P O n A ops id o s (fun v h nx ft => K (kput kn o.dst) ⟨putA s.n s.slots o.dst v, h, nx, s.n⟩ ft) a
  | none => esK P O n A id s.heap s.nx (fun v h nx ft => K (kput kn o.dst) ⟨putA s.n s.slots o.dst v, h, nx, s.n⟩ ft) (effS P O.glob ops (evN kn s.slots) o)
def noK (o : Oper) (s : St) (kn : Kn) (K : Kn → St → Foot → Prop) : Prop := K (kput kn o.dst) ⟨putA s.n s.slots o.dst undefA, s.heap, s.nx, s.n⟩ ⟨false, [], []⟩

def stepK (rid : Nat) (ops : List Oper) (id i : Nat) (o : Oper) (s : St) (kn : Kn) (K : Kn → St → Foot → Prop) : Prop :=
  match o.guard with
  | none => goK P O n A rid ops id i o s kn K
  | some (j, want) => match getN ops j with
    | some g => match g.dst with
      | some d => match kget kn d with
        | some b => match want with
          | true => match b with
            | true => goK P O n A rid ops id i o s kn K
            | false => noK o s kn K
          | false => match b with
            | true => noK o s kn K
            | false => goK P O n A rid ops id i o s kn K
        | none => match s.slots.get d with
          | some (.bool b) => match want with
            | true => match b with
              | true => goK P O n A rid ops id i o s ((d, true) :: kn) K
              | false => noK o s ((d, false) :: kn) K
            | false => match b with
              | true => noK o s ((d, true) :: kn) K
              | false => goK P O n A rid ops id i o s ((d, false) :: kn) K
          | some (.tuple []) => noK o s kn K
          | _ => False
      | none => False
    | none => False

def runOpsK (rid : Nat) (all : List Oper) (base : Nat) : List Oper → Nat → St → Kn → List (Nat × Foot) → (St → List (Nat × Foot) → Prop) → Prop
  | [], _, s, _, acc, K => K s acc
  | o :: rest, i, s, kn, acc, K => stepK P O n A rid all (base + i) i o s kn fun kn' s' ft => runOpsK rid all base rest (i + 1) s' kn' (match ft.none with | true => acc | false => (i, ft) :: acc) K

def loopK (B : St → (AExit → St → Prop) → Prop) : Nat → St → (AExit → St → Prop) → Prop
  | 0, _, _ => False
  | k + 1, s, Q => B s (thenK (fun s' => loopK B k s' Q) Q)

end

/-- A piece of code's first region, and one more. -/
def ridOf : Code → Nat
  | .region id _ _ => id + 1
  | .seq a b => match ridOf a with
    | 0 => ridOf b
    | k + 1 => k + 1
  | .cond _ a b => match ridOf a with
    | 0 => ridOf b
    | k + 1 => k + 1
  | .block _ c => ridOf c
  | .loop c => ridOf c
  | _ => 0

/-- The bodies of the loops whose first region that is. -/
def loopsAt : Code → Nat → List Code
  | .seq a b, r => loopsAt a r ++ loopsAt b r
  | .cond _ a b, r => loopsAt a r ++ loopsAt b r
  | .block _ c, r => loopsAt c r
  | .loop c, r => (match Nat.beq (ridOf c) r with
    | true => [c]
    | false => []) ++ loopsAt c r
  | _, _ => []

section
variable (P : Program) (O : Opts) (n : Nat) (A : Aid)

def wpK : Code → St → (AExit → St → Prop) → Prop
  | .skip, s, Q => Q .normal s
  | .label _, s, Q => Q .normal s
  | .exit i, s, Q => Q (.exit i) s
  | .ret, s, Q => Q .ret s
  | .region rid ops draw, s, Q => runOpsK P O n A rid ops.toList s.nx ops.toList 0 ⟨s.slots, s.heap, s.nx + lenN ops.toList, s.n⟩ [] [] fun s' feet => match draw with
    | false => Q .normal s'
    | true => oblB (regionOk ops.toList && feetOk (befs ops.toList []) feet) (Q .normal s')
  | .seq a b, s, Q => wpK a s (thenK (fun s' => wpK b s' Q) Q)
  | .cond c a b, s, Q => match evA s.slots c with
    | some (.bool t) => match t with
      | true => wpK a s Q
      | false => wpK b s Q
    | _ => False
  | .block id body, s, Q => wpK body s (blockK id Q)
  | .loop body, s, Q => match A.ls (ridOf body) with
    | some L => L s Q
    | none => loopK (wpK body) O.lf s Q
  | _, _, _ => False

/-- A function's run: its answer, the heap behind it. -/
def fnK (f : FuncId) (args : List AV) (H : Heap) (nx : Nat) (Q : AV → Heap → Nat → Prop) : Prop :=
  match P.funcs[f]? with
  | some fn => match fn.body with
    | some c => match fn.name == "runtime.NumGoroutine" with
      | true => False
      | false => match Nat.ble (lenN args) fn.ntmps && Nat.ble fn.ntmps 4095 with
       | false => False
       | true => wpK P O n A c ⟨argsT args 0 .tip, H, nx, fn.ntmps⟩ fun e s => match e with
        | .exit _ => False
        | _ => match resA P O.glob s fn.results.toList with
          | some l => Q (tupA l) s.heap s.nx
          | none => False
    | none => False
  | none => False

end
end
end Go.Proofs.Abs
