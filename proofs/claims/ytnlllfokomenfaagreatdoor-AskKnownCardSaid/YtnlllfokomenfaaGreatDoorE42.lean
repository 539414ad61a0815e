/- The abstract machine, written so that the kernel runs it with less ado; it is the same machine. -/
import Derived.Test.YtnlllfokomenfaaGreatDoorE41
namespace Go.Proofs.Abs
open Go
noncomputable section

/-- A number; a truth value; a pointer; a tuple's parts. -/
def asInt (x : AV) : Option (IntKind × Int) := AV.rec (motive_1 := fun _ => Option (IntKind × Int)) (motive_2 := fun _ => Unit) (fun _ => none) (fun k n => some (k, n)) (fun _ => none) (fun _ _ => none) (none) (fun _ _ _ => none) (fun _ _ => none) (fun _ _ _ => none) (fun _ _ _ _ _ => none) (none) (fun _ => none) (none) (fun _ _ _ _ _ => none) (none) (fun _ _ _ => none) (none) (fun _ _ => none) (fun _ _ => none) () (fun _ _ _ _ => ()) x
def asBool (x : AV) : Option Bool := AV.rec (motive_1 := fun _ => Option Bool) (motive_2 := fun _ => Unit) (fun b => some b) (fun _ _ => none) (fun _ => none) (fun _ _ => none) (none) (fun _ _ _ => none) (fun _ _ => none) (fun _ _ _ => none) (fun _ _ _ _ _ => none) (none) (fun _ => none) (none) (fun _ _ _ _ _ => none) (none) (fun _ _ _ => none) (none) (fun _ _ => none) (fun _ _ => none) () (fun _ _ _ _ => ()) x
inductive VP where
  | ptr (i o : Nat)
  | fptr (cs : List AV) (o : Nat)
  | gptr (g o : Nat)
  | oth
def asPtr (x : AV) : VP := AV.rec (motive_1 := fun _ => VP) (motive_2 := fun _ => Unit) (fun _ => VP.oth) (fun _ _ => VP.oth) (fun _ => VP.oth) (fun i o => VP.ptr i o) (VP.oth) (fun cs o _ => VP.fptr cs o) (fun g o => VP.gptr g o) (fun _ _ _ => VP.oth) (fun _ _ _ _ _ => VP.oth) (VP.oth) (fun _ => VP.oth) (VP.oth) (fun _ _ _ _ _ => VP.oth) (VP.oth) (fun _ _ _ => VP.oth) (VP.oth) (fun _ _ => VP.oth) (fun _ _ => VP.oth) () (fun _ _ _ _ => ()) x
def asTup (x : AV) : Option (List AV) := AV.rec (motive_1 := fun _ => Option (List AV)) (motive_2 := fun _ => Unit) (fun _ => none) (fun _ _ => none) (fun _ => none) (fun _ _ => none) (none) (fun _ _ _ => none) (fun _ _ => none) (fun _ _ _ => none) (fun _ _ _ _ _ => none) (none) (fun _ => none) (none) (fun _ _ _ _ _ => none) (none) (fun _ _ _ => none) (none) (fun _ _ => none) (fun cs _ => some cs) () (fun _ _ _ _ => ()) x
inductive VS where
  | fsl (f : Bool) (es : List AV)
  | rsl (w : Bool) (i o l z : Nat)
  | oth
def asSl (x : AV) : VS := AV.rec (motive_1 := fun _ => VS) (motive_2 := fun _ => Unit) (fun _ => VS.oth) (fun _ _ => VS.oth) (fun _ => VS.oth) (fun _ _ => VS.oth) (VS.oth) (fun _ _ _ => VS.oth) (fun _ _ => VS.oth) (fun f es _ => VS.fsl f es) (fun w i o l z => VS.rsl w i o l z) (VS.oth) (fun _ => VS.oth) (VS.oth) (fun _ _ _ _ _ => VS.oth) (VS.oth) (fun _ _ _ => VS.oth) (VS.oth) (fun _ _ => VS.oth) (fun _ _ => VS.oth) () (fun _ _ _ _ => ()) x
def cellsF (x : AV) : List AV := AV.rec (motive_1 := fun _ => List AV) (motive_2 := fun _ => Unit) (fun b => [.bool b]) (fun k n => [.int k n]) (fun s => [.str s]) (fun i o => [.ptr i o]) ([.nilp]) (fun cs o _ => [.fptr cs o]) (fun g o => [.gptr g o]) (fun f es _ => [.fsl f es]) (fun w i o l z => [.rsl w i o l z]) ([.nilsl]) (fun i => [.map i]) ([.nilmap]) (fun fn a c _ _ => [.func fn a c]) ([.nilFunc]) (fun t v _ => [.iface t v]) ([.nilIface]) (fun cs _ => cs) (fun cs _ => [.tuple cs]) () (fun _ _ _ _ => ()) x
def oneF (x : AV) : Bool := AV.rec (motive_1 := fun _ => Bool) (motive_2 := fun _ => Unit) (fun _ => true) (fun _ _ => true) (fun _ => true) (fun _ _ => true) (true) (fun _ _ _ => true) (fun _ _ => true) (fun _ _ _ => true) (fun _ _ _ _ _ => true) (true) (fun _ => true) (true) (fun _ _ _ _ _ => true) (true) (fun _ _ _ => true) (true) (fun _ _ => false) (fun _ _ => false) () (fun _ _ _ _ => ()) x
def allOneF (l : List AV) : Bool := List.rec true (fun a _ ih => oneF a && ih) l

theorem asInt_some {x : AV} {p : IntKind × Int} (h : asInt x = some p) : x = .int p.1 p.2 := by cases x <;> simp [asInt] at h <;> (subst h; rfl)
theorem asBool_some {x : AV} {b : Bool} (h : asBool x = some b) : x = .bool b := by cases x <;> simp [asBool] at h <;> (subst h; rfl)
theorem cellsF_eq : cellsF = AV.cells := by funext x; cases x <;> rfl
theorem oneF_eq : oneF = AV.one := by funext x; cases x <;> rfl
theorem allOneF_eq : allOneF = allOne := by
  funext l
  induction l with
  | nil => rfl
  | cons a t ih => show (oneF a && allOneF t) = _; rw [ih, oneF_eq]; rfl

def intBin : BinOp → IntKind → Int → Int → Option (Option AV)
  | .add => fun k a b => some (some (.int k (wrapA k (a + b))))
  | .sub => fun k a b => some (some (.int k (wrapA k (a - b))))
  | .mul => fun k a b => some (some (.int k (wrapA k (a * b))))
  | .eql => fun _ a b => some (some (.bool (beqInt a b)))
  | .neq => fun _ a b => some (some (.bool (!beqInt a b)))
  | .lss => fun _ a b => some (some (.bool (ltInt a b)))
  | .leq => fun _ a b => some (some (.bool (!ltInt b a)))
  | .gtr => fun _ a b => some (some (.bool (ltInt b a)))
  | .geq => fun _ a b => some (some (.bool (!ltInt a b)))
  | _ => fun _ _ _ => none
def sameK (k k' : IntKind) : Bool := decide (k = k')

section
variable (P : Program)

def binF (op : BinOp) (t : TypeId) (xo yo : Operand) (x y : AV) : Option AV :=
  match asInt x with
  | some p => match asInt y with
    | some q => match sameK p.1 q.1 with
      | true => match intBin op p.1 p.2 q.2 with
        | some r => r
        | none => binA P op t xo yo x y
      | false => binA P op t xo yo x y
    | none => binA P op t xo yo x y
  | none => binA P op t xo yo x y
theorem binF_eq : binF P = binA P := by
  funext op t xo yo x y
  unfold binF
  split
  · rename_i p hx
    split
    · rename_i q hy
      split
      · rename_i hk
        have hk : p.1 = q.1 := of_decide_eq_true hk
        split
        · rename_i r hr
          rw [asInt_some hx, asInt_some hy]
          rw [← hk]
          unfold intBin at hr
          split at hr <;> simp only [Option.some.injEq] at hr <;> first | (subst hr; simp [binA]; done) | (cases hr; done)
        · rfl
      · rfl
    · rfl
  · rfl

def loadF (t : TypeId) (glob : Nat → Option (List AV)) (a : AV) : Option Eff :=
  match asPtr a with
  | .ptr id off => some <| .read id fun
    | .cells l => (partA P t l off).map .val
    | _ => none
  | .fptr cs off => (partA P t cs off).map .val
  | .gptr g off => match glob g with
    | some l => (partA P t l off).map .val
    | none => none
  | .oth => none
theorem loadF_eq (t : TypeId) (glob : Nat → Option (List AV)) (a : AV) : loadF P t glob a = loadA P t a glob := by cases a <;> rfl

def storeF (t : TypeId) (a v : AV) : Option Eff :=
  match asPtr a with
  | .ptr id off => match sizeA P t with
    | some n => match Nat.beq (lenN (cellsF v)) n && allOneF (cellsF v) with
      | true => some <| .upd id fun
          | .cells l => (splice l off (cellsF v)).map fun l' => (.cells l', undefA)
          | _ => none
      | false => none
    | none => none
  | _ => none
theorem storeF_eq (t : TypeId) (a v : AV) : storeF P t a v = storeA P t a v := by
  unfold storeF
  rw [cellsF_eq, allOneF_eq]
  cases a <;> first | rfl | skip
  rename_i id off
  show (match sizeA P t with
    | some n => (match Nat.beq (lenN v.cells) n && allOne v.cells with
      | true => some <| Eff.upd id fun
          | .cells l => (splice l off v.cells).map fun l' => (Blk.cells l', undefA)
          | _ => none
      | false => none)
    | none => none) = _
  unfold storeA
  simp only
  cases sizeA P t with
  | none => rfl
  | some n =>
    simp only
    cases Nat.beq (lenN v.cells) n && allOne v.cells <;> rfl

def nilF (a : AV) : Option AV := match asPtr a with
  | .ptr i o => some (.ptr i o)
  | .fptr c o => some (.fptr c o)
  | .gptr g o => some (.gptr g o)
  | .oth => nilCheckA a
theorem nilF_eq (a : AV) : nilF a = nilCheckA a := by cases a <;> rfl

def fieldAddrF (t : TypeId) (x : AV) (f : Nat) : Option AV :=
  match fieldOf P t f with
  | some fd => match sizeA P fd.type with
    | some (_ + 1) => match asPtr x with
      | .ptr id off => some (.ptr id (off + fd.offset))
      | .fptr cs off => some (.fptr cs (off + fd.offset))
      | .gptr g off => some (.gptr g (off + fd.offset))
      | .oth => none
    | _ => none
  | none => none
theorem fieldAddrF_eq (t : TypeId) (x : AV) (f : Nat) : fieldAddrF P t x f = fieldAddrA P t x f := by
  unfold fieldAddrF fieldAddrA
  cases fieldOf P t f with
  | none => rfl
  | some fd =>
    simp only
    cases sizeA P fd.type with
    | none => rfl
    | some n =>
      cases n with
      | zero => rfl
      | succ n => cases x <;> rfl

def natF (a : AV) : Option Nat := match asInt a with
  | some p => Int.rec (fun n => some n) (fun _ => none) p.2
  | none => none
theorem natF_eq (a : AV) : natF a = natOf a := by
  cases a <;> try rfl
  rename_i k n
  cases n <;> rfl

def indexAddrF (t : TypeId) (x i : AV) : Option AV :=
  match elemOfA P t, asSl x, natF i with
  | some e, .rsl _ id off len sz', some i => match sizeA P e with
    | some sz => match Nat.blt i len && Nat.beq sz sz' with
      | true => some (.ptr id (off + i * sz))
      | false => none
    | none => none
  | _, _, _ => indexAddrA P t x i
theorem indexAddrF_eq (t : TypeId) (x i : AV) : indexAddrF P t x i = indexAddrA P t x i := by
  unfold indexAddrF
  split
  · rename_i e w id off len sz' k he hx hi
    rw [natF_eq] at hi
    have hu : P.underlying t = some (.slice e) := by
      unfold elemOfA at he
      split at he
      · simp only [Option.some.injEq] at he; subst he; assumption
      · cases he
    have hx : x = .rsl w id off len sz' := by cases x <;> simp [asSl] at hx <;> simp [hx]
    subst hx
    simp only [indexAddrA, hi, hu, Option.bind_eq_bind, Option.bind_some]
    split
    · rename_i sz hs
      simp only [hs, Option.bind_some]
      split
      · rename_i h; simp only [h, if_true]
      · rename_i h; simp only [h, Bool.false_eq_true, if_false]
    · rename_i hs
      simp only [hs, Option.bind_none]
  · rfl

def extractF (v : Option AV) (i : Nat) : Option Eff :=
  match v with
  | some a => match asTup a with
    | some vs => valO (getN vs i)
    | none => none
  | none => none

def convF (s d : TypeId) (x : AV) : Option Eff :=
  match asInt x with
  | some p => match P.underlying s, P.underlying d with
    | some _, some (.int k) => some (.val (.int k (wrapA k p.2)))
    | _, _ => convA P s d x
  | none => convA P s d x
theorem convF_eq (s d : TypeId) (x : AV) : convF P s d x = convA P s d x := by
  unfold convF
  split
  · rename_i p hx
    split
    · rename_i k h1 h2
      rw [asInt_some hx]
      unfold convA
      simp only [h1, h2]
    · rfl
  · rfl

def lenF (argTypes : Array TypeId) (x : AV) : Option Eff :=
  match argTypes[0]?, asSl x with
  | some t, .rsl _ _ _ n _ => match elemOfA P t with
    | some _ => some (.val (.int .i64 (.ofNat n)))
    | none => lenA P argTypes x
  | some t, .fsl _ es => match elemOfA P t with
    | some _ => some (.val (.int .i64 (.ofNat (lenN es))))
    | none => lenA P argTypes x
  | _, _ => lenA P argTypes x
theorem lenF_eq (argTypes : Array TypeId) (x : AV) : lenF P argTypes x = lenA P argTypes x := by
  have he : ∀ {t e}, elemOfA P t = some e → P.underlying t = some (.slice e) := fun {t e} he => by
    unfold elemOfA at he
    split at he
    · simp only [Option.some.injEq] at he; subst he; assumption
    · cases he
  unfold lenF
  split
  · rename_i t w i o n z ht hx
    split
    · rename_i e h
      have hx : x = .rsl w i o n z := by cases x <;> simp [asSl] at hx <;> simp [hx]
      subst hx
      simp only [lenA, ht, he h]
    · rfl
  · rename_i t f es ht hx
    split
    · rename_i e h
      have hx : x = .fsl f es := by cases x <;> simp [asSl] at hx <;> simp [hx]
      subst hx
      simp only [lenA, ht, he h]
    · rfl
  · rfl

def eCallF (glob : Nat → Option (List AV)) (ev : Operand → Option AV) (c : Call) : Option Eff :=
  match c.callee with
  | .builtin .len => match mapOp ev c.args.toList with
    | some [x] => lenF P c.argTypes x
    | _ => eCall P glob ev c
  | _ => eCall P glob ev c
theorem eCallF_eq (glob : Nat → Option (List AV)) (ev : Operand → Option AV) (c : Call) : eCallF P glob ev c = eCall P glob ev c := by
  unfold eCallF
  split
  · rename_i hc
    split
    · rename_i x hx
      simp only [eCall, hx, hc, builtinA, lenF_eq]
    · rfl
  · rfl

end

def dispF (o : Op) : Program → (Nat → Option (List AV)) → (Operand → Option AV) → Option (Option Eff) :=
  Op.rec (motive := fun _ => Program → (Nat → Option (List AV)) → (Operand → Option AV) → Option (Option Eff))
    (fun x _ _ ev => some (valO (ev x))) (fun x _ _ ev => some (valO (ev x))) (fun _ _ _ _ _ _ => none) (fun _ _ _ _ => none) (fun _ _ _ _ _ => none) (fun _ _ _ _ _ => none) (fun _ _ _ _ _ _ => none) (fun _ _ _ _ _ _ _ => none) (fun t a P glob ev => some (e1 ev a fun a => loadF P t glob a)) (fun t a x P _ ev => some (e2 ev a x (storeF P t))) (fun _ _ _ _ => none) (fun _ _ _ _ => none) (fun x _ _ ev => some (e1 ev x fun v => valO (nilF v))) (fun op t x y _ P _ ev => some (e2 ev x y fun v w => valO (binF P op t x y v w))) (fun _ _ _ _ _ _ => none) (fun s d x P _ ev => some (e1 ev x (convF P s d))) (fun _ _ _ _ _ => none) (fun _ _ _ _ _ => none) (fun _ _ _ _ _ _ => none) (fun _ _ _ _ _ => none) (fun _ _ _ _ _ => none) (fun _ _ _ _ _ _ => none) (fun _ _ _ _ _ _ _ _ => none) (fun t x f P _ ev => some (e1 ev x fun v => valO (fieldAddrF P t v f))) (fun _ _ _ _ _ _ => none) (fun t x i P _ ev => some (e2 ev x i fun v w => valO (indexAddrF P t v w))) (fun _ _ _ _ _ _ => none) (fun _ _ _ _ _ _ _ => none) (fun _ _ _ _ _ _ _ => none) (fun _ _ _ _ _ _ => none) (fun _ _ _ _ _ _ _ => none) (fun _ _ _ _ _ => none) (fun _ _ _ _ _ => none) (fun _ _ _ _ => none) (fun _ _ _ _ _ _ _ => none) (fun t i _ _ ev => some (extractF (ev t) i)) (fun c P glob ev => some (eCallF P glob ev c)) (fun _ _ _ _ => none) (fun _ _ _ _ => none) (fun _ _ _ _ => none) (fun _ _ _ _ _ => none) (fun _ _ _ _ _ _ => none) (fun _ _ _ _ _ => none) o
def effF (P : Program) (glob : Nat → Option (List AV)) (ev : Operand → Option AV) (o : Oper) : Option Eff := match dispF o.op P glob ev with
  | some r => r
  | none => effA P glob ev o
theorem effF_eq (P : Program) (glob : Nat → Option (List AV)) (ev : Operand → Option AV) (o : Oper) : effF P glob ev o = effA P glob ev o := by
  unfold effF
  split
  · rename_i r hr
    cases ho : o.op <;> rw [ho] at hr <;> simp only [dispF, Option.some.injEq, reduceCtorEq] at hr <;> (subst hr; simp only [effA, ho, binF_eq, loadF_eq, nilF_eq, fieldAddrF_eq, indexAddrF_eq, eCallF_eq]) <;> first
      | rfl
      | (unfold extractF eExtract; rename_i t i; cases ev t with
         | none => rfl
         | some a => cases a <;> rfl)
      | (congr 1; funext a b; exact storeF_eq P _ a b)
      | (congr 1; funext a; exact convF_eq P _ _ a)
  · rfl

/-- Is it the building of a slice? -/
def isBS (o : Op) : Bool := Op.rec (motive := fun _ => Bool) (fun _ => false) (fun _ => false) (fun _ _ _ => false) (fun _ => false) (fun _ _ => false) (fun _ _ => false) (fun _ _ _ => true) (fun _ _ _ _ => false) (fun _ _ => false) (fun _ _ _ => false) (fun _ => false) (fun _ => false) (fun _ => false) (fun _ _ _ _ _ => false) (fun _ _ _ => false) (fun _ _ _ => false) (fun _ _ => false) (fun _ _ => false) (fun _ _ _ => false) (fun _ _ => false) (fun _ _ => false) (fun _ _ _ => false) (fun _ _ _ _ _ => false) (fun _ _ _ => false) (fun _ _ _ => false) (fun _ _ _ => false) (fun _ _ _ => false) (fun _ _ _ _ => false) (fun _ _ _ _ => false) (fun _ _ _ => false) (fun _ _ _ _ => false) (fun _ _ => false) (fun _ _ => false) (fun _ => false) (fun _ _ _ _ => false) (fun _ _ => false) (fun _ => false) (fun _ => false) (fun _ => false) (fun _ => false) (fun _ _ => false) (fun _ _ _ => false) (fun _ _ => false) o
def effBF (P : Program) (glob : Nat → Option (List AV)) (ops : List Oper) (ev : Operand → Option AV) (o : Oper) : Option Eff := match isBS o.op with
  | true => effB P glob ops ev o
  | false => effF P glob ev o
theorem effBF_eq (P : Program) (glob : Nat → Option (List AV)) (ops : List Oper) (ev : Operand → Option AV) (o : Oper) : effBF P glob ops ev o = effB P glob ops ev o := by
  unfold effBF
  split
  · rfl
  · rename_i h
    rw [effF_eq, effB_of]
    cases ho : o.op <;> first | rfl | (rw [ho] at h; cases h)

def asVal (e : Eff) : Option AV := match e with
  | .val v => some v
  | _ => none
theorem asVal_some {e : Eff} {v : AV} (h : asVal e = some v) : e = .val v := by cases e <;> simp [asVal] at h <;> (subst h; rfl)
def runEffQ (call : Caller) (id : Nat) (e : Eff) (h : Heap) (nx : Nat) : Option (AV × Heap × Nat × Foot) := match asVal e with
  | some v => some (v, h, nx, ⟨false, [], []⟩)
  | none => runEff call id 2 e h nx
theorem runEffQ_eq (call : Caller) (id : Nat) (e : Eff) (h : Heap) (nx : Nat) : runEffQ call id e h nx = runEff call id 2 e h nx := by
  unfold runEffQ
  split
  · rename_i v hv; rw [asVal_some hv]; rfl
  · rfl

section
variable (P : Program) (glob : Nat → Option (List AV)) (call : Caller)

def stepQ (ops : List Oper) (id : Nat) (o : Oper) (s : St) : Option (St × Foot) :=
  match wantedA ops o s.slots with
  | some true => match effBF P glob ops (evA s.slots) o with
    | some e => match runEffQ call id e s.heap s.nx with
      | some (v, h, nx, ft) => some (⟨putA s.n s.slots o.dst v, h, nx, s.n⟩, ft)
      | none => none
    | none => none
  | some false => some (⟨putA s.n s.slots o.dst undefA, s.heap, s.nx, s.n⟩, ⟨false, [], []⟩)
  | none => none
theorem stepQ_eq (ops : List Oper) (id : Nat) (o : Oper) (s : St) : stepQ P glob call ops id o s = stepA P glob call ops id o s := by
  unfold stepQ stepA
  simp only [effBF_eq, runEffQ_eq]
  rfl

def runOpsQ (all : List Oper) (base : Nat) : List Oper → Nat → St → List (Nat × Foot) → Option (St × List (Nat × Foot))
  | [], _, s, acc => some (s, acc)
  | o :: rest, i, s, acc => match stepQ P glob call all (base + i) o s with
    | some (s', ft) => runOpsQ all base rest (i + 1) s' (match ft.none with | true => acc | false => (i, ft) :: acc)
    | none => none
theorem runOpsQ_eq (all : List Oper) (base : Nat) : ∀ (l : List Oper) (i : Nat) (s : St) (acc : List (Nat × Foot)), runOpsQ P glob call all base l i s acc = runOps P glob call all base l i s acc
  | [], _, _, _ => rfl
  | o :: rest, i, s, acc => by
    simp only [runOpsQ, runOps, stepQ_eq]
    split
    · rename_i s' ft h; simp only [h]; exact runOpsQ_eq all base rest (i + 1) s' _
    · rename_i h; simp only [h]

def condQ (v : Option AV) : Option Bool := match v with
  | some a => asBool a
  | none => none

def execQ (lf : Nat) : Code → St → Option (AExit × St)
  | .skip, s | .label _, s => some (.normal, s)
  | .region _ ops draw, s =>
    match runOpsQ P glob call ops.toList s.nx ops.toList 0 ⟨s.slots, s.heap, s.nx + lenN ops.toList, s.n⟩ [] with
    | some (s', feet) => match draw with
      | false => some (.normal, s')
      | true => match regionOk ops.toList && feetOk (befs ops.toList []) feet with
        | true => some (.normal, s')
        | false => none
    | none => none
  | .seq a b, s => match execQ lf a s with
    | some (.normal, s') => execQ lf b s'
    | r => r
  | .cond c a b, s => match condQ (evA s.slots c) with
    | some true => execQ lf a s
    | some false => execQ lf b s
    | _ => none
  | .block id body, s => match execQ lf body s with
    | some (.exit i, s') => match Nat.beq i id with
      | true => some (.normal, s')
      | false => some (.exit i, s')
    | r => r
  | .loop body, s => loopA (execQ lf body) lf s
  | .exit id, s => some (.exit id, s)
  | .ret, s => some (.ret, s)
  | _, _ => none
theorem execQ_eq (lf : Nat) (c : Code) : execQ P glob call lf c = execA P glob call lf c := by
  induction c with
  | region id ops draw => funext s; simp only [execQ, execA, runOpsQ_eq]; rfl
  | seq a b iha ihb => funext s; simp only [execQ, execA, iha, ihb]; rfl
  | cond c a b iha ihb =>
    funext s
    simp only [execQ, execA, iha, ihb]
    cases evA s.slots c with
    | none => rfl
    | some v =>
      cases v <;> first | rfl | skip
      rename_i b; cases b <;> rfl
  | block id body ih => funext s; simp only [execQ, execA, ih]; rfl
  | loop body ih => funext s; simp only [execQ, execA, ih]
  | _ => rfl

end

def runBodyQ (P : Program) (O : Opts) (call : Caller) (f : FuncId) (args : List AV) (h : Heap) (nx : Nat) : Option (AV × Heap × Nat) :=
  match P.funcs[f]? with
  | some fn => match fn.body with
    | some c => match fn.name == "runtime.NumGoroutine" with
      | true => none
      | false => match Nat.ble (lenN args) fn.ntmps && Nat.ble fn.ntmps 4095 with
       | false => none
       | true => match execQ P O.glob call O.lf c ⟨argsT args 0 .tip, h, nx, fn.ntmps⟩ with
        | some (.normal, s) | some (.ret, s) => match resA P O.glob s fn.results.toList with
          | some l => some (tupA l, s.heap, s.nx)
          | none => none
        | _ => none
    | none => none
  | none => none
theorem runBodyQ_eq (P : Program) (O : Opts) (call : Caller) (f : FuncId) (args : List AV) (h : Heap) (nx : Nat) : runBodyQ P O call f args h nx = runBody P O call f args h nx := by
  unfold runBodyQ runBody
  simp only [execQ_eq]
  rfl

def callLookQ (P : Program) (O : Opts) (call : Caller) (d : Nat) (f : FuncId) (args : List AV) (id : Nat) (h : Heap) (nx : Nat) : Option (AV × Heap × Nat × Foot) :=
  match runBodyQ P O call f args (cutH h (lookSet h d (idsAll args []))) nx with
  | some (v, h1, _) => match lookEnd (lookSet h d (idsAll args [])) id nx h v h1 with
    | some r => some (lookFin (lookSet h d (idsAll args [])) id nx h r)
    | none => none
  | none => none
def callPartQ (P : Program) (O : Opts) (call : Caller) (d : Nat) (f : FuncId) (args : List AV) (h : Heap) (nx : Nat) : Option (AV × Heap × Nat × Foot) :=
  match runBodyQ P O call f args (cutH h (lookSet h d (idsAll args []))) nx with
  | some (v, h1, nx') => match Nat.ble nx nx' with
   | false => none
   | true => some (v, Mods.app (catM (oldM h1 (lookSet h d (idsAll args []))) (newM nx h1 h1)) h, nx', ⟨true, lookSet h d (idsAll args []), nx :: lookSet h d (idsAll args [])⟩)
  | none => none
def callQ (P : Program) (O : Opts) : Nat → Caller
  | 0, _, _, _, _, _ => none
  | n + 1, f, args, id, h, nx =>
    match O.how f, closedAll args with
    | .look d, _ => callLookQ P O (callQ P O n) d f args id h nx
    | .each d, _ => callEach P O (callQ P O n) d f args id h nx
    | .clone, _ => callClone P f args id h nx
    | .part d, _ => callPartQ P O (callQ P O n) d f args h nx
    | .cmp, _ => callCmp P f args h nx
    | .known, _ => O.cx f args id h nx
    | .pure, true => match O.summ f args with
      | some v => some (v, h, nx, ⟨false, [], []⟩)
      | none => match runBodyQ P O (callQ P O n) f args [] 0 with
        | some (v, h', _) => match freezeA 0 h' 40 v with
          | some v' => match closedA v' with
            | true => some (v', h, nx, ⟨false, [], []⟩)
            | false => none
          | none => none
        | none => none
    | .fresh, true => match runBodyQ P O (callQ P O n) f args [] 0 with
      | some (v, h', _) => importA h' v id h nx
      | none => none
    | .pure, false => match runBodyQ P O (callQ P O n) f args h nx with
      | some (v, h', nx') => match freezeA nx h' 40 v with
        | some v' => some (v', hbelow nx h', nx', ⟨true, [], []⟩)
        | none => none
      | none => none
    | _, _ => match runBodyQ P O (callQ P O n) f args h nx with
      | some (v, h', nx') => some (v, h', nx', ⟨true, [], []⟩)
      | none => none
theorem callQ_eq (P : Program) (O : Opts) : ∀ n, callQ P O n = callN P O n
  | 0 => rfl
  | n + 1 => by
    funext f args id h nx
    simp only [callQ, callN, callQ_eq P O n, runBodyQ_eq, callLookQ, callPartQ, callLook, callPart]
    rfl

theorem runQ_eq (P : Program) (O : Opts) (n : Nat) (f : FuncId) (args : List AV) (h : Heap) (nx : Nat) : runBodyQ P O (callQ P O n) f args h nx = runBody P O (callN P O n) f args h nx := by
  rw [runBodyQ_eq, callQ_eq]

end

/-- A law without arguments, run so. -/
theorem calls_trueQ {P : Program} {O : Opts} {n : Nat} {f : FuncId} {w : World} (hm : P.follows .mixedOrders = true) (hsum : ∀ f args v, O.summ f args = some v → SemCall P O.glob f args v) (hcx : CallOk P O.glob O.cx ∧ CallLoc O.cx) (hg : O.glob = fun _ => none)
    (h : isTrue (runBodyQ P O (callQ P O n) f [] [] 1) = true) : Calls P f #[] w fun e w' => e = .returned (.bool true) ∧ RowKit.Below w.heap.size w w' :=
  calls_trueS (n := n) hm hsum hcx hg (by unfold runTrue; rw [← runQ_eq]; exact h)
/-- A function that answers a truth value, run so. -/
theorem sem_boolQ {P : Program} {O : Opts} {n : Nat} {f : FuncId} (hm : P.follows .mixedOrders = true) (hsum : ∀ f args v, O.summ f args = some v → SemCall P O.glob f args v) (hcx : CallOk P O.glob O.cx ∧ CallLoc O.cx) (hg : ∀ g l, O.glob g = some l → closedAll l = true)
    (h : isTrue (runBodyQ P O (callQ P O n) f [] [] 0) = true) : SemCall P O.glob f [] (.bool true) :=
  sem_bool (n := n) hm hsum hcx hg (by rw [← runQ_eq]; exact h)
end Go.Proofs.Abs
