/- Runs over values that are not known: where an operation hangs on them, its answer is handed in, and noted as a fact that is left to be shown. -/
import Derived.Test.YtnlllfokomenfaaGreatDoorE25
namespace Go.Proofs.Abs
open Go
noncomputable section

/-- An answer that is handed in: of a comparison; a value; what a function answers; the blocks that an effect looks at; an effect; answers for the run of what is called; the new block of what is called; a block that is laid anew. -/
inductive Ans where
  | b (r : Bool)
  | v (r : AV)
  | c (r : AV)
  | h (l : List Blk)
  | e (e : Eff)
  | n (l : List (Nat × Nat × Ans))
  | w (b : Blk) (v : Nat → AV)
  | r (i : Nat) (b b' : Blk) (v : Nat → AV)
  | u (i : Nat) (b b' : Blk) (v : AV)

/-- What is left to be shown. -/
inductive Fact where
  | beq (a b : Int) (r : Bool)
  | lt (a b : Int) (r : Bool)
  | seq (s t : List UInt8) (r : Bool)
  | gen (op : Op) (vs : List (Option AV)) (r : AV)
  | call (f : FuncId) (args : List AV) (r : AV)
  | blk (h : Heap) (id : Nat) (b : Blk)
  | eff (op : Op) (vs : List (Option AV)) (e : Eff)
  | up (F : Fact)
  | fresh (f : FuncId) (args : List AV) (b : Blk) (v : Nat → AV)
  | repl (op : Op) (vs : List (Option AV)) (i : Nat) (b b' : Blk) (v : Nat → AV)
  | updt (op : Op) (vs : List (Option AV)) (i : Nat) (b b' : Blk) (v : AV)

def Fact.ok (P : Program) (O : Opts) : Fact → Nat → Prop
  | .beq a b r, _ => beqInt a b = r
  | .lt a b r, _ => ltInt a b = r
  | .seq s t r, _ => beqBytes s t = r
  | .gen op vs r, _ => ∀ ev, op.operands.toList.map ev = vs → ∀ o, o.op = op → effA P O.glob ev o = some (.val r)
  | .call f args r, n => ∀ id h nx, callN P O n f args id h nx = some (r, h, nx, ⟨false, [], []⟩)
  | .blk h id b, _ => hget h id = some b
  | .eff op vs e, _ => ∀ ev, op.operands.toList.map ev = vs → ∀ o, o.op = op → effA P O.glob ev o = some e
  | .up F, n => match n with
    | 0 => False
    | m + 1 => Fact.ok P O F m
  | .fresh f args b v, n => ∀ id h nx, callN P O n f args id h nx = some (v id, hins h id b, nx, ⟨false, [], [id]⟩)
  | .repl op vs i b b' v, _ => ∀ ev, op.operands.toList.map ev = vs → ∀ o, o.op = op → ∃ k, effA P O.glob ev o = some (.repl i k) ∧ k b = some (b', v)
  | .updt op vs i b b' v, _ => ∀ ev, op.operands.toList.map ev = vs → ∀ o, o.op = op → ∃ k, effA P O.glob ev o = some (.upd i k) ∧ k b = some (b', v)

def FactsOk (P : Program) (O : Opts) (n : Nat) : List Fact → Prop
  | [] => True
  | F :: t => F.ok P O n ∧ FactsOk P O n t

def cmpF : BinOp → AV → AV → Bool → Option Fact
  | .eql, .int k a, .int k' b, r => match decide (k = k') with
    | true => some (.beq a b r)
    | false => none
  | .neq, .int k a, .int k' b, r => match decide (k = k') with
    | true => some (.beq a b (!r))
    | false => none
  | .lss, .int k a, .int k' b, r => match decide (k = k') with
    | true => some (.lt a b r)
    | false => none
  | .leq, .int k a, .int k' b, r => match decide (k = k') with
    | true => some (.lt b a (!r))
    | false => none
  | .gtr, .int k a, .int k' b, r => match decide (k = k') with
    | true => some (.lt b a r)
    | false => none
  | .geq, .int k a, .int k' b, r => match decide (k = k') with
    | true => some (.lt a b (!r))
    | false => none
  | .eql, .str a, .str b, r => some (.seq a b r)
  | .neq, .str a, .str b, r => some (.seq a b (!r))
  | _, _, _, _ => none

abbrev Anss := List (Nat × Nat × Ans)

def hit (rid i : Nat) : Anss → Option (Ans × Anss)
  | (r, j, a) :: t => match Nat.beq r rid && Nat.beq j i with
    | true => some (a, t)
    | false => none
  | [] => none

def baseT (call : Caller) (id d : Nat) (e : Eff) (h : Heap) (nx : Nat) (bs : List Blk) : Option ((AV × Heap × Nat × Foot) × List Fact) :=
  match e, bs with
  | .upd i k, b :: _ => match k b with
    | some (b', v) => some ((v, hins h i b', nx, ⟨false, [], [i]⟩), [.blk h i b])
    | none => none
  | .repl i k, b :: _ => match k b with
    | some (b', v) => some ((v id, hins (hdel h i) id b', nx, ⟨false, [], [i, id]⟩), [.blk h i b])
    | none => none
  | e, _ => match runEff call id d e h nx with
    | some r => some (r, [])
    | none => none

def runEffT (call : Caller) (id : Nat) : Nat → Eff → Heap → Nat → List Blk → Option ((AV × Heap × Nat × Foot) × List Fact)
  | 0, e, h, nx, bs => baseT call id 0 e h nx bs
  | n + 1, e, h, nx, bs => match e, bs with
    | .read i k, b :: bs => match k b with
      | some e => match runEffT call id n e h nx bs with
        | some ((v, h', nx', ft), F) => some ((v, h', nx', ⟨ft.all, i :: ft.r, ft.w⟩), .blk h i b :: F)
        | none => none
      | none => none
    | e, bs => baseT call id (n + 1) e h nx bs

def notRow : Op → Bool
  | .buildSlice _ _ _ => false
  | _ => true

def upAll : List Fact → List Fact
  | [] => []
  | F :: t => .up F :: upAll t

/-- How the run of a body is followed: a function, its arguments, a heap, the next number, answers. -/
abbrev Nest := FuncId → List AV → Heap → Nat → Anss → Option (AV × Heap × Nat × List Fact)

section
variable (P : Program) (O : Opts) (n : Nat) (nest : Nest)

def ansT (ops : List Oper) (id : Nat) (o : Oper) (s : St) (a : Ans) : Option ((AV × Heap × Nat × Foot) × List Fact) :=
  match a with
  | .b r => match o.op with
    | .binOp op _ x y _ => match evA s.slots x, evA s.slots y with
      | some v, some w => match cmpF op v w r with
        | some F => some ((.bool r, s.heap, s.nx, ⟨false, [], []⟩), [F])
        | none => none
      | _, _ => none
    | _ => none
  | .v r => match notRow o.op with
    | true => some ((r, s.heap, s.nx, ⟨false, [], []⟩), [.gen o.op (o.op.operands.toList.map (evA s.slots)) r])
    | false => none
  | .c r => match effB P O.glob ops (evA s.slots) o with
    | some (.call f args) => some ((r, s.heap, s.nx, ⟨false, [], []⟩), [.call f args r])
    | _ => none
  | .h l => match effB P O.glob ops (evA s.slots) o with
    | some e => runEffT (callN P O n) id 2 e s.heap s.nx l
    | none => none
  | .e e => match notRow o.op with
    | true => match runEff (callN P O n) id 2 e s.heap s.nx with
      | some r => some (r, [.eff o.op (o.op.operands.toList.map (evA s.slots)) e])
      | none => none
    | false => none
  | .w b v => match effB P O.glob ops (evA s.slots) o with
    | some (.call f args) => some ((v id, hins s.heap id b, s.nx, ⟨false, [], [id]⟩), [.fresh f args b v])
    | _ => none
  | .r i b b' v => match notRow o.op with
    | true => some ((v id, hins (hdel s.heap i) id b', s.nx, ⟨false, [], [i, id]⟩), [.blk s.heap i b, .repl o.op (o.op.operands.toList.map (evA s.slots)) i b b' v])
    | false => none
  | .u i b b' v => match notRow o.op with
    | true => some ((v, hins s.heap i b', s.nx, ⟨false, [], [i]⟩), [.blk s.heap i b, .updt o.op (o.op.operands.toList.map (evA s.slots)) i b b' v])
    | false => none
  | .n T => match effB P O.glob ops (evA s.slots) o with
    | some (.call f args) => match O.how f, closedAll args with
      | .pure, true => none
      | .fresh, true => match nest f args [] 0 T with
        | some (v, h', _, F) => match importA h' v id s.heap s.nx with
          | some r => some (r, upAll F)
          | none => none
        | none => none
      | .pure, false => match nest f args s.heap s.nx T with
        | some (v, h', nx', F) => match freezeA s.nx h' 40 v with
          | some v' => some ((v', hbelow s.nx h', nx', ⟨true, [], []⟩), upAll F)
          | none => none
        | none => none
      | .keep, _ => match nest f args s.heap s.nx T with
        | some (v, h', nx', F) => some ((v, h', nx', ⟨true, [], []⟩), upAll F)
        | none => none
      | .fresh, false => match nest f args s.heap s.nx T with
        | some (v, h', nx', F) => some ((v, h', nx', ⟨true, [], []⟩), upAll F)
        | none => none
      | _, _ => none
    | _ => none

def runOpsT (rid : Nat) (all : List Oper) (base : Nat) : List Oper → Nat → St → List (Nat × Foot) → Anss → List Fact → Option (St × List (Nat × Foot) × Anss × List Fact)
  | [], _, s, acc, T, F => some (s, acc, T, F)
  | o :: rest, i, s, acc, T, F => match hit rid i T with
    | none => match stepA P O.glob (callN P O n) all (base + i) o s with
      | some (s', ft) => runOpsT rid all base rest (i + 1) s' (match ft.none with | true => acc | false => (i, ft) :: acc) T F
      | none => none
    | some (a, T') => match wantedA all o s.slots with
      | some true => match ansT P O n nest all (base + i) o s a with
        | some ((v, h, nx, ft), F') => runOpsT rid all base rest (i + 1) ⟨putA s.n s.slots o.dst v, h, nx, s.n⟩ (match ft.none with | true => acc | false => (i, ft) :: acc) T' (F' ++ F)
        | none => none
      | _ => none

abbrev ResT := Option (AExit × St × Anss × List Fact)

def loopT (body : St → Anss → List Fact → ResT) : Nat → St → Anss → List Fact → ResT
  | 0, _, _, _ => none
  | n + 1, s, T, F => match body s T F with
    | some (.normal, s', T', F') => loopT body n s' T' F'
    | r => r

def execT (lf : Nat) : Code → St → Anss → List Fact → ResT
  | .skip, s, T, F | .label _, s, T, F => some (.normal, s, T, F)
  | .region rid ops draw, s, T, F =>
    match runOpsT P O n nest rid ops.toList s.nx ops.toList 0 ⟨s.slots, s.heap, s.nx + lenN ops.toList, s.n⟩ [] T F with
    | some (s', feet, T', F') => match draw with
      | false => some (.normal, s', T', F')
      | true => match regionOk ops.toList && feetOk (befs ops.toList []) feet with
        | true => some (.normal, s', T', F')
        | false => none
    | none => none
  | .seq a b, s, T, F => match execT lf a s T F with
    | some (.normal, s', T', F') => execT lf b s' T' F'
    | r => r
  | .cond c a b, s, T, F => match evA s.slots c with
    | some (.bool true) => execT lf a s T F
    | some (.bool false) => execT lf b s T F
    | _ => none
  | .block id body, s, T, F => match execT lf body s T F with
    | some (.exit i, s', T', F') => match Nat.beq i id with
      | true => some (.normal, s', T', F')
      | false => some (.exit i, s', T', F')
    | r => r
  | .loop body, s, T, F => loopT (execT lf body) lf s T F
  | .exit id, s, T, F => some (.exit id, s, T, F)
  | .ret, s, T, F => some (.ret, s, T, F)
  | _, _, _, _ => none

/-- A body's run. -/
def runT (f : FuncId) (args : List AV) (h : Heap) (nx : Nat) (T : Anss) : Option (AV × Heap × Nat × List Fact) :=
  match P.funcs[f]? with
  | some fn => match fn.body with
    | some c => match fn.name == "runtime.NumGoroutine" with
      | true => none
      | false => match Nat.ble (lenN args) fn.ntmps && Nat.ble fn.ntmps 4095 with
       | false => none
       | true => match execT P O n nest O.lf c ⟨argsT args 0 .tip, h, nx, fn.ntmps⟩ T [] with
        | some (.normal, s, _, F) | some (.ret, s, _, F) => match resA P O.glob s fn.results.toList with
          | some l => some (tupA l, s.heap, s.nx, F)
          | none => none
        | _ => none
    | none => none
  | none => none

end

/-- A body's run where functions are called by callN P O n. -/
def nestOf (P : Program) (O : Opts) : Nat → Nest
  | 0 => fun _ _ _ _ _ => none
  | n + 1 => runT P O n (nestOf P O n)
def bodyR (P : Program) (O : Opts) (n : Nat) : Nest := runT P O n (nestOf P O n)

/-- A function's run in a heap of its own: what it answers, the heap behind it. -/
def rawT (P : Program) (O : Opts) (n : Nat) (f : FuncId) (args : List AV) (T : Anss) : Option (AV × Heap × List Fact) :=
  match bodyR P O n f args [] 0 T with
  | some (v, h, _, F) => some (v, h, F)
  | none => none

/-- A function's run in a heap of its own, its answer closed. -/
def pureT (P : Program) (O : Opts) (n : Nat) (f : FuncId) (args : List AV) (T : Anss) : Option (AV × List Fact) :=
  match closedAll args with
  | false => none
  | true => match rawT P O n f args T with
    | some (v, h, F) => match freezeA 0 h 40 v with
      | some v' => match closedA v' with
        | true => some (v', F)
        | false => none
      | none => none
    | none => none

end

section
variable {P : Program} {O : Opts} {n : Nat} {nest : Nest}

theorem factsOk_append : ∀ {a b : List Fact}, FactsOk P O n (a ++ b) ↔ FactsOk P O n a ∧ FactsOk P O n b
  | [], b => by simp [FactsOk]
  | F :: t, b => by simp only [List.cons_append, FactsOk, factsOk_append (a := t)]; exact and_assoc.symm

theorem cmpF_ok {op : BinOp} {t : TypeId} {xo yo : Operand} {x y : AV} {r : Bool} {F : Fact} (h : cmpF op x y r = some F) (hF : F.ok P O n) : binA P op t xo yo x y = some (.bool r) := by
  unfold cmpF at h
  split at h <;> first
    | (cases h; done)
    | (split at h
       · rename_i hk
         have hk := of_decide_eq_true hk
         subst hk
         simp only [Option.some.injEq] at h; subst h
         simp only [Fact.ok] at hF
         simp [binA, hF]
       · cases h)
    | (simp only [Option.some.injEq] at h; subst h
       simp only [Fact.ok] at hF
       simp [binA, hF])

theorem baseT_ok {id d : Nat} {e : Eff} {h : Heap} {nx : Nat} {bs : List Blk} {r : AV × Heap × Nat × Foot} {F : List Fact} (hr : baseT (callN P O n) id d e h nx bs = some (r, F)) (hF : FactsOk P O n F) : runEff (callN P O n) id d e h nx = some r := by
  unfold baseT at hr
  split at hr
  · split at hr
    · rename_i b' v hk
      simp only [Option.some.injEq, Prod.mk.injEq] at hr
      obtain ⟨rfl, rfl⟩ := hr
      have hb := hF.1
      simp only [Fact.ok] at hb
      cases d <;> simp only [runEff, hb, hk]
    · cases hr
  · split at hr
    · rename_i b' v hk
      simp only [Option.some.injEq, Prod.mk.injEq] at hr
      obtain ⟨rfl, rfl⟩ := hr
      have hb := hF.1
      simp only [Fact.ok] at hb
      cases d <;> simp only [runEff, hb, hk]
    · cases hr
  · split at hr
    · rename_i r' hr'
      simp only [Option.some.injEq, Prod.mk.injEq] at hr
      obtain ⟨rfl, rfl⟩ := hr
      exact hr'
    · cases hr

theorem runEffT_ok {id : Nat} : ∀ (d : Nat) (e : Eff) {h : Heap} {nx : Nat} {bs : List Blk} {r : AV × Heap × Nat × Foot} {F : List Fact}, runEffT (callN P O n) id d e h nx bs = some (r, F) → FactsOk P O n F → runEff (callN P O n) id d e h nx = some r
  | 0, _, _, _, _, _, _, hr, hF => baseT_ok hr hF
  | d + 1, e, h, nx, bs, r, F, hr, hF => by
    unfold runEffT at hr
    split at hr
    · split at hr
      · rename_i e' hk
        split at hr
        · rename_i v h' nx' ft F' hr'
          simp only [Option.some.injEq, Prod.mk.injEq] at hr
          obtain ⟨rfl, rfl⟩ := hr
          have hb := hF.1
          simp only [Fact.ok] at hb
          have := runEffT_ok d e' hr' hF.2
          simp only [runEff, hb, hk, this]
        · cases hr
      · cases hr
    · exact baseT_ok hr hF

theorem ansT_ok (hn : ∀ f args h nx T v h' nx' F, nest f args h nx T = some (v, h', nx', F) → FactsOk P O n (upAll F) → ∃ m, n = m + 1 ∧ runBody P O (callN P O m) f args h nx = some (v, h', nx')) {ops : List Oper} {id : Nat} {o : Oper} {s : St} {a : Ans} {v : AV} {h : Heap} {nx : Nat} {ft : Foot} {F : List Fact} (hw : wantedA ops o s.slots = some true) (ha : ansT P O n nest ops id o s a = some ((v, h, nx, ft), F)) (hF : FactsOk P O n F) :
    stepA P O.glob (callN P O n) ops id o s = some (⟨putA s.n s.slots o.dst v, h, nx, s.n⟩, ft) := by
  have fin : ∀ {e : Eff}, effB P O.glob ops (evA s.slots) o = some e → runEff (callN P O n) id 2 e s.heap s.nx = some (v, h, nx, ft) → stepA P O.glob (callN P O n) ops id o s = some (⟨putA s.n s.slots o.dst v, h, nx, s.n⟩, ft) := fun h1 h2 => by
    unfold stepA
    simp only [hw, h1, h2]
  have notB : notRow o.op = true → effB P O.glob ops (evA s.slots) o = effA P O.glob (evA s.slots) o := fun hn => by
    unfold effB
    split
    · rename_i ho _; rw [ho] at hn; cases hn
    · rfl
  unfold ansT at ha
  split at ha
  · rename_i r
    split at ha
    · rename_i op t x y t' ho
      split at ha
      · rename_i u w hu hw'
        split at ha
        · rename_i Fc hc
          simp only [Option.some.injEq, Prod.mk.injEq] at ha
          obtain ⟨⟨rfl, rfl, rfl, rfl⟩, rfl⟩ := ha
          refine fin (e := .val (.bool r)) ?_ rfl
          rw [notB (by rw [ho]; rfl)]
          simp only [effA, ho, e2, hu, hw', cmpF_ok (P := P) hc hF.1, valO]
        · cases ha
      · cases ha
    · cases ha
  · rename_i r
    split at ha
    · rename_i hnr
      simp only [Option.some.injEq, Prod.mk.injEq] at ha
      obtain ⟨⟨rfl, rfl, rfl, rfl⟩, rfl⟩ := ha
      refine fin (e := .val r) ?_ rfl
      rw [notB hnr]
      exact hF.1 (evA s.slots) rfl o rfl
    · cases ha
  · rename_i r
    split at ha
    · rename_i f args he
      simp only [Option.some.injEq, Prod.mk.injEq] at ha
      obtain ⟨⟨rfl, rfl, rfl, rfl⟩, rfl⟩ := ha
      exact fin he (by have := hF.1 id s.heap s.nx; simpa [runEff] using this)
    · cases ha
  · rename_i l
    split at ha
    · rename_i e he
      exact fin he (runEffT_ok 2 e ha hF)
    · cases ha
  · rename_i e
    split at ha
    · rename_i hnr
      split at ha
      · rename_i r hr
        simp only [Option.some.injEq, Prod.mk.injEq] at ha
        obtain ⟨rfl, rfl⟩ := ha
        refine fin (e := e) ?_ hr
        rw [notB hnr]
        exact hF.1 (evA s.slots) rfl o rfl
      · cases ha
    · cases ha
  · rename_i b vv
    split at ha
    · rename_i f args he
      simp only [Option.some.injEq, Prod.mk.injEq] at ha
      obtain ⟨⟨rfl, rfl, rfl, rfl⟩, rfl⟩ := ha
      exact fin he (by have := hF.1 id s.heap s.nx; simpa [runEff] using this)
    · cases ha
  · rename_i i b b' vv
    split at ha
    · rename_i hnr
      simp only [Option.some.injEq, Prod.mk.injEq] at ha
      obtain ⟨⟨rfl, rfl, rfl, rfl⟩, rfl⟩ := ha
      obtain ⟨k, h1, h2⟩ := hF.2.1 (evA s.slots) rfl o rfl
      have hb : hget s.heap i = some b := hF.1
      refine fin (e := .repl i k) ?_ (by simp only [runEff, hb, h2])
      rw [notB hnr]; exact h1
    · cases ha
  · rename_i i b b' vv
    split at ha
    · rename_i hnr
      simp only [Option.some.injEq, Prod.mk.injEq] at ha
      obtain ⟨⟨rfl, rfl, rfl, rfl⟩, rfl⟩ := ha
      obtain ⟨k, h1, h2⟩ := hF.2.1 (evA s.slots) rfl o rfl
      have hb : hget s.heap i = some b := hF.1
      refine fin (e := .upd i k) ?_ (by simp only [runEff, hb, h2])
      rw [notB hnr]; exact h1
    · cases ha
  · rename_i T
    split at ha
    · rename_i f args he
      refine fin he ?_
      have done : ∀ {r : AV × Heap × Nat × Foot}, callN P O n f args id s.heap s.nx = some r → runEff (callN P O n) id 2 (.call f args) s.heap s.nx = some r := fun h => by simpa [runEff] using h
      refine done ?_
      split at ha
      · cases ha
      · rename_i hh hc
        split at ha
        · rename_i v0 h0 nx0 F0 hnest
          split at ha
          · rename_i r hi
            simp only [Option.some.injEq, Prod.mk.injEq] at ha
            obtain ⟨rfl, rfl⟩ := ha
            obtain ⟨m, rfl, hb⟩ := hn _ _ _ _ _ _ _ _ _ hnest hF
            simp only [callN, hh, hc, hb, hi]
          · cases ha
        · cases ha
      · rename_i hh hc
        split at ha
        · rename_i v0 h0 nx0 F0 hnest
          split at ha
          · rename_i v1 hfz
            simp only [Option.some.injEq, Prod.mk.injEq] at ha
            obtain ⟨⟨rfl, rfl, rfl, rfl⟩, rfl⟩ := ha
            obtain ⟨m, rfl, hb⟩ := hn _ _ _ _ _ _ _ _ _ hnest hF
            simp only [callN, hh, hc, hb, hfz]
          · cases ha
        · cases ha
      · rename_i hh
        split at ha
        · rename_i v0 h0 nx0 F0 hnest
          simp only [Option.some.injEq, Prod.mk.injEq] at ha
          obtain ⟨⟨rfl, rfl, rfl, rfl⟩, rfl⟩ := ha
          obtain ⟨m, rfl, hb⟩ := hn _ _ _ _ _ _ _ _ _ hnest hF
          cases hc : closedAll args <;> simp only [callN, hh, hc, hb]
        · cases ha
      · rename_i hh hc
        split at ha
        · rename_i v0 h0 nx0 F0 hnest
          simp only [Option.some.injEq, Prod.mk.injEq] at ha
          obtain ⟨⟨rfl, rfl, rfl, rfl⟩, rfl⟩ := ha
          obtain ⟨m, rfl, hb⟩ := hn _ _ _ _ _ _ _ _ _ hnest hF
          simp only [callN, hh, hc, hb]
        · cases ha
      · cases ha
    · cases ha

theorem runOpsT_ok (hn : ∀ f args h nx T v h' nx' F, nest f args h nx T = some (v, h', nx', F) → FactsOk P O n (upAll F) → ∃ m, n = m + 1 ∧ runBody P O (callN P O m) f args h nx = some (v, h', nx')) {rid : Nat} {all : List Oper} {base : Nat} : ∀ (rest : List Oper) (i : Nat) (s : St) (acc : List (Nat × Foot)) (T : Anss) (F : List Fact) {s' : St} {feet : List (Nat × Foot)} {T' : Anss} {F' : List Fact},
    runOpsT P O n nest rid all base rest i s acc T F = some (s', feet, T', F') → FactsOk P O n F' → runOps P O.glob (callN P O n) all base rest i s acc = some (s', feet) ∧ FactsOk P O n F
  | [], i, s, acc, T, F, s', feet, T', F', h, hF => by
    simp only [runOpsT, Option.some.injEq, Prod.mk.injEq] at h
    obtain ⟨rfl, rfl, rfl, rfl⟩ := h
    exact ⟨rfl, hF⟩
  | o :: rest, i, s, acc, T, F, s', feet, T', F', h, hF => by
    simp only [runOpsT] at h
    split at h
    · split at h
      · rename_i s1 ft hst
        obtain ⟨h1, h2⟩ := runOpsT_ok hn rest (i + 1) s1 _ T F h hF
        exact ⟨by simp only [runOps, hst]; exact h1, h2⟩
      · cases h
    · rename_i a T1 _
      split at h
      · rename_i hw
        split at h
        · rename_i v h' nx ft F1 ha
          obtain ⟨h1, h2⟩ := runOpsT_ok hn rest (i + 1) _ _ T1 (F1 ++ F) h hF
          rw [factsOk_append] at h2
          exact ⟨by simp only [runOps, ansT_ok hn hw ha h2.1]; exact h1, h2.2⟩
        · cases h
      · cases h

theorem loopT_ok {bodyT : St → Anss → List Fact → ResT} {body : St → Option (AExit × St)} (hb : ∀ s T F x s' T' F', bodyT s T F = some (x, s', T', F') → FactsOk P O n F' → body s = some (x, s') ∧ FactsOk P O n F) :
    ∀ (k : Nat) (s : St) (T : Anss) (F : List Fact) {x : AExit} {s' : St} {T' : Anss} {F' : List Fact}, loopT bodyT k s T F = some (x, s', T', F') → FactsOk P O n F' → loopA body k s = some (x, s') ∧ FactsOk P O n F
  | 0, _, _, _, _, _, _, _, h, _ => by simp [loopT] at h
  | k + 1, s, T, F, x, s', T', F', h, hF => by
    simp only [loopT] at h
    split at h
    · rename_i s1 T1 F1 hb1
      obtain ⟨h1, h2⟩ := loopT_ok hb k s1 T1 F1 h hF
      obtain ⟨h3, h4⟩ := hb _ _ _ _ _ _ _ hb1 h2
      exact ⟨by simp only [loopA, h3]; exact h1, h4⟩
    · rename_i hne
      obtain ⟨h3, h4⟩ := hb _ _ _ _ _ _ _ h hF
      refine ⟨?_, h4⟩
      simp only [loopA, h3]
      cases x with
      | normal => exact absurd h (hne _ _ _)
      | _ => rfl

theorem execT_ok (hn : ∀ f args h nx T v h' nx' F, nest f args h nx T = some (v, h', nx', F) → FactsOk P O n (upAll F) → ∃ m, n = m + 1 ∧ runBody P O (callN P O m) f args h nx = some (v, h', nx')) {lf : Nat} : ∀ (c : Code) (s : St) (T : Anss) (F : List Fact) {x : AExit} {s' : St} {T' : Anss} {F' : List Fact}, execT P O n nest lf c s T F = some (x, s', T', F') → FactsOk P O n F' → execA P O.glob (callN P O n) lf c s = some (x, s') ∧ FactsOk P O n F := by
  intro c
  induction c with
  | skip =>
    intro s T F x s' T' F' h hF
    simp only [execT, Option.some.injEq, Prod.mk.injEq] at h
    obtain ⟨rfl, rfl, rfl, rfl⟩ := h
    exact ⟨rfl, hF⟩
  | label l =>
    intro s T F x s' T' F' h hF
    simp only [execT, Option.some.injEq, Prod.mk.injEq] at h
    obtain ⟨rfl, rfl, rfl, rfl⟩ := h
    exact ⟨rfl, hF⟩
  | region rid ops draw =>
    intro s T F x s' T' F' h hF
    simp only [execT] at h
    split at h
    · rename_i s1 feet T1 F1 hr
      split at h
      · simp only [Option.some.injEq, Prod.mk.injEq] at h
        obtain ⟨rfl, rfl, rfl, rfl⟩ := h
        obtain ⟨h1, h2⟩ := runOpsT_ok hn _ _ _ _ _ _ hr hF
        exact ⟨by simp only [execA, h1], h2⟩
      · split at h
        · rename_i hok
          simp only [Option.some.injEq, Prod.mk.injEq] at h
          obtain ⟨rfl, rfl, rfl, rfl⟩ := h
          obtain ⟨h1, h2⟩ := runOpsT_ok hn _ _ _ _ _ _ hr hF
          exact ⟨by simp only [execA, h1, hok], h2⟩
        · cases h
    · cases h
  | seq a b iha ihb =>
    intro s T F x s' T' F' h hF
    simp only [execT] at h
    split at h
    · rename_i s1 T1 F1 ha
      obtain ⟨h1, h2⟩ := ihb _ _ _ h hF
      obtain ⟨h3, h4⟩ := iha _ _ _ ha h2
      exact ⟨by simp only [execA, h3]; exact h1, h4⟩
    · rename_i hne
      obtain ⟨h3, h4⟩ := iha _ _ _ h hF
      refine ⟨?_, h4⟩
      simp only [execA, h3]
      cases x with
      | normal => exact absurd h (hne _ _ _)
      | _ => rfl
  | cond v a b iha ihb =>
    intro s T F x s' T' F' h hF
    simp only [execT] at h
    split at h
    · rename_i hc
      obtain ⟨h1, h2⟩ := iha _ _ _ h hF
      exact ⟨by simp only [execA, hc]; exact h1, h2⟩
    · rename_i hc
      obtain ⟨h1, h2⟩ := ihb _ _ _ h hF
      exact ⟨by simp only [execA, hc]; exact h1, h2⟩
    · cases h
  | block id body ih =>
    intro s T F x s' T' F' h hF
    simp only [execT] at h
    split at h
    · rename_i i s1 T1 F1 hb
      split at h
      · rename_i hi
        simp only [Option.some.injEq, Prod.mk.injEq] at h
        obtain ⟨rfl, rfl, rfl, rfl⟩ := h
        obtain ⟨h1, h2⟩ := ih _ _ _ hb hF
        exact ⟨by simp only [execA, h1, hi], h2⟩
      · rename_i hi
        simp only [Option.some.injEq, Prod.mk.injEq] at h
        obtain ⟨rfl, rfl, rfl, rfl⟩ := h
        obtain ⟨h1, h2⟩ := ih _ _ _ hb hF
        exact ⟨by simp only [execA, h1, hi], h2⟩
    · rename_i hne
      obtain ⟨h3, h4⟩ := ih _ _ _ h hF
      refine ⟨?_, h4⟩
      simp only [execA, h3]
      cases x with
      | exit i => exact absurd h (hne _ _ _ _)
      | _ => rfl
  | loop body ih =>
    intro s T F x s' T' F' h hF
    simp only [execT] at h
    exact loopT_ok (fun s T F x s' T' F' h hF => ih s T F h hF) lf s T F h hF
  | exit id =>
    intro s T F x s' T' F' h hF
    simp only [execT, Option.some.injEq, Prod.mk.injEq] at h
    obtain ⟨rfl, rfl, rfl, rfl⟩ := h
    exact ⟨rfl, hF⟩
  | ret =>
    intro s T F x s' T' F' h hF
    simp only [execT, Option.some.injEq, Prod.mk.injEq] at h
    obtain ⟨rfl, rfl, rfl, rfl⟩ := h
    exact ⟨rfl, hF⟩
  | _ =>
    intro s T F x s' T' F' h hF
    simp [execT] at h

end

theorem factsOk_up {P : Program} {O : Opts} {n : Nat} : ∀ {F : List Fact}, FactsOk P O (n + 1) (upAll F) → FactsOk P O n F
  | [], _ => trivial
  | _ :: _, h => ⟨h.1, factsOk_up h.2⟩

theorem runT_ok {P : Program} {O : Opts} {n : Nat} {nest : Nest} (hn : ∀ f args h nx T v h' nx' F, nest f args h nx T = some (v, h', nx', F) → FactsOk P O n (upAll F) → ∃ m, n = m + 1 ∧ runBody P O (callN P O m) f args h nx = some (v, h', nx'))
    {f : FuncId} {args : List AV} {hp : Heap} {nx : Nat} {T : Anss} {v : AV} {h' : Heap} {nx' : Nat} {F : List Fact} (h : runT P O n nest f args hp nx T = some (v, h', nx', F)) (hF : FactsOk P O n F) :
    runBody P O (callN P O n) f args hp nx = some (v, h', nx') := by
  unfold runT at h
  split at h
  · rename_i fn hfn
    split at h
    · rename_i c hb
      split at h
      · cases h
      · rename_i hname
        split at h
        · cases h
        · rename_i hle
          have fin : ∀ {x : AExit} {st : St} {T' : Anss} {F' : List Fact}, (x = .normal ∨ x = .ret) → execT P O n nest O.lf c ⟨argsT args 0 .tip, hp, nx, fn.ntmps⟩ T [] = some (x, st, T', F') →
              (match resA P O.glob st fn.results.toList with
                | some l => some (tupA l, st.heap, st.nx, F')
                | none => none) = some (v, h', nx', F) → runBody P O (callN P O n) f args hp nx = some (v, h', nx') := fun {x st T' F'} hx he h => by
            split at h
            · rename_i l hl
              simp only [Option.some.injEq, Prod.mk.injEq] at h
              obtain ⟨rfl, rfl, rfl, rfl⟩ := h
              obtain ⟨h1, _⟩ := execT_ok hn _ _ _ _ he hF
              unfold runBody
              rcases hx with rfl | rfl <;> simp only [hfn, hb, hname, hle, h1, hl]
            · cases h
          split at h
          · rename_i he; exact fin (.inl rfl) he h
          · rename_i he; exact fin (.inr rfl) he h
          · cases h
    · cases h
  · cases h

theorem nestOf_ok {P : Program} {O : Opts} : ∀ (n : Nat) {f : FuncId} {args : List AV} {hp : Heap} {nx : Nat} {T : Anss} {v : AV} {h' : Heap} {nx' : Nat} {F : List Fact}, nestOf P O n f args hp nx T = some (v, h', nx', F) → FactsOk P O n (upAll F) →
    ∃ m, n = m + 1 ∧ runBody P O (callN P O m) f args hp nx = some (v, h', nx')
  | 0, _, _, _, _, _, _, _, _, _, h, _ => by cases h
  | n + 1, _, _, _, _, _, _, _, _, _, h, hF => ⟨n, rfl, runT_ok (nest := nestOf P O n) (fun _ _ _ _ _ _ _ _ _ h hF => nestOf_ok n h hF) h (factsOk_up hF)⟩

theorem bodyR_ok {P : Program} {O : Opts} (n : Nat) {f : FuncId} {args : List AV} {hp : Heap} {nx : Nat} {T : Anss} {v : AV} {h' : Heap} {nx' : Nat} {F : List Fact} (h : bodyR P O n f args hp nx T = some (v, h', nx', F)) (hF : FactsOk P O n F) :
    runBody P O (callN P O n) f args hp nx = some (v, h', nx') :=
  runT_ok (nest := nestOf P O n) (fun _ _ _ _ _ _ _ _ _ h hF => nestOf_ok n h hF) h hF

theorem rawT_ok {P : Program} {O : Opts} {n : Nat} {f : FuncId} {args : List AV} {T : Anss} {v : AV} {h' : Heap} {F : List Fact} (h : rawT P O n f args T = some (v, h', F)) (hF : FactsOk P O n F) :
    ∃ nx, runBody P O (callN P O n) f args [] 0 = some (v, h', nx) := by
  unfold rawT at h
  split at h
  · rename_i v0 h0 nx0 F0 hr
    simp only [Option.some.injEq, Prod.mk.injEq] at h
    obtain ⟨rfl, rfl, rfl⟩ := h
    exact ⟨nx0, bodyR_ok n hr hF⟩
  · cases h

/-- What a function answers. -/
theorem callN_of_body {P : Program} {O : Opts} {n : Nat} {f : FuncId} {args : List AV} {v v' : AV} {h' : Heap} {nx' : Nat} (hh : O.how f = .pure) (hs : O.summ f args = none) (hc : closedAll args = true) (hb : runBody P O (callN P O n) f args [] 0 = some (v, h', nx'))
    (hf : freezeA 0 h' 40 v = some v') (hc' : closedA v' = true) (id : Nat) (hp : Heap) (nx : Nat) : callN P O (n + 1) f args id hp nx = some (v', hp, nx, ⟨false, [], []⟩) := by
  simp only [callN, hh, hc, hs, hb, hf, hc']

theorem rawT_call {P : Program} {O : Opts} {n : Nat} {f : FuncId} {args : List AV} {T : Anss} {v v' : AV} {h' : Heap} {F : List Fact} (hh : O.how f = .pure) (hs : O.summ f args = none) (hc : closedAll args = true) (h : rawT P O n f args T = some (v, h', F))
    (hF : FactsOk P O n F) (hf : freezeA 0 h' 40 v = some v') (hc' : closedA v' = true) (id : Nat) (hp : Heap) (nx : Nat) : callN P O (n + 1) f args id hp nx = some (v', hp, nx, ⟨false, [], []⟩) := by
  obtain ⟨nx', hb⟩ := rawT_ok h hF
  exact callN_of_body hh hs hc hb hf hc' id hp nx

/-- The same, the heap behind it let go: for answers that lead nowhere. -/
noncomputable def valT (P : Program) (O : Opts) (n : Nat) (f : FuncId) (args : List AV) (T : Anss) : Option (AV × List Fact) :=
  match rawT P O n f args T with
  | some (v, _, F) => some (v, F)
  | none => none

theorem valT_ok {P : Program} {O : Opts} {n : Nat} {f : FuncId} {args : List AV} {T : Anss} {v v' : AV} {F : List Fact} (hh : O.how f = .pure) (hs : O.summ f args = none) (hc : closedAll args = true) (h : valT P O n f args T = some (v, F))
    (hF : FactsOk P O n F) (hf : ∀ h', freezeA 0 h' 40 v = some v') (hc' : closedA v' = true) (id : Nat) (hp : Heap) (nx : Nat) : callN P O (n + 1) f args id hp nx = some (v', hp, nx, ⟨false, [], []⟩) := by
  unfold valT at h
  split at h
  · rename_i v0 h0 F0 hr
    simp only [Option.some.injEq, Prod.mk.injEq] at h
    obtain ⟨rfl, rfl⟩ := h
    exact rawT_call hh hs hc hr hF (hf h0) hc' id hp nx
  · cases h

/-- What a function answers, once the facts are shown. -/
theorem pureT_ok {P : Program} {O : Opts} {n : Nat} {f : FuncId} {args : List AV} {T : Anss} {v : AV} {F : List Fact} (hh : O.how f = .pure) (hs : O.summ f args = none) (h : pureT P O n f args T = some (v, F))
    (hF : FactsOk P O n F) (id : Nat) (hp : Heap) (nx : Nat) : callN P O (n + 1) f args id hp nx = some (v, hp, nx, ⟨false, [], []⟩) := by
  unfold pureT at h
  split at h
  · cases h
  · rename_i hc
    split at h
    · rename_i v0 h0 F0 hr
      split at h
      · rename_i v' hfz
        split at h
        · rename_i hcl
          simp only [Option.some.injEq, Prod.mk.injEq] at h
          obtain ⟨rfl, rfl⟩ := h
          exact rawT_call hh hs hc hr hF hfz hcl id hp nx
        · cases h
      · cases h
    · cases h

end Go.Proofs.Abs
