/- What a run with answers means, where the facts about calls are facts of the model: no fuel, any proof. -/
import Derived.Test.YtnlllfokomenfaaGreatDoorE27
namespace Go.Proofs.Abs
open Go

/-- A function, called with closed arguments, answers with a new block. -/
structure SemFresh (P : Program) (G : Glob) (f : FuncId) (args : List AV) (b : Blk) (v : Nat → AV) : Prop where
  out : ∀ w I α H rid nx (vs : Array Value), Rel G w I α H → RepL w I α args vs.toList → α rid = none → rid < nx → (∀ id, nx ≤ id → α id = none) → Out P (Post G w I α H rid nx (v rid) (hins H rid b) nx) ((callFunc f vs).run P w)

/-- A body's run, from a heap to a heap. -/
def BodySem (P : Program) (G : Glob) (f : FuncId) (args : List AV) (H : Heap) (nx : Nat) (v : AV) (H' : Heap) (nx' : Nat) : Prop :=
  ∀ w I α (vs : Array Value), Rel G w I α H → RepL w I α args vs.toList → (∀ id, nx ≤ id → α id = none) →
    (callFunc f vs).run P w = .ok (.enter f vs) w ∧ Calls P f vs w fun e w' => ∃ u, e = .returned u ∧ BodyPost G w I α H nx v H' nx' u w'

def Fact.sem (P : Program) (O : Opts) : Fact → Prop
  | .beq a b r => beqInt a b = r
  | .lt a b r => ltInt a b = r
  | .seq s t r => beqBytes s t = r
  | .gen op vs r => ∀ ev, op.operands.toList.map ev = vs → ∀ o, o.op = op → effA P O.glob ev o = some (.val r)
  | .call f args r => SemCall P O.glob f args r
  | .blk h id b => hget h id = some b
  | .eff op vs e => ∀ ev, op.operands.toList.map ev = vs → ∀ o, o.op = op → effA P O.glob ev o = some e
  | .up F => Fact.sem P O F
  | .fresh f args b v => SemFresh P O.glob f args b v
  | .repl op vs i b b' v => ∀ ev, op.operands.toList.map ev = vs → ∀ o, o.op = op → ∃ k, effA P O.glob ev o = some (.repl i k) ∧ k b = some (b', v)
  | .updt op vs i b b' v => ∀ ev, op.operands.toList.map ev = vs → ∀ o, o.op = op → ∃ k, effA P O.glob ev o = some (.upd i k) ∧ k b = some (b', v)

def FactsSem (P : Program) (O : Opts) : List Fact → Prop
  | [] => True
  | F :: t => F.sem P O ∧ FactsSem P O t

def Fact.plain : Fact → Bool
  | .call _ _ _ | .up _ | .fresh _ _ _ _ => false
  | _ => true

section
variable {P : Program} {O : Opts}

theorem factsSem_append : ∀ {a b : List Fact}, FactsSem P O (a ++ b) ↔ FactsSem P O a ∧ FactsSem P O b
  | [], b => by simp [FactsSem]
  | F :: t, b => by simp only [List.cons_append, FactsSem, factsSem_append (a := t)]; exact and_assoc.symm
theorem factsSem_up : ∀ {F : List Fact}, FactsSem P O (upAll F) → FactsSem P O F
  | [], _ => trivial
  | _ :: _, h => ⟨h.1, factsSem_up h.2⟩
theorem plain_ok {n : Nat} : ∀ {l : List Fact}, (∀ F ∈ l, F.plain = true) → FactsSem P O l → FactsOk P O n l
  | [], _, _ => trivial
  | F :: t, hp, h => by
    refine ⟨?_, plain_ok (fun G hG => hp G (by simp [hG])) h.2⟩
    have h1 := hp F (by simp)
    have h2 := h.1
    cases F <;> first | (simp [Fact.plain] at h1; done) | exact h2

theorem cmpF_plain {op : BinOp} {x y : AV} {r : Bool} {F : Fact} (h : cmpF op x y r = some F) : F.plain = true := by
  unfold cmpF at h
  split at h <;> first
    | (cases h; done)
    | (split at h <;> first | (cases h; done) | (simp only [Option.some.injEq] at h; subst h; rfl))
    | (simp only [Option.some.injEq] at h; subst h; rfl)

theorem baseT_plain {call : Caller} {id d : Nat} {e : Eff} {h : Heap} {nx : Nat} {bs : List Blk} {r : AV × Heap × Nat × Foot} {F : List Fact} (hr : baseT call id d e h nx bs = some (r, F)) : ∀ X ∈ F, X.plain = true := by
  unfold baseT at hr
  split at hr
  · split at hr
    · simp only [Option.some.injEq, Prod.mk.injEq] at hr
      obtain ⟨_, rfl⟩ := hr
      simp [Fact.plain]
    · cases hr
  · split at hr
    · simp only [Option.some.injEq, Prod.mk.injEq] at hr
      obtain ⟨_, rfl⟩ := hr
      simp [Fact.plain]
    · cases hr
  · split at hr
    · simp only [Option.some.injEq, Prod.mk.injEq] at hr
      obtain ⟨_, rfl⟩ := hr
      simp
    · cases hr

theorem runEffT_plain {call : Caller} {id : Nat} : ∀ (d : Nat) (e : Eff) {h : Heap} {nx : Nat} {bs : List Blk} {r : AV × Heap × Nat × Foot} {F : List Fact}, runEffT call id d e h nx bs = some (r, F) → ∀ X ∈ F, X.plain = true
  | 0, _, _, _, _, _, _, hr => baseT_plain hr
  | d + 1, e, h, nx, bs, r, F, hr => by
    unfold runEffT at hr
    split at hr
    · split at hr
      · rename_i e' hk
        split at hr
        · rename_i v h' nx' ft F' hr'
          simp only [Option.some.injEq, Prod.mk.injEq] at hr
          obtain ⟨_, rfl⟩ := hr
          intro X hX
          rcases List.mem_cons.1 hX with rfl | hX
          · rfl
          · exact runEffT_plain d e' hr' X hX
        · cases hr
      · cases hr
    · exact baseT_plain hr

/-! ### Callers by a table of one row -/

open Classical in
noncomputable def tabC (f0 : FuncId) (args0 : List AV) (r : AV) : Caller := fun f args _ h nx => if f = f0 ∧ args = args0 then some (r, h, nx, ⟨false, [], []⟩) else none
open Classical in
noncomputable def tabF (f0 : FuncId) (args0 : List AV) (h' : Heap) (v : AV) : Caller := fun f args id h nx => if f = f0 ∧ args = args0 then importA h' v id h nx else none
open Classical in
noncomputable def tabN (f0 : FuncId) (args0 : List AV) (h0 : Heap) (nx0 : Nat) (r : AV × Heap × Nat) : Caller := fun f args _ h nx => if f = f0 ∧ args = args0 ∧ h = h0 ∧ nx = nx0 then some (r.1, r.2.1, r.2.2, ⟨true, [], []⟩) else none

theorem tabC_ok {G : Glob} {f0 : FuncId} {args0 : List AV} {r : AV} (h : SemCall P G f0 args0 r) : CallOk P G (tabC f0 args0 r) ∧ CallLoc (tabC f0 args0 r) := by
  constructor
  · intro f args rid H nx v H' nx' ft hc w I α vs hr ha hrid hlt hf
    unfold tabC at hc
    split at hc
    · rename_i he
      obtain ⟨rfl, rfl⟩ := he
      simp only [Option.some.injEq, Prod.mk.injEq] at hc
      obtain ⟨rfl, rfl, rfl, rfl⟩ := hc
      exact h.out w I α _ rid _ vs hr ha hrid hlt hf
    · cases hc
  · intro f args id hp nx v h' nx' ft hc
    unfold tabC at hc
    split at hc
    · rename_i he
      simp only [Option.some.injEq, Prod.mk.injEq] at hc
      obtain ⟨rfl, rfl, rfl, rfl⟩ := hc
      exact .one rfl ⟨rfl, [], rfl, by simp, fun h2 nx2 _ => by unfold tabC; rw [if_pos he]; rfl⟩
    · cases hc

open Classical in
noncomputable def tabW (f0 : FuncId) (args0 : List AV) (b : Blk) (v : Nat → AV) : Caller := fun f args id h nx => if f = f0 ∧ args = args0 then some (v id, hins h id b, nx, ⟨false, [], [id]⟩) else none
theorem tabW_ok {G : Glob} {f0 : FuncId} {args0 : List AV} {b : Blk} {v0 : Nat → AV} (h : SemFresh P G f0 args0 b v0) : CallOk P G (tabW f0 args0 b v0) ∧ CallLoc (tabW f0 args0 b v0) := by
  constructor
  · intro f args rid H nx v H' nx' ft hc w I α vs hr ha hrid hlt hf
    unfold tabW at hc
    split at hc
    · rename_i he
      obtain ⟨rfl, rfl⟩ := he
      simp only [Option.some.injEq, Prod.mk.injEq] at hc
      obtain ⟨rfl, rfl, rfl, rfl⟩ := hc
      exact h.out w I α _ rid _ vs hr ha hrid hlt hf
    · cases hc
  · intro f args id hp nx v h' nx' ft hc
    unfold tabW at hc
    split at hc
    · rename_i he
      simp only [Option.some.injEq, Prod.mk.injEq] at hc
      obtain ⟨rfl, rfl, rfl, rfl⟩ := hc
      exact .one rfl ⟨rfl, [(id, some b)], rfl, by simp, fun h2 nx2 _ => by unfold tabW; rw [if_pos he]; rfl⟩
    · cases hc

theorem tabN_ok {G : Glob} {f0 : FuncId} {args0 : List AV} {h0 : Heap} {nx0 : Nat} {r : AV × Heap × Nat}
    (h : ∀ w I α rid (vs : Array Value), Rel G w I α h0 → RepL w I α args0 vs.toList → α rid = none → rid < nx0 → (∀ id, nx0 ≤ id → α id = none) → Out P (Post G w I α h0 rid nx0 r.1 r.2.1 r.2.2) ((callFunc f0 vs).run P w)) :
    CallOk P G (tabN f0 args0 h0 nx0 r) ∧ CallLoc (tabN f0 args0 h0 nx0 r) := by
  constructor
  · intro f args rid H nx v H' nx' ft hc w I α vs hr ha hrid hlt hf
    unfold tabN at hc
    split at hc
    · rename_i he
      obtain ⟨rfl, rfl, rfl, rfl⟩ := he
      simp only [Option.some.injEq, Prod.mk.injEq] at hc
      obtain ⟨rfl, rfl, rfl, rfl⟩ := hc
      exact h w I α rid vs hr ha hrid hlt hf
    · cases hc
  · intro f args id hp nx v h' nx' ft hc
    unfold tabN at hc
    split at hc
    · simp only [Option.some.injEq, Prod.mk.injEq] at hc
      obtain ⟨rfl, rfl, rfl, rfl⟩ := hc
      exact .any rfl rfl
    · cases hc

theorem tabF_ok {f0 : FuncId} {args0 : List AV} {h' : Heap} {m : Nat} {v : AV} (hg : ∀ g l, O.glob g = some l → closedAll l = true) (hc0 : closedAll args0 = true) (h : BodySem P O.glob f0 args0 [] 0 v h' m) :
    CallOk P O.glob (tabF f0 args0 h' v) ∧ CallLoc (tabF f0 args0 h' v) := by
  constructor
  · intro f args rid H nx v1 H' nx' ft hc w I α vs hr ha hrid hlt hf
    unfold tabF at hc
    split at hc
    · rename_i he
      obtain ⟨rfl, rfl⟩ := he
      obtain ⟨e1, e2⟩ := h w I (fun _ => none) vs (rel_empty hg hr) (repl_closed ha hc0) (fun _ _ => rfl)
      rw [e1]
      refine Calls.mono e2 ?_
      rintro e w' ⟨u, rfl, hp⟩
      exact ⟨u, rfl, import_sound hr hrid hp hc⟩
    · cases hc
  · intro f args id hp nx v1 h1 nx' ft hc
    unfold tabF at hc
    split at hc
    · rename_i he
      obtain ⟨l1, l2⟩ := import_loc hc
      exact ⟨fun hall => by
        obtain ⟨e1, md, e2, e3, e4⟩ := l1 hall
        exact ⟨e1, md, e2, e3, fun h2 nx2 hk hx => by unfold tabF; rw [if_pos he]; exact e4 h2 nx2 hk hx⟩, fun hall k l hw => by
        obtain ⟨e1, e0, md, e2, e3, e4⟩ := l2 hall k l hw
        exact ⟨e1, e0, md, e2, e3, fun h2 hk => by unfold tabF; rw [if_pos he]; exact e4 h2 hk⟩⟩
    · cases hc

/-! ### One operation -/

/-- What runs within runs mean. -/
def NestOk (P : Program) (O : Opts) (nest : Nest) : Prop := ∀ f args h nx T v h' nx' F, nest f args h nx T = some (v, h', nx', F) → FactsSem P O F → BodySem P O.glob f args h nx v h' nx'

theorem ansT_sem {n : Nat} {nest : Nest} (hb : CallOk P O.glob (callN P O n) ∧ CallLoc (callN P O n)) (hg : ∀ g l, O.glob g = some l → closedAll l = true) (hn : NestOk P O nest) {ops : List Oper} {id : Nat} {o : Oper} {s : St} {a : Ans} {v : AV} {h : Heap} {nx : Nat} {ft : Foot} {F : List Fact}
    (hw : wantedA ops o s.slots = some true) (ha : ansT P O n nest ops id o s a = some ((v, h, nx, ft), F)) (hF : FactsSem P O F) :
    ∃ call, (CallOk P O.glob call ∧ CallLoc call) ∧ stepA P O.glob call ops id o s = some (⟨putA s.n s.slots o.dst v, h, nx, s.n⟩, ft) := by
  have fin : ∀ {call : Caller} {e : Eff}, effB P O.glob ops (evA s.slots) o = some e → runEff call id 2 e s.heap s.nx = some (v, h, nx, ft) → stepA P O.glob call ops id o s = some (⟨putA s.n s.slots o.dst v, h, nx, s.n⟩, ft) := fun h1 h2 => by
    unfold stepA
    simp only [hw, h1, h2]
  have notB : notRow o.op = true → effB P O.glob ops (evA s.slots) o = effA P O.glob (evA s.slots) o := fun hn => by
    unfold effB
    split
    · rename_i ho _; rw [ho] at hn; cases hn
    · rfl
  have lift : ∀ {f : FuncId} {args : List AV} {call : Caller} {r : AV × Heap × Nat × Foot}, call f args id s.heap s.nx = some r → runEff call id 2 (.call f args) s.heap s.nx = some r := fun h => by simpa [runEff] using h
  unfold ansT at ha
  split at ha
  · rename_i r
    split at ha
    · rename_i op t x y t' ho
      split at ha
      · rename_i u w hu hw'
        split at ha
        · rename_i Fc hc
          simp only [Option.some.injEq, Prod.mk.injEq] at ha
          obtain ⟨⟨rfl, rfl, rfl, rfl⟩, rfl⟩ := ha
          refine ⟨_, hb, fin (e := .val (.bool r)) ?_ rfl⟩
          have hok := (plain_ok (n := n) (l := [Fc]) (by simp [cmpF_plain hc]) hF).1
          rw [notB (by rw [ho]; rfl)]
          simp only [effA, ho, e2, hu, hw', cmpF_ok (P := P) hc hok, valO]
        · cases ha
      · cases ha
    · cases ha
  · rename_i r
    split at ha
    · rename_i hnr
      simp only [Option.some.injEq, Prod.mk.injEq] at ha
      obtain ⟨⟨rfl, rfl, rfl, rfl⟩, rfl⟩ := ha
      refine ⟨_, hb, fin (e := .val r) ?_ rfl⟩
      rw [notB hnr]
      exact hF.1 (evA s.slots) rfl o rfl
    · cases ha
  · rename_i r
    split at ha
    · rename_i f args he
      simp only [Option.some.injEq, Prod.mk.injEq] at ha
      obtain ⟨⟨rfl, rfl, rfl, rfl⟩, rfl⟩ := ha
      exact ⟨_, tabC_ok hF.1, fin he (lift (by unfold tabC; rw [if_pos ⟨rfl, rfl⟩]))⟩
    · cases ha
  · rename_i l
    split at ha
    · rename_i e he
      exact ⟨_, hb, fin he (runEffT_ok 2 e ha (plain_ok (runEffT_plain 2 e ha) hF))⟩
    · cases ha
  · rename_i e
    split at ha
    · rename_i hnr
      split at ha
      · rename_i r hr
        simp only [Option.some.injEq, Prod.mk.injEq] at ha
        obtain ⟨rfl, rfl⟩ := ha
        refine ⟨_, hb, fin (e := e) ?_ hr⟩
        rw [notB hnr]
        exact hF.1 (evA s.slots) rfl o rfl
      · cases ha
    · cases ha
  · rename_i b vv
    split at ha
    · rename_i f args he
      simp only [Option.some.injEq, Prod.mk.injEq] at ha
      obtain ⟨⟨rfl, rfl, rfl, rfl⟩, rfl⟩ := ha
      exact ⟨_, tabW_ok hF.1, fin he (lift (by unfold tabW; rw [if_pos ⟨rfl, rfl⟩]))⟩
    · cases ha
  · rename_i i b b' vv
    split at ha
    · rename_i hnr
      simp only [Option.some.injEq, Prod.mk.injEq] at ha
      obtain ⟨⟨rfl, rfl, rfl, rfl⟩, rfl⟩ := ha
      obtain ⟨k, h1, h2⟩ := hF.2.1 (evA s.slots) rfl o rfl
      have hbk : hget s.heap i = some b := hF.1
      refine ⟨_, hb, fin (e := .repl i k) ?_ (by simp only [runEff, hbk, h2])⟩
      rw [notB hnr]; exact h1
    · cases ha
  · rename_i i b b' vv
    split at ha
    · rename_i hnr
      simp only [Option.some.injEq, Prod.mk.injEq] at ha
      obtain ⟨⟨rfl, rfl, rfl, rfl⟩, rfl⟩ := ha
      obtain ⟨k, h1, h2⟩ := hF.2.1 (evA s.slots) rfl o rfl
      have hbk : hget s.heap i = some b := hF.1
      refine ⟨_, hb, fin (e := .upd i k) ?_ (by simp only [runEff, hbk, h2])⟩
      rw [notB hnr]; exact h1
    · cases ha
  · rename_i T
    split at ha
    · rename_i f args he
      split at ha
      · cases ha
      · rename_i hh hc
        split at ha
        · rename_i v0 h0 nx0 F0 hnest
          split at ha
          · rename_i r hi
            simp only [Option.some.injEq, Prod.mk.injEq] at ha
            obtain ⟨rfl, rfl⟩ := ha
            exact ⟨_, tabF_ok hg hc (hn _ _ _ _ _ _ _ _ _ hnest (factsSem_up hF)), fin he (lift (by unfold tabF; rw [if_pos ⟨rfl, rfl⟩]; exact hi))⟩
          · cases ha
        · cases ha
      · rename_i hh hc
        split at ha
        · rename_i v0 h0 nx0 F0 hnest
          split at ha
          · rename_i v1 hfz
            simp only [Option.some.injEq, Prod.mk.injEq] at ha
            obtain ⟨⟨rfl, rfl, rfl, rfl⟩, rfl⟩ := ha
            have hbs := hn _ _ _ _ _ _ _ _ _ hnest (factsSem_up hF)
            refine ⟨tabN f args s.heap s.nx (v1, hbelow s.nx h0, nx0), tabN_ok fun w I α rid vs hr hra hrid hlt hf => ?_, fin he (lift (by unfold tabN; rw [if_pos ⟨rfl, rfl, rfl, rfl⟩]))⟩
            obtain ⟨e1, e2⟩ := hbs w I α vs hr hra hf
            rw [e1]
            refine Calls.mono e2 ?_
            rintro e w' ⟨u, rfl, hp⟩
            exact ⟨u, rfl, post_shared hp hfz⟩
          · cases ha
        · cases ha
      · split at ha
        · rename_i v0 h0 nx0 F0 hnest
          simp only [Option.some.injEq, Prod.mk.injEq] at ha
          obtain ⟨⟨rfl, rfl, rfl, rfl⟩, rfl⟩ := ha
          have hbs := hn _ _ _ _ _ _ _ _ _ hnest (factsSem_up hF)
          refine ⟨tabN f args s.heap s.nx (v0, h0, nx0), tabN_ok fun w I α rid vs hr hra hrid hlt hf => ?_, fin he (lift (by unfold tabN; rw [if_pos ⟨rfl, rfl, rfl, rfl⟩]))⟩
          obtain ⟨e1, e2⟩ := hbs w I α vs hr hra hf
          rw [e1]
          refine Calls.mono e2 ?_
          rintro e w' ⟨u, rfl, hp⟩
          exact ⟨u, rfl, post_kept hp⟩
        · cases ha
      · split at ha
        · rename_i v0 h0 nx0 F0 hnest
          simp only [Option.some.injEq, Prod.mk.injEq] at ha
          obtain ⟨⟨rfl, rfl, rfl, rfl⟩, rfl⟩ := ha
          have hbs := hn _ _ _ _ _ _ _ _ _ hnest (factsSem_up hF)
          refine ⟨tabN f args s.heap s.nx (v0, h0, nx0), tabN_ok fun w I α rid vs hr hra hrid hlt hf => ?_, fin he (lift (by unfold tabN; rw [if_pos ⟨rfl, rfl, rfl, rfl⟩]))⟩
          obtain ⟨e1, e2⟩ := hbs w I α vs hr hra hf
          rw [e1]
          refine Calls.mono e2 ?_
          rintro e w' ⟨u, rfl, hp⟩
          exact ⟨u, rfl, post_kept hp⟩
        · cases ha
      · cases ha
    · cases ha

/-! ### Regions -/

theorem stepA_caller {call call' : Caller} {ops : List Oper} {id : Nat} {o : Oper} {s : St} (h : ∀ f args hp nx, call f args id hp nx = call' f args id hp nx) : stepA P O.glob call ops id o s = stepA P O.glob call' ops id o s := by
  have he : ∀ (d : Nat) (e : Eff) hp nx, runEff call id d e hp nx = runEff call' id d e hp nx := by
    intro d
    induction d with
    | zero => intro e hp nx; cases e <;> simp [runEff, h]
    | succ d ih =>
      intro e hp nx
      cases e with
      | read i k => simp only [runEff, ih]
      | call f args => simp [runEff, h]
      | _ => simp [runEff]
  unfold stepA
  simp only [he]

theorem runOps_caller {call call' : Caller} {all : List Oper} {base : Nat} : ∀ (rest : List Oper) (i : Nat) (s : St) (acc : List (Nat × Foot)), (∀ f args id hp nx, base + i ≤ id → call f args id hp nx = call' f args id hp nx) →
    runOps P O.glob call all base rest i s acc = runOps P O.glob call' all base rest i s acc
  | [], _, _, _, _ => rfl
  | o :: rest, i, s, acc, h => by
    simp only [runOps]
    rw [stepA_caller (call' := call') (fun f args hp nx => h f args _ hp nx (Nat.le_refl _))]
    split
    · exact runOps_caller rest (i + 1) _ _ fun f args id hp nx hid => h f args id hp nx (by omega)
    · rfl

open Classical in
noncomputable def mixC (k : Nat) (c1 c2 : Caller) : Caller := fun f args id h nx => if id = k then c1 f args id h nx else c2 f args id h nx
theorem mixC_ok {G : Glob} {k : Nat} {c1 c2 : Caller} (h1 : CallOk P G c1 ∧ CallLoc c1) (h2 : CallOk P G c2 ∧ CallLoc c2) : CallOk P G (mixC k c1 c2) ∧ CallLoc (mixC k c1 c2) := by
  constructor
  · intro f args rid H nx v H' nx' ft hc
    unfold mixC at hc
    split at hc
    · exact h1.1 f args rid H nx v H' nx' ft hc
    · exact h2.1 f args rid H nx v H' nx' ft hc
  · intro f args id h nx v h' nx' ft hc
    by_cases hk : id = k
    · have e : mixC k c1 c2 f args id = c1 f args id := by funext h nx; unfold mixC; rw [if_pos hk]
      rw [e] at hc ⊢
      exact h1.2 f args id h nx v h' nx' ft hc
    · have e : mixC k c1 c2 f args id = c2 f args id := by funext h nx; unfold mixC; rw [if_neg hk]
      rw [e] at hc ⊢
      exact h2.2 f args id h nx v h' nx' ft hc

theorem runOpsT_sem {n : Nat} {nest : Nest} (hb : CallOk P O.glob (callN P O n) ∧ CallLoc (callN P O n)) (hg : ∀ g l, O.glob g = some l → closedAll l = true) (hn : NestOk P O nest) {rid : Nat} {all : List Oper} {base : Nat} :
    ∀ (rest : List Oper) (i : Nat) (s : St) (acc : List (Nat × Foot)) (T : Anss) (F : List Fact) {s' : St} {feet : List (Nat × Foot)} {T' : Anss} {F' : List Fact},
    runOpsT P O n nest rid all base rest i s acc T F = some (s', feet, T', F') → FactsSem P O F' → ∃ call, (CallOk P O.glob call ∧ CallLoc call) ∧ runOps P O.glob call all base rest i s acc = some (s', feet)
  | [], i, s, acc, T, F, s', feet, T', F', h, _ => by
    simp only [runOpsT, Option.some.injEq, Prod.mk.injEq] at h
    obtain ⟨rfl, rfl, rfl, rfl⟩ := h
    exact ⟨_, hb, rfl⟩
  | o :: rest, i, s, acc, T, F, s', feet, T', F', h, hF => by
    have join : ∀ {c1 c2 : Caller} {s1 : St} {ft : Foot}, (CallOk P O.glob c1 ∧ CallLoc c1) → (CallOk P O.glob c2 ∧ CallLoc c2) → stepA P O.glob c1 all (base + i) o s = some (s1, ft) →
        runOps P O.glob c2 all base rest (i + 1) s1 (match ft.none with | true => acc | false => (i, ft) :: acc) = some (s', feet) → ∃ call, (CallOk P O.glob call ∧ CallLoc call) ∧ runOps P O.glob call all base (o :: rest) i s acc = some (s', feet) := fun {c1 c2 s1 ft} h1 h2 hs hr => by
      refine ⟨mixC (base + i) c1 c2, mixC_ok h1 h2, ?_⟩
      simp only [runOps]
      rw [stepA_caller (call' := c1) (fun f args hp nx => by unfold mixC; rw [if_pos rfl]), hs]
      simp only
      rw [runOps_caller (call' := c2) rest (i + 1) _ _ fun f args id hp nx hid => by unfold mixC; rw [if_neg (by omega)]]
      exact hr
    simp only [runOpsT] at h
    split at h
    · split at h
      · rename_i s1 ft hst
        obtain ⟨c2, h2, hr⟩ := runOpsT_sem hb hg hn rest (i + 1) s1 _ T F h hF
        exact join hb h2 hst hr
      · cases h
    · rename_i a T1 _
      split at h
      · rename_i hw
        split at h
        · rename_i v h' nx ft F1 ha
          obtain ⟨c2, h2, hr⟩ := runOpsT_sem hb hg hn rest (i + 1) _ _ T1 (F1 ++ F) h hF
          obtain ⟨D, hD⟩ := runOpsT_app rest (i + 1) _ _ T1 (F1 ++ F) h
          rw [hD, factsSem_append, factsSem_append] at hF
          obtain ⟨c1, h1, hs⟩ := ansT_sem hb hg hn hw ha hF.2.1
          exact join h1 h2 hs hr
        · cases h
      · cases h
 where
  runOpsT_app {n : Nat} {nest : Nest} {rid : Nat} {all : List Oper} {base : Nat} : ∀ (rest : List Oper) (i : Nat) (s : St) (acc : List (Nat × Foot)) (T : Anss) (F : List Fact) {s' : St} {feet : List (Nat × Foot)} {T' : Anss} {F' : List Fact},
      runOpsT P O n nest rid all base rest i s acc T F = some (s', feet, T', F') → ∃ D, F' = D ++ F
    | [], i, s, acc, T, F, s', feet, T', F', h => by
      simp only [runOpsT, Option.some.injEq, Prod.mk.injEq] at h
      obtain ⟨rfl, rfl, rfl, rfl⟩ := h
      exact ⟨[], rfl⟩
    | o :: rest, i, s, acc, T, F, s', feet, T', F', h => by
      simp only [runOpsT] at h
      split at h
      · split at h
        · exact runOpsT_app rest (i + 1) _ _ T F h
        · cases h
      · split at h
        · split at h
          · obtain ⟨D, rfl⟩ := runOpsT_app rest (i + 1) _ _ _ _ h
            exact ⟨D ++ _, by rw [List.append_assoc]⟩
          · cases h
        · cases h

end
end Go.Proofs.Abs
