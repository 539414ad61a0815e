/- What an effect of the short heap means for the model's memory. -/
import Derived.Test.YtnlllfokomenfaaGreatDoorE2
namespace Go.Proofs.Abs
open Go

/-- The outcome of an operation. -/
def Out (P : Program) (Q : Value → World → Prop) : Result Next → Prop
  | .ok (.value v) w => Q v w
  | .ok .skip w => Q undef w
  | .ok (.enter f args) w => Calls P f args w fun e w' => ∃ v, e = .returned v ∧ Q v w'
  | _ => False

theorem wp_of_out {P : Program} {o : Oper} {a : Act} {w : World} {R : Value → World → Prop} {next : Act → World → Prop} {Q : Exit → Act → World → Prop}
    (h : Out P R ((execOp a.eval o).run P w)) (hn : ∀ v w', R v w' → next (a.put o.dst v) w') : o.wp P a w next Q := by
  unfold Oper.wp
  generalize (execOp a.eval o).run P w = r at *
  cases r with
  | halt x w' => exact h.elim
  | ok n w' =>
    cases n <;> first
      | exact hn _ _ h
      | exact h.elim
      | (refine Calls.mono h ?_
         rintro e w'' ⟨v, rfl, hv⟩
         exact hn _ _ hv)

structure Post (G : Glob) (w : World) (I : Nat → Prop) (α : Nat → Option Nat) (H : Heap) (rid nx : Nat) (av : AV) (H' : Heap) (nx' : Nat) (v : Value) (w' : World) : Prop where
  ex : ∃ I' α', Ev w I α H w' I' α' H' ∧ Rel G w' I' α' H' ∧ Rep w' I' α' av v ∧ (∀ id, α' id ≠ none → α id ≠ none ∨ id = rid ∨ (nx ≤ id ∧ id < nx'))
  le : nx ≤ nx'

/-- How functions that are called behave. -/
def CallOk (P : Program) (G : Glob) (call : Caller) : Prop :=
  ∀ f args rid H nx v H' nx' ft, call f args rid H nx = some (v, H', nx', ft) →
    ∀ w I α (vs : Array Value), Rel G w I α H → RepL w I α args vs.toList → α rid = none → rid < nx → (∀ id, nx ≤ id → α id = none) →
      Out P (Post G w I α H rid nx v H' nx') ((callFunc f vs).run P w)

structure Ctx (P : Program) (G : Glob) (call : Caller) (w : World) (I : Nat → Prop) (α : Nat → Option Nat) (H : Heap) (rid nx : Nat) : Prop where
  rel : Rel G w I α H
  hrid : α rid = none
  lt : rid < nx
  fresh : ∀ id, nx ≤ id → α id = none
  call : CallOk P G call

/-- An effect is what an outcome shows. -/
def Impl (P : Program) (G : Glob) (call : Caller) (w : World) (I : Nat → Prop) (α : Nat → Option Nat) (H : Heap) (rid nx : Nat) (m : Result Next) (e : Eff) : Prop :=
  ∀ d v H' nx' ft, runEff call rid d e H nx = some (v, H', nx', ft) → Out P (Post G w I α H rid nx v H' nx') m

def upd (α : Nat → Option Nat) (id b : Nat) : Nat → Option Nat := fun i => if i = id then some b else α i
theorem upd_self (α : Nat → Option Nat) (id b : Nat) : upd α id b id = some b := by simp [upd]
theorem upd_ne (α : Nat → Option Nat) {id i : Nat} (b : Nat) (h : i ≠ id) : upd α id b i = α i := by simp [upd, h]

section
variable {P : Program} {G : Glob} {call : Caller} {w : World} {I : Nat → Prop} {α : Nat → Option Nat} {H : Heap} {rid nx : Nat}

theorem post_same {v : AV} {v' : Value} (r : Rel G w I α H) (h : Rep w I α v v') : Post G w I α H rid nx v H nx v' w :=
  ⟨⟨I, α, .refl, r, h, fun _ h => .inl h⟩, Nat.le_refl _⟩

theorem impl_val {m : Result Next} {v : AV} {v' : Value} (c : Ctx P G call w I α H rid nx) (hm : m = .ok (.value v') w) (h : Rep w I α v v') :
    Impl P G call w I α H rid nx m (.val v) := by
  intro d u H' nx' ft he
  cases d <;> (simp only [runEff, Option.some.injEq, Prod.mk.injEq] at he; obtain ⟨rfl, rfl, rfl, rfl⟩ := he; rw [hm]; exact post_same c.rel h)

theorem impl_read {m : Result Next} {id : Nat} {k : Blk → Option Eff} (c : Ctx P G call w I α H rid nx)
    (h : ∀ blk b e, hget H id = some blk → α id = some b → BRel w I α b blk → k blk = some e → Impl P G call w I α H rid nx m e) :
    Impl P G call w I α H rid nx m (.read id k) := by
  intro d u H' nx' ft he
  cases d with
  | zero => simp [runEff] at he
  | succ d =>
    simp only [runEff] at he
    split at he
    · rename_i blk hb
      split at he
      · rename_i e hk
        split at he
        · rename_i v h' n' f' hr
          simp only [Option.some.injEq, Prod.mk.injEq] at he
          obtain ⟨rfl, rfl, rfl, rfl⟩ := he
          obtain ⟨b, hα, _, hB⟩ := c.rel.live id blk hb
          exact h blk b e hb hα hB hk d _ _ _ _ hr
        · simp at he
      · simp at he
    · simp at he

theorem impl_call {m : Result Next} {f : FuncId} {args : List AV} {vs : Array Value} (c : Ctx P G call w I α H rid nx)
    (hm : m = (callFunc f vs).run P w) (h : RepL w I α args vs.toList) : Impl P G call w I α H rid nx m (.call f args) := by
  intro d u H' nx' ft he
  have : call f args rid H nx = some (u, H', nx', ft) := by cases d <;> simpa [runEff] using he
  rw [hm]
  exact c.call f args rid H nx u H' nx' ft this w I α vs c.rel h c.hrid c.lt c.fresh

/-! ### Worlds that turn -/

theorem ev_heap {w' : World} (h : w'.heap = w.heap) (hos : SameOs w w' := by first | assumption | exact ⟨rfl, rfl, rfl⟩) : Ev w I α H w' I α H :=
  ⟨hos, fun _ h => h, fun _ _ h => h, by rw [h]; exact Nat.le_refl _, fun _ _ _ => by rw [h], fun _ _ => by simp [World.shape?, h], fun _ h => .inl h, fun _ h => .inr h⟩

theorem rel_heap {w' : World} (h : w'.heap = w.heap) (r : Rel G w I α H) (hos : SameOs w w' := by first | assumption | exact ⟨rfl, rfl, rfl⟩) : Rel G w' I α H where
  live id blk hb := by
    obtain ⟨b, h1, h2, h3⟩ := r.live id blk hb
    exact ⟨b, h1, h2, h3.ev r (ev_heap h) (by rw [h])⟩
  inj := r.inj
  imm b hb := by rw [h]; exact r.imm b hb
  dom id b hb := by rw [h]; exact r.dom id b hb
  glob := glob_ev r (ev_heap h)

theorem heap_push_lt {w' : World} {o : Obj} (h : w'.heap = w.heap.push o) {b : Nat} (hb : b < w.heap.size) : w'.heap[b]? = w.heap[b]? := by
  rw [h, Array.getElem?_push]; simp [Nat.ne_of_lt hb]
theorem heap_push_new {w' : World} {o : Obj} (h : w'.heap = w.heap.push o) : w'.heap[w.heap.size]? = some o := by
  rw [h]; simp

/-- A new block that is written no more. -/
theorem ev_push {w' : World} {o : Obj} (h : w'.heap = w.heap.push o) (I' : Nat → Prop) (hI : ∀ b, I b → I' b) (hN : ∀ b, I' b → I b ∨ b = w.heap.size) (hos : SameOs w w' := by first | assumption | exact ⟨rfl, rfl, rfl⟩) : Ev w I α H w' I' α H :=
  ⟨hos, hI, fun _ _ h => h, by rw [h]; simp, fun b hb _ => heap_push_lt h hb, fun b hb => by simp [World.shape?, heap_push_lt h hb], fun b hb => by
    rcases hN b hb with h' | h'
    · exact .inl h'
    · exact .inr (.inl (Nat.le_of_eq h'.symm)), fun b hb => .inr hb⟩

theorem rel_push {w' : World} {o : Obj} (h : w'.heap = w.heap.push o) (I' : Nat → Prop) (hI : ∀ b, I b → I' b) (hN : ∀ b, I' b → I b ∨ b = w.heap.size) (r : Rel G w I α H) (hos : SameOs w w' := by first | assumption | exact ⟨rfl, rfl, rfl⟩) : Rel G w' I' α H where
  live id blk hb := by
    obtain ⟨b, h1, h2, h3⟩ := r.live id blk hb
    have hlt := r.dom id b h1
    refine ⟨b, h1, fun hb' => ?_, h3.ev r (ev_push h I' hI hN) (heap_push_lt h hlt)⟩
    rcases hN b hb' with h' | h'
    · exact h2 h'
    · omega
  inj := r.inj
  imm b hb := by
    rw [h]; simp
    rcases hN b hb with h' | h'
    · have := r.imm b h'; omega
    · omega
  dom id b hb := by rw [h]; simp; have := r.dom id b hb; omega
  glob := glob_ev r (ev_push h I' hI hN)

/-- A new block that the call owns. -/
theorem post_new {w' : World} {o : Obj} {blk : Blk} {v : AV} {v' : Value} (c : Ctx P G call w I α H rid nx) (h : w'.heap = w.heap.push o)
    (hB : ∀ α', (∀ id b, α id = some b → α' id = some b) → Rel G w' I α' H → BRel w' I α' w.heap.size blk)
    (hv : ∀ α', α' rid = some w.heap.size → Rep w' I α' v v') (hos : SameOs w w' := by first | assumption | exact ⟨rfl, rfl, rfl⟩) : Post G w I α H rid nx v (hins H rid blk) nx v' w' := by
  have hm : ∀ id b, α id = some b → upd α rid w.heap.size id = some b := fun id b hb => by
    rw [upd_ne]; exact hb
    intro e; subst e; rw [c.hrid] at hb; cases hb
  have hrid : hget H rid = none := by
    cases hh : hget H rid with
    | none => rfl
    | some blk => obtain ⟨b, h1, _⟩ := c.rel.live rid blk hh; rw [c.hrid] at h1; cases h1
  have ev0 : Ev w I α H w' I (upd α rid w.heap.size) H := by
    have := ev_push (α := α) (H := H) h I (fun _ h => h) (fun _ h => .inl h)
    refine ⟨this.os, this.I_mono, hm, this.size, this.frame, this.shape, this.Inew, fun b hb => ?_⟩
    obtain ⟨id, h1, h2⟩ := hb
    by_cases e : id = rid
    · subst e; rw [hrid] at h1; exact absurd rfl h1
    · rw [upd_ne _ _ e] at h2; exact .inr ⟨id, h1, h2⟩
  have ev : Ev w I α H w' I (upd α rid w.heap.size) (hins H rid blk) := by
    refine ⟨ev0.os, ev0.I_mono, ev0.α_mono, ev0.size, ev0.frame, ev0.shape, ev0.Inew, fun b hb => ?_⟩
    obtain ⟨id, h1, h2⟩ := hb
    by_cases e : id = rid
    · subst e; rw [upd_self] at h2; cases h2; exact .inl (Nat.le_refl _)
    · rw [hget_hins_ne _ _ e] at h1; rw [upd_ne _ _ e] at h2; exact .inr ⟨id, h1, h2⟩
  have rel0 : Rel G w' I (upd α rid w.heap.size) H :=
    { live := fun id blk hb => by
        obtain ⟨b, h1, h2, h3⟩ := c.rel.live id blk hb
        exact ⟨b, hm _ _ h1, h2, h3.ev c.rel ev0 (heap_push_lt h (c.rel.dom id b h1))⟩
      inj := fun id id' b h1 h2 h3 h4 => by
        have e1 : id ≠ rid := fun e => by subst e; exact h1 hrid
        have e2 : id' ≠ rid := fun e => by subst e; exact h2 hrid
        rw [upd_ne _ _ e1] at h3; rw [upd_ne _ _ e2] at h4
        exact c.rel.inj id id' b h1 h2 h3 h4
      imm := fun b hb => by rw [h]; simp; have := c.rel.imm b hb; omega
      dom := fun id b hb => by
        rw [h]; simp
        by_cases e : id = rid
        · subst e; rw [upd_self] at hb; cases hb; omega
        · rw [upd_ne _ _ e] at hb; have := c.rel.dom id b hb; omega
      glob := glob_ev c.rel ev0 }
  have rel : Rel G w' I (upd α rid w.heap.size) (hins H rid blk) :=
    { live := fun id blk' hb => by
        by_cases e : id = rid
        · subst e; rw [hget_hins_self] at hb; cases hb
          exact ⟨_, upd_self _ _ _, fun hI => by have := c.rel.imm _ hI; omega, hB _ hm rel0⟩
        · rw [hget_hins_ne _ _ e] at hb; exact rel0.live id blk' hb
      inj := fun id id' b h1 h2 h3 h4 => by
        by_cases e1 : id = rid
        · subst e1; rw [upd_self] at h3; cases h3
          by_cases e2 : id' = id
          · exact e2.symm
          · rw [upd_ne _ _ e2] at h4; have := c.rel.dom _ _ h4; omega
        · rw [upd_ne _ _ e1] at h3
          by_cases e2 : id' = rid
          · subst e2; rw [upd_self] at h4; cases h4; have := c.rel.dom _ _ h3; omega
          · rw [upd_ne _ _ e2] at h4
            rw [hget_hins_ne _ _ e1] at h1; rw [hget_hins_ne _ _ e2] at h2
            exact c.rel.inj id id' b h1 h2 h3 h4
      imm := rel0.imm
      dom := rel0.dom
      glob := rel0.glob }
  refine ⟨⟨I, upd α rid w.heap.size, ev, rel, hv _ (upd_self _ _ _), fun id hid => ?_⟩, Nat.le_refl _⟩
  by_cases e : id = rid
  · exact .inr (.inl e)
  · rw [upd_ne _ _ e] at hid; exact .inl hid

theorem impl_new {m : Result Next} {w' : World} {o : Obj} {blk : Blk} {k : Nat → AV} {v' : Value} (c : Ctx P G call w I α H rid nx) (hm : m = .ok (.value v') w') (h : w'.heap = w.heap.push o)
    (hB : ∀ α', (∀ id b, α id = some b → α' id = some b) → Rel G w' I α' H → BRel w' I α' w.heap.size blk)
    (hv : ∀ α', α' rid = some w.heap.size → Rep w' I α' (k rid) v') (hos : SameOs w w' := by first | assumption | exact ⟨rfl, rfl, rfl⟩) : Impl P G call w I α H rid nx m (.new blk k) := by
  intro d u H' nx' ft he
  have : u = k rid ∧ H' = hins H rid blk ∧ nx' = nx := by cases d <;> (simp only [runEff, Option.some.injEq, Prod.mk.injEq] at he; obtain ⟨rfl, rfl, rfl, _⟩ := he; exact ⟨rfl, rfl, rfl⟩)
  obtain ⟨rfl, rfl, rfl⟩ := this
  rw [hm]
  exact post_new c h hB hv

/-- A value over a new block that is written no more. -/
theorem impl_newF {m : Result Next} {w' : World} {o : Obj} {v : AV} {v' : Value} (c : Ctx P G call w I α H rid nx) (hm : m = .ok (.value v') w') (h : w'.heap = w.heap.push o)
    (hv : ∀ I', (∀ b, I b → I' b) → I' w.heap.size → Rel G w' I' α H → Ev w I α H w' I' α H → Rep w' I' α v v') (hos : SameOs w w' := by first | assumption | exact ⟨rfl, rfl, rfl⟩) : Impl P G call w I α H rid nx m (.val v) := by
  intro d u H' nx' ft he
  have : u = v ∧ H' = H ∧ nx' = nx := by cases d <;> (simp only [runEff, Option.some.injEq, Prod.mk.injEq] at he; obtain ⟨rfl, rfl, rfl, _⟩ := he; exact ⟨rfl, rfl, rfl⟩)
  obtain ⟨rfl, rfl, rfl⟩ := this
  rw [hm]
  have hI : ∀ b, I b → (fun b => I b ∨ b = w.heap.size) b := fun b h => .inl h
  exact ⟨⟨fun b => I b ∨ b = w.heap.size, α, ev_push h _ hI (fun _ h => h), rel_push h _ hI (fun _ h => h) c.rel, hv _ hI (.inr rfl) (rel_push h _ hI (fun _ h => h) c.rel) (ev_push h _ hI (fun _ h => h)), fun _ h => .inl h⟩, Nat.le_refl _⟩

/-- A block of the call's own that turns, and is let go. -/
theorem del_core {w' : World} {id b : Nat} {blk : Blk} (c : Ctx P G call w I α H rid nx) (hg : hget H id = some blk) (hα : α id = some b)
    (hs : w'.heap.size = w.heap.size) (ho : ∀ k, k ≠ b → w'.heap[k]? = w.heap[k]?) (hsh : w'.shape? b = w.shape? b) (hos : SameOs w w' := by first | assumption | exact ⟨rfl, rfl, rfl⟩) :
    Rel G w' I α (hdel H id) ∧ Ev w I α H w' I α (hdel H id) := by
  have evd : Ev w I α H w' I α (hdel H id) :=
    ⟨hos, fun _ h => h, fun _ _ h => h, by omega, fun k _ hk => ho k (fun e => hk ⟨id, by rw [hg]; simp, e ▸ hα⟩), fun k _ => by
      by_cases e : k = b
      · rw [e, hsh]
      · simp [World.shape?, ho k e], fun _ h => .inl h, fun k hk => by
      obtain ⟨i, h1, h2⟩ := hk
      by_cases e : i = id
      · subst e; rw [hget_hdel_self] at h1; exact absurd rfl h1
      · rw [hget_hdel_ne _ e] at h1; exact .inr ⟨i, h1, h2⟩⟩
  have hother : ∀ i blk0, i ≠ id → hget H i = some blk0 → ∃ k, α i = some k ∧ ¬ I k ∧ BRel w' I α k blk0 ∧ k ≠ b := fun i blk0 hne hi => by
    obtain ⟨k, h1, h2, h3⟩ := c.rel.live i blk0 hi
    have hkb : k ≠ b := fun e => hne (c.rel.inj i id b (by rw [hi]; simp) (by rw [hg]; simp) (e ▸ h1) hα)
    exact ⟨k, h1, h2, h3.ev c.rel evd (ho k hkb), hkb⟩
  exact ⟨{ live := fun i blk0 hi => by
            by_cases e : i = id
            · subst e; rw [hget_hdel_self] at hi; cases hi
            · rw [hget_hdel_ne _ e] at hi
              obtain ⟨k, h1, h2, h3, _⟩ := hother i blk0 e hi
              exact ⟨k, h1, h2, h3⟩
           inj := fun i j k h1 h2 h3 h4 => by
            by_cases e : i = id
            · subst e; rw [hget_hdel_self] at h1; exact absurd rfl h1
            · by_cases e' : j = id
              · subst e'; rw [hget_hdel_self] at h2; exact absurd rfl h2
              · rw [hget_hdel_ne _ e] at h1; rw [hget_hdel_ne _ e'] at h2
                exact c.rel.inj i j k h1 h2 h3 h4
           imm := fun k hk => by rw [hs]; exact c.rel.imm k hk
           dom := fun i k hk => by rw [hs]; exact c.rel.dom i k hk
           glob := glob_ev c.rel evd }, evd⟩

/-- A block of the call's own that is written: id stays. -/
theorem upd_core {w' : World} {id b : Nat} {blk blk' : Blk} (c : Ctx P G call w I α H rid nx) (hg : hget H id = some blk) (hα : α id = some b)
    (hs : w'.heap.size = w.heap.size) (ho : ∀ k, k ≠ b → w'.heap[k]? = w.heap[k]?) (hsh : w'.shape? b = w.shape? b)
    (hB : Rel G w' I α (hdel H id) → Ev w I α H w' I α (hdel H id) → BRel w' I α b blk') (hos : SameOs w w' := by first | assumption | exact ⟨rfl, rfl, rfl⟩) : Ev w I α H w' I α (hins H id blk') ∧ Rel G w' I α (hins H id blk') ∧ Rel G w' I α (hdel H id) ∧ Ev w I α H w' I α (hdel H id) := by
  obtain ⟨reld, evd⟩ := del_core c hg hα hs ho hsh
  have hnI : ¬ I b := by
    obtain ⟨b', h1, h2, _⟩ := c.rel.live id blk hg
    rw [hα] at h1; cases h1; exact h2
  have rel : Rel G w' I α (hins H id blk') :=
    { live := fun i blk0 hi => by
        by_cases e : i = id
        · subst e; rw [hget_hins_self] at hi; cases hi; exact ⟨b, hα, hnI, hB reld evd⟩
        · rw [hget_hins_ne _ _ e] at hi
          exact reld.live i blk0 (by rw [hget_hdel_ne _ e]; exact hi)
      inj := fun i j k h1 h2 h3 h4 => by
        refine c.rel.inj i j k ?_ ?_ h3 h4
        · by_cases e : i = id
          · subst e; rw [hg]; simp
          · rw [hget_hins_ne _ _ e] at h1; exact h1
        · by_cases e : j = id
          · subst e; rw [hg]; simp
          · rw [hget_hins_ne _ _ e] at h2; exact h2
      imm := reld.imm
      dom := reld.dom
      glob := reld.glob }
  have ev : Ev w I α H w' I α (hins H id blk') :=
    ⟨evd.os, evd.I_mono, evd.α_mono, evd.size, evd.frame, evd.shape, evd.Inew, fun k hk => by
      obtain ⟨i, h1, h2⟩ := hk
      by_cases e : i = id
      · subst e; exact .inr ⟨i, by rw [hg]; simp, h2⟩
      · rw [hget_hins_ne _ _ e] at h1; exact .inr ⟨i, h1, h2⟩⟩
  exact ⟨ev, rel, reld, evd⟩

theorem BRel.monoI {I' : Nat → Prop} {k : Nat} {bk : Blk} (h : BRel w I α k bk) (hI : ∀ b, I b → I' b) : BRel w I' α k bk := by
  have mono : ∀ {a : AV} {u : Value}, Rep w I α a u → Rep w I' α a u := fun h => h.mono hI (fun _ _ h => h) (fun _ _ _ => rfl) (fun _ _ _ => rfl)
  cases bk with
  | cells l => obtain ⟨cc, e, h1, h2, h3⟩ := h; exact ⟨cc, e, h1, h2, h3.1, fun i x y e1 e2 => mono (h3.2 i x y e1 e2)⟩
  | siter s p => exact h
  | mapb cl st es => obtain ⟨en, h1, h2, h4, h3⟩ := h; exact ⟨en, h1, h2, h4, fun i x y e1 e2 => ⟨mono (h3 i x y e1 e2).1, mono (h3 i x y e1 e2).2⟩⟩
  | miter m since seen last => exact h

/-- A block of the call's own that is written no more. -/
theorem post_shut {w' : World} {id b : Nat} {blk : Blk} {v : AV} {v' : Value} (c : Ctx P G call w I α H rid nx) (hg : hget H id = some blk) (hα : α id = some b)
    (hs : w'.heap.size = w.heap.size) (ho : ∀ k, k ≠ b → w'.heap[k]? = w.heap[k]?) (hsh : w'.shape? b = w.shape? b)
    (hv : ∀ I', (∀ k, I k → I' k) → I' b → Ev w I α H w' I' α (hdel H id) → Rep w' I' α v v') (hos : SameOs w w' := by first | assumption | exact ⟨rfl, rfl, rfl⟩) : Post G w I α H rid nx v (hdel H id) nx v' w' := by
  obtain ⟨reld, evd⟩ := del_core c hg hα hs ho hsh
  have hI : ∀ k, I k → (fun k => I k ∨ k = b) k := fun k h => .inl h
  have ev : Ev w I α H w' (fun k => I k ∨ k = b) α (hdel H id) :=
    ⟨evd.os, hI, evd.α_mono, evd.size, evd.frame, evd.shape, fun k hk => by
      rcases hk with hk | rfl
      · exact .inl hk
      · exact .inr (.inr ⟨id, by rw [hg]; simp, hα⟩), evd.own⟩
  have rel : Rel G w' (fun k => I k ∨ k = b) α (hdel H id) :=
    { live := fun i blk0 hi => by
        have hid : i ≠ id := fun e => by subst e; rw [hget_hdel_self] at hi; cases hi
        obtain ⟨k, h1, h2, h3⟩ := reld.live i blk0 hi
        refine ⟨k, h1, fun hk => ?_, h3.monoI hI⟩
        rcases hk with hk | rfl
        · exact h2 hk
        · rw [hget_hdel_ne _ hid] at hi
          exact hid (c.rel.inj i id k (by rw [hi]; simp) (by rw [hg]; simp) h1 hα)
      inj := reld.inj
      imm := fun k hk => by
        rcases hk with hk | rfl
        · exact reld.imm k hk
        · exact reld.dom id k hα
      dom := reld.dom
      glob := fun g l hg' => by
        obtain ⟨h1, h2⟩ := reld.glob g l hg'
        exact ⟨.inl h1, fun j x hx => let ⟨y, e, hy⟩ := h2 j x hx; ⟨y, e, hy.mono hI (fun _ _ h => h) (fun _ _ _ => rfl) (fun _ _ _ => rfl)⟩⟩ }
  exact ⟨⟨_, α, ev, rel, hv _ hI (.inr rfl) ev, fun _ h => .inl h⟩, Nat.le_refl _⟩

theorem impl_shut {m : Result Next} {id : Nat} {k : Blk → Option AV} (c : Ctx P G call w I α H rid nx)
    (h : ∀ blk b v, hget H id = some blk → α id = some b → BRel w I α b blk → k blk = some v → Out P (Post G w I α H rid nx v (hdel H id) nx) m) :
    Impl P G call w I α H rid nx m (.shut id k) := by
  intro d u H' nx' ft he
  have : ∃ blk, hget H id = some blk ∧ k blk = some u ∧ H' = hdel H id ∧ nx' = nx := by
    cases d <;>
    · simp only [runEff] at he
      split at he
      · rename_i blk hb
        split at he
        · rename_i v hk
          simp only [Option.some.injEq, Prod.mk.injEq] at he
          obtain ⟨rfl, rfl, rfl, _⟩ := he
          exact ⟨blk, hb, hk, rfl, rfl⟩
        · simp at he
      · simp at he
  obtain ⟨blk, hb, hk, rfl, rfl⟩ := this
  obtain ⟨b, hα, _, hB⟩ := c.rel.live id blk hb
  exact h blk b u hb hα hB hk

theorem post_upd {w' : World} {id b : Nat} {blk blk' : Blk} {v : AV} {v' : Value} (c : Ctx P G call w I α H rid nx) (hg : hget H id = some blk) (hα : α id = some b)
    (hs : w'.heap.size = w.heap.size) (ho : ∀ k, k ≠ b → w'.heap[k]? = w.heap[k]?) (hsh : w'.shape? b = w.shape? b)
    (hB : Rel G w' I α (hdel H id) → Ev w I α H w' I α (hdel H id) → BRel w' I α b blk') (hv : Rel G w' I α (hdel H id) → Ev w I α H w' I α (hdel H id) → Rep w' I α v v') (hos : SameOs w w' := by first | assumption | exact ⟨rfl, rfl, rfl⟩) : Post G w I α H rid nx v (hins H id blk') nx v' w' :=
  let ⟨ev, rel, reld, evd⟩ := upd_core c hg hα hs ho hsh hB
  ⟨⟨I, α, ev, rel, hv reld evd, fun _ h => .inl h⟩, Nat.le_refl _⟩

theorem impl_upd {m : Result Next} {id : Nat} {k : Blk → Option (Blk × AV)} (c : Ctx P G call w I α H rid nx)
    (h : ∀ blk b blk' v, hget H id = some blk → α id = some b → BRel w I α b blk → k blk = some (blk', v) → Out P (Post G w I α H rid nx v (hins H id blk') nx) m) :
    Impl P G call w I α H rid nx m (.upd id k) := by
  intro d u H' nx' ft he
  have : ∃ blk blk', hget H id = some blk ∧ k blk = some (blk', u) ∧ H' = hins H id blk' ∧ nx' = nx := by
    cases d <;>
    · simp only [runEff] at he
      split at he
      · rename_i blk hb
        split at he
        · rename_i blk' v hk
          simp only [Option.some.injEq, Prod.mk.injEq] at he
          obtain ⟨rfl, rfl, rfl, _⟩ := he
          exact ⟨blk, blk', hb, hk, rfl, rfl⟩
        · simp at he
      · simp at he
  obtain ⟨blk, blk', hb, hk, rfl, rfl⟩ := this
  obtain ⟨b, hα, _, hB⟩ := c.rel.live id blk hb
  exact h blk b blk' u hb hα hB hk

theorem impl_repl {m : Result Next} {id : Nat} {k : Blk → Option (Blk × (Nat → AV))} (c : Ctx P G call w I α H rid nx)
    (h : ∀ blk b blk' v, hget H id = some blk → α id = some b → BRel w I α b blk → k blk = some (blk', v) → Out P (Post G w I α H rid nx (v rid) (hins (hdel H id) rid blk') nx) m) :
    Impl P G call w I α H rid nx m (.repl id k) := by
  intro d u H' nx' ft he
  have : ∃ blk blk' v, hget H id = some blk ∧ k blk = some (blk', v) ∧ u = v rid ∧ H' = hins (hdel H id) rid blk' ∧ nx' = nx := by
    cases d <;>
    · simp only [runEff] at he
      split at he
      · rename_i blk hb
        split at he
        · rename_i blk' v hk
          simp only [Option.some.injEq, Prod.mk.injEq] at he
          obtain ⟨rfl, rfl, rfl, _⟩ := he
          exact ⟨blk, blk', v, hb, hk, rfl, rfl, rfl⟩
        · simp at he
      · simp at he
  obtain ⟨blk, blk', v, hb, hk, rfl, rfl, rfl⟩ := this
  obtain ⟨b, hα, _, hB⟩ := c.rel.live id blk hb
  exact h blk b blk' v hb hα hB hk

/-- A block let go: whatever it was. -/
theorem rel_del (r : Rel G w I α H) (id : Nat) : Rel G w I α (hdel H id) where
  live i blk hi := by
    by_cases e : i = id
    · subst e; rw [hget_hdel_self] at hi; cases hi
    · rw [hget_hdel_ne _ e] at hi; exact r.live i blk hi
  inj i j k h1 h2 h3 h4 := by
    by_cases e : i = id
    · subst e; rw [hget_hdel_self] at h1; exact absurd rfl h1
    · by_cases e' : j = id
      · subst e'; rw [hget_hdel_self] at h2; exact absurd rfl h2
      · rw [hget_hdel_ne _ e] at h1; rw [hget_hdel_ne _ e'] at h2
        exact r.inj i j k h1 h2 h3 h4
  imm := r.imm
  dom := r.dom
  glob := r.glob

theorem ev_del (id : Nat) : Ev w I α H w I α (hdel H id) :=
  ⟨.refl _, fun _ h => h, fun _ _ h => h, Nat.le_refl _, fun _ _ _ => rfl, fun _ _ => rfl, fun _ h => .inl h, fun b hb => by
    obtain ⟨i, h1, h2⟩ := hb
    by_cases e : i = id
    · subst e; rw [hget_hdel_self] at h1; exact absurd rfl h1
    · rw [hget_hdel_ne _ e] at h1; exact .inr ⟨i, h1, h2⟩⟩

end
end Go.Proofs.Abs
