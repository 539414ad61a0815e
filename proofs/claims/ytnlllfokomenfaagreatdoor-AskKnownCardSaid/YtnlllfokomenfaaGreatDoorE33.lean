/- From a state of the abstract machine on: what code leads to, its rules; states seen anew. -/
import Derived.Test.YtnlllfokomenfaaGreatDoorE32
namespace Go.Proofs.Abs
open Go

/-- From a state on, code leads to what is said; blocks from nx0 on are the call's own. -/
structure AWp (P : Program) (G : Glob) (nx0 : Nat) (c : Code) (s : St) (Q : AExit → St → Prop) : Prop where
  out : ∀ w0 I0 α0 H0 D a w, (∀ id, nx0 ≤ id → α0 id = none) → CR G w0 I0 α0 H0 nx0 D s a w → c.wp P (fun e a' w' => ∃ x s', e = exitOf x ∧ CR G w0 I0 α0 H0 nx0 D s' a' w' ∧ Q x s') a w

section
variable {P : Program} {G : Glob} {nx0 : Nat} {s : St} {Q Q' : AExit → St → Prop}

theorem AWp.mono {c : Code} (h : AWp P G nx0 c s Q) (hq : ∀ e s', Q e s' → Q' e s') : AWp P G nx0 c s Q' :=
  ⟨fun w0 I0 α0 H0 D a w hα hr => wp_mono (h.out w0 I0 α0 H0 D a w hα hr) fun _ _ _ ⟨x, s', h1, h2, h3⟩ => ⟨x, s', h1, h2, hq _ _ h3⟩⟩
theorem AWp.skip (h : Q .normal s) : AWp P G nx0 .skip s Q := ⟨fun _ _ _ _ _ _ _ _ hr => wp_skip ⟨.normal, s, rfl, hr, h⟩⟩
theorem AWp.label {l : Nat} (h : Q .normal s) : AWp P G nx0 (.label l) s Q := ⟨fun _ _ _ _ _ _ _ _ hr => wp_label ⟨.normal, s, rfl, hr, h⟩⟩
theorem AWp.exit {i : Nat} (h : Q (.exit i) s) : AWp P G nx0 (.exit i) s Q := ⟨fun _ _ _ _ _ _ _ _ hr => wp_exit ⟨.exit i, s, rfl, hr, h⟩⟩
theorem AWp.ret (h : Q .ret s) : AWp P G nx0 .ret s Q := ⟨fun _ _ _ _ _ _ _ _ hr => wp_ret ⟨.ret, s, rfl, hr, h⟩⟩

/-- What follows a piece of code. -/
def thenK (K : St → Prop) (Q : AExit → St → Prop) : AExit → St → Prop
  | .normal, s => K s
  | e, s => Q e s

theorem AWp.seq {x y : Code} (h : AWp P G nx0 x s (thenK (fun s' => AWp P G nx0 y s' Q) Q)) : AWp P G nx0 (.seq x y) s Q := by
  refine ⟨fun w0 I0 α0 H0 D a w hα hr => wp_seq (wp_mono (h.out w0 I0 α0 H0 D a w hα hr) ?_)⟩
  rintro e a' w' ⟨x, s', rfl, h2, h3⟩
  cases x with
  | normal => exact h3.out w0 I0 α0 H0 D a' w' hα h2
  | exit i => exact ⟨_, s', rfl, h2, h3⟩
  | ret => exact ⟨_, s', rfl, h2, h3⟩

theorem AWp.cond_true {c : Operand} {x y : Code} (hc : evA s.slots c = some (.bool true)) (h : AWp P G nx0 x s Q) : AWp P G nx0 (.cond c x y) s Q :=
  ⟨fun w0 I0 α0 H0 D a w hα hr => by
    have hs := hr.ex
    obtain ⟨I, α, _, _, hs, _⟩ := hs
    exact wp_cond_true (rep_ev hs hc).bool_val (h.out w0 I0 α0 H0 D a w hα hr)⟩
theorem AWp.cond_false {c : Operand} {x y : Code} (hc : evA s.slots c = some (.bool false)) (h : AWp P G nx0 y s Q) : AWp P G nx0 (.cond c x y) s Q :=
  ⟨fun w0 I0 α0 H0 D a w hα hr => by
    have hs := hr.ex
    obtain ⟨I, α, _, _, hs, _⟩ := hs
    exact wp_cond_false (rep_ev hs hc).bool_val (h.out w0 I0 α0 H0 D a w hα hr)⟩

/-- Leaving a block. -/
def blockK (id : Nat) (Q : AExit → St → Prop) : AExit → St → Prop
  | .exit i, s => match Nat.beq i id with
    | true => Q .normal s
    | false => Q (.exit i) s
  | e, s => Q e s

theorem AWp.block {id : Nat} {body : Code} (h : AWp P G nx0 body s (blockK id Q)) : AWp P G nx0 (.block id body) s Q := by
  refine ⟨fun w0 I0 α0 H0 D a w hα hr => wp_block (wp_mono (h.out w0 I0 α0 H0 D a w hα hr) ?_)⟩
  rintro e a' w' ⟨x, s', rfl, h2, h3⟩
  cases x with
  | normal => exact ⟨_, s', rfl, h2, h3⟩
  | ret => exact ⟨_, s', rfl, h2, h3⟩
  | exit i =>
    simp only [exitOf, Exit.inBlock]
    simp only [blockK] at h3
    split at h3
    · rename_i hi
      rw [if_pos (beq_iff.1 hi)]
      exact ⟨.normal, s', rfl, h2, h3⟩
    · rename_i hi
      rw [if_neg (beq_false_iff.1 hi)]
      exact ⟨.exit i, s', rfl, h2, h3⟩

/-- So many rounds at most. -/
def ARnd (P : Program) (G : Glob) (nx0 : Nat) (body : Code) (Q : AExit → St → Prop) : Nat → St → Prop
  | 0, _ => False
  | k + 1, s => AWp P G nx0 body s (thenK (ARnd P G nx0 body Q k) Q)

theorem ARnd.rounds {body : Code} : ∀ {k : Nat} {s : St}, ARnd P G nx0 body Q k s → ∀ w0 I0 α0 H0 D a w, (∀ id, nx0 ≤ id → α0 id = none) → CR G w0 I0 α0 H0 nx0 D s a w →
    Code.rounds P body (fun e a' w' => ∃ x s', e = exitOf x ∧ CR G w0 I0 α0 H0 nx0 D s' a' w' ∧ Q x s') k a w
  | 0, _, h => h.elim
  | k + 1, s, h => fun w0 I0 α0 H0 D a w hα hr => by
    rw [rounds_succ]
    refine wp_mono (AWp.out h w0 I0 α0 H0 D a w hα hr) ?_
    rintro e a' w' ⟨x, s', rfl, h2, h3⟩
    cases x with
    | normal => exact ARnd.rounds h3 w0 I0 α0 H0 D a' w' hα h2
    | exit i => exact ⟨_, s', rfl, h2, h3⟩
    | ret => exact ⟨_, s', rfl, h2, h3⟩

theorem AWp.loop {body : Code} (k : Nat) (h : ARnd P G nx0 body Q k s) : AWp P G nx0 (.loop body) s Q :=
  ⟨fun w0 I0 α0 H0 D a w hα hr => wp_loop_rounds k (h.rounds w0 I0 α0 H0 D a w hα hr)⟩

theorem AWp.region {call : Caller} {id : Nat} {ops : Array Oper} {draw : Bool} {s' : St} {feet : List (Nat × Foot)} (hm : P.follows .mixedOrders = true) (hcall : CallOk P G call) (hloc : CallLoc call)
    (h : runOps P G call ops.toList s.nx ops.toList 0 ⟨s.slots, s.heap, s.nx + lenN ops.toList, s.n⟩ [] = some (s', feet))
    (hd : draw = true → regionOk ops.toList = true ∧ feetOk (befs ops.toList []) feet = true) (hq : Q .normal s') : AWp P G nx0 (.region id ops draw) s Q :=
  ⟨fun _w0 _I0 _α0 _H0 _D _a _w _hα hr => region_sound hm hcall hloc hr h hd fun _a' _w' hr' => ⟨.normal, s', rfl, hr', hq⟩⟩

end

/-! ### States seen anew -/

section
variable {G : Glob} {w0 : World} {I0 : Nat → Prop} {α0 : Nat → Option Nat} {H0 : Heap} {nx0 : Nat} {D : List Deferred}

/-- A state may be seen as another one: blocks of the call's own under other numbers. -/
theorem CR.turnIn {s s2 : St} {a : Act} {w : World} (lk : List (Nat × Nat)) (hg : ∀ g l, G g = some l → closedAll l = true) (hα : ∀ id, nx0 ≤ id → α0 id = none) (h : CR G w0 I0 α0 H0 nx0 D s a w) (hn : s2.n = s.n)
    (hS : ∀ k v, s2.slots.get k = some v → ∃ u, s.slots.get k = some u ∧ RenV lk v u)
    (hH : ∀ i b, hget s2.heap i = some b → ∃ j b1, lookN lk i = some j ∧ hget s.heap j = some b1 ∧ RenB lk b b1)
    (hI : (lk.map (·.2)).Nodup) (hB : ∀ i, s2.nx ≤ i → lookN lk i = none) (hlo : ∀ i, i < nx0 → lookN lk i = some i) (hnx : nx0 ≤ s2.nx) : CR G w0 I0 α0 H0 nx0 D s2 a w := by
  obtain ⟨⟨I, α, ev, rel, hs, _, hf, hnew⟩, h7, h8, h9, h10, h11⟩ := h
  have hown : ∀ b, Owned (fun i => (lookN lk i).bind α) s2.heap b → Owned α s.heap b := fun b ⟨i, h1, h2⟩ => by
    cases hi : hget s2.heap i with
    | none => exact absurd hi h1
    | some blk =>
      obtain ⟨j, b1, e1, e2, _⟩ := hH i blk hi
      exact ⟨j, by rw [e2]; simp, by simpa [e1] using h2⟩
  have hmono : ∀ id b, α0 id = some b → (lookN lk id).bind α = some b := fun id b hb => by
    rcases Nat.lt_or_ge id nx0 with h' | h'
    · simp [hlo id h', ev.α_mono id b hb]
    · rw [hα id h'] at hb; cases hb
  refine ⟨⟨I, fun i => (lookN lk i).bind α, ⟨ev.os, ev.I_mono, hmono, ev.size, ev.frame, ev.shape, ev.Inew, fun b hb => ev.own b (hown b hb)⟩, ?_, ?_, fun i hi => absurd hi (Nat.not_lt_zero i), fun id hid => by simp [hB id hid], fun id hid => ?_⟩, Nat.le_refl _, hnx, h9, by rw [hn]; exact h10, by rw [hn]; exact h11⟩
  · exact
    { live := fun i blk hi => by
        obtain ⟨j, b1, e1, e2, e3⟩ := hH i blk hi
        obtain ⟨b, k1, k2, k3⟩ := rel.live j b1 e2
        exact ⟨b, by simp [e1, k1], k2, bRel_ren e3 k3⟩
      inj := fun i i' b h1 h2 h3 h4 => by
        cases hi : hget s2.heap i with
        | none => exact absurd hi h1
        | some blk =>
          cases hi' : hget s2.heap i' with
          | none => exact absurd hi' h2
          | some blk' =>
            obtain ⟨j, b1, e1, e2, _⟩ := hH i blk hi
            obtain ⟨j', b1', e1', e2', _⟩ := hH i' blk' hi'
            have : j = j' := rel.inj j j' b (by rw [e2]; simp) (by rw [e2']; simp) (by simpa [e1] using h3) (by simpa [e1'] using h4)
            subst this
            exact lookN_inj hI e1 e1'
      imm := rel.imm
      dom := fun i b hb => by
        cases hl : lookN lk i with
        | none => simp [hl] at hb
        | some j => exact rel.dom j b (by simpa [hl] using hb)
      glob := fun g l hgl => by
        obtain ⟨h1, h2⟩ := rel.glob g l hgl
        refine ⟨h1, fun j x hx => ?_⟩
        obtain ⟨y, e1, e2⟩ := h2 j x hx
        exact ⟨y, e1, rep_closed e2 (closed_at (hg g l hgl) hx)⟩ }
  · intro k v hv
    obtain ⟨u, e1, e2⟩ := hS k v hv
    obtain ⟨y, e3, e4⟩ := hs k u e1
    exact ⟨y, e3, rep_ren e2 e4⟩
  · rcases Nat.lt_or_ge id nx0 with h' | h'
    · left
      have : α id ≠ none := by simpa [hlo id h'] using hid
      rcases hnew id this with h | h
      · exact h
      · omega
    · right
      refine ⟨h', ?_⟩
      rcases Nat.lt_or_ge id s2.nx with h'' | h''
      · exact h''
      · exact absurd (by simp [hB id h'']) hid

end

/-- One state beside another: the second one says less. -/
structure Sees (nx0 : Nat) (lk : List (Nat × Nat)) (L2 : List (Nat × AV)) (s s2 : St) : Prop where
  n : s2.n = s.n
  slots : s2.slots = sl L2
  S : SeenS lk L2 (L2.map (·.1)) ((L2.map (·.1)).map s.slots.get)
  H : SeenH lk s2.heap (lk.map (·.2)) ((lk.map (·.2)).map (hget s.heap))
  I : (lk.map (·.2)).Nodup
  B : ∀ p ∈ lk, p.1 < s2.nx
  lo : ∀ i, i < nx0 → lookN lk i = some i
  nx : nx0 ≤ s2.nx

theorem AWp.turn {P : Program} {G : Glob} {nx0 : Nat} {c : Code} {s s2 : St} {Q : AExit → St → Prop} {lk : List (Nat × Nat)} {L2 : List (Nat × AV)} (hg : ∀ g l, G g = some l → closedAll l = true) (hs : Sees nx0 lk L2 s s2) (h : AWp P G nx0 c s2 Q) : AWp P G nx0 c s Q :=
  ⟨fun w0 I0 α0 H0 D a w hα hr => h.out w0 I0 α0 H0 D a w hα (hr.turnIn lk hg hα hs.n (fun k v hv => by
      rw [hs.slots] at hv
      exact seenS_at hs.S k v (sl_get hv)) (fun i b hi => seenH_at hs.H i b (hget_mem hi)) hs.I (fun i hi => by
      cases hl : lookN lk i with
      | none => rfl
      | some j => have := hs.B _ (lookN_mem hl); omega) hs.lo hs.nx)⟩

/-- The same at the end of code. -/
theorem AWp.turnEnd {P : Program} {G : Glob} {nx0 : Nat} {c : Code} {s : St} {Q Q' : AExit → St → Prop} (hg : ∀ g l, G g = some l → closedAll l = true) (h : AWp P G nx0 c s Q)
    (hq : ∀ e s', Q e s' → Q' e s' ∨ ∃ s2 lk L2, Sees nx0 lk L2 s' s2 ∧ Q' e s2) : AWp P G nx0 c s Q' :=
  ⟨fun w0 I0 α0 H0 D a w hα hr => wp_mono (h.out w0 I0 α0 H0 D a w hα hr) fun _ _ _ ⟨x, s', h1, h2, h3⟩ => by
    rcases hq x s' h3 with h | ⟨s2, lk, L2, hs, h⟩
    · exact ⟨x, s', h1, h2, h⟩
    · exact ⟨x, s2, h1, h2.turnIn lk hg hα hs.n (fun k v hv => by
        rw [hs.slots] at hv
        exact seenS_at hs.S k v (sl_get hv)) (fun i b hi => seenH_at hs.H i b (hget_mem hi)) hs.I (fun i hi => by
        cases hl : lookN lk i with
        | none => rfl
        | some j => have := hs.B _ (lookN_mem hl); omega) hs.lo hs.nx, h⟩⟩

end Go.Proofs.Abs
