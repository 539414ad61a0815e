/- States seen anew: blocks under other numbers, what is wanted no more let go. Functions' answers by walks. -/
import Derived.Test.YtnlllfokomenfaaGreatDoorE29
namespace Go.Proofs.Abs
open Go

def lookN : List (Nat × Nat) → Nat → Option Nat
  | [], _ => none
  | (i, j) :: t, k => match Nat.beq i k with
    | true => some j
    | false => lookN t k

theorem lookN_mem : ∀ {l : List (Nat × Nat)} {i j : Nat}, lookN l i = some j → (i, j) ∈ l
  | [], _, _, h => by cases h
  | (a, b) :: t, i, j, h => by
    simp only [lookN] at h
    split at h
    · rename_i he
      have he := beq_iff.1 he
      simp only [Option.some.injEq] at h
      subst he; subst h; simp
    · exact List.mem_cons_of_mem _ (lookN_mem h)

theorem lookN_inj {l : List (Nat × Nat)} (h : (l.map (·.2)).Nodup) {i i' j : Nat} (h1 : lookN l i = some j) (h2 : lookN l i' = some j) : i = i' := by
  have m1 := lookN_mem h1
  have m2 := lookN_mem h2
  clear h1 h2
  induction l with
  | nil => cases m1
  | cons p t ih =>
    simp only [List.map_cons, List.nodup_cons] at h
    rcases List.mem_cons.1 m1 with e1 | m1 <;> rcases List.mem_cons.1 m2 with e2 | m2
    · rw [← e2] at e1; exact (Prod.mk.inj e1).1
    · exact absurd (List.mem_map.2 ⟨_, m2, by rw [← e1]⟩) h.1
    · exact absurd (List.mem_map.2 ⟨_, m1, by rw [← e2]⟩) h.1
    · exact ih h.2 m1 m2

/-- A value under new numbers beside it under the old ones. -/
inductive RenV (lk : List (Nat × Nat)) : AV → AV → Prop
  | same (v : AV) (h : closedA v = true) : RenV lk v v
  | ptr (i j off : Nat) (h : lookN lk i = some j) : RenV lk (.ptr i off) (.ptr j off)
  | rsl (own : Bool) (i j off len sz : Nat) (h : lookN lk i = some j) : RenV lk (.rsl own i off len sz) (.rsl own j off len sz)
  | map (i j : Nat) (h : lookN lk i = some j) : RenV lk (.map i) (.map j)
  | tuple2 {a b c d : AV} (h1 : RenV lk a b) (h2 : RenV lk c d) : RenV lk (.tuple [a, c]) (.tuple [b, d])

def RenL (lk : List (Nat × Nat)) : List AV → List AV → Prop
  | [], [] => True
  | a :: t, b :: u => RenV lk a b ∧ RenL lk t u
  | _, _ => False
def RenP (lk : List (Nat × Nat)) : List (AV × AV) → List (AV × AV) → Prop
  | [], [] => True
  | a :: t, b :: u => RenV lk a.1 b.1 ∧ RenV lk a.2 b.2 ∧ RenP lk t u
  | _, _ => False
def RenB (lk : List (Nat × Nat)) : Blk → Blk → Prop
  | .cells l, .cells l' => RenL lk l l'
  | .siter s p, .siter s' p' => s = s' ∧ p = p'
  | .mapb c s l, .mapb c' s' l' => c = c' ∧ s = s' ∧ RenP lk l l'
  | .miter m a b c, .miter m' a' b' c' => a = a' ∧ b = b' ∧ c = c' ∧ lookN lk m = some m'
  | _, _ => False

theorem RenL.same (lk : List (Nat × Nat)) : ∀ {l : List AV}, closedAll l = true → RenL lk l l
  | [], _ => trivial
  | a :: t, h => by
    simp only [closedAll, Bool.and_eq_true] at h
    exact ⟨.same a h.1, RenL.same lk h.2⟩

section
variable {w : World} {I : Nat → Prop} {α : Nat → Option Nat} {lk : List (Nat × Nat)}

theorem rep_ren {v u : AV} {x : Value} (h : RenV lk v u) (hr : Rep w I α u x) : Rep w I (fun i => (lookN lk i).bind α) v x := by
  induction h generalizing x with
  | same _ hc => exact rep_closed hr hc
  | tuple2 _ _ ih1 ih2 =>
    obtain ⟨a', rfl, hl⟩ := Rep.tuple_iff.1 hr
    obtain ⟨y, v', e1, k1, hl⟩ := hl.cons_inv
    obtain ⟨z, v'', e2, k2, hl⟩ := hl.cons_inv
    have e3 := hl.nil_inv
    exact Rep.tuple_iff.2 ⟨a', rfl, by rw [e1, e2, e3]; exact .cons (ih1 k1) (.cons (ih2 k2) .nil)⟩
  | ptr i j off hl => cases hr with | ptr _ _ b hb => exact .ptr i off b (by simp [hl, hb])
  | rsl own i j off len sz hl => cases hr with | rsl _ _ _ _ _ cap b hb hc ho => exact .rsl own i off len sz cap b (by simp [hl, hb]) hc ho
  | map i j hl => cases hr with | map _ b hb => exact .map i b (by simp [hl, hb])

theorem repL_ren : ∀ {l l' : List AV} {xs : List Value}, RenL lk l l' → RepL w I α l' xs → RepL w I (fun i => (lookN lk i).bind α) l xs
  | [], [], xs, _, h => by rw [h.nil_inv]; exact .nil
  | a :: t, b :: u, xs, h, hr => by
    obtain ⟨y, v', rfl, h1, h2⟩ := hr.cons_inv
    exact .cons (rep_ren h.1 h1) (repL_ren h.2 h2)
  | [], _ :: _, _, h, _ => h.elim
  | _ :: _, [], _, h, _ => h.elim

theorem renL_length : ∀ {l l' : List AV}, RenL lk l l' → l.length = l'.length
  | [], [], _ => rfl
  | _ :: t, _ :: u, h => by simp [renL_length h.2]
  | [], _ :: _, h => h.elim
  | _ :: _, [], h => h.elim

theorem renP_at : ∀ {l l' : List (AV × AV)}, RenP lk l l' → l.length = l'.length ∧ ∀ (i : Nat) x, l[i]? = some x → ∃ y, l'[i]? = some y ∧ RenV lk x.1 y.1 ∧ RenV lk x.2 y.2
  | [], [], _ => ⟨rfl, by simp⟩
  | a :: t, b :: u, h => by
    obtain ⟨h1, h2⟩ := renP_at h.2.2
    refine ⟨by simp [h1], fun i x hx => ?_⟩
    cases i with
    | zero => simp at hx; subst hx; exact ⟨b, rfl, h.1, h.2.1⟩
    | succ i => simpa using h2 i x (by simpa using hx)
  | [], _ :: _, h => h.elim
  | _ :: _, [], h => h.elim

theorem bRel_ren {b : Nat} {b2 b1 : Blk} (h : RenB lk b2 b1) (hr : BRel w I α b b1) : BRel w I (fun i => (lookN lk i).bind α) b b2 := by
  cases b2 with
  | cells l => cases b1 with
    | cells l' =>
      obtain ⟨c, e, h1, h2, h3⟩ := hr
      have hl := renL_length h
      exact ⟨c, e, h1, by rw [hl]; exact h2, by rw [hl]; exact repL_ren h h3⟩
    | _ => exact h.elim
  | siter s p => cases b1 with
    | siter s' p' => obtain ⟨rfl, rfl⟩ := h; exact hr
    | _ => exact h.elim
  | miter m a b c => cases b1 with
    | miter m' a' b' c' =>
      obtain ⟨rfl, rfl, rfl, h⟩ := h
      obtain ⟨mb, h1, h2⟩ := hr
      exact ⟨mb, by simp [h, h1], h2⟩
    | _ => exact h.elim
  | mapb c s l => cases b1 with
    | mapb c' s' l' =>
      obtain ⟨rfl, rfl, h⟩ := h
      obtain ⟨en, h1, h2, h4, h3⟩ := hr
      obtain ⟨k1, k2⟩ := renP_at h
      refine ⟨en, h1, by rw [k1]; exact h2, h4, fun i x y hx hy => ?_⟩
      obtain ⟨z, e1, e2, e3⟩ := k2 i x hx
      exact ⟨rep_ren e2 (h3 i z y e1 hy).1, rep_ren e3 (h3 i z y e1 hy).2⟩
    | _ => exact h.elim
end

theorem closed_at : ∀ {l : List AV} {j : Nat} {x : AV}, closedAll l = true → l[j]? = some x → closedA x = true
  | [], _, _, _, h => by simp at h
  | a :: t, 0, x, h, hx => by
    simp only [closedAll, Bool.and_eq_true] at h
    simp at hx; subst hx; exact h.1
  | a :: t, j + 1, x, h, hx => by
    simp only [closedAll, Bool.and_eq_true] at h
    exact closed_at h.2 (by simpa using hx)

/-- Slots laid one by one. -/
noncomputable def sl (l : List (Nat × AV)) : Tr := l.foldl (fun t p => t.set 12 p.1 p.2) .tip

theorem sl_get_aux : ∀ (l : List (Nat × AV)) (t : Tr) {k : Nat} {v : AV}, (l.foldl (fun t p => t.set 12 p.1 p.2) t).get k = some v → (k, v) ∈ l ∨ t.get k = some v
  | [], _, _, _, h => .inr h
  | (i, x) :: r, t, k, v, h => by
    rcases sl_get_aux r _ h with h | h
    · exact .inl (List.mem_cons_of_mem _ h)
    · by_cases e : k = i
      · subst e
        rcases Tr.get_set_self 12 t (k := k) x with h' | h'
        · rw [h'] at h
          simp only [Option.some.injEq] at h
          subst h; exact .inl (by simp)
        · rw [h'] at h; exact .inr h
      · rw [Tr.get_set_ne 12 t x e] at h; exact .inr h
theorem sl_get {l : List (Nat × AV)} {k : Nat} {v : AV} (h : (sl l).get k = some v) : (k, v) ∈ l := by
  rcases sl_get_aux l .tip h with h | h
  · exact h
  · rw [Tr.get_tip] at h; cases h

theorem hget_mem : ∀ {H : Heap} {i : Nat} {b : Blk}, hget H i = some b → (i, some b) ∈ H
  | [], _, _, h => by simp [hget] at h
  | (k, c) :: t, i, b, h => by
    simp only [hget] at h
    split at h
    · rename_i he
      have he := beq_iff.1 he
      subst he; subst h; simp
    · exact List.mem_cons_of_mem _ (hget_mem h)

section
variable {G : Glob} {w0 : World} {I0 : Nat → Prop} {D : List Deferred}

/-- A state of a closed call may be seen as another one. -/
theorem CR.turn {s s2 : St} {a : Act} {w : World} (lk : List (Nat × Nat)) (hg : ∀ g l, G g = some l → closedAll l = true) (h : CR G w0 I0 (fun _ => none) [] 0 D s a w) (hn : s2.n = s.n)
    (hS : ∀ k v, s2.slots.get k = some v → ∃ u, s.slots.get k = some u ∧ RenV lk v u)
    (hH : ∀ i b, hget s2.heap i = some b → ∃ j b1, lookN lk i = some j ∧ hget s.heap j = some b1 ∧ RenB lk b b1)
    (hI : (lk.map (·.2)).Nodup) (hB : ∀ i, s2.nx ≤ i → lookN lk i = none) : CR G w0 I0 (fun _ => none) [] 0 D s2 a w := by
  obtain ⟨⟨I, α, ev, rel, hs, _, hf, hnew⟩, h7, h8, h9, h10, h11⟩ := h
  have hown : ∀ b, Owned (fun i => (lookN lk i).bind α) s2.heap b → Owned α s.heap b := fun b ⟨i, h1, h2⟩ => by
    cases hi : hget s2.heap i with
    | none => exact absurd hi h1
    | some blk =>
      obtain ⟨j, b1, e1, e2, _⟩ := hH i blk hi
      exact ⟨j, by rw [e2]; simp, by simpa [e1] using h2⟩
  refine ⟨⟨I, fun i => (lookN lk i).bind α, ⟨ev.os, ev.I_mono, fun id b hb => (by cases hb), ev.size, ev.frame, ev.shape, ev.Inew, fun b hb => ev.own b (hown b hb)⟩, ?_, ?_, fun i hi => absurd hi (Nat.not_lt_zero i), fun id hid => by simp [hB id hid], fun id hid => ?_⟩, Nat.le_refl _, Nat.zero_le _, h9, by rw [hn]; exact h10, by rw [hn]; exact h11⟩
  · exact
    { live := fun i blk hi => by
        obtain ⟨j, b1, e1, e2, e3⟩ := hH i blk hi
        obtain ⟨b, k1, k2, k3⟩ := rel.live j b1 e2
        exact ⟨b, by simp [e1, k1], k2, bRel_ren e3 k3⟩
      inj := fun i i' b h1 h2 h3 h4 => by
        cases hi : hget s2.heap i with
        | none => exact absurd hi h1
        | some blk =>
          cases hi' : hget s2.heap i' with
          | none => exact absurd hi' h2
          | some blk' =>
            obtain ⟨j, b1, e1, e2, _⟩ := hH i blk hi
            obtain ⟨j', b1', e1', e2', _⟩ := hH i' blk' hi'
            have : j = j' := rel.inj j j' b (by rw [e2]; simp) (by rw [e2']; simp) (by simpa [e1] using h3) (by simpa [e1'] using h4)
            subst this
            exact lookN_inj hI e1 e1'
      imm := rel.imm
      dom := fun i b hb => by
        cases hl : lookN lk i with
        | none => simp [hl] at hb
        | some j => exact rel.dom j b (by simpa [hl] using hb)
      glob := fun g l hgl => by
        obtain ⟨h1, h2⟩ := rel.glob g l hgl
        refine ⟨h1, fun j x hx => ?_⟩
        obtain ⟨y, e1, e2⟩ := h2 j x hx
        exact ⟨y, e1, rep_closed e2 (closed_at (hg g l hgl) hx)⟩ }
  · intro k v hv
    obtain ⟨u, e1, e2⟩ := hS k v hv
    obtain ⟨y, e3, e4⟩ := hs k u e1
    exact ⟨y, e3, rep_ren e2 e4⟩
  · right
    refine ⟨Nat.zero_le _, ?_⟩
    rcases Nat.lt_or_ge id s2.nx with h' | h'
    · exact h'
    · exact absurd (by simp [hB id h']) hid

end

/-- What is seen of a run's end: how it ended, some slots, some blocks, the facts. -/
noncomputable def seen (r : ResT) (keys ids : List Nat) : Option (AExit × List (Option AV) × List (Option Blk) × Nat × List Fact) := match r with
  | some (x, s, _, F) => some (x, keys.map s.slots.get, ids.map (hget s.heap), s.n, F)
  | none => none

theorem seen_eq {r : ResT} {keys ids : List Nat} {x : AExit} {vs : List (Option AV)} {bs : List (Option Blk)} {k : Nat} {F : List Fact} (h : seen r keys ids = some (x, vs, bs, k, F)) :
    ∃ s T, r = some (x, s, T, F) ∧ s.n = k ∧ keys.map s.slots.get = vs ∧ ids.map (hget s.heap) = bs := by
  unfold seen at h
  split at h
  · rename_i x0 s T F0
    simp only [Option.some.injEq, Prod.mk.injEq] at h
    obtain ⟨rfl, rfl, rfl, rfl, rfl⟩ := h
    exact ⟨s, T, rfl, rfl, rfl, rfl⟩
  · cases h

/-- New slots beside what was seen. -/
def SeenS (lk : List (Nat × Nat)) : List (Nat × AV) → List Nat → List (Option AV) → Prop
  | [], [], [] => True
  | (k, v) :: t, k' :: ks, u :: us => k = k' ∧ (∃ x, u = some x ∧ RenV lk v x) ∧ SeenS lk t ks us
  | _, _, _ => False
/-- New blocks beside what was seen. -/
def SeenH (lk : List (Nat × Nat)) : Heap → List Nat → List (Option Blk) → Prop
  | [], [], [] => True
  | (i, b) :: t, j :: js, c :: cs => lookN lk i = some j ∧ (∃ x y, b = some x ∧ c = some y ∧ RenB lk x y) ∧ SeenH lk t js cs
  | _, _, _ => False

theorem seenS_at {lk : List (Nat × Nat)} {g : Nat → Option AV} : ∀ {l : List (Nat × AV)} {ks : List Nat}, SeenS lk l ks (ks.map g) → ∀ k v, (k, v) ∈ l → ∃ u, g k = some u ∧ RenV lk v u
  | [], [], _, _, _, h => by cases h
  | (k0, v0) :: t, k' :: ks, h, k, v, hm => by
    obtain ⟨rfl, ⟨x, h1, h2⟩, h3⟩ := h
    rcases List.mem_cons.1 hm with e | hm
    · cases e; exact ⟨x, h1, h2⟩
    · exact seenS_at h3 k v hm
  | [], _ :: _, h, _, _, _ => h.elim
  | _ :: _, [], h, _, _, _ => h.elim

theorem seenH_at {lk : List (Nat × Nat)} {g : Nat → Option Blk} : ∀ {H : Heap} {js : List Nat}, SeenH lk H js (js.map g) → ∀ i b, (i, some b) ∈ H → ∃ j b1, lookN lk i = some j ∧ g j = some b1 ∧ RenB lk b b1
  | [], [], _, _, _, h => by cases h
  | (i0, b0) :: t, j :: js, h, i, b, hm => by
    obtain ⟨h1, ⟨x, y, rfl, h2, h3⟩, h4⟩ := h
    rcases List.mem_cons.1 hm with e | hm
    · cases e; exact ⟨j, y, h1, h2, h3⟩
    · exact seenH_at h4 i b hm
  | [], _ :: _, h, _, _, _ => h.elim
  | _ :: _, [], h, _, _, _ => h.elim

section
variable {P : Program} {O : Opts} {n : Nat} {lf : Nat} {w0 : World} {I0 : Nat → Prop} {D : List Deferred}

/-- What all walks over a program lean on. -/
structure Base (P : Program) (O : Opts) (n : Nat) : Prop where
  mixed : P.follows .mixedOrders = true
  calls : CallOk P O.glob (callN P O n) ∧ CallLoc (callN P O n)
  glob : ∀ g l, O.glob g = some l → closedAll l = true
  nest : NestOk P O (nestOf P O n)

/-- A walk over a piece of code, and the state behind it seen anew. -/
theorem walk (B : Base P O n) {c : Code} {s s2 : St} {T : Anss} {x : AExit} {keys ids : List Nat} {L2 : List (Nat × AV)} {vs : List (Option AV)} {bs : List (Option Blk)} {F : List Fact} {a : Act} {w : World} {Q : Exit → Act → World → Prop} (lk : List (Nat × Nat))
    (hrun : seen (execT P O n (nestOf P O n) lf c s T []) keys ids = some (x, vs, bs, s2.n, F)) (hF : FactsSem P O F) (h : CR O.glob w0 I0 (fun _ => none) [] 0 D s a w)
    (hL : s2.slots = sl L2) (hS : SeenS lk L2 keys vs) (hH : SeenH lk s2.heap ids bs) (hI : (lk.map (·.2)).Nodup) (hB : ∀ p ∈ lk, p.1 < s2.nx)
    (hq : ∀ a' w', CR O.glob w0 I0 (fun _ => none) [] 0 D s2 a' w' → Q (exitOf x) a' w') : c.wp P Q a w := by
  obtain ⟨s', T', hex, hn, rfl, rfl⟩ := seen_eq hrun
  refine codeT_sem B.mixed B.calls B.glob B.nest c s s' T T' [] F x a w Q hex hF h fun a' w' hr => hq a' w' ?_
  refine hr.turn lk B.glob hn.symm (fun k v hv => ?_) (fun i b hi => seenH_at hH i b (hget_mem hi)) hI (fun i hi => ?_)
  · rw [hL] at hv
    exact seenS_at hS k v (sl_get hv)
  · cases hl : lookN lk i with
    | none => rfl
    | some j => have := hB _ (lookN_mem hl); omega

end
end Go.Proofs.Abs
