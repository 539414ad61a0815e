/- States seen anew, with rows that are written no more made part of the values. -/
import Derived.Test.YtnlllfokomenfaaGreatDoorE37
namespace Go.Proofs.Abs
open Go

/-- A block, with what lies in blocks from m on made part of it. -/
def FrzB (m : Nat) (h : Heap) : Blk → Blk → Prop
  | .cells l, .cells l' => FrzL m h l l'
  | .siter s p, .siter s' p' => s = s' ∧ p = p'
  | .mapb c s l, .mapb c' s' l' => c = c' ∧ s = s' ∧ ∃ d, mapP (freezeA m h d) l = some l'
  | .miter m a b c, .miter m' a' b' c' => m = m' ∧ a = a' ∧ b = b' ∧ c = c'
  | _, _ => False

section
variable {G : Glob} {w : World} {I : Nat → Prop} {α : Nat → Option Nat} {H : Heap}

theorem frzB_rep {m b : Nat} {b0 b1 : Blk} (r : Rel G w I α H) (hf : FrzB m H b0 b1) (h : BRel w I α b b0) : BRel w (Frozen I α H m) α b b1 := by
  cases b0 with
  | cells l => cases b1 with
    | cells l' =>
      obtain ⟨d, hl'⟩ := hf
      obtain ⟨c, e, h1, h2, h3⟩ := h
      have hlen := (mapL_get hl').1
      have h4 := (freeze_sound r m d).list hl' h3
      exact ⟨c, e, h1, by rw [hlen]; exact h2, by rw [hlen]; exact h4⟩
    | _ => exact hf.elim
  | siter s p => cases b1 with
    | siter s' p' => obtain ⟨rfl, rfl⟩ := hf; exact h
    | _ => exact hf.elim
  | miter m a b c => cases b1 with
    | miter m' a' b' c' => obtain ⟨rfl, rfl, rfl, rfl⟩ := hf; exact h
    | _ => exact hf.elim
  | mapb c s l => cases b1 with
    | mapb c' s' l' =>
      obtain ⟨rfl, rfl, d, hes⟩ := hf
      obtain ⟨en, h1, h2, h4, h3⟩ := h
      obtain ⟨k1, k2⟩ := mapP_rep (freeze_sound r m d) hes
      refine ⟨en, h1, by rw [k1]; exact h2, h4, fun i x' y e1 e2 => ?_⟩
      obtain ⟨x, g1, g2, g3⟩ := k2 i x' e1
      obtain ⟨q1, q2⟩ := h3 i x y g1 e2
      exact ⟨g2 _ q1, g3 _ q2⟩
    | _ => exact hf.elim
end

section
variable {G : Glob} {w0 : World} {I0 : Nat → Prop} {α0 : Nat → Option Nat} {H0 : Heap} {nx0 : Nat} {D : List Deferred}

/-- Blocks from m on are written no more. -/
theorem CR.freeze {s s2 : St} {a : Act} {w : World} (m : Nat) (h : CR G w0 I0 α0 H0 nx0 D s a w) (hn : s2.n = s.n) (hnx : s2.nx = s.nx)
    (hS : ∀ k v, s2.slots.get k = some v → ∃ u, s.slots.get k = some u ∧ Frz m s.heap u v)
    (hH : ∀ i b, hget s2.heap i = some b → i < m ∧ ∃ b1, hget s.heap i = some b1 ∧ FrzB m s.heap b1 b) : CR G w0 I0 α0 H0 nx0 D s2 a w := by
  obtain ⟨⟨I, α, ev, rel, hs, _, hf, hnew⟩, h7, h8, h9, h10, h11⟩ := h
  have hlive : ∀ i, hget s2.heap i ≠ none → i < m ∧ hget s.heap i ≠ none := fun i hi => by
    cases hb : hget s2.heap i with
    | none => exact absurd hb hi
    | some b =>
      obtain ⟨h1, b1, h2, _⟩ := hH i b hb
      exact ⟨h1, by rw [h2]; simp⟩
  have hown : ∀ b, Owned α s2.heap b → Owned α s.heap b := fun b ⟨i, h1, h2⟩ => ⟨i, (hlive i h1).2, h2⟩
  refine ⟨⟨Frozen I α s.heap m, α, ⟨ev.os, fun b hb => .inl (ev.I_mono b hb), ev.α_mono, ev.size, ev.frame, ev.shape, fun b hb => ?_, fun b hb => ev.own b (hown b hb)⟩, ?_, ?_, fun i hi => absurd hi (Nat.not_lt_zero i), fun id hid => hf id (by rw [hnx] at hid; exact hid), fun id hid => ?_⟩, Nat.le_refl _, by rw [hnx]; exact h8, h9, by rw [hn]; exact h10, by rw [hn]; exact h11⟩
  · rcases hb with hb | ⟨id, _, h2, h3⟩
    · exact ev.Inew b hb
    · rcases ev.own b ⟨id, h2, h3⟩ with h | h
      · exact .inr (.inl h)
      · exact .inr (.inr h)
  · exact
    { live := fun i blk hi => by
        obtain ⟨hm, b1, e2, e3⟩ := hH i blk hi
        obtain ⟨b, k1, k2, k3⟩ := rel.live i b1 e2
        refine ⟨b, k1, ?_, frzB_rep rel e3 k3⟩
        rintro (hb | ⟨id, h1, h2, h3⟩)
        · exact k2 hb
        · have := rel.inj id i b h2 (by rw [e2]; simp) h3 k1
          omega
      inj := fun i i' b h1 h2 h3 h4 => rel.inj i i' b (hlive i h1).2 (hlive i' h2).2 h3 h4
      imm := fun b hb => by
        rcases hb with hb | ⟨id, _, _, h3⟩
        · exact rel.imm b hb
        · exact rel.dom id b h3
      dom := rel.dom
      glob := fun g l hgl => by
        obtain ⟨h1, h2⟩ := rel.glob g l hgl
        refine ⟨.inl h1, fun j x hx => ?_⟩
        obtain ⟨y, e1, e2⟩ := h2 j x hx
        exact ⟨y, e1, e2.mono (fun _ h => .inl h) (fun _ _ h => h) (fun _ _ _ => rfl) (fun _ _ _ => rfl)⟩ }
  · intro k v hv
    obtain ⟨u, e1, d, e2⟩ := hS k v hv
    obtain ⟨y, e3, e4⟩ := hs k u e1
    exact ⟨y, e3, freeze_sound rel m d _ _ _ e2 e4⟩
  · rw [hnx]; exact hnew id hid
end

/-- One state beside another, whose rows from m on are let go. -/
structure Lets (m : Nat) (L2 : List (Nat × AV)) (s s2 : St) : Prop where
  n : s2.n = s.n
  nx : s2.nx = s.nx
  slots : s2.slots = sl L2
  S : ∀ k v, (k, v) ∈ L2 → ∃ u, s.slots.get k = some u ∧ Frz m s.heap u v
  H : ∀ i b, (i, some b) ∈ s2.heap → i < m ∧ ∃ b1, hget s.heap i = some b1 ∧ FrzB m s.heap b1 b

theorem AWp.lets {P : Program} {G : Glob} {nx0 : Nat} {c : Code} {s s2 : St} {Q : AExit → St → Prop} {m : Nat} {L2 : List (Nat × AV)} (hs : Lets m L2 s s2) (h : AWp P G nx0 c s2 Q) : AWp P G nx0 c s Q :=
  ⟨fun w0 I0 α0 H0 D a w hα hr => h.out w0 I0 α0 H0 D a w hα (hr.freeze m hs.n hs.nx (fun k v hv => by
      rw [hs.slots] at hv
      exact hs.S k v (sl_get hv)) fun i b hi => hs.H i b (hget_mem hi))⟩

end Go.Proofs.Abs
