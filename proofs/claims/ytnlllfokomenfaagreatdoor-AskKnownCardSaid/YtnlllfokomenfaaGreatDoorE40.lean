/- Calls that make blocks, known from a heap of their own. -/
import Derived.Test.YtnlllfokomenfaaGreatDoorE39
namespace Go.Proofs.Abs
open Go

/-- Numbers from nx on, beside those from 0 on. -/
def shl (nx m : Nat) : List (Nat × Nat) := (List.range m).map fun k => (nx + k, k)

theorem lookN_of_mem {l : List (Nat × Nat)} (h : (l.map (·.1)).Nodup) {i j : Nat} (hm : (i, j) ∈ l) : lookN l i = some j := by
  induction l with
  | nil => cases hm
  | cons p t ih =>
    obtain ⟨a, b⟩ := p
    simp only [List.map_cons, List.nodup_cons] at h
    simp only [lookN]
    rcases List.mem_cons.1 hm with e | hm
    · cases e; simp
    · split
      · rename_i he
        have he := beq_iff.1 he
        exact absurd (List.mem_map.2 ⟨_, hm, by simp [he]⟩) h.1
      · exact ih h.2 hm
theorem lookN_shl {nx m i : Nat} : lookN (shl nx m) i = if nx ≤ i ∧ i < nx + m then some (i - nx) else none := by
  split
  · rename_i h
    refine lookN_of_mem ?_ ?_
    · unfold shl
      rw [List.map_map]
      rw [List.nodup_iff_pairwise_ne, List.pairwise_map]
      refine (List.nodup_range (n := m)).imp fun {a b} h => ?_
      simpa using h
    · unfold shl
      exact List.mem_map.2 ⟨i - nx, by simp; omega, by simp; omega⟩
  · rename_i h
    cases hl : lookN (shl nx m) i with
    | none => rfl
    | some j =>
      have := lookN_mem hl
      unfold shl at this
      obtain ⟨k, hk, e⟩ := List.mem_map.1 this
      simp at hk e
      omega

section
variable {P : Program} {G : Glob} {f : FuncId} {args : List AV} {v v2 : AV} {H' H2 : Heap} {m nx : Nat}

/-- A run in a heap of its own, under numbers from nx on. -/
theorem bodySem_shift (hg : ∀ g l, G g = some l → closedAll l = true) (hcl : closedAll args = true) (h : BodySem P G f args [] 0 v H' m) (hV : RenV (shl nx m) v2 v)
    (hH : ∀ i b2, hget H2 i = some b2 → ∃ j b, lookN (shl nx m) i = some j ∧ hget H' j = some b ∧ RenB (shl nx m) b2 b) : BodySem P G f args [] nx v2 H2 (nx + m) := by
  intro w I α vs r ha hf
  obtain ⟨e1, e2⟩ := h w I (fun _ => none) vs (rel_empty hg r) (repl_closed ha hcl) (fun _ _ => rfl)
  refine ⟨e1, e2.mono ?_⟩
  rintro e w' ⟨u, rfl, ⟨⟨I', α', ev, rel, rep, hnew⟩, _⟩⟩
  refine ⟨u, rfl, ⟨I', fun i => match lookN (shl nx m) i with | some j => α' j | none => α i, ?_, ?_, ?_, ?_⟩, by omega⟩
  · have hown : ∀ b, Owned (fun i => match lookN (shl nx m) i with | some j => α' j | none => α i) H2 b → Owned α' H' b := fun b ⟨i, h1, h2⟩ => by
      cases hi : hget H2 i with
      | none => exact absurd hi h1
      | some blk =>
        obtain ⟨j, b1, k1, k2, _⟩ := hH i blk hi
        exact ⟨j, by rw [k2]; simp, by simpa [k1] using h2⟩
    refine ⟨ev.os, ev.I_mono, fun id b hb => ?_, ev.size, fun b hb _ => ev.frame b hb not_owned_nil, ev.shape, fun b hb => ?_, fun b hb => ?_⟩
    · have : lookN (shl nx m) id = none := by
        rw [lookN_shl, if_neg]
        intro hc
        rw [hf id hc.1] at hb; cases hb
      simp only [this]; exact hb
    · rcases ev.Inew b hb with h | h | h
      · exact .inl h
      · exact .inr (.inl h)
      · exact absurd h not_owned_nil
    · rcases ev.own b (hown b hb) with h | h
      · exact .inl h
      · exact absurd h not_owned_nil
  · exact
    { live := fun i blk hi => by
        obtain ⟨j, b1, k1, k2, k3⟩ := hH i blk hi
        obtain ⟨b, q1, q2, q3⟩ := rel.live j b1 k2
        exact ⟨b, by simpa [k1] using q1, q2, brel_ext (bRel_ren k3 q3)⟩
      inj := fun i i' b h1 h2 h3 h4 => by
        cases hi : hget H2 i with
        | none => exact absurd hi h1
        | some blk =>
          cases hi' : hget H2 i' with
          | none => exact absurd hi' h2
          | some blk' =>
            obtain ⟨j, b1, k1, k2, _⟩ := hH i blk hi
            obtain ⟨j', b1', k1', k2', _⟩ := hH i' blk' hi'
            have hj : j = j' := rel.inj j j' b (by rw [k2]; simp) (by rw [k2']; simp) (by simpa [k1] using h3) (by simpa [k1'] using h4)
            rw [lookN_shl] at k1 k1'
            split at k1 <;> split at k1' <;> simp_all <;> omega
      imm := rel.imm
      dom := fun i b hb => by
        split at hb
        · exact rel.dom _ b hb
        · exact Nat.lt_of_lt_of_le (r.dom i b hb) ev.size
      glob := fun g l hgl => by
        obtain ⟨h1, h2⟩ := rel.glob g l hgl
        refine ⟨h1, fun j x hx => ?_⟩
        obtain ⟨y, k1, k2⟩ := h2 j x hx
        exact ⟨y, k1, rep_closed k2 (closed_at (hg g l hgl) hx)⟩ }
  · exact rep_ext (rep_ren hV rep)
  · intro i hi
    simp only at hi
    split at hi
    · rename_i j hj
      right
      rw [lookN_shl] at hj
      split at hj
      · assumption
      · cases hj
    · exact .inl hi
 where
  sub {α α' : Nat → Option Nat} {nx m : Nat} : ∀ id b, ((lookN (shl nx m) id).bind α') = some b → (match lookN (shl nx m) id with | some j => α' j | none => α id) = some b := fun id b hb => by
    cases hl : lookN (shl nx m) id with
    | none => rw [hl] at hb; cases hb
    | some j => simpa [hl] using hb
  rep_ext {w : World} {I : Nat → Prop} {α α' : Nat → Option Nat} {nx m : Nat} {a : AV} {v : Value} (h : Rep w I (fun i => (lookN (shl nx m) i).bind α') a v) : Rep w I (fun i => match lookN (shl nx m) i with | some j => α' j | none => α i) a v :=
    h.mono (fun _ h => h) sub (fun _ _ _ => rfl) (fun _ _ _ => rfl)
  brel_ext {w : World} {I : Nat → Prop} {α α' : Nat → Option Nat} {nx m b : Nat} {blk : Blk} (h : BRel w I (fun i => (lookN (shl nx m) i).bind α') b blk) : BRel w I (fun i => match lookN (shl nx m) i with | some j => α' j | none => α i) b blk := by
    cases blk with
    | cells l => obtain ⟨c, e, h1, h2, h3⟩ := h; exact ⟨c, e, h1, h2, h3.1, fun i x y hx hy => rep_ext (h3.2 i x y hx hy)⟩
    | siter s p => exact h
    | mapb c s es => obtain ⟨en, h1, h2, h4, h3⟩ := h; exact ⟨en, h1, h2, h4, fun i x y hx hy => ⟨rep_ext (h3 i x y hx hy).1, rep_ext (h3 i x y hx hy).2⟩⟩
    | miter q a b c => obtain ⟨mb, h1, h2⟩ := h; exact ⟨mb, sub _ _ h1, h2⟩

/-- A call that makes blocks: what it answers, the blocks, how many numbers. -/
def allocC (tbl : FuncId → List AV → Nat → Option (AV × Heap × Nat)) : Caller := fun f args _ h nx => match tbl f args nx with
  | some (v, H2, m) => some (v, Mods.app (catM (oldM H2 []) (newM nx H2 H2)) h, nx + m, ⟨true, [], [nx]⟩)
  | none => none

theorem allocC_ok {tbl : FuncId → List AV → Nat → Option (AV × Heap × Nat)} (h : ∀ f args nx v H2 m, tbl f args nx = some (v, H2, m) → BodySem P G f args [] nx v H2 (nx + m)) : CallOk P G (allocC tbl) ∧ CallLoc (allocC tbl) := by
  refine ⟨?_, ?_⟩
  · intro f args rid H nx v H' nx' ft hc w I α vs hr ha hrid hlt hf
    unfold allocC at hc
    split at hc
    · rename_i v0 H2 m ht
      simp only [Option.some.injEq, Prod.mk.injEq] at hc
      obtain ⟨rfl, rfl, rfl, rfl⟩ := hc
      have hcut : cutH H [] = [] := rfl
      obtain ⟨e1, e2⟩ := h f args nx v0 H2 m ht w I α vs (hcut ▸ rel_cut hr []) ha hf
      rw [e1]
      refine Calls.mono e2 ?_
      rintro e w' ⟨u, rfl, hp⟩
      exact ⟨u, rfl, post_part (L := []) hr hf hp⟩
    · cases hc
  · intro f args id hp nx v h' nx' ft hc
    unfold allocC at hc
    split at hc
    · rename_i v0 H2 m ht
      simp only [Option.some.injEq, Prod.mk.injEq] at hc
      obtain ⟨rfl, rfl, rfl, rfl⟩ := hc
      refine ⟨fun hall => (by cases hall), fun _ n l hw => ?_⟩
      simp only [List.cons.injEq] at hw
      obtain ⟨rfl, rfl⟩ := hw
      refine ⟨rfl, by omega, _, rfl, fun p hp => ?_, fun h2 _ => ?_⟩
      · right
        rw [catM_app] at hp
        rcases List.mem_append.1 hp with hp | hp
        · cases hp
        · exact (newM_mem hp).1
      · unfold allocC; rw [ht]
    · cases hc

/-- A law without arguments, by a run in which calls are known. -/
theorem calls_trueS {O : Opts} {n : Nat} {w : World} (hm : P.follows .mixedOrders = true) (hsum : ∀ f args v, O.summ f args = some v → SemCall P O.glob f args v) (hcx : CallOk P O.glob O.cx ∧ CallLoc O.cx) (hg : O.glob = fun _ => none) (h : runTrue P O n f = true) :
    Calls P f #[] w fun e w' => e = .returned (.bool true) ∧ RowKit.Below w.heap.size w w' := by
  unfold runTrue at h
  generalize hr : runBody P O (callN P O n) f [] [] 1 = r at h
  unfold isTrue at h
  split at h
  · rename_i b hp
    obtain ⟨H', nx'⟩ := hp
    subst h
    obtain ⟨h1, h2⟩ := calls_sound (P := P) (O := O) hm hsum (by intro g l hl; rw [hg] at hl; cases hl) hcx n
    obtain ⟨_, h3⟩ := body_sound (w := w) (vs := #[]) hm h1 h2 hr (by rw [hg]; exact rel_start) .nil (fun _ _ => rfl)
    refine Calls.mono h3 ?_
    rintro e w' ⟨u, rfl, ⟨⟨I', α', ev, _, hv, _⟩, _⟩⟩
    cases hv
    exact ⟨rfl, ev.os.1, ev.os.2.1, ev.os.2.2, ev.size, fun k hk => ev.frame k hk not_owned_nil⟩
  · cases h

/-- A function that answers a truth value, run with closed arguments. -/
theorem sem_bool {O : Opts} {n : Nat} (hm : P.follows .mixedOrders = true) (hsum : ∀ f args v, O.summ f args = some v → SemCall P O.glob f args v) (hcx : CallOk P O.glob O.cx ∧ CallLoc O.cx) (hg : ∀ g l, O.glob g = some l → closedAll l = true)
    (h : isTrue (runBody P O (callN P O n) f [] [] 0) = true) : SemCall P O.glob f [] (.bool true) := by
  generalize hr : runBody P O (callN P O n) f [] [] 0 = r at h
  unfold isTrue at h
  split at h
  · rename_i b hp
    obtain ⟨H', nx'⟩ := hp
    subst h
    obtain ⟨h1, h2⟩ := calls_sound (P := P) (O := O) hm hsum hg hcx n
    refine ⟨fun w I α H rid nx vs r ha hrid hlt hf => ?_⟩
    obtain ⟨e1, e2⟩ := body_sound (w := w) (vs := vs) hm h1 h2 hr (rel_empty hg r) (repl_closed ha rfl) (fun _ _ => rfl)
    rw [e1]
    refine Calls.mono e2 ?_
    rintro e w' ⟨u, rfl, hp⟩
    exact ⟨u, rfl, post_closed (d := 1) r hp rfl rfl⟩
  · cases h

end
end Go.Proofs.Abs
