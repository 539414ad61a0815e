/- Calls with closed arguments, run by themselves: what they answer, what blocks they make. -/
import Derived.Test.YtnlllfokomenfaaGreatDoorE42
namespace Go.Proofs.Abs
open Go

/-- Does a function, called so, answer so? -/
noncomputable def pureQ (P : Program) (O : Opts) (n : Nat) (f : FuncId) (args : List AV) (r : AV) : Bool := match runBodyQ P O (callQ P O n) f args [] 0 with
  | some (v, h, _) => match freezeA 0 h 40 v with
    | some v' => sameA v' r && closedA r
    | none => false
  | none => false
def blkIn (h1 : Heap) : Heap → Bool
  | [] => true
  | (i, some b) :: t => (match hget h1 i with
    | some c => sameB c b
    | none => false) && blkIn h1 t
  | (_, none) :: _ => false
/-- Does a function, called so, answer so, with these blocks made? -/
noncomputable def allocQ (P : Program) (O : Opts) (n : Nat) (f : FuncId) (args : List AV) (nx : Nat) (v : AV) (H2 : Heap) (m : Nat) : Bool := match runBodyQ P O (callQ P O n) f args [] nx with
  | some (v', h1, nx') => sameA v' v && (blkIn h1 H2 && Nat.beq nx' (nx + m))
  | none => false

section
variable {P : Program} {O : Opts} {n : Nat} {f : FuncId} {args : List AV}

theorem semQ {r : AV} (hm : P.follows .mixedOrders = true) (hsum : ∀ f args v, O.summ f args = some v → SemCall P O.glob f args v) (hcx : CallOk P O.glob O.cx ∧ CallLoc O.cx) (hg : ∀ g l, O.glob g = some l → closedAll l = true)
    (hcl : closedAll args = true) (h : pureQ P O n f args r = true) : SemCall P O.glob f args r := by
  unfold pureQ at h
  rw [runQ_eq] at h
  split at h
  · rename_i v H1 m hr
    split at h
    · rename_i v' hfz
      rw [Bool.and_eq_true] at h
      have e := sameA_eq _ _ h.1
      subst e
      obtain ⟨h1, h2⟩ := calls_sound (P := P) (O := O) hm hsum hg hcx n
      refine ⟨fun w I α H rid nx vs r ha hrid hlt hf => ?_⟩
      obtain ⟨e1, e2⟩ := body_sound (w := w) (vs := vs) hm h1 h2 hr (rel_empty hg r) (repl_closed ha hcl) (fun _ _ => rfl)
      rw [e1]
      refine Calls.mono e2 ?_
      rintro e w' ⟨u, rfl, hp⟩
      exact ⟨u, rfl, post_closed r hp hfz h.2⟩
    · cases h
  · cases h

theorem blkIn_get {h1 : Heap} : ∀ {H2 : Heap}, blkIn h1 H2 = true → ∀ i b, hget H2 i = some b → hget h1 i = some b
  | [], _, i, b, hi => by simp [hget] at hi
  | (j, some c) :: t, h, i, b, hi => by
    simp only [blkIn, Bool.and_eq_true] at h
    simp only [hget] at hi
    split at hi
    · rename_i he
      have he := beq_iff.1 he
      simp only [Option.some.injEq] at hi
      subst he; subst hi
      have h0 := h.1
      split at h0
      · rename_i d hd
        rw [hd, sameB_eq h0]
      · cases h0
    · exact blkIn_get h.2 i b hi
  | (j, none) :: t, h, _, _, _ => by simp [blkIn] at h

theorem bodyQ {nx m : Nat} {v : AV} {H2 : Heap} (hm : P.follows .mixedOrders = true) (hsum : ∀ f args v, O.summ f args = some v → SemCall P O.glob f args v) (hcx : CallOk P O.glob O.cx ∧ CallLoc O.cx) (hg : ∀ g l, O.glob g = some l → closedAll l = true)
    (h : allocQ P O n f args nx v H2 m = true) : BodySem P O.glob f args [] nx v H2 (nx + m) := by
  unfold allocQ at h
  rw [runQ_eq] at h
  split at h
  · rename_i v' H1 nx' hr
    simp only [Bool.and_eq_true] at h
    obtain ⟨k1, k2, k3⟩ := h
    have e := sameA_eq _ _ k1
    have e' := beq_iff.1 k3
    subst e; subst e'
    obtain ⟨h1, h2⟩ := calls_sound (P := P) (O := O) hm hsum hg hcx n
    intro w I α vs r ha hf
    obtain ⟨e1, e2⟩ := body_sound (w := w) (vs := vs) hm h1 h2 hr r ha hf
    refine ⟨e1, e2.mono ?_⟩
    rintro e w' ⟨u, rfl, ⟨⟨I', α', ev, rel, rep, hnew⟩, hle⟩⟩
    have hsub : ∀ i, hget H2 i ≠ none → hget H1 i ≠ none := fun i hi => by
      cases hb : hget H2 i with
      | none => exact absurd hb hi
      | some b => rw [blkIn_get k2 i b hb]; simp
    refine ⟨u, rfl, ⟨I', α', ⟨ev.os, ev.I_mono, ev.α_mono, ev.size, ev.frame, ev.shape, ev.Inew, fun b ⟨i, q1, q2⟩ => ev.own b ⟨i, hsub i q1, q2⟩⟩, ?_, rep, hnew⟩, hle⟩
    exact
      { live := fun i blk hi => rel.live i blk (blkIn_get k2 i blk hi)
        inj := fun i i' b q1 q2 => rel.inj i i' b (hsub i q1) (hsub i' q2)
        imm := rel.imm
        dom := rel.dom
        glob := rel.glob }
  · cases h
end
end Go.Proofs.Abs
