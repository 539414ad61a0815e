/- Regions that draw their order. -/
import Derived.Test.YtnlllfokomenfaaGreatDoorE18
import Derived.Still
namespace Go.Proofs.Abs
open Go

section
variable {P : Program} {G : Glob} {call : Caller} {ops : Array Oper} {base : Nat}

/-- Whatever order is taken from here on: it comes to one state. -/
def AnyA (P : Program) (G : Glob) (call : Caller) (ops : Array Oper) (base : Nat) (F : Nat → Foot) (E : St) : Nat → Array Bool → St → Prop
  | 0, listed, s => Region.ready .any ops listed = [] ∧ s = E
  | f + 1, listed, s => (Region.ready .any ops listed = [] → s = E) ∧
    ∀ i ∈ Region.ready .any ops listed, ∃ o s', ops[i]? = some o ∧ stepA P G call ops.toList (base + i) o s = some (s', F i) ∧ AnyA P G call ops base F E f (listed.setIfInBounds i true) s'

theorem any_sound {w0 : World} {I0 : Nat → Prop} {α0 : Nat → Option Nat} {H0 : Heap} {nx0 : Nat} {D : List Deferred} {F : Nat → Foot} {E : St} {Q : Exit → Act → World → Prop} (hcall : CallOk P G call)
    (hq : ∀ a w, (∃ L, RR G w0 I0 α0 H0 nx0 D base ops.size L E a w) → Q .normal a w) : ∀ (fuel : Nat) (listed : Array Bool) (s : St) (a : Act) (w : World), listed.size = ops.size → AnyA P G call ops base F E fuel listed s →
      RR G w0 I0 α0 H0 nx0 D base ops.size (fun i => listed.getD i true) s a w → wpAny P .any ops Q fuel listed a w
  | 0, listed, s, a, w, _, h, hr => ⟨h.1, hq a w ⟨_, h.2 ▸ hr⟩⟩
  | f + 1, listed, s, a, w, hsz, h, hr => ⟨fun h0 => hq a w ⟨_, (h.1 h0) ▸ hr⟩, fun i hi => by
      obtain ⟨o, s', ho, hst, hn⟩ := h.2 i hi
      have hlt : i < ops.size := (Array.getElem?_eq_some_iff.1 ho).1
      have hun := (mem_ready.1 hi).1
      refine step_sound hcall ho hlt hun hr hst fun a' w' hr' => any_sound hcall hq f _ s' a' w' (by simp [hsz]) hn (hr'.mono fun j hj hjl => ?_)
      simp only [Bool.or_eq_false_iff]
      by_cases e : j = i
      · subst e
        rw [Array.getD_eq_getD_getElem?] at hjl
        simp [hsz, hlt] at hjl
      · refine ⟨by simpa using e, ?_⟩
        rw [Array.getD_eq_getD_getElem?] at hjl ⊢
        rwa [Array.getElem?_setIfInBounds_ne (Ne.symm e)] at hjl⟩

/-- Those that must be ahead of an operation, directly, are listed. -/
def PredsIn (ops : Array Oper) (listed : Array Bool) (j : Nat) : Prop := ∀ o, ops[j]? = some o → ∀ e ∈ o.after, Region.binds .any e = true → listed.getD e.on false = true
def Closed (ops : Array Oper) (listed : Array Bool) : Prop := ∀ j, listed.getD j false = true → PredsIn ops listed j

/-- One that may come up now may be taken first. -/
theorem any_first (hc : CallLoc call) {F : Nat → Foot} {E : St} {i : Nat} {oi : Oper} (hi : ops[i]? = some oi) :
    ∀ (fuel : Nat) (listed : Array Bool) (s si : St), listed.size = ops.size → Closed ops listed →
      (∀ j oj, ops[j]? = some oj → j ≠ i → listed.getD j true = false → (∀ l : Array Bool, Closed ops l → PredsIn ops l j → l.getD i false = true) ∨ (pairApart ops.toList oi oj = true ∧ (F i).compat (F j) = true)) →
      i ∈ Region.ready .any ops listed → stepA P G call ops.toList (base + i) oi s = some (si, F i) →
      AnyA P G call ops base F E fuel (listed.setIfInBounds i true) si → AnyA P G call ops base F E (fuel + 1) listed s := by
  intro fuel
  induction fuel with
  | zero =>
    intro listed s si hsz hcl hfree hr hst H
    refine ⟨fun h => (by rw [h] at hr; cases hr), fun j hj => ?_⟩
    by_cases hji : j = i
    · subst hji; exact ⟨oi, si, hi, hst, H⟩
    · have := ready_mono hj hji
      rw [H.1] at this
      cases this
  | succ fuel ih =>
    intro listed s si hsz hcl hfree hr hst H
    refine ⟨fun h => (by rw [h] at hr; cases hr), fun j hj => ?_⟩
    by_cases hji : j = i
    · subst hji; exact ⟨oi, si, hi, hst, H⟩
    · obtain ⟨oj, sij, hoj, hstj, Hij⟩ := H.2 j (ready_mono hj hji)
      obtain ⟨hjun, oj', hoj', hall⟩ := mem_ready.1 hj
      rw [hoj] at hoj'; cases hoj'
      have hpj : PredsIn ops listed j := fun o ho e he hb => by
        rw [hoj] at ho; cases ho
        exact hall e he hb
      have hil : listed.getD i true = false := (mem_ready.1 hr).1
      have hlt : i < listed.size := by rw [hsz]; exact (Array.getElem?_eq_some_iff.1 hi).1
      have hif : listed.getD i false = false := by
        rw [Array.getD_eq_getD_getElem?] at hil ⊢
        simp [hlt] at hil ⊢
        exact hil
      rcases hfree j oj hoj hji hjun with h1 | ⟨hap, hcomp⟩
      · rw [h1 listed hcl hpj] at hif; cases hif
      · obtain ⟨sj, e1, e2⟩ := step_comm hc hst hstj hap hcomp
        refine ⟨oj, sj, hoj, e1, ih (listed.setIfInBounds j true) sj sij (by simp [hsz]) ?_ ?_ (ready_mono hr (Ne.symm hji)) e2 ?_⟩
        · intro k hk o ho e he hb
          by_cases hkj : k = j
          · subst hkj
            have := hpj o ho e he hb
            exact getD_set_of this
          · have hk' : listed.getD k false = true := by
              rw [Array.getD_eq_getD_getElem?] at hk ⊢
              rwa [Array.getElem?_setIfInBounds_ne (Ne.symm hkj)] at hk
            exact getD_set_of (hcl k hk' o ho e he hb)
        · intro k ok hk hki hun
          refine hfree k ok hk hki ?_
          by_cases hkj : k = j
          · subst hkj; exact hjun
          · rw [Array.getD_eq_getD_getElem?] at hun ⊢
            rwa [Array.getElem?_setIfInBounds_ne (Ne.symm hkj)] at hun
        · rw [Array.setIfInBounds_comm _ _ hji]
          exact Hij
 where
  getD_set_of {l : Array Bool} {k j : Nat} (h : l.getD k false = true) : (l.setIfInBounds j true).getD k false = true := by
    rw [Array.getD_eq_getD_getElem?] at h ⊢
    by_cases e : k = j
    · subst e
      have hlt : k < l.size := by
        rcases Nat.lt_or_ge k l.size with h' | h'
        · exact h'
        · rw [Array.getElem?_eq_none h'] at h; simp at h
      simp [hlt]
    · rw [Array.getElem?_setIfInBounds_ne (Ne.symm e)]; exact h

end
end Go.Proofs.Abs
