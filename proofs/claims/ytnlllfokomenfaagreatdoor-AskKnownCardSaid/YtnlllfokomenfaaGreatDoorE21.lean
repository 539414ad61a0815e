/- Regions and code. -/
import Derived.Test.YtnlllfokomenfaaGreatDoorE20
import Derived.LoopN
namespace Go.Proofs.Abs
open Go

/-- A state of the short machine beside one of the model's, between two pieces of code. -/
abbrev CR (G : Glob) (w0 : World) (I0 : Nat → Prop) (α0 : Nat → Option Nat) (H0 : Heap) (nx0 : Nat) (D : List Deferred) (s : St) (a : Act) (w : World) : Prop :=
  RR G w0 I0 α0 H0 nx0 D s.nx 0 (fun _ => true) s a w

section
variable {P : Program} {G : Glob} {call : Caller} {w0 : World} {I0 : Nat → Prop} {α0 : Nat → Option Nat} {H0 : Heap} {nx0 : Nat} {D : List Deferred}

theorem RR.out {base n : Nat} {L : Nat → Bool} {s : St} {a : Act} {w : World} (h : RR G w0 I0 α0 H0 nx0 D base n L s a w) : CR G w0 I0 α0 H0 nx0 D s a w := by
  obtain ⟨⟨I, α, h1, h2, h3, _, h5, h6⟩, h7, h8, h9, h10, h11⟩ := h
  exact ⟨⟨I, α, h1, h2, h3, fun i hi => absurd hi (Nat.not_lt_zero i), h5, h6⟩, Nat.le_refl _, by omega, h9, h10, h11⟩

theorem CR.enter {s : St} {a : Act} {w : World} (h : CR G w0 I0 α0 H0 nx0 D s a w) (n : Nat) (L : Nat → Bool) : RR G w0 I0 α0 H0 nx0 D s.nx n L ⟨s.slots, s.heap, s.nx + n, s.n⟩ a w := by
  obtain ⟨⟨I, α, h1, h2, h3, _, h5, h6⟩, h7, h8, h9, h10, h11⟩ := h
  refine ⟨⟨I, α, h1, h2, h3, fun i hi _ => h5 _ (by omega), fun id hid => h5 id (by simp only at hid; omega), fun id hid => ?_⟩, Nat.le_refl _, h8, h9, h10, h11⟩
  rcases h6 id hid with h | h
  · exact .inl h
  · exact .inr ⟨h.1, by simp only; omega⟩

theorem RR.heap {base n : Nat} {L : Nat → Bool} {s : St} {a : Act} {w w' : World} (hw : w'.heap = w.heap) (h : RR G w0 I0 α0 H0 nx0 D base n L s a w) (hos : SameOs w w' := by first | assumption | exact ⟨rfl, rfl, rfl⟩) : RR G w0 I0 α0 H0 nx0 D base n L s a w' := by
  obtain ⟨⟨I, α, h1, h2, h3, h4, h5, h6⟩, h7, h8, h9, h10, h11⟩ := h
  refine ⟨⟨I, α, h1.trans (ev_heap hw), rel_heap hw h2, fun t u hu => ?_, h4, h5, h6⟩, h7, h8, h9, h10, h11⟩
  obtain ⟨y, e1, e2⟩ := h3 t u hu
  exact ⟨y, e1, e2.ev h2 (ev_heap hw)⟩

theorem region_sound {id : Nat} {ops : Array Oper} {draw : Bool} {s s' : St} {feet : List (Nat × Foot)} {a : Act} {w : World} {Q : Exit → Act → World → Prop} (hm : P.follows .mixedOrders = true)
    (hcall : CallOk P G call) (hloc : CallLoc call) (hr : CR G w0 I0 α0 H0 nx0 D s a w)
    (h : runOps P G call ops.toList s.nx ops.toList 0 ⟨s.slots, s.heap, s.nx + lenN ops.toList, s.n⟩ [] = some (s', feet))
    (hd : draw = true → regionOk ops.toList = true ∧ feetOk (befs ops.toList []) feet = true)
    (hq : ∀ a' w', CR G w0 I0 α0 H0 nx0 D s' a' w' → Q .normal a' w') : (Code.region id ops draw).wp P Q a w := by
  have hlen : lenN ops.toList = ops.size := by rw [lenN_eq]; simp
  rw [hlen] at h
  cases draw with
  | false =>
    refine wp_region ?_
    have := ops_sound (Q := Q) hcall ops.toList 0 _ s' [] feet a w (by simp) h (hr.enter ops.size _) (fun a' w' h' => hq a' w' h'.out)
    rw [List.range_eq_range']
    simpa using this
  | true =>
    obtain ⟨h1, h2⟩ := hd rfl
    refine wp_region_any hm ?_
    obtain ⟨new, e1, _, e3⟩ := runOps_feet h
    rw [List.append_nil] at e1
    subst e1
    have hA := any_lex hloc h1 h2 e3 ops.toList 0 _ [] (Array.replicate ops.size false) (by simp) (Nat.zero_le _) h (by simp) (by simp) (fun j b hj => by
      rw [Array.getD_eq_getD_getElem?]; simp [hj])
    rw [show ops.toList.length = ops.size by simp] at hA
    exact any_sound hcall (fun a w h' => by obtain ⟨L, h'⟩ := h'; exact hq a w h'.out) ops.size _ _ a _ (by simp) hA (RR.heap (w := w) rfl (hr.enter ops.size _))

def exitOf : AExit → Exit
  | .normal => .normal
  | .exit id => .exit id
  | .ret => .ret

theorem code_sound {lf : Nat} (hm : P.follows .mixedOrders = true) (hcall : CallOk P G call) (hloc : CallLoc call) : ∀ (c : Code) (s s' : St) (e : AExit) (a : Act) (w : World) (Q : Exit → Act → World → Prop),
    execA P G call lf c s = some (e, s') → CR G w0 I0 α0 H0 nx0 D s a w → (∀ a' w', CR G w0 I0 α0 H0 nx0 D s' a' w' → Q (exitOf e) a' w') → c.wp P Q a w := by
  intro c
  induction c with
  | skip =>
    intro s s' e a w Q h hr hq
    simp only [execA, Option.some.injEq, Prod.mk.injEq] at h
    obtain ⟨rfl, rfl⟩ := h
    exact wp_skip (hq _ _ hr)
  | label l =>
    intro s s' e a w Q h hr hq
    simp only [execA, Option.some.injEq, Prod.mk.injEq] at h
    obtain ⟨rfl, rfl⟩ := h
    exact wp_label (hq _ _ hr)
  | exit id =>
    intro s s' e a w Q h hr hq
    simp only [execA, Option.some.injEq, Prod.mk.injEq] at h
    obtain ⟨rfl, rfl⟩ := h
    exact wp_exit (hq _ _ hr)
  | ret =>
    intro s s' e a w Q h hr hq
    simp only [execA, Option.some.injEq, Prod.mk.injEq] at h
    obtain ⟨rfl, rfl⟩ := h
    exact wp_ret (hq _ _ hr)
  | region id ops draw =>
    intro s s' e a w Q h hr hq
    simp only [execA] at h
    split at h
    · rename_i s1 feet hro
      cases draw with
      | false =>
        simp only [Option.some.injEq, Prod.mk.injEq] at h
        obtain ⟨rfl, rfl⟩ := h
        exact region_sound hm hcall hloc hr hro (by simp) hq
      | true =>
        simp only at h
        split at h
        · rename_i hok
          simp only [Option.some.injEq, Prod.mk.injEq] at h
          obtain ⟨rfl, rfl⟩ := h
          rw [Bool.and_eq_true] at hok
          exact region_sound hm hcall hloc hr hro (fun _ => hok) hq
        · simp at h
    · simp at h
  | seq x y ihx ihy =>
    intro s s' e a w Q h hr hq
    simp only [execA] at h
    refine wp_seq ?_
    split at h
    · rename_i s1 h1
      exact ihx s s1 .normal a w _ h1 hr fun a' w' hr' => ihy s1 s' e a' w' Q h hr' hq
    · rename_i hne
      cases e with
      | normal => exact absurd h (hne s')
      | exit id => exact ihx s s' _ a w _ h hr fun a' w' hr' => hq a' w' hr'
      | ret => exact ihx s s' _ a w _ h hr fun a' w' hr' => hq a' w' hr'
  | cond c x y ihx ihy =>
    intro s s' e a w Q h hr hq
    simp only [execA] at h
    have hs := hr.ex
    obtain ⟨I, α, _, _, hs, _⟩ := hs
    split at h
    · rename_i hc
      exact wp_cond_true (rep_ev hs hc).bool_val (ihx s s' e a w Q h hr hq)
    · rename_i hc
      exact wp_cond_false (rep_ev hs hc).bool_val (ihy s s' e a w Q h hr hq)
    · simp at h
  | block id body ih =>
    intro s s' e a w Q h hr hq
    simp only [execA] at h
    refine wp_block ?_
    split at h
    · rename_i i s1 h1
      refine ih s s1 (.exit i) a w _ h1 hr fun a' w' hr' => ?_
      split at h
      · rename_i hi
        simp only [Option.some.injEq, Prod.mk.injEq] at h
        obtain ⟨rfl, rfl⟩ := h
        simp only [exitOf, Exit.inBlock]
        rw [if_pos (beq_iff.1 hi)]
        exact hq a' w' hr'
      · rename_i hi
        simp only [Option.some.injEq, Prod.mk.injEq] at h
        obtain ⟨rfl, rfl⟩ := h
        simp only [exitOf, Exit.inBlock]
        rw [if_neg (beq_false_iff.1 hi)]
        exact hq a' w' hr'
    · rename_i hne
      cases e with
      | normal => exact ih s s' _ a w _ h hr fun a' w' hr' => hq a' w' hr'
      | exit id => exact absurd h (hne id s')
      | ret => exact ih s s' _ a w _ h hr fun a' w' hr' => hq a' w' hr'
  | loop body ih =>
    intro s s' e a w Q h hr hq
    simp only [execA] at h
    refine wp_loop_rounds lf ?_
    exact go ih lf s a w h hr hq
  | rangeFunc f p x y _ _ => intro s s' e a w Q h; simp [execA] at h
  | scope c _ => intro s s' e a w Q h; simp [execA] at h
  | goto l => intro s s' e a w Q h; simp [execA] at h
  | refuse y => intro s s' e a w Q h; simp [execA] at h
 where
  go {body : Code} {f : St → Option (AExit × St)} {s' : St} {e : AExit} {Q : Exit → Act → World → Prop} (ih : ∀ (s s' : St) (e : AExit) (a : Act) (w : World) (Q : Exit → Act → World → Prop), f s = some (e, s') → CR G w0 I0 α0 H0 nx0 D s a w →
      (∀ a' w', CR G w0 I0 α0 H0 nx0 D s' a' w' → Q (exitOf e) a' w') → body.wp P Q a w) : ∀ (n : Nat) (s : St) (a : Act) (w : World), loopA f n s = some (e, s') → CR G w0 I0 α0 H0 nx0 D s a w →
      (∀ a' w', CR G w0 I0 α0 H0 nx0 D s' a' w' → Q (exitOf e) a' w') → Code.rounds P body Q n a w
    | 0, s, a, w, h, _, _ => by simp [loopA] at h
    | n + 1, s, a, w, h, hr, hq => by
      simp only [loopA] at h
      rw [rounds_succ]
      split at h
      · rename_i s1 h1
        exact ih s s1 .normal a w _ h1 hr fun a' w' hr' => go ih n s1 a' w' h hr' hq
      · rename_i hne
        cases e with
        | normal => exact absurd h (hne s')
        | exit id => exact ih s s' _ a w _ h hr fun a' w' hr' => hq a' w' hr'
        | ret => exact ih s s' _ a w _ h hr fun a' w' hr' => hq a' w' hr'

end
end Go.Proofs.Abs
