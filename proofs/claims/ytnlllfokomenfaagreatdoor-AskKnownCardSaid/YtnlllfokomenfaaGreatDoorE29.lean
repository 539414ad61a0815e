/- Code, bodies, laws, by runs with answers. -/
import Derived.Test.YtnlllfokomenfaaGreatDoorE28
namespace Go.Proofs.Abs
open Go

section
variable {P : Program} {O : Opts} {n : Nat} {nest : Nest} {lf : Nat}

theorem loopT_app {bodyT : St → Anss → List Fact → ResT} (hb : ∀ s T F x s' T' F', bodyT s T F = some (x, s', T', F') → ∃ D, F' = D ++ F) :
    ∀ (k : Nat) (s : St) (T : Anss) (F : List Fact) {x : AExit} {s' : St} {T' : Anss} {F' : List Fact}, loopT bodyT k s T F = some (x, s', T', F') → ∃ D, F' = D ++ F
  | 0, _, _, _, _, _, _, _, h => by simp [loopT] at h
  | k + 1, s, T, F, x, s', T', F', h => by
    simp only [loopT] at h
    split at h
    · rename_i s1 T1 F1 hb1
      obtain ⟨D1, rfl⟩ := hb _ _ _ _ _ _ _ hb1
      obtain ⟨D, rfl⟩ := loopT_app hb k s1 T1 _ h
      exact ⟨D ++ D1, by rw [List.append_assoc]⟩
    · exact hb _ _ _ _ _ _ _ h

theorem execT_app : ∀ (c : Code) (s : St) (T : Anss) (F : List Fact) {x : AExit} {s' : St} {T' : Anss} {F' : List Fact}, execT P O n nest lf c s T F = some (x, s', T', F') → ∃ D, F' = D ++ F := by
  intro c
  induction c with
  | skip =>
    intro s T F x s' T' F' h
    simp only [execT, Option.some.injEq, Prod.mk.injEq] at h
    obtain ⟨rfl, rfl, rfl, rfl⟩ := h
    exact ⟨[], rfl⟩
  | label l =>
    intro s T F x s' T' F' h
    simp only [execT, Option.some.injEq, Prod.mk.injEq] at h
    obtain ⟨rfl, rfl, rfl, rfl⟩ := h
    exact ⟨[], rfl⟩
  | region rid ops draw =>
    intro s T F x s' T' F' h
    simp only [execT] at h
    split at h
    · rename_i s1 feet T1 F1 hr
      obtain ⟨D, rfl⟩ := runOpsT_sem.runOpsT_app _ _ _ _ _ _ hr
      split at h
      · simp only [Option.some.injEq, Prod.mk.injEq] at h
        obtain ⟨rfl, rfl, rfl, rfl⟩ := h
        exact ⟨D, rfl⟩
      · split at h
        · simp only [Option.some.injEq, Prod.mk.injEq] at h
          obtain ⟨rfl, rfl, rfl, rfl⟩ := h
          exact ⟨D, rfl⟩
        · cases h
    · cases h
  | seq a b iha ihb =>
    intro s T F x s' T' F' h
    simp only [execT] at h
    split at h
    · rename_i s1 T1 F1 ha
      obtain ⟨D1, rfl⟩ := iha _ _ _ ha
      obtain ⟨D, rfl⟩ := ihb _ _ _ h
      exact ⟨D ++ D1, by rw [List.append_assoc]⟩
    · exact iha _ _ _ h
  | cond v a b iha ihb =>
    intro s T F x s' T' F' h
    simp only [execT] at h
    split at h
    · exact iha _ _ _ h
    · exact ihb _ _ _ h
    · cases h
  | block id body ih =>
    intro s T F x s' T' F' h
    simp only [execT] at h
    split at h
    · rename_i i s1 T1 F1 hb
      obtain ⟨D, rfl⟩ := ih _ _ _ hb
      split at h
      · simp only [Option.some.injEq, Prod.mk.injEq] at h
        obtain ⟨rfl, rfl, rfl, rfl⟩ := h
        exact ⟨D, rfl⟩
      · simp only [Option.some.injEq, Prod.mk.injEq] at h
        obtain ⟨rfl, rfl, rfl, rfl⟩ := h
        exact ⟨D, rfl⟩
    · exact ih _ _ _ h
  | loop body ih =>
    intro s T F x s' T' F' h
    simp only [execT] at h
    exact loopT_app (fun s T F x s' T' F' h => ih s T F h) lf s T F h
  | exit id =>
    intro s T F x s' T' F' h
    simp only [execT, Option.some.injEq, Prod.mk.injEq] at h
    obtain ⟨rfl, rfl, rfl, rfl⟩ := h
    exact ⟨[], rfl⟩
  | ret =>
    intro s T F x s' T' F' h
    simp only [execT, Option.some.injEq, Prod.mk.injEq] at h
    obtain ⟨rfl, rfl, rfl, rfl⟩ := h
    exact ⟨[], rfl⟩
  | _ =>
    intro s T F x s' T' F' h
    simp [execT] at h

variable {w0 : World} {I0 : Nat → Prop} {α0 : Nat → Option Nat} {H0 : Heap} {nx0 : Nat} {D : List Deferred}

/-- Code followed by a run with answers. -/
theorem codeT_sem (hm : P.follows .mixedOrders = true) (hb : CallOk P O.glob (callN P O n) ∧ CallLoc (callN P O n)) (hg : ∀ g l, O.glob g = some l → closedAll l = true) (hn : NestOk P O nest) :
    ∀ (c : Code) (s s' : St) (T T' : Anss) (F F' : List Fact) (e : AExit) (a : Act) (w : World) (Q : Exit → Act → World → Prop), execT P O n nest lf c s T F = some (e, s', T', F') → FactsSem P O F' → CR O.glob w0 I0 α0 H0 nx0 D s a w →
      (∀ a' w', CR O.glob w0 I0 α0 H0 nx0 D s' a' w' → Q (exitOf e) a' w') → c.wp P Q a w := by
  intro c
  induction c with
  | skip =>
    intro s s' T T' F F' e a w Q h hF hr hq
    simp only [execT, Option.some.injEq, Prod.mk.injEq] at h
    obtain ⟨rfl, rfl, rfl, rfl⟩ := h
    exact wp_skip (hq _ _ hr)
  | label l =>
    intro s s' T T' F F' e a w Q h hF hr hq
    simp only [execT, Option.some.injEq, Prod.mk.injEq] at h
    obtain ⟨rfl, rfl, rfl, rfl⟩ := h
    exact wp_label (hq _ _ hr)
  | exit id =>
    intro s s' T T' F F' e a w Q h hF hr hq
    simp only [execT, Option.some.injEq, Prod.mk.injEq] at h
    obtain ⟨rfl, rfl, rfl, rfl⟩ := h
    exact wp_exit (hq _ _ hr)
  | ret =>
    intro s s' T T' F F' e a w Q h hF hr hq
    simp only [execT, Option.some.injEq, Prod.mk.injEq] at h
    obtain ⟨rfl, rfl, rfl, rfl⟩ := h
    exact wp_ret (hq _ _ hr)
  | region id ops draw =>
    intro s s' T T' F F' e a w Q h hF hr hq
    simp only [execT] at h
    split at h
    · rename_i s1 feet T1 F1 hro
      cases draw with
      | false =>
        simp only [Option.some.injEq, Prod.mk.injEq] at h
        obtain ⟨rfl, rfl, rfl, rfl⟩ := h
        obtain ⟨call, ⟨h1, h2⟩, h3⟩ := runOpsT_sem hb hg hn _ _ _ _ _ _ hro hF
        exact region_sound hm h1 h2 hr h3 (by simp) hq
      | true =>
        simp only at h
        split at h
        · rename_i hok
          simp only [Option.some.injEq, Prod.mk.injEq] at h
          obtain ⟨rfl, rfl, rfl, rfl⟩ := h
          rw [Bool.and_eq_true] at hok
          obtain ⟨call, ⟨h1, h2⟩, h3⟩ := runOpsT_sem hb hg hn _ _ _ _ _ _ hro hF
          exact region_sound hm h1 h2 hr h3 (fun _ => hok) hq
        · simp at h
    · simp at h
  | seq x y ihx ihy =>
    intro s s' T T' F F' e a w Q h hF hr hq
    simp only [execT] at h
    refine wp_seq ?_
    split at h
    · rename_i s1 T1 F1 h1
      obtain ⟨D', rfl⟩ := execT_app _ _ _ _ h
      exact ihx s s1 T T1 F F1 .normal a w _ h1 (factsSem_append.1 hF).2 hr fun a' w' hr' => ihy s1 s' T1 T' F1 _ e a' w' Q h hF hr' hq
    · rename_i hne
      cases e with
      | normal => exact absurd h (hne _ _ _)
      | exit id => exact ihx s s' T T' F F' _ a w _ h hF hr fun a' w' hr' => hq a' w' hr'
      | ret => exact ihx s s' T T' F F' _ a w _ h hF hr fun a' w' hr' => hq a' w' hr'
  | cond c x y ihx ihy =>
    intro s s' T T' F F' e a w Q h hF hr hq
    simp only [execT] at h
    have hs := hr.ex
    obtain ⟨I, α, _, _, hs, _⟩ := hs
    split at h
    · rename_i hc
      exact wp_cond_true (rep_ev hs hc).bool_val (ihx s s' T T' F F' e a w Q h hF hr hq)
    · rename_i hc
      exact wp_cond_false (rep_ev hs hc).bool_val (ihy s s' T T' F F' e a w Q h hF hr hq)
    · simp at h
  | block id body ih =>
    intro s s' T T' F F' e a w Q h hF hr hq
    simp only [execT] at h
    refine wp_block ?_
    split at h
    · rename_i i s1 T1 F1 h1
      have hFF : F1 = F' := by
        split at h <;> (simp only [Option.some.injEq, Prod.mk.injEq] at h; exact h.2.2.2)
      subst hFF
      refine ih s s1 T T1 F F1 (.exit i) a w _ h1 hF hr fun a' w' hr' => ?_
      split at h
      · rename_i hi
        simp only [Option.some.injEq, Prod.mk.injEq] at h
        obtain ⟨rfl, rfl, _, _⟩ := h
        simp only [exitOf, Exit.inBlock]
        rw [if_pos (beq_iff.1 hi)]
        exact hq a' w' hr'
      · rename_i hi
        simp only [Option.some.injEq, Prod.mk.injEq] at h
        obtain ⟨rfl, rfl, _, _⟩ := h
        simp only [exitOf, Exit.inBlock]
        rw [if_neg (beq_false_iff.1 hi)]
        exact hq a' w' hr'
    · rename_i hne
      cases e with
      | normal => exact ih s s' T T' F F' _ a w _ h hF hr fun a' w' hr' => hq a' w' hr'
      | exit id => exact absurd h (hne _ _ _ _)
      | ret => exact ih s s' T T' F F' _ a w _ h hF hr fun a' w' hr' => hq a' w' hr'
  | loop body ih =>
    intro s s' T T' F F' e a w Q h hF hr hq
    simp only [execT] at h
    refine wp_loop_rounds lf ?_
    exact go ih lf s T F a w h hF hr hq
  | rangeFunc f p x y _ _ => intro s s' T T' F F' e a w Q h; simp [execT] at h
  | scope c _ => intro s s' T T' F F' e a w Q h; simp [execT] at h
  | goto l => intro s s' T T' F F' e a w Q h; simp [execT] at h
  | refuse y => intro s s' T T' F F' e a w Q h; simp [execT] at h
 where
  go {body : Code} {lf : Nat} {s' : St} {T' : Anss} {F' : List Fact} {e : AExit} {Q : Exit → Act → World → Prop} (ih : ∀ (s s' : St) (T T' : Anss) (F F' : List Fact) (e : AExit) (a : Act) (w : World) (Q : Exit → Act → World → Prop), execT P O n nest lf body s T F = some (e, s', T', F') → FactsSem P O F' → CR O.glob w0 I0 α0 H0 nx0 D s a w →
      (∀ a' w', CR O.glob w0 I0 α0 H0 nx0 D s' a' w' → Q (exitOf e) a' w') → body.wp P Q a w) : ∀ (k : Nat) (s : St) (T : Anss) (F : List Fact) (a : Act) (w : World), loopT (execT P O n nest lf body) k s T F = some (e, s', T', F') → FactsSem P O F' → CR O.glob w0 I0 α0 H0 nx0 D s a w →
      (∀ a' w', CR O.glob w0 I0 α0 H0 nx0 D s' a' w' → Q (exitOf e) a' w') → Code.rounds P body Q k a w
    | 0, s, T, F, a, w, h, _, _, _ => by simp [loopT] at h
    | k + 1, s, T, F, a, w, h, hF, hr, hq => by
      simp only [loopT] at h
      rw [rounds_succ]
      split at h
      · rename_i s1 T1 F1 h1
        obtain ⟨D', hD⟩ := loopT_app (fun s T F x s' T' F' h => execT_app body s T F h) k s1 T1 F1 h
        have hF1 : FactsSem P O F1 := by rw [hD] at hF; exact (factsSem_append.1 hF).2
        exact ih s s1 T T1 F F1 .normal a w _ h1 hF1 hr fun a' w' hr' => go ih k s1 T1 F1 a' w' h hF hr' hq
      · rename_i hne
        cases e with
        | normal => exact absurd h (hne _ _ _)
        | exit id => exact ih s s' T T' F F' _ a w _ h hF hr fun a' w' hr' => hq a' w' hr'
        | ret => exact ih s s' T T' F F' _ a w _ h hF hr fun a' w' hr' => hq a' w' hr'

/-- A body whose code is known to lead to a state that gives the answer. -/
theorem body_of_wp {f : FuncId} {fn : Func} {c : Code} {args : List AV} {H : Heap} {nx : Nat} {v : AV} {H' : Heap} {nx' : Nat} (hfn : P.funcs[f]? = some fn) (hc : fn.body = some c) (hname : (fn.name == "runtime.NumGoroutine") = false) (hsz : (Nat.ble (lenN args) fn.ntmps && Nat.ble fn.ntmps 4095) = true)
    (h : ∀ w I α a, CR O.glob w I α H nx [] ⟨argsT args 0 .tip, H, nx, fn.ntmps⟩ a w → c.wp P (fun e a' w' => ∃ s l, (exitOf .normal = e ∨ exitOf .ret = e) ∧ CR O.glob w I α H nx [] s a' w' ∧ resA P O.glob s fn.results.toList = some l ∧ tupA l = v ∧ s.heap = H' ∧ s.nx = nx') a w) :
    BodySem P O.glob f args H nx v H' nx' := by
  intro w I α vs r ha hf
  rw [Bool.and_eq_true, Nat.ble_eq, Nat.ble_eq, lenN_eq] at hsz
  refine ⟨?_, ?_⟩
  · unfold callFunc
    simp only [Sem.run_bind, run_program, Result.andThen_ok, hfn, hname, hc, Bool.false_eq_true, if_false, Option.isNone_some, Sem.run_pure]
  · refine calls_of_wp hfn hc ?_
    have hvs : args.length = vs.size := by rw [ha.1]; simp
    have hr0 : CR O.glob w I α H nx [] ⟨argsT args 0 .tip, H, nx, fn.ntmps⟩ { tmps := vs ++ Array.replicate (fn.ntmps - vs.size) undef, defers := [] } w :=
      ⟨⟨I, α, .refl, r, slots_args ha (by omega), fun i hi => absurd hi (Nat.not_lt_zero i), hf, fun id h => .inl h⟩, Nat.le_refl _, Nat.le_refl _, rfl, by simp; omega, hsz.2⟩
    refine wp_mono (h w I α _ hr0) fun e a' w' hq => ?_
    obtain ⟨s, l, he, hr, hl, rfl, rfl, rfl⟩ := hq
    obtain ⟨⟨I', α', h1, h2, h3, _, _, h6⟩, _, h8, h9, _, _⟩ := hr
    obtain ⟨u, e1, e2⟩ := results_sound (P := P) (fn := fn) h2 h3 hl
    rcases he with rfl | rfl <;> exact ⟨h9, u, e1, u, rfl, ⟨I', α', h1, h2, e2, h6⟩, h8⟩

end
end Go.Proofs.Abs
