/- What functions answer, and laws, by walks. -/
import Derived.Test.YtnlllfokomenfaaGreatDoorE30
namespace Go.Proofs.Abs
open Go

section
variable {P : Program} {O : Opts}

theorem runT_sem {n : Nat} {nest : Nest} (hm : P.follows .mixedOrders = true) (hb : CallOk P O.glob (callN P O n) ∧ CallLoc (callN P O n)) (hg : ∀ g l, O.glob g = some l → closedAll l = true) (hn : NestOk P O nest)
    {f : FuncId} {args : List AV} {hp : Heap} {nx : Nat} {T : Anss} {v : AV} {h' : Heap} {nx' : Nat} {F : List Fact} (h : runT P O n nest f args hp nx T = some (v, h', nx', F)) (hF : FactsSem P O F) : BodySem P O.glob f args hp nx v h' nx' := by
  unfold runT at h
  split at h
  · rename_i fn hfn
    split at h
    · rename_i c hc
      split at h
      · cases h
      · rename_i hname
        split at h
        · cases h
        · rename_i hle
          have fin : ∀ {x : AExit} {st : St} {T' : Anss} {F' : List Fact}, (x = .normal ∨ x = .ret) → execT P O n nest O.lf c ⟨argsT args 0 .tip, hp, nx, fn.ntmps⟩ T [] = some (x, st, T', F') →
              (match resA P O.glob st fn.results.toList with
                | some l => some (tupA l, st.heap, st.nx, F')
                | none => none) = some (v, h', nx', F) → BodySem P O.glob f args hp nx v h' nx' := fun {x st T' F'} hx he h => by
            split at h
            · rename_i l hl
              simp only [Option.some.injEq, Prod.mk.injEq] at h
              obtain ⟨rfl, rfl, rfl, rfl⟩ := h
              refine body_of_wp hfn hc hname hle fun w I α a hr => codeT_sem hm hb hg hn c _ st T T' [] F' x a w _ he hF hr fun a' w' hr' => ⟨st, l, ?_, hr', hl, rfl, rfl, rfl⟩
              rcases hx with rfl | rfl
              · exact .inl rfl
              · exact .inr rfl
            · cases h
          split at h
          · rename_i he; exact fin (.inl rfl) he h
          · rename_i he; exact fin (.inr rfl) he h
          · cases h
    · cases h
  · cases h

theorem nestOf_sem (hm : P.follows .mixedOrders = true) (hb : ∀ n, CallOk P O.glob (callN P O n) ∧ CallLoc (callN P O n)) (hg : ∀ g l, O.glob g = some l → closedAll l = true) : ∀ n, NestOk P O (nestOf P O n)
  | 0 => fun _ _ _ _ _ _ _ _ _ h => by cases h
  | n + 1 => fun _ _ _ _ _ _ _ _ _ h hF => runT_sem hm (hb n) hg (nestOf_sem hm hb hg n) h hF

theorem base_of {n : Nat} (hm : P.follows .mixedOrders = true) (hsum : ∀ f args v, O.summ f args = some v → SemCall P O.glob f args v) (hg : ∀ g l, O.glob g = some l → closedAll l = true) (hcx : CallOk P O.glob O.cx ∧ CallLoc O.cx := by exact noCall_ok') : Base P O n :=
  ⟨hm, calls_sound hm hsum hg hcx n, hg, nestOf_sem hm (calls_sound hm hsum hg hcx) hg n⟩

variable {n : Nat}

/-- A closed call's answer, its body walked. -/
theorem sem_of_wp (B : Base P O n) {f : FuncId} {fn : Func} {c : Code} {args : List AV} {v : AV} (hfn : P.funcs[f]? = some fn) (hc : fn.body = some c) (hname : (fn.name == "runtime.NumGoroutine") = false) (hsz : (Nat.ble (lenN args) fn.ntmps && Nat.ble fn.ntmps 4095) = true)
    (hcl : closedAll args = true) (h : ∀ w I a, CR O.glob w I (fun _ => none) [] 0 [] ⟨argsT args 0 .tip, [], 0, fn.ntmps⟩ a w →
      c.wp P (fun e a' w' => ∃ s l, (exitOf .normal = e ∨ exitOf .ret = e) ∧ CR O.glob w I (fun _ => none) [] 0 [] s a' w' ∧ resA P O.glob s fn.results.toList = some l ∧ (∃ d, freezeA 0 s.heap d (tupA l) = some v) ∧ closedA v = true) a w) :
    SemCall P O.glob f args v := by
  refine ⟨?_⟩
  intro w I α H rid nx vs r ha hrid hlt hf
  rw [Bool.and_eq_true, Nat.ble_eq, Nat.ble_eq, lenN_eq] at hsz
  have e1 : (callFunc f vs).run P w = .ok (.enter f vs) w := by
    unfold callFunc
    simp only [Sem.run_bind, run_program, Result.andThen_ok, hfn, hname, hc, Bool.false_eq_true, if_false, Option.isNone_some, Sem.run_pure]
  rw [e1]
  refine calls_of_wp hfn hc ?_
  have hra : RepL w I (fun _ => none) args vs.toList := repl_closed ha hcl
  have hvs : args.length = vs.size := by rw [hra.1]; simp
  have hr0 : CR O.glob w I (fun _ => none) [] 0 [] ⟨argsT args 0 .tip, [], 0, fn.ntmps⟩ { tmps := vs ++ Array.replicate (fn.ntmps - vs.size) undef, defers := [] } w :=
    ⟨⟨I, fun _ => none, .refl, rel_empty B.glob r, slots_args hra (by omega), fun i hi => absurd hi (Nat.not_lt_zero i), fun _ _ => rfl, fun id h => absurd rfl h⟩, Nat.le_refl _, Nat.le_refl _, rfl, by simp; omega, hsz.2⟩
  refine wp_mono (h w I _ hr0) fun e a' w' hq => ?_
  obtain ⟨s, l, he, hr, hl, ⟨d, hfz⟩, hcv⟩ := hq
  obtain ⟨⟨I', α', h1, h2, h3, _, _, h6⟩, _, h8, h9, _, _⟩ := hr
  obtain ⟨u, e1, e2⟩ := results_sound (P := P) (fn := fn) h2 h3 hl
  have hp : BodyPost O.glob w I (fun _ => none) [] 0 (tupA l) s.heap s.nx u w' := ⟨⟨I', α', h1, h2, e2, h6⟩, h8⟩
  rcases he with rfl | rfl <;> exact ⟨h9, u, e1, u, rfl, post_closed r hp hfz hcv⟩

/-- A closed call's answer, its body run with answers. -/
theorem semT (B : Base P O n) {f : FuncId} {args : List AV} {T : Anss} {v v' : AV} {F : List Fact} (hcl : closedAll args = true) (h : valT P O n f args T = some (v, F)) (hF : FactsSem P O F) (hfz : ∀ h', freezeA 0 h' 40 v = some v') (hcv : closedA v' = true) :
    SemCall P O.glob f args v' := by
  unfold valT at h
  split at h
  · rename_i v0 h0 F0 hr
    simp only [Option.some.injEq, Prod.mk.injEq] at h
    obtain ⟨rfl, rfl⟩ := h
    unfold rawT at hr
    split at hr
    · rename_i v1 h1 nx1 F1 hb
      simp only [Option.some.injEq, Prod.mk.injEq] at hr
      obtain ⟨rfl, rfl, rfl⟩ := hr
      have hbs := runT_sem B.mixed B.calls B.glob B.nest hb hF
      refine ⟨?_⟩
      intro w I α H rid nx vs r ha hrid hlt hf
      obtain ⟨e1, e2⟩ := hbs w I (fun _ => none) vs (rel_empty B.glob r) (repl_closed ha hcl) (fun _ _ => rfl)
      rw [e1]
      refine Calls.mono e2 ?_
      rintro e w' ⟨u, rfl, hp⟩
      exact ⟨u, rfl, post_closed r hp (hfz _) hcv⟩
    · cases hr
  · cases h

theorem semT_raw (B : Base P O n) {f : FuncId} {args : List AV} {T : Anss} {v v' : AV} {h' : Heap} {F : List Fact} (hcl : closedAll args = true) (h : rawT P O n f args T = some (v, h', F)) (hF : FactsSem P O F) (hfz : freezeA 0 h' 40 v = some v') (hcv : closedA v' = true) :
    SemCall P O.glob f args v' := by
  unfold rawT at h
  split at h
  · rename_i v1 h1 nx1 F1 hb
    simp only [Option.some.injEq, Prod.mk.injEq] at h
    obtain ⟨rfl, rfl, rfl⟩ := h
    have hbs := runT_sem B.mixed B.calls B.glob B.nest hb hF
    refine ⟨?_⟩
    intro w I α H rid nx vs r ha hrid hlt hf
    obtain ⟨e1, e2⟩ := hbs w I (fun _ => none) vs (rel_empty B.glob r) (repl_closed ha hcl) (fun _ _ => rfl)
    rw [e1]
    refine Calls.mono e2 ?_
    rintro e w' ⟨u, rfl, hp⟩
    exact ⟨u, rfl, post_closed r hp hfz hcv⟩
  · cases h

theorem semT_pure (B : Base P O n) {f : FuncId} {args : List AV} {T : Anss} {v : AV} {F : List Fact} (h : pureT P O n f args T = some (v, F)) (hF : FactsSem P O F) : SemCall P O.glob f args v := by
  unfold pureT at h
  split at h
  · cases h
  · rename_i hc
    split at h
    · rename_i v0 h0 F0 hr
      split at h
      · rename_i v' hfz
        split at h
        · rename_i hcl
          simp only [Option.some.injEq, Prod.mk.injEq] at h
          obtain ⟨rfl, rfl⟩ := h
          exact semT_raw B hc hr hF hfz hcl
        · cases h
      · cases h
    · cases h

/-- A closed call that answers with a row of its own. -/
theorem semFresh_of_run (B : Base P O n) {f : FuncId} {args : List AV} {T : Anss} {i len sz : Nat} {h' : Heap} {m : Nat} {F : List Fact} {l : List AV} (hcl : closedAll args = true) (h : bodyR P O n f args [] 0 T = some (.rsl true i 0 len sz, h', m, F)) (hF : FactsSem P O F)
    (hi : hget h' i = some (.cells l)) (hfz : mapL (freezeA 0 (hdel h' i) 40) l = some l) (hc : closedAll l = true) : SemFresh P O.glob f args (.cells l) fun id => .rsl true id 0 len sz := by
  have hbs := runT_sem B.mixed B.calls B.glob B.nest h hF
  refine ⟨?_⟩
  intro w I α H rid nx vs r ha hrid hlt hf
  obtain ⟨e1, e2⟩ := hbs w I (fun _ => none) vs (rel_empty B.glob r) (repl_closed ha hcl) (fun _ _ => rfl)
  rw [e1]
  refine Calls.mono e2 ?_
  rintro e w' ⟨u, rfl, hp⟩
  exact ⟨u, rfl, import_sound (ft := ⟨false, [], [rid]⟩) r hrid hp (by simp only [importA, hi, hfz, hc])⟩

/-- A law whose body's walk leads to true. -/
theorem law_of_wp {f : FuncId} {fn : Func} {c : Code} {w : World} {args : List AV} {vs : Array Value} (hfn : P.funcs[f]? = some fn) (hc : fn.body = some c) (hsz : (Nat.ble (lenN args) fn.ntmps && Nat.ble fn.ntmps 4095) = true)
    (hrel : Rel O.glob w (fun b => b < w.heap.size) (fun _ => none) []) (ha : RepL w (fun b => b < w.heap.size) (fun _ => none) args vs.toList)
    (h : ∀ a, CR O.glob w (fun b => b < w.heap.size) (fun _ => none) [] 0 [] ⟨argsT args 0 .tip, [], 0, fn.ntmps⟩ a w →
      c.wp P (fun e a' w' => ∃ s, (exitOf .normal = e ∨ exitOf .ret = e) ∧ CR O.glob w (fun b => b < w.heap.size) (fun _ => none) [] 0 [] s a' w' ∧ resA P O.glob s fn.results.toList = some [.bool true]) a w) :
    Calls P f vs w fun e w' => e = .returned (.bool true) ∧ RowKit.Below w.heap.size w w' := by
  rw [Bool.and_eq_true, Nat.ble_eq, Nat.ble_eq, lenN_eq] at hsz
  refine calls_of_wp hfn hc ?_
  have hvs : args.length = vs.size := by rw [ha.1]; simp
  have hr0 : CR O.glob w (fun b => b < w.heap.size) (fun _ => none) [] 0 [] ⟨argsT args 0 .tip, [], 0, fn.ntmps⟩ { tmps := vs ++ Array.replicate (fn.ntmps - vs.size) undef, defers := [] } w :=
    ⟨⟨_, fun _ => none, .refl, hrel, slots_args ha (by omega), fun i hi => absurd hi (Nat.not_lt_zero i), fun _ _ => rfl, fun id h => absurd rfl h⟩, Nat.le_refl _, Nat.le_refl _, rfl, by simp; omega, hsz.2⟩
  refine wp_mono (h _ hr0) fun e a' w' hq => ?_
  obtain ⟨s, he, hr, hl⟩ := hq
  obtain ⟨⟨I', α', ev, h2, h3, _, _, _⟩, _, _, h9, _, _⟩ := hr
  obtain ⟨u, e1, e2⟩ := results_sound (P := P) (fn := fn) h2 h3 hl
  have hu : u = .bool true := Rep.bool_val e2
  subst hu
  have hb : RowKit.Below w.heap.size w w' := ⟨ev.os.1, ev.os.2.1, ev.os.2.2, ev.size, fun k hk => ev.frame k hk not_owned_nil⟩
  rcases he with rfl | rfl <;> exact ⟨h9, _, e1, rfl, hb⟩

/-- What the abstract machine says holds in the model. -/
theorem sem_of_call (B : Base P O n) {f : FuncId} {args : List AV} {v : AV} (h : ∀ id hp nx, callN P O n f args id hp nx = some (v, hp, nx, ⟨false, [], []⟩)) : SemCall P O.glob f args v :=
  ⟨fun w I α H rid nx vs r ha hrid hlt hf => B.calls.1 f args rid H nx v H nx _ (h rid H nx) w I α vs r ha hrid hlt hf⟩

end
end Go.Proofs.Abs
