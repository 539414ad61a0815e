/- Bodies of functions: arguments in, results out. -/
import Derived.Test.YtnlllfokomenfaaGreatDoorE21
namespace Go.Proofs.Abs
open Go

theorem Tr.get_tip (j : Nat) : Tr.tip.get j = none := rfl

theorem argsT_get : ∀ (args : List AV) (k : Nat) (t : Tr) (j : Nat) (u : AV), k + args.length ≤ 4095 → (argsT args k t).get j = some u → (∃ i, j = k + i ∧ args[i]? = some u) ∨ t.get j = some u
  | [], _, _, _, _, _, h => .inr h
  | v :: vs, k, t, j, u, hl, h => by
    simp only [List.length_cons] at hl
    rcases argsT_get vs (k + 1) _ j u (by omega) h with ⟨i, h1, h2⟩ | h1
    · exact .inl ⟨i + 1, by omega, by simpa using h2⟩
    · by_cases e : j = k
      · subst e
        have h2 : (2 : Nat) ^ 12 = 4096 := by decide
        rw [Tr.get_set_lt 12 t v (by omega)] at h1
        exact .inl ⟨0, rfl, by simpa using h1⟩
      · rw [Tr.get_set_ne 12 t v e] at h1
        exact .inr h1

section
variable {P : Program} {G : Glob} {call : Caller} {w : World} {I : Nat → Prop} {α : Nat → Option Nat} {H : Heap}

theorem slots_args {args : List AV} {vs : Array Value} {n : Nat} (h : RepL w I α args vs.toList) (hl : args.length ≤ 4095) :
    SlotsRel w I α (argsT args 0 .tip) (vs ++ Array.replicate n undef) := by
  intro t u hu
  rcases argsT_get args 0 .tip t u (by omega) hu with ⟨i, h1, h2⟩ | h1
  · obtain ⟨y, h3, h4⟩ := h.get h2
    rw [Nat.zero_add] at h1
    subst h1
    have hi : t < vs.size := by
      have := (List.getElem?_eq_some_iff.1 h3).1
      simpa using this
    refine ⟨y, ?_, h4⟩
    rw [Array.getElem?_append_left hi]
    simpa using h3
  · rw [Tr.get_tip] at h1; cases h1

/-- What a variable's cell holds. -/
theorem run_cell {t : TypeId} {p v : AV} {p' : Value} (r : Rel G w I α H) (hp : Rep w I α p p')
    (h : (match loadA P t p G with
          | some (.val v) => some v
          | some (.read id k) => match hget H id with
            | some b => match k b with
              | some (.val v) => some v
              | _ => none
            | none => none
          | _ => none) = some v) : ∃ v', (do loadVar t (← asAddr p')).run P w = .ok v' w ∧ Rep w I α v v' := by
  cases p with
  | ptr id off =>
    simp only [loadA] at h
    split at h
    · rename_i b hb
      split at h
      · rename_i u hu
        cases h
        split at hu
        · simp only [Option.map_eq_some_iff] at hu
          obtain ⟨v1, hv, e⟩ := hu
          cases e
          obtain ⟨b', e1, _, e2⟩ := r.live id _ hb
          cases hp with
          | ptr _ _ b2 hb2 =>
            rw [hb2] at e1; cases e1
            obtain ⟨v', h1, h2⟩ := e2.row.part (P := P) hv
            rw [Nat.zero_add] at h1
            exact ⟨v', by simp [asAddr, h1], h2⟩
        · simp at hu
      · simp at h
    · simp at h
  | fptr cs off =>
    simp only [loadA] at h
    cases hv : partA P t cs off with
    | none => simp [hv] at h
    | some u =>
      simp only [hv, Option.map_some, Option.some.injEq] at h
      subst h
      obtain ⟨b, base, rfl, hI, hr⟩ := hp.fptr_row
      obtain ⟨v', h1, h2⟩ := hr.part (P := P) hv
      exact ⟨v', by simp [asAddr, h1], h2⟩
  | gptr g off =>
    simp only [loadA] at h
    cases hl : G g with
    | none => simp [hl] at h
    | some l =>
      simp only [hl] at h
      cases hv : partA P t l off with
      | none => simp [hv] at h
      | some u =>
        simp only [hv, Option.map_some, Option.some.injEq] at h
        subst h
        cases hp
        have hr : Row w I α g 0 l := fun j x hx => by
          obtain ⟨y, h1, h2⟩ := (r.glob g l hl).2 j x hx
          exact ⟨y, by rw [Nat.zero_add]; exact h1, h2⟩
        obtain ⟨v', h1, h2⟩ := hr.part (P := P) hv
        rw [Nat.zero_add] at h1
        exact ⟨v', by simp [asAddr, h1], h2⟩
  | _ => simp [loadA] at h

theorem res_sound {s : St} {tmps : Array Value} (r : Rel G w I α s.heap) (hs : SlotsRel w I α s.slots tmps) : ∀ {l : List ResultVar} {vs : List AV}, resA P G s l = some vs →
    ∃ us, (l.mapM (m := Sem) fun
      | .tmp t => pure (tmps.getD t undef)
      | .cell a t => do loadVar t (← asAddr (tmps.getD a undef))).run P w = .ok us w ∧ RepL w I α vs us
  | [], vs, h => by
    simp only [resA, Option.some.injEq] at h; subst h
    exact ⟨[], by simp, .nil⟩
  | x :: t, vs, h => by
    simp only [resA] at h
    split at h
    · rename_i v hv
      split at h
      · rename_i l hl
        simp only [Option.some.injEq] at h; subst h
        obtain ⟨us, h1, h2⟩ := res_sound r hs hl
        cases x with
        | tmp j =>
          obtain ⟨y, e1, e2⟩ := hs j v hv
          refine ⟨y :: us, ?_, .cons e2 h2⟩
          have hy : tmps.getD j undef = y := by rw [Array.getD_eq_getD_getElem?, e1]; rfl
          rw [List.mapM_cons]
          simp only [Sem.run_bind, Sem.run_pure, Result.andThen_ok, h1, hy]
        | cell a ty =>
          simp only at hv
          cases hp : s.slots.get a with
          | none => simp [hp] at hv
          | some p =>
            simp only [hp] at hv
            obtain ⟨y, e1, e2⟩ := hs a p hp
            obtain ⟨v', e3, e4⟩ := run_cell r e2 hv
            refine ⟨v' :: us, ?_, .cons e4 h2⟩
            have hy : tmps.getD a undef = y := by rw [Array.getD_eq_getD_getElem?, e1]; rfl
            rw [List.mapM_cons]
            simp only [hy]
            rw [Sem.run_bind, e3, Result.andThen_ok, Sem.run_bind, h1, Result.andThen_ok, Sem.run_pure]
      · simp at h
    · simp at h

theorem results_sound {fn : Func} {s : St} {tmps : Array Value} {vs : List AV} (r : Rel G w I α s.heap) (hs : SlotsRel w I α s.slots tmps) (h : resA P G s fn.results.toList = some vs) :
    ∃ u, (results fn tmps).run P w = .ok u w ∧ Rep w I α (tupA vs) u := by
  obtain ⟨us, h1, h2⟩ := res_sound (P := P) r hs h
  unfold results
  rw [Array.mapM_eq_mapM_toList]
  refine ⟨if h : us.toArray.size = 1 then us.toArray[0] else .tuple us.toArray, ?_, ?_⟩
  · simp only [← bind_pure_comp, Sem.run_bind, Sem.run_pure]
    exact congrArg (fun r : Result (List Value) => (r.andThen fun a w' => .ok a.toArray w').andThen fun a w' => .ok (if h : a.size = 1 then a[0] else .tuple a) w') h1
  · unfold tupA
    split
    · rename_i v
      obtain ⟨y, us', rfl, e1, e2⟩ := h2.cons_inv
      cases e2.nil_inv
      simpa using e1
    · rename_i hne
      rw [dif_neg]
      · exact Rep.tuple_iff.2 ⟨_, rfl, by simpa using h2⟩
      · intro h3
        have h3 : vs.length = 1 := by rw [h2.1]; simpa using h3
        match vs, h3 with
        | [v], _ => exact hne v rfl

/-- What a body comes to. -/
structure BodyPost (G : Glob) (w : World) (I : Nat → Prop) (α : Nat → Option Nat) (H : Heap) (nx : Nat) (av : AV) (H' : Heap) (nx' : Nat) (v : Value) (w' : World) : Prop where
  ex : ∃ I' α', Ev w I α H w' I' α' H' ∧ Rel G w' I' α' H' ∧ Rep w' I' α' av v ∧ (∀ id, α' id ≠ none → α id ≠ none ∨ (nx ≤ id ∧ id < nx'))
  le : nx ≤ nx'

theorem body_sound {O : Opts} {f : FuncId} {args : List AV} {vs : Array Value} {nx nx' : Nat} {v : AV} {H' : Heap} (hm : P.follows .mixedOrders = true) (hcall : CallOk P O.glob call) (hloc : CallLoc call)
    (h : runBody P O call f args H nx = some (v, H', nx')) (r : Rel O.glob w I α H) (ha : RepL w I α args vs.toList) (hf : ∀ id, nx ≤ id → α id = none) :
    (callFunc f vs).run P w = .ok (.enter f vs) w ∧ Calls P f vs w fun e w' => ∃ u, e = .returned u ∧ BodyPost O.glob w I α H nx v H' nx' u w' := by
  unfold runBody at h
  split at h
  · rename_i fn hfn
    split at h
    · rename_i c hc
      split at h
      · simp at h
      · rename_i hname
        split at h
        · simp at h
        · rename_i hsz
          rw [Bool.and_eq_true, Nat.ble_eq, Nat.ble_eq, lenN_eq] at hsz
          refine ⟨?_, ?_⟩
          · unfold callFunc
            simp only [Sem.run_bind, run_program, Result.andThen_ok, hfn, hname, hc, Bool.false_eq_true, if_false, Option.isNone_some, Sem.run_pure]
          · refine calls_of_wp hfn hc ?_
            have hvs : args.length = vs.size := by rw [ha.1]; simp
            have hr0 : CR O.glob w I α H nx [] ⟨argsT args 0 .tip, H, nx, fn.ntmps⟩ { tmps := vs ++ Array.replicate (fn.ntmps - vs.size) undef, defers := [] } w :=
              ⟨⟨I, α, .refl, r, slots_args ha (by omega), fun i hi => absurd hi (Nat.not_lt_zero i), hf, fun id h => .inl h⟩, Nat.le_refl _, Nat.le_refl _, rfl, by simp; omega, hsz.2⟩
            have fin : ∀ (s : St) (a : Act) (w' : World) (l : List AV), resA P O.glob s fn.results.toList = some l → CR O.glob w I α H nx [] s a w' →
                a.defers = [] ∧ ∃ u, (results fn a.tmps).run P w' = .ok u w' ∧ ∃ u', Ending.returned u = .returned u' ∧ BodyPost O.glob w I α H nx (tupA l) s.heap s.nx u' w' := fun s a w' l hl hr => by
              obtain ⟨⟨I', α', h1, h2, h3, _, _, h6⟩, _, h8, h9, _, _⟩ := hr
              obtain ⟨u, e1, e2⟩ := results_sound (P := P) (fn := fn) h2 h3 hl
              exact ⟨h9, u, e1, u, rfl, ⟨I', α', h1, h2, e2, h6⟩, h8⟩
            split at h
            · rename_i s hex
              split at h
              · rename_i l hl
                simp only [Option.some.injEq, Prod.mk.injEq] at h
                obtain ⟨rfl, rfl, rfl⟩ := h
                exact code_sound hm hcall hloc c _ s .normal _ w _ hex hr0 fun a' w' hr => fin s a' w' l hl hr
              · simp at h
            · rename_i s hex
              split at h
              · rename_i l hl
                simp only [Option.some.injEq, Prod.mk.injEq] at h
                obtain ⟨rfl, rfl, rfl⟩ := h
                exact code_sound hm hcall hloc c _ s .ret _ w _ hex hr0 fun a' w' hr => fin s a' w' l hl hr
              · simp at h
            · simp at h
    · simp at h
  · simp at h

end
end Go.Proofs.Abs
