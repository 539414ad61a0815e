/- Two operations in either order. -/
import Derived.Test.YtnlllfokomenfaaGreatDoorE17
namespace Go.Proofs.Abs
open Go

section
variable {P : Program} {G : Glob} {call : Caller}

theorem mapOp_congr {ev ev' : Operand → Option AV} : ∀ {l : List Operand}, (∀ x ∈ l, ev x = ev' x) → mapOp ev l = mapOp ev' l
  | [], _ => rfl
  | x :: t, h => by
    simp only [mapOp]
    rw [h x (by simp), mapOp_congr (l := t) (fun y hy => h y (by simp [hy]))]
theorem mapParts_congr {ev ev' : Operand → Option AV} : ∀ {l : List (Nat × Operand)}, (∀ p ∈ l, ev p.2 = ev' p.2) → mapParts ev l = mapParts ev' l
  | [], _ => rfl
  | (i, x) :: t, h => by
    simp only [mapParts]
    rw [h (i, x) (by simp), mapParts_congr (l := t) (fun y hy => h y (by simp [hy]))]
theorem mapOpt_congr {ev ev' : Operand → Option AV} {x : Option Operand} (h : ∀ y, x = some y → ev y = ev' y) : mapOpt ev x = mapOpt ev' x := by
  cases x with
  | none => rfl
  | some y => simp only [mapOpt, h y rfl]

theorem eff_congr {ev ev' : Operand → Option AV} {o : Oper} (h : ∀ x ∈ o.op.operands.toList, ev x = ev' x) : effA P G ev o = effA P G ev' o := by
  cases hop : o.op <;> simp only [effA, hop] <;> rw [hop] at h <;> simp only [Op.operands] at h
  case move x => rw [h x (by simp)]
  case assign x => rw [h x (by simp)]
  case pick c a b => simp only [ePick]; rw [h c (by simp), h a (by simp), h b (by simp)]
  case box t x => simp only [e1]; rw [h x (by simp)]
  case build t ps =>
    simp only [eBuild]
    rw [mapParts_congr (fun p hp => h p.2 (by simp; exact ⟨p.1, by simpa using hp⟩))]
  case buildSlice t n ps =>
    simp only [eBuildSlice]
    rw [mapParts_congr (fun p hp => h p.2 (by simp; exact ⟨p.1, by simpa using hp⟩))]
  case load t x => simp only [e1]; rw [h x (by simp)]
  case store t x y => simp only [e2]; rw [h x (by simp), h y (by simp)]
  case nilCheck x => simp only [e1]; rw [h x (by simp)]
  case binOp op t x y t' => simp only [e2]; rw [h x (by simp), h y (by simp)]
  case unOp op t x => simp only [e1]; rw [h x (by simp)]
  case convert s d x => simp only [e1]; rw [h x (by simp)]
  case makeInterface t x => simp only [eMkIface]; rw [h x (by simp)]
  case makeFunc fn x y =>
    simp only [eMkFunc]
    rw [mapOp_congr (l := x.toList) (fun z hz => h z (by simp; exact .inl (by simpa using hz))), mapOp_congr (l := y.toList) (fun z hz => h z (by simp; exact .inr (by simpa using hz)))]
  case makeMap t r => cases r <;> rfl
  case makeSlice t x y => simp only [e2]; rw [h x (by simp), h y (by simp)]
  case slice t x lo hi mx =>
    simp only [eSlice]
    rw [h x (by simp), mapOpt_congr (x := lo) (fun y hy => h y (by subst hy; simp)), mapOpt_congr (x := hi) (fun y hy => h y (by subst hy; simp)), mapOpt_congr (x := mx) (fun y hy => h y (by subst hy; simp))]
  case fieldAddr t x f => simp only [e1]; rw [h x (by simp)]
  case field t x f => simp only [eField]; rw [h x (by simp)]
  case indexAddr t x y => simp only [e2]; rw [h x (by simp), h y (by simp)]
  case index t x y => simp only [e2]; rw [h x (by simp), h y (by simp)]
  case lookup t x y ok => simp only [e2]; rw [h x (by simp), h y (by simp)]
  case mapUpdate t x y z => simp only [e3]; rw [h x (by simp), h y (by simp), h z (by simp)]
  case typeAssert x t t' ok => simp only [e1]; rw [h x (by simp)]
  case extract x i => simp only [eExtract]; rw [h x (by simp)]
  case range t x => simp only [e1]; rw [h x (by simp)]
  case next x b => simp only [e1]; rw [h x (by simp)]
  case entry x => simp only [e1]; rw [h x (by simp)]
  case call c =>
    simp only [eCall]
    rw [mapOp_congr (l := c.args.toList) (fun z hz => h z (by simp only [Call.operands]; cases c.callee <;> simp <;> simp_all))]
    cases hcc : c.callee with
    | builtin b => rfl
    | value f => simp only []; rw [h f (by simp [Call.operands, hcc])]
    | invoke r m => simp only []; rw [h r (by simp [Call.operands, hcc])]

theorem effB_congr {ops : List Oper} {ev ev' : Operand → Option AV} {o : Oper} (h : ∀ x ∈ o.op.operands.toList, ev x = ev' x) : effB P G ops ev o = effB P G ops ev' o := by
  unfold effB
  split
  · rename_i t n ps d hop hd
    split
    · simp only [eBuildRow, eBuildSlice]
      rw [mapParts_congr (fun p hp => h p.2 (by rw [hop]; simp [Op.operands]; exact ⟨p.1, by simpa using hp⟩))]
    · exact eff_congr h
  · exact eff_congr h

/-- What an operation does to the short heap, by its slots. -/
noncomputable def stepF (P : Program) (G : Glob) (call : Caller) (ops : List Oper) (id : Nat) (o : Oper) (slots : Tr) : Option (Heap → Nat → Option (AV × Heap × Nat × Foot)) :=
  match wantedA ops o slots with
  | some true => match effB P G ops (evA slots) o with
    | some e => some (runEff call id 2 e)
    | none => none
  | some false => some fun h nx => some (undefA, h, nx, ⟨false, [], []⟩)
  | none => none

theorem stepA_iff {ops : List Oper} {id : Nat} {o : Oper} {s s' : St} {ft : Foot} :
    stepA P G call ops id o s = some (s', ft) ↔ ∃ f v h nx, stepF P G call ops id o s.slots = some f ∧ f s.heap s.nx = some (v, h, nx, ft) ∧ s' = ⟨putA s.n s.slots o.dst v, h, nx, s.n⟩ := by
  unfold stepA stepF
  constructor
  · intro h
    split at h
    · rename_i hw
      split at h
      · rename_i e he
        split at h
        · rename_i v h' nx' ft' hr
          simp only [Option.some.injEq, Prod.mk.injEq] at h
          obtain ⟨rfl, rfl⟩ := h
          exact ⟨_, v, h', nx', by simp [hw, he], hr, rfl⟩
        · simp at h
      · simp at h
    · rename_i hw
      simp only [Option.some.injEq, Prod.mk.injEq] at h
      obtain ⟨rfl, rfl⟩ := h
      exact ⟨_, undefA, s.heap, s.nx, by simp [hw]; rfl, rfl, rfl⟩
    · simp at h
  · rintro ⟨f, v, h, nx, hf, hr, rfl⟩
    split at hf
    · rename_i hw
      split at hf
      · rename_i e he
        simp only [Option.some.injEq] at hf; subst hf
        simp [hw, he, hr]
      · simp at hf
    · rename_i hw
      simp only [Option.some.injEq] at hf; subst hf
      simp only [Option.some.injEq, Prod.mk.injEq] at hr
      obtain ⟨rfl, rfl, rfl, rfl⟩ := hr
      simp [hw]
    · simp at hf

theorem stepF_loc (hc : CallLoc call) {ops : List Oper} {id : Nat} {o : Oper} {slots : Tr} {f : Heap → Nat → Option (AV × Heap × Nat × Foot)} (hf : stepF P G call ops id o slots = some f) {h : Heap} {nx : Nat} {v : AV} {h' : Heap} {nx' : Nat} {ft : Foot}
    (hr : f h nx = some (v, h', nx', ft)) : Loc f h nx v h' nx' ft := by
  unfold stepF at hf
  split at hf
  · split at hf
    · simp only [Option.some.injEq] at hf; subst hf
      exact eff_loc hc 2 _ hr
    · simp at hf
  · simp only [Option.some.injEq] at hf; subst hf
    simp only [Option.some.injEq, Prod.mk.injEq] at hr
    obtain ⟨rfl, rfl, rfl, rfl⟩ := hr
    exact .one rfl ⟨rfl, [], rfl, by simp, fun _ _ _ => rfl⟩
  · simp at hf

theorem stepF_congr {ops : List Oper} {id : Nat} {o : Oper} {s s' : Tr} (h : ∀ t ∈ looksL ops o, s.get t = s'.get t) : stepF P G call ops id o s = stepF P G call ops id o s' := by
  have hw : wantedA ops o s = wantedA ops o s' := by
    unfold wantedA
    cases hg : o.guard with
    | none => rfl
    | some p =>
      obtain ⟨j, want⟩ := p
      simp only
      cases hj : getN ops j with
      | none => rfl
      | some g =>
        simp only
        cases hd : g.dst with
        | none => rfl
        | some d =>
          simp only
          rw [h d (by simp [looksL, hg, hj, hd])]
  have he : effB P G ops (evA s) o = effB P G ops (evA s') o := effB_congr fun x hx => by
    cases x with
    | tmp t =>
      refine h t ?_
      simp only [looksL, List.mem_append]
      exact .inl (List.mem_filterMap.2 ⟨.tmp t, hx, rfl⟩)
    | _ => rfl
  unfold stepF
  rw [hw, he]

theorem putA_get {n : Nat} {s : Tr} {dst : Option Tmp} {v : AV} {t : Nat} (h : dst ≠ some t) : (putA n s dst v).get t = s.get t := by
  cases dst with
  | none => rfl
  | some d =>
    simp only [putA]
    split
    · exact Tr.get_set_ne 12 s v (fun e => h (by rw [e]))
    · rfl

theorem putA_comm {n : Nat} {s : Tr} {x y : Option Tmp} {v u : AV} (h : ∀ d, x = some d → y ≠ some d) : putA n (putA n s x v) y u = putA n (putA n s y u) x v := by
  cases x with
  | none => rfl
  | some d =>
    cases y with
    | none => rfl
    | some e =>
      have hne : d ≠ e := fun he => h d rfl (by rw [he])
      simp only [putA]
      cases Nat.blt d n <;> cases Nat.blt e n <;> first | rfl | exact Tr.set_comm 12 s v u hne

theorem apart_spec {ops : List Oper} {x y : Oper} (h : pairApart ops x y = true) :
    (∀ d, x.dst = some d → d ∉ looksL ops y) ∧ (∀ d, x.dst = some d → y.dst ≠ some d) ∧ (∀ d, y.dst = some d → d ∉ looksL ops x) := by
  unfold pairApart at h
  simp only [Bool.and_eq_true] at h
  obtain ⟨h1, h2⟩ := h
  refine ⟨fun d hd hm => ?_, fun d hd hy => ?_, fun d hd hm => ?_⟩
  · rw [hd] at h1
    simp only [Bool.and_eq_true, Bool.not_eq_true'] at h1
    rw [memN_iff.2 hm] at h1; cases h1.1
  · rw [hd, hy] at h1
    simp at h1
  · rw [hd] at h2
    simp only [Bool.not_eq_true'] at h2
    rw [memN_iff.2 hm] at h2; cases h2

theorem step_comm (hc : CallLoc call) {ops : List Oper} {idi idj : Nat} {oi oj : Oper} {s si sij : St} {fi fj : Foot} (h1 : stepA P G call ops idi oi s = some (si, fi)) (h2 : stepA P G call ops idj oj si = some (sij, fj))
    (hap : pairApart ops oi oj = true) (hcomp : fi.compat fj = true) : ∃ sj, stepA P G call ops idj oj s = some (sj, fj) ∧ stepA P G call ops idi oi sj = some (sij, fi) := by
  obtain ⟨a1, a2, a3⟩ := apart_spec hap
  obtain ⟨f, v, k1, n1, f1, f2, rfl⟩ := stepA_iff.1 h1
  obtain ⟨g, u, k2, n2, g1, g2, rfl⟩ := stepA_iff.1 h2
  simp only at g1 g2
  have g1' : stepF P G call ops idj oj s.slots = some g := by
    rw [← g1]; exact stepF_congr fun t ht => (putA_get (fun e => a1 t e ht)).symm
  obtain ⟨k1', n1', e1, e2⟩ := loc_comm f2 g2 (stepF_loc hc f1 f2) (stepF_loc hc g1 g2) hcomp
  refine ⟨⟨putA s.n s.slots oj.dst u, k1', n1', s.n⟩, stepA_iff.2 ⟨g, u, k1', n1', g1', e1, rfl⟩, stepA_iff.2 ⟨f, v, k2, n2, ?_, e2, ?_⟩⟩
  · rw [← f1]; exact stepF_congr fun t ht => putA_get (fun e => a3 t e ht)
  · simp only
    rw [putA_comm a2]

end
end Go.Proofs.Abs
