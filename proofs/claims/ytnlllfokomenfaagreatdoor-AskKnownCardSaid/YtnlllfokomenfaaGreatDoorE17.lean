/- Effects that do not meet may be taken in either order. -/
import Derived.Test.YtnlllfokomenfaaGreatDoorE16
namespace Go.Proofs.Abs
open Go


theorem Mods.hget : ∀ (m : Mods) (h : Heap) (k : Nat), (∀ p ∈ m, p.1 ≠ k) → Abs.hget (Mods.app m h) k = Abs.hget h k
  | [], _, _, _ => rfl
  | (j, b) :: t, h, k, hk => by
    simp only [Mods.app]
    rw [Mods.hget t _ k (fun p hp => hk p (by simp [hp])), hget_hset_ne _ _ (Ne.symm (hk (j, b) (by simp)))]

theorem Mods.app_hset : ∀ (m : Mods) (h : Heap) (k : Nat) (b : Option Blk), (∀ p ∈ m, p.1 ≠ k) → Mods.app m (hset h k b) = hset (Mods.app m h) k b
  | [], _, _, _, _ => rfl
  | (j, c) :: t, h, k, b, hk => by
    simp only [Mods.app]
    rw [hset_comm h b c (Ne.symm (hk (j, c) (by simp))), Mods.app_hset t _ k b (fun p hp => hk p (by simp [hp]))]

theorem Mods.comm : ∀ (m n : Mods) (h : Heap), (∀ p ∈ m, ∀ q ∈ n, p.1 ≠ q.1) → Mods.app n (Mods.app m h) = Mods.app m (Mods.app n h)
  | [], _, _, _ => rfl
  | (j, c) :: t, n, h, hd => by
    simp only [Mods.app]
    rw [Mods.comm t n _ (fun p hp => hd p (by simp [hp])), Mods.app_hset n h j c (fun q hq => Ne.symm (hd (j, c) (by simp) q hq))]

/-- A run that hangs on nothing but what it says it looked at. -/
def Loc1 (f : Heap → Nat → Option (AV × Heap × Nat × Foot)) (h : Heap) (nx : Nat) (v : AV) (h' : Heap) (nx' : Nat) (ft : Foot) : Prop :=
  ft.all = false → nx' = nx ∧ ∃ m : Mods, h' = Mods.app m h ∧ (∀ p ∈ m, p.1 ∈ ft.w) ∧ ∀ h2 nx2, (∀ k ∈ ft.r ++ ft.w, hget h2 k = hget h k) → (nx2 = nx ∨ nx ∉ ft.r) → f h2 nx2 = some (v, Mods.app m h2, nx2, ft)
/-- A run that makes blocks, and says from which number on. -/
def Loc2 (f : Heap → Nat → Option (AV × Heap × Nat × Foot)) (h : Heap) (nx : Nat) (v : AV) (h' : Heap) (nx' : Nat) (ft : Foot) : Prop :=
  ft.all = true → ∀ n l, ft.w = n :: l → n = nx ∧ nx ≤ nx' ∧ ∃ m : Mods, h' = Mods.app m h ∧ (∀ p ∈ m, p.1 ∈ l ∨ nx ≤ p.1) ∧ ∀ h2, (∀ k ∈ ft.r ++ l, hget h2 k = hget h k) → f h2 nx = some (v, Mods.app m h2, nx', ft)
def Loc (f : Heap → Nat → Option (AV × Heap × Nat × Foot)) (h : Heap) (nx : Nat) (v : AV) (h' : Heap) (nx' : Nat) (ft : Foot) : Prop :=
  Loc1 f h nx v h' nx' ft ∧ Loc2 f h nx v h' nx' ft
theorem Loc.one {f : Heap → Nat → Option (AV × Heap × Nat × Foot)} {h : Heap} {nx : Nat} {v : AV} {h' : Heap} {nx' : Nat} {ft : Foot} (ha : ft.all = false)
    (hl : nx' = nx ∧ ∃ m : Mods, h' = Mods.app m h ∧ (∀ p ∈ m, p.1 ∈ ft.w) ∧ ∀ h2 nx2, (∀ k ∈ ft.r ++ ft.w, hget h2 k = hget h k) → f h2 nx2 = some (v, Mods.app m h2, nx2, ft)) : Loc f h nx v h' nx' ft :=
  ⟨fun _ => ⟨hl.1, hl.2.choose, hl.2.choose_spec.1, hl.2.choose_spec.2.1, fun h2 nx2 hk _ => hl.2.choose_spec.2.2 h2 nx2 hk⟩, fun h => by rw [ha] at h; cases h⟩
theorem Loc.any {f : Heap → Nat → Option (AV × Heap × Nat × Foot)} {h : Heap} {nx : Nat} {v : AV} {h' : Heap} {nx' : Nat} {ft : Foot} (ha : ft.all = true) (hw : ft.w = []) : Loc f h nx v h' nx' ft :=
  ⟨fun h => (by rw [ha] at h; cases h), fun _ n l h => by rw [hw] at h; cases h⟩

def CallLoc (call : Caller) : Prop := ∀ f args id h nx v h' nx' ft, call f args id h nx = some (v, h', nx', ft) → Loc (call f args id) h nx v h' nx' ft

theorem eff_loc {call : Caller} (hc : CallLoc call) {id : Nat} : ∀ (d : Nat) (e : Eff) {h : Heap} {nx : Nat} {v : AV} {h' : Heap} {nx' : Nat} {ft : Foot}, runEff call id d e h nx = some (v, h', nx', ft) → Loc (runEff call id d e) h nx v h' nx' ft := by
  intro d
  induction d with
  | zero =>
    intro e h nx v h' nx' ft hr
    exact base 0 e hr (by intro i k he; subst he; simp [runEff] at hr)
  | succ d ih =>
    intro e h nx v h' nx' ft hr
    by_cases hread : ∃ i k, e = .read i k
    · obtain ⟨i, k, rfl⟩ := hread
      simp only [runEff] at hr
      split at hr
      · rename_i b hb
        split at hr
        · rename_i e' he'
          split at hr
          · rename_i v1 h1 n1 f1 hr1
            simp only [Option.some.injEq, Prod.mk.injEq] at hr
            obtain ⟨rfl, rfl, rfl, rfl⟩ := hr
            obtain ⟨l1, l2⟩ := ih e' hr1
            refine ⟨fun hall => ?_, fun hall n l hw => ?_⟩
            · obtain ⟨e1, m, e2, e3, e4⟩ := l1 hall
              refine ⟨e1, m, e2, e3, fun h2 nx2 hk hnx => ?_⟩
              have hi : hget h2 i = some b := by rw [hk i (by simp), hb]
              have := e4 h2 nx2 (fun k hk' => hk k (by simp only [List.mem_append] at hk' ⊢; rcases hk' with h | h; exact .inl (List.mem_cons_of_mem _ h); exact .inr h)) (hnx.imp (fun h => h) fun h hm => h (by simp [hm]))
              simp only [runEff, hi, he', this]
            · obtain ⟨e1, e0, m, e2, e3, e4⟩ := l2 hall n l hw
              refine ⟨e1, e0, m, e2, e3, fun h2 hk => ?_⟩
              have hi : hget h2 i = some b := by rw [hk i (by simp), hb]
              have := e4 h2 (fun k hk' => hk k (by simp only [List.mem_append] at hk' ⊢; rcases hk' with h | h; exact .inl (List.mem_cons_of_mem _ h); exact .inr h))
              simp only [runEff, hi, he', this]
          · simp at hr
        · simp at hr
      · simp at hr
    · exact base (d + 1) e hr (fun i k he => hread ⟨i, k, he⟩)
 where
  base {h : Heap} {nx : Nat} {v : AV} {h' : Heap} {nx' : Nat} {ft : Foot} (d : Nat) (e : Eff) (hr : runEff call id d e h nx = some (v, h', nx', ft)) (hn : ∀ i k, e ≠ .read i k) : Loc (runEff call id d e) h nx v h' nx' ft := by
    cases e with
    | val u =>
      have : v = u ∧ h' = h ∧ nx' = nx ∧ ft = ⟨false, [], []⟩ := by cases d <;> (simp only [runEff, Option.some.injEq, Prod.mk.injEq] at hr; obtain ⟨rfl, rfl, rfl, rfl⟩ := hr; exact ⟨rfl, rfl, rfl, rfl⟩)
      obtain ⟨rfl, rfl, rfl, rfl⟩ := this
      exact .one rfl ⟨rfl, [], rfl, by simp, fun h2 nx2 _ => by cases d <;> rfl⟩
    | skip =>
      have : v = undefA ∧ h' = h ∧ nx' = nx ∧ ft = ⟨false, [], []⟩ := by cases d <;> (simp only [runEff, Option.some.injEq, Prod.mk.injEq] at hr; obtain ⟨rfl, rfl, rfl, rfl⟩ := hr; exact ⟨rfl, rfl, rfl, rfl⟩)
      obtain ⟨rfl, rfl, rfl, rfl⟩ := this
      exact .one rfl ⟨rfl, [], rfl, by simp, fun h2 nx2 _ => by cases d <;> rfl⟩
    | read i k => exact absurd rfl (hn i k)
    | upd i k =>
      have : ∃ b b', hget h i = some b ∧ k b = some (b', v) ∧ h' = hins h i b' ∧ nx' = nx ∧ ft = ⟨false, [], [i]⟩ := by
        cases d <;>
        · simp only [runEff] at hr
          split at hr
          · rename_i b hb
            split at hr
            · rename_i b' u hk
              simp only [Option.some.injEq, Prod.mk.injEq] at hr
              obtain ⟨rfl, rfl, rfl, rfl⟩ := hr
              exact ⟨b, b', hb, hk, rfl, rfl, rfl⟩
            · simp at hr
          · simp at hr
      obtain ⟨b, b', hb, hk, rfl, rfl, rfl⟩ := this
      exact .one rfl ⟨rfl, [(i, some b')], rfl, by simp, fun h2 nx2 hh => by
        have hi : hget h2 i = some b := by rw [hh i (by simp), hb]
        cases d <;> (simp only [runEff, hi, hk]; rfl)⟩
    | new b k =>
      have : v = k id ∧ h' = hins h id b ∧ nx' = nx ∧ ft = ⟨false, [], [id]⟩ := by cases d <;> (simp only [runEff, Option.some.injEq, Prod.mk.injEq] at hr; obtain ⟨rfl, rfl, rfl, rfl⟩ := hr; exact ⟨rfl, rfl, rfl, rfl⟩)
      obtain ⟨rfl, rfl, rfl, rfl⟩ := this
      exact .one rfl ⟨rfl, [(id, some b)], rfl, by simp, fun h2 nx2 _ => by cases d <;> rfl⟩
    | repl i k =>
      have : ∃ b b' u, hget h i = some b ∧ k b = some (b', u) ∧ v = u id ∧ h' = hins (hdel h i) id b' ∧ nx' = nx ∧ ft = ⟨false, [], [i, id]⟩ := by
        cases d <;>
        · simp only [runEff] at hr
          split at hr
          · rename_i b hb
            split at hr
            · rename_i b' u hk
              simp only [Option.some.injEq, Prod.mk.injEq] at hr
              obtain ⟨rfl, rfl, rfl, rfl⟩ := hr
              exact ⟨b, b', u, hb, hk, rfl, rfl, rfl, rfl⟩
            · simp at hr
          · simp at hr
      obtain ⟨b, b', u, hb, hk, rfl, rfl, rfl, rfl⟩ := this
      exact .one rfl ⟨rfl, [(i, none), (id, some b')], rfl, by simp, fun h2 nx2 hh => by
        have hi : hget h2 i = some b := by rw [hh i (by simp), hb]
        cases d <;> (simp only [runEff, hi, hk]; rfl)⟩
    | shut i k =>
      have : ∃ b, hget h i = some b ∧ k b = some v ∧ h' = hdel h i ∧ nx' = nx ∧ ft = ⟨false, [], [i]⟩ := by
        cases d <;>
        · simp only [runEff] at hr
          split at hr
          · rename_i b hb
            split at hr
            · rename_i u hk
              simp only [Option.some.injEq, Prod.mk.injEq] at hr
              obtain ⟨rfl, rfl, rfl, rfl⟩ := hr
              exact ⟨b, hb, hk, rfl, rfl, rfl⟩
            · simp at hr
          · simp at hr
      obtain ⟨b, hb, hk, rfl, rfl, rfl⟩ := this
      exact .one rfl ⟨rfl, [(i, none)], rfl, by simp, fun h2 nx2 hh => by
        have hi : hget h2 i = some b := by rw [hh i (by simp), hb]
        cases d <;> (simp only [runEff, hi, hk]; rfl)⟩
    | call f args =>
      have : call f args id h nx = some (v, h', nx', ft) := by cases d <;> simpa [runEff] using hr
      obtain ⟨l1, l2⟩ := hc f args id h nx v h' nx' ft this
      refine ⟨fun hall => ?_, fun hall n l hw => ?_⟩
      · obtain ⟨e1, m, e2, e3, e4⟩ := l1 hall
        exact ⟨e1, m, e2, e3, fun h2 nx2 hh hx => by cases d <;> simpa [runEff] using e4 h2 nx2 hh hx⟩
      · obtain ⟨e1, e0, m, e2, e3, e4⟩ := l2 hall n l hw
        exact ⟨e1, e0, m, e2, e3, fun h2 hh => by cases d <;> simpa [runEff] using e4 h2 hh⟩

theorem memN_iff : ∀ {l : List Nat} {x : Nat}, memN l x = true ↔ x ∈ l
  | [], x => by simp [memN]
  | a :: t, x => by
    simp only [memN]
    by_cases h : a = x
    · subst h; simp
    · rw [beq_false_iff.2 h]
      simp only [List.mem_cons, memN_iff (l := t)]
      exact ⟨fun h' => .inr h', fun h' => h'.resolve_left (Ne.symm h)⟩

theorem disj_iff : ∀ {l m : List Nat}, disj l m = true → ∀ x ∈ l, x ∉ m
  | [], _, _, _, hx => by cases hx
  | a :: t, m, h, x, hx => by
    simp only [disj, Bool.and_eq_true, Bool.not_eq_true'] at h
    rcases List.mem_cons.1 hx with rfl | hx
    · intro hm; rw [memN_iff.2 hm] at h; cases h.1
    · exact disj_iff h.2 x hx

theorem none_foot {f : Foot} (h : f.none = true) : f.all = false ∧ f.r = [] ∧ f.w = [] := by
  simp only [Foot.none, Bool.and_eq_true, Bool.not_eq_true', List.isEmpty_iff] at h
  exact ⟨h.1.1, h.1.2, h.2⟩

/-- Two runs in either order. -/
theorem loc_comm {f g : Heap → Nat → Option (AV × Heap × Nat × Foot)} {h h1 h2 : Heap} {nx n1 n2 : Nat} {v u : AV} {fi fj : Foot} (hf : f h nx = some (v, h1, n1, fi)) (hg : g h1 n1 = some (u, h2, n2, fj))
    (lf : Loc f h nx v h1 n1 fi) (lg : Loc g h1 n1 u h2 n2 fj) (hc : fi.compat fj = true) : ∃ h1' n1', g h nx = some (u, h1', n1', fj) ∧ f h1' n1' = some (v, h2, n2, fi) := by
  by_cases hni : fi.none = true
  · obtain ⟨a1, a2, a3⟩ := none_foot hni
    obtain ⟨e1, m, e2, e3, e4⟩ := lf.1 a1
    have hm : m = [] := by
      cases m with
      | nil => rfl
      | cons p t => have := e3 p (by simp); rw [a3] at this; cases this
    subst hm
    simp only [Mods.app] at e2
    subst e2; subst e1
    exact ⟨h2, n2, hg, by have := e4 h2 n2 (by simp [a2, a3]) (.inr (by simp [a2])); simpa [Mods.app] using this⟩
  · by_cases hnj : fj.none = true
    · obtain ⟨a1, a2, a3⟩ := none_foot hnj
      obtain ⟨e1, m, e2, e3, e4⟩ := lg.1 a1
      have hm : m = [] := by
        cases m with
        | nil => rfl
        | cons p t => have := e3 p (by simp); rw [a3] at this; cases this
      subst hm
      simp only [Mods.app] at e2
      subst e2; subst e1
      exact ⟨h, nx, by have := e4 h nx (by simp [a2, a3]) (.inr (by simp [a2])); simpa [Mods.app] using this, hf⟩
    · simp only [Foot.compat, Bool.or_eq_true, hni, hnj, false_or, Bool.false_eq_true] at hc
      split at hc
      case h_2 c1 c2 =>
        unfold Foot.apart at hc
        split at hc
        case h_2 => cases hc
        rename_i n0 l0 hw
        simp only [Bool.and_eq_true] at hc
        obtain ⟨⟨b1, b2⟩, c3, c4⟩ := hc
        obtain ⟨e1, m, e2, e3, e4⟩ := lf.1 c1
        obtain ⟨k1, k0, n, k2, k3, k4⟩ := lg.2 c2 n0 l0 hw
        subst e2; subst k2; subst e1; subst k1
        have d1 := disj_iff c3
        have d2 := disj_iff c4
        have hlow : ∀ k ∈ fi.r ++ fi.w, k < n0 := fun k hk => by
          rcases List.mem_append.1 hk with h | h
          · exact allLt_iff b1 k h
          · exact allLt_iff b2 k h
        have hnp : ∀ p ∈ n, ∀ k ∈ fi.r ++ fi.w, p.1 ≠ k := fun p hp k hk e => by
          subst e
          rcases k3 p hp with h' | h'
          · rcases List.mem_append.1 hk with h | h
            · exact d2 _ h' h
            · exact d1 _ h (List.mem_append_right _ h')
          · have := hlow _ hk; omega
        have hmp : ∀ p ∈ m, ∀ k ∈ fj.r ++ l0, p.1 ≠ k := fun p hp k hk e => by
          subst e; exact d1 _ (e3 p hp) hk
        refine ⟨Mods.app n h, _, k4 h (fun k hk => (Mods.hget m h k (fun p hp => hmp p hp k hk)).symm), ?_⟩
        rw [Mods.comm m n h (fun p hp q hq e => hnp q hq p.1 (List.mem_append_right _ (e3 p hp)) e.symm)]
        exact e4 (Mods.app n h) _ (fun k hk => Mods.hget n h k (fun p hp => hnp p hp k hk)) (.inr fun hm => by have := allLt_iff b1 _ hm; omega)
      case h_3 c1 c2 =>
        unfold Foot.apart at hc
        split at hc
        case h_2 => cases hc
        rename_i n0 l0 hw
        simp only [Bool.and_eq_true] at hc
        obtain ⟨⟨b1, b2⟩, c3, c4⟩ := hc
        obtain ⟨e1, e0, m, e2, e3, e4⟩ := lf.2 c1 n0 l0 hw
        obtain ⟨k1, n, k2, k3, k4⟩ := lg.1 c2
        subst e2; subst k2; subst e1; subst k1
        have d1 := disj_iff c3
        have d2 := disj_iff c4
        have hlow : ∀ k ∈ fj.r ++ fj.w, k < n0 := fun k hk => by
          rcases List.mem_append.1 hk with h | h
          · exact allLt_iff b1 k h
          · exact allLt_iff b2 k h
        have hmp : ∀ p ∈ m, ∀ k ∈ fj.r ++ fj.w, p.1 ≠ k := fun p hp k hk e => by
          subst e
          rcases e3 p hp with h' | h'
          · rcases List.mem_append.1 hk with h | h
            · exact d2 _ h' h
            · exact d1 _ h (List.mem_append_right _ h')
          · have := hlow _ hk; omega
        have hnp : ∀ p ∈ n, ∀ k ∈ fi.r ++ l0, p.1 ≠ k := fun p hp k hk e => by
          subst e; exact d1 _ (k3 p hp) hk
        refine ⟨Mods.app n h, _, k4 h n0 (fun k hk => (Mods.hget m h k (fun p hp => hmp p hp k hk)).symm) (.inr fun hm => by have := allLt_iff b1 _ hm; omega), ?_⟩
        rw [Mods.comm m n h (fun p hp q hq e => hmp p hp q.1 (List.mem_append_right _ (k3 q hq)) e)]
        exact e4 (Mods.app n h) (fun k hk => Mods.hget n h k (fun p hp => hnp p hp k hk))
      case h_4 => cases hc
      rename_i c1 c2
      simp only [Bool.and_eq_true] at hc
      obtain ⟨c3, c4⟩ := hc
      obtain ⟨e1, m, e2, e3, e4⟩ := lf.1 c1
      obtain ⟨k1, n, k2, k3, k4⟩ := lg.1 c2
      subst e2; subst k2; subst e1; subst k1
      have d1 := disj_iff c3
      have d2 := disj_iff c4
      have hnp : ∀ p ∈ n, ∀ k ∈ fi.r ++ fi.w, p.1 ≠ k := fun p hp k hk e => by
        subst e
        rcases List.mem_append.1 hk with h | h
        · exact d2 _ (k3 p hp) h
        · exact d1 _ h (List.mem_append_right _ (k3 p hp))
      have hmp : ∀ p ∈ m, ∀ k ∈ fj.r ++ fj.w, p.1 ≠ k := fun p hp k hk e => by
        subst e; exact d1 _ (e3 p hp) hk
      refine ⟨Mods.app n h, _, k4 h _ (fun k hk => (Mods.hget m h k (fun p hp => hmp p hp k hk)).symm) (.inl rfl), ?_⟩
      rw [Mods.comm m n h (fun p hp q hq => hmp p hp q.1 (List.mem_append_right _ (k3 q hq)))]
      exact e4 (Mods.app n h) _ (fun k hk => Mods.hget n h k (fun p hp => hnp p hp k hk)) (.inl rfl)

end Go.Proofs.Abs
