/- The order of the text serves every order. -/
import Derived.Test.YtnlllfokomenfaaGreatDoorE19
namespace Go.Proofs.Abs
open Go

theorem bindsAny_eq (e : Edge) : bindsAny e = Region.binds .any e := by
  unfold bindsAny Region.binds
  cases e.ground <;> rfl

/-! ### Who must be ahead -/

theorem bef1_bit {acc : List Nat} {i : Nat} : ∀ (es : List Edge) (s : Nat), (es.foldl (fun s e => if bindsAny e then s ||| 2 ^ e.on ||| (getN acc e.on).getD 0 else s) s).testBit i = true →
    s.testBit i = true ∨ ∃ e ∈ es, bindsAny e = true ∧ (e.on = i ∨ ((getN acc e.on).getD 0).testBit i = true)
  | [], s, h => .inl h
  | e :: es, s, h => by
    simp only [List.foldl_cons] at h
    rcases bef1_bit es _ h with h1 | ⟨e', h1, h2, h3⟩
    · by_cases hb : bindsAny e = true
      · rw [if_pos hb] at h1
        simp only [Nat.testBit_or, Bool.or_eq_true] at h1
        rcases h1 with (h1 | h1) | h1
        · exact .inl h1
        · rw [Nat.testBit_two_pow] at h1
          exact .inr ⟨e, by simp, hb, .inl (by simpa using h1)⟩
        · exact .inr ⟨e, by simp, hb, .inr h1⟩
      · rw [if_neg hb] at h1
        exact .inl h1
    · exact .inr ⟨e', by simp [h1], h2, h3⟩

theorem befs_spec : ∀ (l : List Oper) (acc : List Nat), (∀ j, j < acc.length → (befs l acc)[j]? = acc[j]?) ∧
    ∀ j o, l[j]? = some o → (befs l acc)[acc.length + j]? = some (bef1 ((befs l acc).take (acc.length + j)) o.after.toList)
  | [], acc => ⟨fun j _ => rfl, fun j o h => by simp at h⟩
  | x :: t, acc => by
    have ih := befs_spec t (acc ++ [bef1 acc x.after.toList])
    simp only [befs]
    have hpre : (befs t (acc ++ [bef1 acc x.after.toList])).take acc.length = acc := by
      apply List.ext_getElem?
      intro j
      by_cases hj : j < acc.length
      · rw [List.getElem?_take_of_lt hj, ih.1 j (by simp; omega), List.getElem?_append_left hj]
      · rw [List.getElem?_eq_none (by simp; omega), List.getElem?_eq_none (by omega)]
    refine ⟨fun j hj => by rw [ih.1 j (by simp; omega), List.getElem?_append_left hj], fun j o h => ?_⟩
    cases j with
    | zero =>
      simp at h; subst h
      rw [Nat.add_zero, ih.1 acc.length (by simp), hpre]
      simp
    | succ j =>
      have := ih.2 j o (by simpa using h)
      rw [show (acc ++ [bef1 acc x.after.toList]).length + j = acc.length + (j + 1) by simp; omega] at this
      exact this

theorem prec_listed {ops : Array Oper} {l : Array Bool} (hcl : Closed ops l) {i : Nat} : ∀ (j : Nat), PredsIn ops l j → (((befs ops.toList [])[j]?).getD 0).testBit i = true → l.getD i false = true := by
  intro j
  induction j using Nat.strongRecOn with
  | _ j ih =>
    intro hp hb
    cases ho : ops[j]? with
    | none =>
      -- no such operation: no bits
      have : (befs ops.toList [])[j]? = none := by
        rw [List.getElem?_eq_none]
        rw [befs_length]
        simpa using ho
      rw [this] at hb; simp at hb
    | some o =>
      have hs := (befs_spec ops.toList []).2 j o (by simpa using ho)
      simp only [List.length_nil, Nat.zero_add] at hs
      rw [hs] at hb
      simp only [Option.getD_some] at hb
      rcases bef1_bit _ _ hb with h | ⟨e, he, hbe, h⟩
      · simp at h
      · have hl := hp o ho e (by simpa using he) (by rw [← bindsAny_eq]; exact hbe)
        rcases h with rfl | h
        · exact hl
        · rw [getN_eq] at h
          by_cases hlt : e.on < j
          · rw [List.getElem?_take_of_lt hlt] at h
            exact ih e.on hlt (hcl e.on hl) h
          · rw [List.getElem?_eq_none (by simp; omega)] at h; simp at h
 where
  befs_length : ∀ {l : List Oper} {acc : List Nat}, (befs l acc).length = acc.length + l.length
    | [], acc => by simp [befs]
    | x :: t, acc => by simp only [befs]; rw [befs_length]; simp; omega

/-! ### Feet -/

def lookF : List (Nat × Foot) → Nat → Foot
  | [], _ => ⟨false, [], []⟩
  | (i, f) :: t, k => if i = k then f else lookF t k

theorem lookF_skip : ∀ {a b : List (Nat × Foot)} {k : Nat}, (∀ p ∈ a, p.1 ≠ k) → lookF (a ++ b) k = lookF b k
  | [], _, _, _ => rfl
  | (i, f) :: t, b, k, h => by
    simp only [List.cons_append, lookF]
    rw [if_neg (h (i, f) (by simp)), lookF_skip (fun p hp => h p (by simp [hp]))]
theorem lookF_none {a : List (Nat × Foot)} {k : Nat} (h : ∀ p ∈ a, p.1 ≠ k) : lookF a k = ⟨false, [], []⟩ := by
  have := lookF_skip (b := []) h
  simpa [lookF] using this

theorem foot_none_eq {f : Foot} (h : f.none = true) : f = ⟨false, [], []⟩ := by
  obtain ⟨h1, h2, h3⟩ := none_foot h
  cases f; simp_all

section
variable {P : Program} {G : Glob} {call : Caller} {ops : Array Oper} {base : Nat}

theorem runOps_feet : ∀ {rest : List Oper} {k : Nat} {s E : St} {acc feet : List (Nat × Foot)}, runOps P G call ops.toList base rest k s acc = some (E, feet) → ∃ new, feet = new ++ acc ∧ (∀ p ∈ new, k ≤ p.1) ∧
    (List.Pairwise (fun p q : Nat × Foot => q.1 < p.1) new)
  | [], k, s, E, acc, feet, h => by
    simp only [runOps, Option.some.injEq, Prod.mk.injEq] at h
    exact ⟨[], h.2.symm, by simp, .nil⟩
  | o :: rest, k, s, E, acc, feet, h => by
    simp only [runOps] at h
    split at h
    · rename_i s1 ft hst
      obtain ⟨new, h1, h2, h3⟩ := runOps_feet h
      split at h1
      · exact ⟨new, h1, fun p hp => by have := h2 p hp; omega, h3⟩
      · refine ⟨new ++ [(k, ft)], by rw [h1]; simp, fun p hp => ?_, ?_⟩
        · rcases List.mem_append.1 hp with h | h
          · have := h2 p h; omega
          · simp at h; subst h; exact Nat.le_refl _
        · rw [List.pairwise_append]
          refine ⟨h3, by simp, fun p hp q hq => ?_⟩
          simp at hq; subst hq
          have := h2 p hp; simp; omega
    · simp at h

theorem feet_pair {bs : List Nat} : ∀ {feet : List (Nat × Foot)}, feetOk bs feet = true → List.Pairwise (fun p q : Nat × Foot => q.1 < p.1) feet → ∀ i j, i < j →
    ((bs[j]?).getD 0).testBit i = true ∨ (lookF feet i).compat (lookF feet j) = true
  | [], _, _, i, j, _ => .inr (by simp [lookF, Foot.compat, Foot.none])
  | (k, fk) :: t, h, hp, i, j, hij => by
    simp only [feetOk, Bool.and_eq_true, List.all_eq_true] at h
    rw [List.pairwise_cons] at hp
    by_cases hj : k = j
    · subst hj
      have hi : k ≠ i := by omega
      simp only [lookF, if_true, if_neg hi]
      by_cases hm : ∃ p ∈ t, p.1 = i
      · obtain ⟨p, hpt, hpi⟩ := hm
        have := h.1 p hpt
        obtain ⟨pi, pf⟩ := p
        simp only at hpi; subst hpi
        have hl : lookF t pi = pf := look_of hp.2 hpt
        rw [hl]
        simp only [Bool.or_eq_true] at this
        rw [getN_eq] at this
        exact this
      · have : lookF t i = ⟨false, [], []⟩ := lookF_none fun p hp' e => hm ⟨p, hp', e⟩
        rw [this]
        exact .inr (by simp [Foot.compat, Foot.none])
    · by_cases hi : k = i
      · subst hi
        have : lookF t j = ⟨false, [], []⟩ := lookF_none fun p hp' e => by
          have := hp.1 p hp'; simp at this; omega
        simp only [lookF, if_true, if_neg hj, this]
        exact .inr (by simp [Foot.compat, Foot.none])
      · simp only [lookF, if_neg hj, if_neg hi]
        exact feet_pair h.2 hp.2 i j hij
 where
  look_of : ∀ {t : List (Nat × Foot)} {i : Nat} {f : Foot}, List.Pairwise (fun p q : Nat × Foot => q.1 < p.1) t → (i, f) ∈ t → lookF t i = f
    | [], _, _, _, h => by cases h
    | (k, g) :: t, i, f, hp, h => by
      rw [List.pairwise_cons] at hp
      rcases List.mem_cons.1 h with h | h
      · cases h; simp [lookF]
      · have := hp.1 _ h
        simp only at this
        simp only [lookF, if_neg (show ¬ k = i by omega)]
        exact look_of hp.2 h

theorem slots_pair {bs : List Nat} {all : List Oper} : ∀ {l : List Oper} {j : Nat}, slotsOk all bs l j = true → (∀ q, l[q]? = all[j + q]?) → ∀ (q i : Nat) oi oj, l[q]? = some oj → all[i]? = some oi → i < j + q →
    ((bs[j + q]?).getD 0).testBit i = true ∨ pairApart all oi oj = true
  | [], _, _, _, q, _, _, _, hq, _, _ => by simp at hq
  | o :: t, j, h, hl, q, i, oi, oj, hq, hi, hij => by
    simp only [slotsOk, Bool.and_eq_true] at h
    cases q with
    | zero =>
      simp at hq; subst hq
      have := at_spec (all.take j) 0 h.1 i oi (by rw [List.getElem?_take_of_lt (by omega)]; exact hi)
      rw [getN_eq, Nat.zero_add] at this
      simpa using this
    | succ q =>
      have := slots_pair (l := t) (j := j + 1) h.2 (fun q => by have := hl (q + 1); simpa [Nat.add_assoc, Nat.add_comm 1 q] using this) q i oi oj (by simpa using hq) hi (by omega)
      rwa [show j + 1 + q = j + (q + 1) by omega] at this
 where
  at_spec {bj : Nat} {oj : Oper} : ∀ (l : List Oper) (k : Nat), slotsOkAt all bj oj l k = true → ∀ (i : Nat) oi, l[i]? = some oi → bj.testBit (k + i) = true ∨ pairApart all oi oj = true
    | [], _, _, _, _, h => by simp at h
    | x :: t, k, hs, i, oi, h => by
      simp only [slotsOkAt, Bool.and_eq_true, Bool.or_eq_true] at hs
      cases i with
      | zero => simp at h; subst h; exact hs.1
      | succ i =>
        have := at_spec t (k + 1) hs.2 i oi (by simpa using h)
        rwa [show k + 1 + i = k + (i + 1) by omega] at this

theorem edges_lt : ∀ {l : List Oper} {j : Nat}, edgesOk l j = true → ∀ (q : Nat) o, l[q]? = some o → ∀ e ∈ o.after, Region.binds .any e = true → e.on < j + q
  | [], _, _, _, _, h => by simp at h
  | x :: t, j, hs, q, o, h => by
    simp only [edgesOk, Bool.and_eq_true, List.all_eq_true] at hs
    intro e he hb
    cases q with
    | zero =>
      simp at h; subst h
      have := hs.1 e (by simpa using he)
      rw [bindsAny_eq, hb] at this
      simpa using this
    | succ q =>
      have := edges_lt hs.2 q o (by simpa using h) e he hb
      omega

theorem any_lex (hc : CallLoc call) (hreg : regionOk ops.toList = true) {feet : List (Nat × Foot)} {E : St} (hfeet : feetOk (befs ops.toList []) feet = true) (hpw : List.Pairwise (fun p q : Nat × Foot => q.1 < p.1) feet) :
    ∀ (rest : List Oper) (k : Nat) (s : St) (acc : List (Nat × Foot)) (listed : Array Bool), rest = ops.toList.drop k → k ≤ ops.size → runOps P G call ops.toList base rest k s acc = some (E, feet) → (∀ p ∈ acc, p.1 < k) →
      listed.size = ops.size → (∀ j b, j < ops.size → listed.getD j b = decide (j < k)) → AnyA P G call ops base (lookF feet) E rest.length listed s
  | [], k, s, acc, listed, hd, hk, h, hacc, hsz, hl => by
    simp only [runOps, Option.some.injEq, Prod.mk.injEq] at h
    have hkn : ops.size ≤ k := by
      have := congrArg List.length hd
      simp at this; omega
    refine ⟨List.eq_nil_iff_forall_not_mem.2 fun j hj => ?_, h.1⟩
    obtain ⟨h1, o, h2, _⟩ := mem_ready.1 hj
    have hj' : j < ops.size := (Array.getElem?_eq_some_iff.1 h2).1
    rw [hl j true hj'] at h1
    simp at h1; omega
  | o :: rest, k, s, acc, listed, hd, hk, h, hacc, hsz, hl => by
    have ho : ops[k]? = some o := by
      have : (ops.toList.drop k)[0]? = some o := by rw [← hd]; rfl
      rw [List.getElem?_drop] at this
      simpa using this
    have hkn : k < ops.size := (Array.getElem?_eq_some_iff.1 ho).1
    have hd' : rest = ops.toList.drop (k + 1) := by
      have : (ops.toList.drop k).tail = rest := by rw [← hd]; rfl
      rw [← this, List.tail_drop]
    simp only [regionOk, Bool.and_eq_true] at hreg
    have hedge : ∀ (q : Nat) o, ops[q]? = some o → ∀ e ∈ o.after, Region.binds .any e = true → e.on < q := fun q o hq e he hb => by
      have := edges_lt hreg.1 q o (by simpa using hq) e he hb; omega
    simp only [runOps] at h
    split at h
    · rename_i s1 ft hst
      -- the foot of this operation
      obtain ⟨new, f1, f2, _⟩ := runOps_feet h
      have hft : lookF feet k = ft := by
        rw [f1, lookF_skip (fun p hp => by have := f2 p hp; omega)]
        split
        · rename_i hn
          rw [foot_none_eq hn]
          exact lookF_none fun p hp => by have := hacc p hp; omega
        · simp [lookF]
      have hcl : Closed ops listed := fun j hj o' ho' e he hb => by
        have hj' : j < ops.size := (Array.getElem?_eq_some_iff.1 ho').1
        rw [hl j false hj'] at hj
        have := hedge j o' ho' e he hb
        simp at hj
        rw [hl e.on false (by omega)]; simp; omega
      have hlk : ∀ j b, j < ops.size → (listed.setIfInBounds k true).getD j b = decide (j < k + 1) := fun j b hj => by
        rw [Array.getD_eq_getD_getElem?]
        by_cases e : j = k
        · subst e; simp [hsz, hj]
        · rw [Array.getElem?_setIfInBounds_ne (Ne.symm e), ← Array.getD_eq_getD_getElem?, hl j b hj]
          rw [Bool.eq_iff_iff]; simp; omega
      refine any_first hc ho rest.length listed s s1 hsz hcl (fun j oj hoj hjk hun => ?_) ?_ (by rw [hft]; exact hst)
        (any_lex hc (by simp only [regionOk, Bool.and_eq_true]; exact hreg) hfeet hpw rest (k + 1) s1 _ _ hd' hkn h (fun p hp => ?_) (by simp [hsz]) hlk)
      · have hj' : j < ops.size := (Array.getElem?_eq_some_iff.1 hoj).1
        rw [hl j true hj'] at hun
        have hlt : k < j := by simp at hun; omega
        by_cases hbit : (((befs ops.toList [])[j]?).getD 0).testBit k = true
        · exact .inl fun l hcl' hp => prec_listed hcl' j hp hbit
        · have h1 := (slots_pair (l := ops.toList) (j := 0) hreg.2 (fun q => by simp) j k o oj (by simpa using hoj) (by simpa using ho) (by omega))
          rw [Nat.zero_add] at h1
          have h2 := feet_pair hfeet hpw k j hlt
          exact .inr ⟨h1.resolve_left hbit, h2.resolve_left hbit⟩
      · refine mem_ready.2 ⟨by rw [hl k true hkn]; simp, o, ho, fun e he hb => ?_⟩
        have := hedge k o ho e he hb
        rw [hl e.on false (by omega)]; simpa using this
      · split at hp
        · have := hacc p hp; omega
        · rcases List.mem_cons.1 hp with rfl | hp
          · exact Nat.lt_succ_self _
          · have := hacc p hp; omega
    · simp at h

end
end Go.Proofs.Abs
