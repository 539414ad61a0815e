/- One operation in its region; regions that keep their order. -/
import Derived.Test.YtnlllfokomenfaaGreatDoorE15
namespace Go.Proofs.Abs
open Go

theorem slots_put {w : World} {I : Nat → Prop} {α : Nat → Option Nat} {s : Tr} {a : Act} {dst : Option Tmp} {v : AV} {v' : Value} {n : Nat} (hs : SlotsRel w I α s a.tmps) (hv : Rep w I α v v') (hn : a.tmps.size = n) (hsm : n ≤ 4095) :
    SlotsRel w I α (putA n s dst v) (a.put dst v').tmps := by
  cases dst with
  | none => exact hs
  | some d =>
    simp only [putA]
    split
    · rename_i hd
      have hd : d < a.tmps.size := by rw [hn]; simpa using hd
      intro t u hu
      simp only [Act.put]
      by_cases e : t = d
      · subst e
        have hb : t + 1 < 2 ^ 12 := by
          have h1 : t < n := by rw [← hn]; exact hd
          have h2 : (2 : Nat) ^ 12 = 4096 := by decide
          omega
        rw [Tr.get_set_lt 12 s v hb] at hu; cases hu
        exact ⟨v', by simp [hd], hv⟩
      · rw [Tr.get_set_ne 12 s v e] at hu
        obtain ⟨y, h1, h2⟩ := hs t u hu
        exact ⟨y, by rw [Array.getElem?_setIfInBounds_ne (Ne.symm e)]; exact h1, h2⟩
    · rename_i hd
      have hd := blt_false hd
      intro t u hu
      obtain ⟨y, h1, h2⟩ := hs t u hu
      have ht : t < a.tmps.size := (Array.getElem?_eq_some_iff.1 h1).1
      exact ⟨y, by simp only [Act.put]; rw [Array.getElem?_setIfInBounds_ne (by omega)]; exact h1, h2⟩

theorem put_size (a : Act) (dst : Option Tmp) (v : Value) : (a.put dst v).tmps.size = a.tmps.size := by cases dst <;> simp [Act.put]
theorem put_defers (a : Act) (dst : Option Tmp) (v : Value) : (a.put dst v).defers = a.defers := by cases dst <;> rfl

/-- A state of the short machine beside one of the model's, within a region of n operations whose own numbers begin at base; L: which have been carried out. -/
structure RR (G : Glob) (w0 : World) (I0 : Nat → Prop) (α0 : Nat → Option Nat) (H0 : Heap) (nx0 : Nat) (D : List Deferred) (base n : Nat) (L : Nat → Bool) (s : St) (a : Act) (w : World) : Prop where
  ex : ∃ I α, Ev w0 I0 α0 H0 w I α s.heap ∧ Rel G w I α s.heap ∧ SlotsRel w I α s.slots a.tmps ∧ (∀ i, i < n → L i = false → α (base + i) = none) ∧ (∀ id, s.nx ≤ id → α id = none) ∧
    (∀ id, α id ≠ none → α0 id ≠ none ∨ (nx0 ≤ id ∧ id < s.nx))
  le : base + n ≤ s.nx
  lo : nx0 ≤ base
  defers : a.defers = D
  size : a.tmps.size = s.n
  small : s.n ≤ 4095

section
variable {P : Program} {G : Glob} {call : Caller} {w0 : World} {I0 : Nat → Prop} {α0 : Nat → Option Nat} {H0 : Heap} {nx0 : Nat} {D : List Deferred} {base : Nat} {ops : Array Oper}

theorem wanted_true {s : Tr} {a : Act} {w : World} {I : Nat → Prop} {α : Nat → Option Nat} {o : Oper} {b : Bool} (hs : SlotsRel w I α s a.tmps) (h : wantedA ops.toList o s = some b) : Region.wanted o (yielded ops a.tmps) = b := by
  unfold wantedA at h
  unfold Region.wanted
  split at h
  · rename_i hg
    simp only [Option.some.injEq] at h; subst h
    rw [hg]
  · rename_i j want hg
    rw [hg]
    split at h
    · rename_i g hj
      rw [getN_eq] at hj
      have hj : ops[j]? = some g := by simpa using hj
      split at h
      · rename_i d hd
        split at h
        · rename_i x hx
          simp only [Option.some.injEq] at h; subst h
          obtain ⟨y, h1, h2⟩ := hs d _ hx
          have := h2.bool_val; subst this
          simp [yielded, hj, hd, h1]
        · rename_i hx
          simp only [Option.some.injEq] at h; subst h
          obtain ⟨y, h1, h2⟩ := hs d _ hx
          obtain ⟨vs, rfl, _⟩ := Rep.tuple_iff.1 h2
          simp [yielded, hj, hd, h1]
        · simp at h
      · simp at h
    · simp at h

theorem effB_sound {call : Caller} {w : World} {I : Nat → Prop} {α : Nat → Option Nat} {H : Heap} {rid nx : Nat} {l : List Oper} {o : Oper} {s : Tr} {a : Act} {e : Eff} (c : Ctx P G call w I α H rid nx) (hs : SlotsRel w I α s a.tmps) (h : effB P G l (evA s) o = some e) :
    Impl P G call w I α H rid nx ((execOp a.eval o).run P w) e := by
  unfold effB at h
  split at h
  · rename_i t n parts d ho hd
    split at h
    · unfold eBuildRow at h
      split at h
      · rename_i es hb
        split at h
        · rename_i el hel
          split at h
          · rename_i sz hsz
            simp only [Option.some.injEq] at h; subst h
            unfold eBuildSlice at hb
            split at hb
            · rename_i ps hps
              obtain ⟨v, hv, e1⟩ := valO_some hb
              cases e1
              have hp : RepP w I α ps (parts.map fun (i, x) => (i, a.eval x)).toList := by
                rw [Array.toList_map]; exact rep_mapParts hs hps
              have hfin := implV_buildRow c hp hv hel hsz
              unfold execOp
              simp only [ho]
              simpa [ImplV] using hfin
            · simp at hb
          · simp at h
        · simp at h
      · simp at h
    · exact eff_sound c hs h
  · exact eff_sound c hs h

theorem step_sound {L : Nat → Bool} {i : Nat} {o : Oper} {s s' : St} {ft : Foot} {a : Act} {w : World} {K : Act → World → Prop} {Q : Exit → Act → World → Prop} {n : Nat} (hcall : CallOk P G call) (ho : ops[i]? = some o) (hi : i < n) (hL : L i = false)
    (hr : RR G w0 I0 α0 H0 nx0 D base n L s a w) (h : stepA P G call ops.toList (base + i) o s = some (s', ft))
    (hK : ∀ a' w', RR G w0 I0 α0 H0 nx0 D base n (fun j => j == i || L j) s' a' w' → K a' w') : wpOp P ops Q i K a w := by
  obtain ⟨⟨I, α, ev, rel, hs, hres, hfr, hnew⟩, hle, hlo, hD, hsz, hsm⟩ := hr
  unfold wpOp
  simp only [ho]
  unfold stepA at h
  split at h
  · rename_i hw
    rw [wanted_true hs hw, if_pos rfl]
    split at h
    · rename_i e he
      split at h
      · rename_i v h' nx' ft' hrun
        simp only [Option.some.injEq, Prod.mk.injEq] at h
        obtain ⟨rfl, rfl⟩ := h
        have c : Ctx P G call w I α s.heap (base + i) s.nx := ⟨rel, hres i hi hL, by omega, hfr, hcall⟩
        refine .inl (wp_of_out (effB_sound c hs he 2 v h' nx' ft' hrun) fun v' w' hp => hK _ _ ?_)
        obtain ⟨⟨I', α', ev', rel', hv, hn'⟩, hle'⟩ := hp
        refine ⟨⟨I', α', ev.trans ev', rel', slots_put (fun t u hu => ?_) hv hsz hsm, fun j hj hLj => ?_, fun id hid => ?_, fun id hid => ?_⟩, Nat.le_trans hle hle', hlo, by rw [put_defers]; exact hD, by rw [put_size]; exact hsz, hsm⟩
        · obtain ⟨y, h1, h2⟩ := hs t u hu
          exact ⟨y, h1, h2.ev rel ev'⟩
        · simp only [Bool.or_eq_false_iff] at hLj
          have hji : j ≠ i := by simpa using hLj.1
          cases hh : α' (base + j) with
          | none => rfl
          | some b =>
            rcases hn' (base + j) (by rw [hh]; simp) with h1 | h1 | h1
            · exact absurd (hres j hj hLj.2) h1
            · omega
            · omega
        · cases hh : α' id with
          | none => rfl
          | some b =>
            simp only at hid
            rcases hn' id (by rw [hh]; simp) with h1 | h1 | h1
            · exact absurd (hfr id (by omega)) h1
            · omega
            · omega
        · simp only
          rcases hn' id hid with h1 | h1 | h1
          · rcases hnew id h1 with h2 | h2
            · exact .inl h2
            · exact .inr ⟨h2.1, by omega⟩
          · exact .inr ⟨by omega, by omega⟩
          · exact .inr ⟨by omega, by omega⟩
      · simp at h
    · simp at h
  · rename_i hw
    rw [wanted_true hs hw, if_neg (by simp)]
    simp only [Option.some.injEq, Prod.mk.injEq] at h
    obtain ⟨rfl, rfl⟩ := h
    refine hK _ _ ⟨⟨I, α, ev, rel, slots_put hs (Rep.tuple_iff.2 ⟨_, rfl, .nil⟩) hsz hsm, fun j hj hLj => ?_, hfr, hnew⟩, hle, hlo, by rw [put_defers]; exact hD, by rw [put_size]; exact hsz, hsm⟩
    simp only [Bool.or_eq_false_iff] at hLj
    exact hres j hj hLj.2
  · simp at h

theorem RR.mono {n : Nat} {L L' : Nat → Bool} {s : St} {a : Act} {w : World} (h : RR G w0 I0 α0 H0 nx0 D base n L s a w) (hL : ∀ i, i < n → L' i = false → L i = false) : RR G w0 I0 α0 H0 nx0 D base n L' s a w := by
  obtain ⟨⟨I, α, h1, h2, h3, h4, h5, h6⟩, h7, h8, h9, h10, h11⟩ := h
  exact ⟨⟨I, α, h1, h2, h3, fun i hi hl => h4 i hi (hL i hi hl), h5, h6⟩, h7, h8, h9, h10, h11⟩

/-- The operations in their order. -/
theorem ops_sound {Q : Exit → Act → World → Prop} (hcall : CallOk P G call) : ∀ (rest : List Oper) (i : Nat) (s s' : St) (acc feet : List (Nat × Foot)) (a : Act) (w : World),
    rest = ops.toList.drop i → runOps P G call ops.toList base rest i s acc = some (s', feet) → RR G w0 I0 α0 H0 nx0 D base ops.size (fun j => decide (j < i)) s a w →
    (∀ a' w', RR G w0 I0 α0 H0 nx0 D base ops.size (fun _ => true) s' a' w' → Q .normal a' w') → wpOps P ops Q (List.range' i rest.length) a w
  | [], i, s, s', acc, feet, a, w, hd, h, hr, hq => by
    simp only [runOps, Option.some.injEq, Prod.mk.injEq] at h
    obtain ⟨rfl, rfl⟩ := h
    simp only [List.length_nil, List.range'_zero, wpOps]
    exact hq _ _ (hr.mono (fun i _ h => by cases h))
  | o :: rest, i, s, s', acc, feet, a, w, hd, h, hr, hq => by
    have ho : ops[i]? = some o := by
      have : (ops.toList.drop i)[0]? = some o := by rw [← hd]; rfl
      rw [List.getElem?_drop] at this
      simpa using this
    have hi : i < ops.size := (Array.getElem?_eq_some_iff.1 ho).1
    have hd' : rest = ops.toList.drop (i + 1) := by
      have : (ops.toList.drop i).tail = rest := by rw [← hd]; rfl
      rw [← this, List.tail_drop]
    simp only [runOps] at h
    split at h
    · rename_i s1 ft hst
      simp only [List.length_cons, List.range'_succ]
      rw [wpOps_cons]
      refine step_sound hcall ho hi (by simp) hr hst fun a' w' hr' => ?_
      refine ops_sound hcall rest (i + 1) s1 s' _ feet a' w' hd' h (hr'.mono fun j _ hj => ?_) hq
      simp only [decide_eq_false_iff_not, Bool.or_eq_false_iff] at hj ⊢
      exact ⟨by simp; omega, by omega⟩
    · simp at h

end
end Go.Proofs.Abs
