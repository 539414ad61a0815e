/- Small laws: lists, rows of cells, types; each operation that looks at values alone. -/
import Derived.Test.YtnlllfokomenfaaGreatDoorE3
import Derived.WalkKit
namespace Go.Proofs.Abs
open Go

theorem getN_eq {α : Type} : ∀ (l : List α) (i : Nat), getN l i = l[i]?
  | [], _ => by simp [getN]
  | _ :: _, 0 => rfl
  | _ :: t, i + 1 => by simpa [getN] using getN_eq t i
theorem lenN_eq {α : Type} : ∀ (l : List α), lenN l = l.length
  | [] => rfl
  | _ :: t => by simp [lenN, lenN_eq t]
theorem setN_eq {α : Type} : ∀ (l : List α) (i : Nat) (x : α), setN l i x = l.set i x
  | [], _, _ => by simp [setN]
  | _ :: _, 0, _ => rfl
  | a :: t, i + 1, x => by simpa [setN] using setN_eq t i x

theorem chunk_eq : ∀ (l : List AV) (o n : Nat) (c : List AV), chunk l o n = some c → c = (l.drop o).take n ∧ c.length = n ∧ (n = 0 ∨ o + n ≤ l.length)
  | l, o, 0, c, h => by cases l <;> simp [chunk] at h <;> subst h <;> simp
  | [], _, n + 1, _, h => by simp [chunk] at h
  | a :: t, 0, n + 1, c, h => by
    simp only [chunk, Option.map_eq_some_iff] at h
    obtain ⟨c', h1, rfl⟩ := h
    obtain ⟨e1, e2, e3⟩ := chunk_eq t 0 n c' h1
    refine ⟨by simp at e1 ⊢; exact e1, by simp [e2], .inr (by simp; omega)⟩
  | a :: t, o + 1, n + 1, c, h => by
    simp only [chunk] at h
    obtain ⟨e1, e2, e3⟩ := chunk_eq t o (n + 1) c h
    exact ⟨by simpa using e1, e2, .inr (by simp; omega)⟩

theorem splice_eq : ∀ (l : List AV) (o : Nat) (vs l' : List AV), splice l o vs = some l' → l' = l.take o ++ vs ++ l.drop (o + vs.length) ∧ (vs = [] ∨ o + vs.length ≤ l.length)
  | l, o, [], l', h => by cases l <;> simp [splice] at h <;> subst h <;> simp
  | [], _, _ :: _, _, h => by simp [splice] at h
  | a :: t, 0, v :: vs, l', h => by
    simp only [splice, Option.map_eq_some_iff] at h
    obtain ⟨c, h1, rfl⟩ := h
    obtain ⟨e1, e2⟩ := splice_eq t 0 vs c h1
    refine ⟨by simp at e1 ⊢; exact e1, .inr ?_⟩
    rcases e2 with e2 | e2
    · subst e2; simp
    · simp at e2 ⊢; omega
  | a :: t, o + 1, v :: vs, l', h => by
    simp only [splice, Option.map_eq_some_iff] at h
    obtain ⟨c, h1, rfl⟩ := h
    obtain ⟨e1, e2⟩ := splice_eq t o (v :: vs) c h1
    refine ⟨by rw [e1]; simp [show o + 1 + (vs.length + 1) = o + (vs.length + 1) + 1 by omega], .inr ?_⟩
    rcases e2 with e2 | e2
    · cases e2
    · simp at e2 ⊢; omega

theorem splice_length {l : List AV} {o : Nat} {vs l' : List AV} (h : splice l o vs = some l') : l'.length = l.length := by
  obtain ⟨e1, e2⟩ := splice_eq l o vs l' h
  rw [e1]
  rcases e2 with e2 | e2
  · subst e2; simp
  · simp; omega

section
variable {P : Program} {w : World} {I : Nat → Prop} {α : Nat → Option Nat}

theorem rep_ofOne {v : Value} {a : AV} (h : ofOne v = some a) : Rep w I α a v := by
  unfold ofOne at h
  split at h <;> simp at h <;> subst h
  · exact .bool _
  · exact .int _ _
  · exact .str _ _ rfl
  · exact .nilp
  · exact .nilsl
  · exact .nilmap
  · exact .nilFunc
  · exact .nilIface

theorem rep_ofOnes : ∀ {vs : List Value} {l : List AV}, ofOnes vs = some l → RepL w I α l vs
  | [], l, h => by simp [ofOnes] at h; subst h; exact .nil
  | v :: vs, l, h => by
    simp only [ofOnes] at h
    split at h
    · rename_i a ha
      split at h
      · rename_i l' hl
        simp at h; subst h
        exact .cons (rep_ofOne ha) (rep_ofOnes hl)
      · simp at h
    · simp at h

theorem rep_ofValue {v : Value} {a : AV} (h : ofValue v = some a) : Rep w I α a v := by
  unfold ofValue at h
  split at h
  · split at h
    · rename_i l hl
      simp at h; subst h
      exact Rep.agg_iff.2 ⟨_, rfl, rep_ofOnes hl⟩
    · simp at h
  · split at h
    · rename_i hl
      simp at h; subst h
      exact Rep.tuple_iff.2 ⟨_, rfl, by rw [hl]; exact .nil⟩
    · simp at h
  · exact rep_ofOne h

/-! ### Types -/

theorem run_underlying' {t : TypeId} {d : TypeDesc} (h : P.underlying t = some d) : (underlying t).run P w = .ok d w := by
  simp [underlying, h]
theorem run_typeInfo' {t : TypeId} {i : TypeInfo} (h : P.info? t = some i) : (typeInfo t).run P w = .ok i w := by
  simp [typeInfo, h]
theorem sizeA_info {t : TypeId} {n : Nat} (h : sizeA P t = some n) : ∃ i, P.info? t = some i ∧ i.size = n := by
  simpa [sizeA, Option.map_eq_some_iff] using h
theorem run_sizeOf' {t : TypeId} {n : Nat} (h : sizeA P t = some n) : (sizeOf t).run P w = .ok n w := by
  obtain ⟨i, h1, rfl⟩ := sizeA_info h
  simp [sizeOf, run_typeInfo' h1]
theorem run_isAgg' {t : TypeId} {b : Bool} (h : isAggA P t = some b) : (isAgg t).run P w = .ok b w := by
  simp only [isAggA, Option.map_eq_some_iff] at h
  obtain ⟨d, h1, rfl⟩ := h
  simp only [isAgg, Sem.run_bind, run_underlying' h1, Result.andThen_ok]
  cases d <;> rfl
theorem zeroA_info {t : TypeId} {z : AV} (h : zeroA P t = some z) : ∃ i v, P.info? t = some i ∧ i.zero = some v ∧ ofValue v = some z := by
  unfold zeroA at h
  cases h1 : P.info? t with
  | none => simp [h1] at h
  | some i =>
    cases h2 : i.zero with
    | none => simp [h1, h2] at h
    | some v => exact ⟨i, v, rfl, h2, by simpa [h1, h2] using h⟩
theorem run_zeroValue' {t : TypeId} {i : TypeInfo} {v : Value} (h : P.info? t = some i) (h2 : i.zero = some v) : (zeroValue t).run P w = .ok v w := by
  simp [zeroValue, run_typeInfo' h, h2]

/-! ### Rows of cells -/

def Row (w : World) (I : Nat → Prop) (α : Nat → Option Nat) (b base : Nat) (cs : List AV) : Prop :=
  ∀ (j : Nat) c, cs[j]? = some c → ∃ y, w.cell? ⟨b, base + j, none⟩ = some y ∧ Rep w I α c y

theorem add_lit (b o n : Nat) : (⟨b, o, none⟩ : Addr).add n = ⟨b, o + n, none⟩ := by
  unfold Addr.add; split <;> simp_all

theorem Row.chunk {b base : Nat} {cs : List AV} (h : Row w I α b base cs) {off n : Nat} {c : List AV} (hc : chunk cs off n = some c) :
    ∃ vs : List Value, vs.length = n ∧ (loadCells ⟨b, base + off, none⟩ n).run P w = .ok vs.toArray w ∧ RepL w I α c vs := by
  obtain ⟨e1, e2, e3⟩ := chunk_eq _ _ _ _ hc
  have hget : ∀ j, j < n → ∃ x y, c[j]? = some x ∧ w.cell? ⟨b, base + off + j, none⟩ = some y ∧ Rep w I α x y := fun j hj => by
    have hlt : off + j < cs.length := by omega
    obtain ⟨y, h1, h2⟩ := h (off + j) cs[off + j] (by simp [hlt])
    refine ⟨cs[off + j], y, ?_, by rw [Nat.add_assoc]; exact h1, h2⟩
    rw [e1, List.getElem?_take_of_lt hj, List.getElem?_drop]; simp [hlt]
  let f : Nat → Value := fun j => (w.cell? ⟨b, base + off + j, none⟩).getD undef
  refine ⟨(List.range n).map f, by simp, ?_, ⟨by simp [e2], fun i x y h1 h2 => ?_⟩⟩
  · exact run_loadCells w _ n f (fun j hj => by
      rw [add_lit]
      obtain ⟨x, y, _, h2, _⟩ := hget j hj
      simp [f, h2])
  · have hi : i < n := by
      rcases Nat.lt_or_ge i n with h' | h'
      · exact h'
      · rw [List.getElem?_eq_none (by omega)] at h1; cases h1
    obtain ⟨x', y', e1', e2', hr⟩ := hget i hi
    rw [e1'] at h1; cases h1
    simp [hi, f, e2'] at h2
    subst h2
    exact hr

theorem Row.part {b base : Nat} {cs : List AV} (h : Row w I α b base cs) {t : TypeId} {off : Nat} {v : AV} (hv : partA P t cs off = some v) :
    ∃ v', (loadVar t ⟨b, base + off, none⟩).run P w = .ok v' w ∧ Rep w I α v v' := by
  unfold partA at hv
  split at hv
  · rename_i ha
    split at hv
    · rename_i n hn
      simp only [Option.map_eq_some_iff] at hv
      obtain ⟨c, hc, rfl⟩ := hv
      obtain ⟨vs, h1, h2, h3⟩ := h.chunk (P := P) hc
      exact ⟨.agg vs.toArray, by simp [loadVar, run_isAgg' ha, run_sizeOf' hn, h2], Rep.agg_iff.2 ⟨_, rfl, by simpa using h3⟩⟩
    · simp at hv
  · rename_i ha
    rw [getN_eq] at hv
    obtain ⟨y, h1, h2⟩ := h off v hv
    exact ⟨y, by simp [loadVar, run_isAgg' ha, h1], h2⟩
  · simp at hv

theorem RepL.part {cs : List AV} {vs : List Value} (h : RepL w I α cs vs) {t : TypeId} {off : Nat} {v : AV} (hv : partA P t cs off = some v) :
    ∃ v', (part t vs.toArray off).run P w = .ok v' w ∧ Rep w I α v v' := by
  unfold partA at hv
  split at hv
  · rename_i ha
    split at hv
    · rename_i n hn
      simp only [Option.map_eq_some_iff] at hv
      obtain ⟨c, hc, rfl⟩ := hv
      obtain ⟨e1, e2, e3⟩ := chunk_eq _ _ _ _ hc
      refine ⟨.agg (vs.toArray.extract off (off + n)), by simp [Go.part, run_isAgg' ha, run_sizeOf' hn], Rep.agg_iff.2 ⟨_, rfl, ?_⟩⟩
      have e4 : (vs.toArray.extract off (off + n)).toList = (vs.drop off).take n := by
        simp [List.extract_eq_take_drop]
      rw [e4]
      refine ⟨by rw [e1]; simp [h.1], fun i x y h1 h2 => ?_⟩
      have hi : i < n := by
        rcases Nat.lt_or_ge i n with h' | h'
        · exact h'
        · rw [List.getElem?_eq_none (by omega)] at h1; cases h1
      rw [e1, List.getElem?_take_of_lt hi, List.getElem?_drop] at h1
      rw [List.getElem?_take_of_lt hi, List.getElem?_drop] at h2
      exact h.2 _ _ _ h1 h2
    · simp at hv
  · rename_i ha
    rw [getN_eq] at hv
    obtain ⟨y, h1, h2⟩ := h.get hv
    exact ⟨y, by simp [Go.part, run_isAgg' ha, h1], h2⟩
  · simp at hv

theorem BRel.row {b : Nat} {l : List AV} (h : BRel w I α b (.cells l)) : Row w I α b 0 l := by
  obtain ⟨c, e, h1, h2, h3⟩ := h
  intro j x hx
  have hj : j < l.length := by
    rcases Nat.lt_or_ge j l.length with h' | h'
    · exact h'
    · rw [List.getElem?_eq_none h'] at hx; cases hx
  have hjc : j < c.size := by omega
  refine ⟨c[j], by simp [World.cell?, h1, hjc], h3.2 j x _ hx ?_⟩
  rw [List.getElem?_take_of_lt hj]; simp [hjc]

theorem Rep.fptr_row {cs : List AV} {off : Nat} {v : Value} (h : Rep w I α (.fptr cs off) v) : ∃ b base, v = .pointer (some ⟨b, base + off, none⟩) ∧ I b ∧ Row w I α b base cs := by
  cases h with
  | fptr _ _ b base g hI hg hr => exact ⟨b, base, rfl, hI, fun j c hc => ⟨g j, hg j c hc, hr j c hc⟩⟩

/-- An element of a slice of frozen elements: its cells. -/
theorem Rep.fsl_elem {full : Bool} {es : List AV} {v : Value} (h : Rep w I α (.fsl full es) v) {sz : Nat} {i : Nat} {e : AV} (he : es[i]? = some e) (hsz : e.cells.length = sz) :
    ∃ b base len cap, v = .slice (some ⟨b, base, none⟩) len cap ∧ len = es.length ∧ I b ∧ Row w I α b (base + i * sz) e.cells := by
  cases h with
  | fsl _ _ a len cap sz' b base g hl hc hf ha hI hs hg hr =>
    have hne : es ≠ [] := by intro h; simp [h] at he
    have : sz' = sz := by rw [← hs e (List.mem_of_getElem? he), hsz]
    subst this
    exact ⟨b, base, len, cap, by rw [ha], hl.symm, hI hne, fun j c hc' => ⟨g i j, hg i e j c he hc', hr i e j c he hc'⟩⟩

end
end Go.Proofs.Abs
