/- What a call made becomes part of its answer. -/
import Derived.Test.YtjhggnebkfpgcaaGreatDoorE22
namespace Go.Proofs.Abs
open Go

theorem mkElem_cells (c : List AV) : (mkElem c).cells = c := by
  unfold mkElem
  split
  · rfl
  · rename_i v hv
    cases v <;> first | rfl | exact absurd rfl (hv _)
  · rfl

theorem cutElems_eq {sz : Nat} : ∀ {n : Nat} {l es : List AV}, cutElems sz n l = some es → (∀ e ∈ es, e.cells.length = sz) ∧ es.length = n ∧ ∃ r, l = flat es ++ r
  | 0, l, es, h => by
    simp only [cutElems, Option.some.injEq] at h; subst h
    exact ⟨by simp, rfl, l, rfl⟩
  | n + 1, l, es, h => by
    simp only [cutElems] at h
    split at h
    · rename_i c hc
      simp only [Option.map_eq_some_iff] at h
      obtain ⟨es', h1, rfl⟩ := h
      obtain ⟨e1, e2, r, e3⟩ := cutElems_eq h1
      obtain ⟨f1, f2, f3⟩ := chunk_eq _ _ _ _ hc
      rw [List.drop_zero] at f1
      refine ⟨fun e he => ?_, by simp [e2], r, ?_⟩
      · rcases List.mem_cons.1 he with rfl | he
        · rw [mkElem_cells]; exact f2
        · exact e1 e he
      · simp only [flat, mkElem_cells]
        rw [List.append_assoc, ← e3, f1, List.take_append_drop]
    · simp at h

theorem mapL_get {f : AV → Option AV} : ∀ {l l' : List AV}, mapL f l = some l' → l'.length = l.length ∧ ∀ (i : Nat) x', l'[i]? = some x' → ∃ x, l[i]? = some x ∧ f x = some x'
  | [], l', h => by
    simp only [mapL, Option.some.injEq] at h; subst h
    exact ⟨rfl, by simp⟩
  | a :: t, l', h => by
    simp only [mapL] at h
    split at h
    · rename_i b hb
      split at h
      · rename_i u hu
        simp only [Option.some.injEq] at h; subst h
        obtain ⟨h1, h2⟩ := mapL_get hu
        refine ⟨by simp [h1], fun i x' hx => ?_⟩
        cases i with
        | zero => simp at hx; subst hx; exact ⟨a, rfl, hb⟩
        | succ i => simpa using h2 i x' (by simpa using hx)
      · simp at h
    · simp at h

theorem mapL_cons {f : AV → Option AV} {a : AV} {t l' : List AV} (h : mapL f (a :: t) = some l') : ∃ b u, f a = some b ∧ mapL f t = some u ∧ l' = b :: u := by
  simp only [mapL] at h
  split at h
  · rename_i b hb
    split at h
    · rename_i u hu
      simp only [Option.some.injEq] at h
      exact ⟨b, u, hb, hu, h.symm⟩
    · simp at h
  · simp at h

section
variable {G : Glob} {w : World} {I I2 : Nat → Prop} {α : Nat → Option Nat} {H : Heap}

theorem rep_elem {e : AV} {vs : List Value} (h : RepL w I α e.cells vs) : ∃ val, Rep w I α e val ∧ val.cells.toList = vs := by
  cases e with
  | agg cs => exact ⟨.agg vs.toArray, Rep.agg_iff.2 ⟨_, rfl, by simpa [AV.cells] using h⟩, by simp [Value.cells]⟩
  | _ =>
    obtain ⟨y, vs', rfl, h1, h2⟩ := RepL.cons_inv h
    cases h2.nil_inv
    exact ⟨y, h1, by cases h1 <;> rfl⟩

theorem RepL.split {a c : List AV} {us : List Value} (h : RepL w I α (a ++ c) us) : RepL w I α a (us.take a.length) ∧ RepL w I α c (us.drop a.length) := by
  have hl := h.1
  simp only [List.length_append] at hl
  refine ⟨⟨by simp; omega, fun i x y h1 h2 => ?_⟩, ⟨by simp; omega, fun i x y h1 h2 => ?_⟩⟩
  · have hi : i < a.length := (List.getElem?_eq_some_iff.1 h1).1
    rw [List.getElem?_take_of_lt hi] at h2
    exact h.2 i x y (by rw [List.getElem?_append_left hi]; exact h1) h2
  · rw [List.getElem?_drop] at h2
    exact h.2 _ x y (by rw [List.getElem?_append_right (by omega), Nat.add_sub_cancel_left]; exact h1) h2

theorem rep_fptr_row {cs : List AV} {b base off : Nat} (hI : I b) (hr : Row w I α b base cs) : Rep w I α (.fptr cs off) (.pointer (some ⟨b, base + off, none⟩)) := by
  refine .fptr cs off b base (fun j => (w.cell? ⟨b, base + j, none⟩).getD undef) hI (fun j c h => ?_) (fun j c h => ?_)
  · obtain ⟨y, h1, _⟩ := hr j c h
    rw [h1]; rfl
  · obtain ⟨y, h1, h2⟩ := hr j c h
    rw [h1]; exact h2

/-- Freezing is sound at a depth. -/
def FrOk (w : World) (I I2 : Nat → Prop) (α : Nat → Option Nat) (f : AV → Option AV) : Prop := ∀ v v' val, f v = some v' → Rep w I α v val → Rep w I2 α v' val

theorem FrOk.list {f : AV → Option AV} (ih : FrOk w I I2 α f) {l l' : List AV} {vs : List Value} (h : mapL f l = some l') (hr : RepL w I α l vs) : RepL w I2 α l' vs := by
  obtain ⟨h1, h2⟩ := mapL_get h
  refine ⟨by rw [h1, hr.1], fun i x' y hx hy => ?_⟩
  obtain ⟨x, e1, e2⟩ := h2 i x' hx
  exact ih x x' y e2 (hr.2 i x y e1 hy)

theorem FrOk.row {f : AV → Option AV} (ih : FrOk w I I2 α f) {l l' : List AV} {b base : Nat} (h : mapL f l = some l') (hr : Row w I α b base l) : Row w I2 α b base l' := by
  obtain ⟨h1, h2⟩ := mapL_get h
  intro j x' hx
  obtain ⟨x, e1, e2⟩ := h2 j x' hx
  obtain ⟨y, e3, e4⟩ := hr j x e1
  exact ⟨y, e3, ih x x' y e2 e4⟩

theorem FrOk.flat {f : AV → Option AV} (ih : FrOk w I I2 α f) {sz : Nat} : ∀ {es es' : List AV} {us : List Value}, mapL f es = some es' → (∀ e ∈ es, e.cells.length = sz) → RepL w I α (flat es) us →
    RepL w I2 α (Abs.flat es') us ∧ ∀ e ∈ es', e.cells.length = sz
  | [], es', us, h, _, hr => by
    simp only [mapL, Option.some.injEq] at h; subst h
    have := hr.nil_inv; subst this
    exact ⟨.nil, by simp⟩
  | e :: t, es', us, h, hs, hr => by
    obtain ⟨b, u, h1, h2, rfl⟩ := mapL_cons h
    obtain ⟨r1, r2⟩ := RepL.split (a := e.cells) (c := Abs.flat t) hr
    obtain ⟨val, v1, v2⟩ := rep_elem r1
    have hb := (ih e b val h1 v1).cells
    rw [v2] at hb
    obtain ⟨k1, k2⟩ := FrOk.flat ih h2 (fun x hx => hs x (by simp [hx])) r2
    refine ⟨?_, fun x hx => ?_⟩
    · have := hb.append k1
      rwa [List.take_append_drop] at this
    · rcases List.mem_cons.1 hx with rfl | hx
      · rw [hb.1, ← r1.1]; exact hs e (by simp)
      · exact k2 x hx

theorem flat_len {sz : Nat} : ∀ {es : List AV}, (∀ e ∈ es, e.cells.length = sz) → (flat es).length = es.length * sz
  | [], _ => by simp [flat]
  | e :: t, h => by
    simp only [flat, List.length_append, List.length_cons]
    rw [h e (by simp), flat_len (fun x hx => h x (by simp [hx])), Nat.succ_mul, Nat.add_comm]

/-- The cells of a frozen slice's elements lie in a row. -/
theorem Rep.fsl_flat {full : Bool} {es : List AV} {v : Value} (h : Rep w I α (.fsl full es) v) (hne : es ≠ []) : ∃ b base sz cap, v = .slice (some ⟨b, base, none⟩) es.length cap ∧ es.length ≤ cap ∧ (full = true → cap = es.length) ∧ I b ∧
    (∀ e ∈ es, e.cells.length = sz) ∧ ∃ us : List Value, RepL w I α (flat es) us ∧ ∀ (i : Nat) y, us[i]? = some y → w.cell? ⟨b, base + i, none⟩ = some y := by
  cases h with
  | fsl _ _ a len cap sz b base g hl hc hf ha hI hs hg hr =>
    refine ⟨b, base, sz, cap, by rw [ha, hl], by omega, fun hh => by rw [hf hh, hl], hI hne, hs, (List.range (es.length * sz)).map fun i => (w.cell? ⟨b, base + i, none⟩).getD undef, ⟨by rw [flat_len hs]; simp, fun i x y h1 h2 => ?_⟩, fun i y h1 => ?_⟩
    · obtain ⟨q, e, j, e1, e2, e3⟩ := at_flat hs h1
      rw [List.getElem?_map] at h2
      simp only [Option.map_eq_some_iff] at h2
      obtain ⟨i', h3, h4⟩ := h2
      obtain ⟨h5, h6⟩ := List.getElem?_eq_some_iff.1 h3
      simp at h6; subst h6
      have := hg q e j x e1 e2
      rw [e3] at h4
      rw [Nat.add_assoc] at this
      rw [this] at h4
      simp only [Option.getD_some] at h4
      rw [← h4]
      exact hr q e j x e1 e2
    · rw [List.getElem?_map] at h1
      simp only [Option.map_eq_some_iff] at h1
      obtain ⟨i', h3, h4⟩ := h1
      obtain ⟨h5, h6⟩ := List.getElem?_eq_some_iff.1 h3
      simp at h6 h5; subst h6
      obtain ⟨x, hx⟩ : ∃ x, (flat es)[i]? = some x := by
        have : i < (flat es).length := by rw [flat_len hs]; exact h5
        exact ⟨_, List.getElem?_eq_getElem this⟩
      obtain ⟨q, e, j, e1, e2, e3⟩ := at_flat hs hx
      have := hg q e j x e1 e2
      rw [Nat.add_assoc, ← e3] at this
      rw [this] at h4 ⊢
      simpa using h4
 where
  at_flat {sz : Nat} : ∀ {es : List AV} {i : Nat} {x : AV}, (∀ e ∈ es, e.cells.length = sz) → (flat es)[i]? = some x → ∃ q e j, es[q]? = some e ∧ e.cells[j]? = some x ∧ i = q * sz + j
    | [], i, x, _, h => by simp [flat] at h
    | e :: t, i, x, hs, h => by
      simp only [flat] at h
      by_cases hi : i < e.cells.length
      · rw [List.getElem?_append_left hi] at h
        exact ⟨0, e, i, rfl, h, by simp⟩
      · rw [List.getElem?_append_right (by omega)] at h
        obtain ⟨q, e', j, h1, h2, h3⟩ := at_flat (fun y hy => hs y (by simp [hy])) h
        rw [hs e (by simp)] at h3 hi
        exact ⟨q + 1, e', j, by simpa using h1, h2, by rw [Nat.succ_mul]; omega⟩

/-- The blocks that are let go become blocks that are written no more. -/
def Frozen (I : Nat → Prop) (α : Nat → Option Nat) (H : Heap) (n : Nat) (b : Nat) : Prop := I b ∨ ∃ id, n ≤ id ∧ hget H id ≠ none ∧ α id = some b

theorem row_of_repl {b base : Nat} {cs : List AV} {us : List Value} (h : RepL w I α cs us) (hc : ∀ (i : Nat) y, us[i]? = some y → w.cell? ⟨b, base + i, none⟩ = some y) : Row w I α b base cs := fun j x hx => by
  obtain ⟨y, h1, h2⟩ := h.get hx
  exact ⟨y, hc j y h1, h2⟩

theorem freeze_sound (r : Rel G w I α H) (n : Nat) : ∀ d, FrOk w I (Frozen I α H n) α (freezeA n H d)
  | 0, v, v', val, h, _ => by simp [freezeA] at h
  | d + 1, v, v', val, h, hv => by
    have ih := freeze_sound r n d
    have up : ∀ {v : AV} {val : Value}, Rep w I α v val → Rep w (Frozen I α H n) α v val := fun hv => hv.mono (fun _ h => .inl h) (fun _ _ h => h) (fun _ _ _ => rfl) (fun _ _ _ => rfl)
    cases v with
    | ptr id off =>
      simp only [freezeA] at h
      split at h
      · cases h; exact up hv
      · rename_i hid
        have hid := blt_false hid
        split at h
        · rename_i l hg
          split at h
          · rename_i l' hl
            cases h
            obtain ⟨b, e1, e2, e3⟩ := r.live id _ hg
            cases hv with
            | ptr _ _ b' hb =>
              rw [hb] at e1; cases e1
              have := rep_fptr_row (off := off) (I := Frozen I α H n) (.inr ⟨id, by omega, by rw [hg]; simp, hb⟩) (ih.row hl e3.row)
              rwa [Nat.zero_add] at this
          · simp at h
        · simp at h
    | rsl own id off len sz =>
      simp only [freezeA] at h
      split at h
      · cases h; exact up hv
      · rename_i hid
        have hid := blt_false hid
        split at h
        · rename_i l hg
          split at h
          · rename_i es hes
            split at h
            · rename_i es' hl
              cases h
              obtain ⟨b, e1, e2, e3⟩ := r.live id _ hg
              cases hv with
              | rsl _ _ _ _ _ cap b' hb hcap ho =>
                rw [hb] at e1; cases e1
                obtain ⟨c, ty, f1, f2, f3⟩ := e3
                obtain ⟨g1, g2, rr, g3⟩ := cutElems_eq hes
                have hlen : es'.length = len := by rw [(mapL_get hl).1, g2]
                have hdrop : RepL w I α (l.drop off) ((c.toList.take l.length).drop off) := ⟨by simp only [List.length_drop, ← f3.1], fun i x y h1 h2 => by
                  rw [List.getElem?_drop] at h1 h2
                  exact f3.2 _ x y h1 h2⟩
                rw [g3] at hdrop
                obtain ⟨k1, _⟩ := hdrop.split
                obtain ⟨m1, m2⟩ := ih.flat hl g1 k1
                have hrow : Row w (Frozen I α H n) α b off (flat es') := row_of_repl m1 fun i y hy => by
                  have hi := (List.getElem?_eq_some_iff.1 hy).1
                  simp only [List.length_take] at hi
                  rw [List.getElem?_take_of_lt (by omega), List.getElem?_drop] at hy
                  have hj := (List.getElem?_eq_some_iff.1 hy).1
                  simp only [List.length_take] at hj
                  rw [List.getElem?_take_of_lt (by omega)] at hy
                  simp only [World.cell?, f1]
                  simpa using hy
                have := rep_fsl_row (full := false) (es := es') (b := b) (base := off) (cap := cap) (sz := sz) (I := Frozen I α H n) (.inr ⟨id, by omega, by rw [hg]; simp, hb⟩) m2 (by omega) (by simp) hrow
                rwa [hlen] at this
            · simp at h
          · simp at h
        · simp at h
    | fptr cs off =>
      simp only [freezeA] at h
      split at h
      · rename_i cs' hl
        cases h
        obtain ⟨b, base, rfl, hI, hr⟩ := hv.fptr_row
        exact rep_fptr_row (.inl hI) (ih.row hl hr)
      · simp at h
    | fsl full es =>
      simp only [freezeA] at h
      split at h
      · rename_i es' hl
        cases h
        by_cases hne : es = []
        · subst hne
          simp only [mapL, Option.some.injEq] at hl
          subst hl
          exact up hv
        · obtain ⟨b, base, sz, cap, rfl, h1, h2, h3, h4, us, h5, h6⟩ := hv.fsl_flat hne
          obtain ⟨m1, m2⟩ := ih.flat hl h4 h5
          have hlen := (mapL_get hl).1
          rw [← hlen] at h1 h2 ⊢
          exact rep_fsl_row (I := Frozen I α H n) (.inl h3) m2 h1 h2 (row_of_repl m1 h6)
      · simp at h
    | agg cs =>
      simp only [freezeA] at h
      split at h
      · rename_i cs' hl
        cases h
        obtain ⟨a', rfl, hr⟩ := Rep.agg_iff.1 hv
        exact Rep.agg_iff.2 ⟨a', rfl, ih.list hl hr⟩
      · simp at h
    | tuple cs =>
      simp only [freezeA] at h
      split at h
      · rename_i cs' hl
        cases h
        obtain ⟨a', rfl, hr⟩ := Rep.tuple_iff.1 hv
        exact Rep.tuple_iff.2 ⟨a', rfl, ih.list hl hr⟩
      · simp at h
    | func fn a b =>
      simp only [freezeA] at h
      split at h
      · rename_i a1 b1 ha hb
        cases h
        obtain ⟨a', c', rfl, h1, h2⟩ := Rep.func_iff.1 hv
        exact Rep.func_iff.2 ⟨a', c', rfl, ih.list ha h1, ih.list hb h2⟩
      · simp at h
    | iface t v =>
      simp only [freezeA] at h
      split at h
      · rename_i v1 h1
        cases h
        cases hv with
        | iface _ _ v2 hv2 => exact .iface t v1 v2 (ih v v1 v2 h1 hv2)
      · simp at h
    | map id =>
      simp only [freezeA] at h
      split at h
      · cases h; exact up hv
      · simp at h
    | _ => simp only [freezeA, Option.some.injEq] at h; subst h; exact up hv

/-- Closed values hang on no block of the short heap. -/
theorem rep_closed {α' : Nat → Option Nat} {v : AV} {val : Value} (h : Rep w I α v val) (hc : closedA v = true) : Rep w I α' v val := by
  induction h with
  | bool b => exact .bool b
  | int k n => exact .int k n
  | str s b h => exact .str s b h
  | ptr id off b h => simp [closedA] at hc
  | nilp => exact .nilp
  | fptr cs off b base g hIb hg hr ih =>
    simp only [closedA] at hc
    exact .fptr cs off b base g hIb hg fun j c e => ih j c e (all_get hc e)
  | gptr g off => exact .gptr g off
  | fsl full es a len cap sz b base g hl hcap hf ha hIb hsz hg hr ih =>
    simp only [closedA] at hc
    refine .fsl full es a len cap sz b base g hl hcap hf ha hIb hsz hg fun i e j c h1 h2 => ih i e j c h1 h2 ?_
    exact cells_closed (all_get hc h1) h2
  | rsl own id off len sz cap b h hcap ho => simp [closedA] at hc
  | nilsl => exact .nilsl
  | map id b h => simp [closedA] at hc
  | nilmap => exact .nilmap
  | func fn a c a' c' h1 h2 _ _ ih1 ih2 =>
    simp only [closedA, Bool.and_eq_true] at hc
    exact .func fn a c a' c' h1 h2 (fun i x y e1 e2 => ih1 i x y e1 e2 (all_get hc.1 e1)) (fun i x y e1 e2 => ih2 i x y e1 e2 (all_get hc.2 e1))
  | nilFunc => exact .nilFunc
  | iface t v v' _ ih => exact .iface t v v' (ih (by simpa [closedA] using hc))
  | nilIface => exact .nilIface
  | agg a a' h1 _ ih => exact .agg a a' h1 fun i x y e1 e2 => ih i x y e1 e2 (all_get (by simpa [closedA] using hc) e1)
  | tuple a a' h1 _ ih => exact .tuple a a' h1 fun i x y e1 e2 => ih i x y e1 e2 (all_get (by simpa [closedA] using hc) e1)
 where
  all_get : ∀ {l : List AV} {i : Nat} {x : AV}, closedAll l = true → l[i]? = some x → closedA x = true
    | [], _, _, _, h => by simp at h
    | a :: t, 0, x, hc, h => by
      simp only [closedAll, Bool.and_eq_true] at hc
      simp at h; subst h; exact hc.1
    | a :: t, i + 1, x, hc, h => by
      simp only [closedAll, Bool.and_eq_true] at hc
      exact all_get hc.2 (by simpa using h)
  cells_closed {e : AV} {j : Nat} {c : AV} (hc : closedA e = true) (h : e.cells[j]? = some c) : closedA c = true := by
    cases e with
    | agg cs => exact all_get (l := cs) (by simpa [closedA] using hc) (by simpa [AV.cells] using h)
    | _ => (cases j with
      | zero => simp [AV.cells] at h; subst h; exact hc
      | succ j => simp [AV.cells] at h)

theorem repl_closed {α' : Nat → Option Nat} {l : List AV} {vs : List Value} (h : RepL w I α l vs) (hc : closedAll l = true) : RepL w I α' l vs :=
  ⟨h.1, fun i x y h1 h2 => rep_closed (h.2 i x y h1 h2) (rep_closed.all_get hc h1)⟩

end
end Go.Proofs.Abs
