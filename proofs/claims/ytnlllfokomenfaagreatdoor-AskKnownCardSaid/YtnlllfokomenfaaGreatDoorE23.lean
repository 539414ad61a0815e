/- What a call made becomes part of its answer. -/
import Derived.Test.YtnlllfokomenfaaGreatDoorE22
namespace Go.Proofs.Abs
open Go

theorem mkElem_cells (c : List AV) : (mkElem c).cells = c := by
  unfold mkElem
  split
  · rfl
  · rename_i v hv
    cases v <;> first | rfl | exact absurd rfl (hv _)
  · rfl

theorem cutElems_eq {sz : Nat} : ∀ {n : Nat} {l es : List AV}, cutElems sz n l = some es → (∀ e ∈ es, e.cells.length = sz) ∧ es.length = n ∧ ∃ r, l = flat es ++ r
  | 0, l, es, h => by
    simp only [cutElems, Option.some.injEq] at h; subst h
    exact ⟨by simp, rfl, l, rfl⟩
  | n + 1, l, es, h => by
    simp only [cutElems] at h
    split at h
    · rename_i c hc
      simp only [Option.map_eq_some_iff] at h
      obtain ⟨es', h1, rfl⟩ := h
      obtain ⟨e1, e2, r, e3⟩ := cutElems_eq h1
      obtain ⟨f1, f2, f3⟩ := chunk_eq _ _ _ _ hc
      rw [List.drop_zero] at f1
      refine ⟨fun e he => ?_, by simp [e2], r, ?_⟩
      · rcases List.mem_cons.1 he with rfl | he
        · rw [mkElem_cells]; exact f2
        · exact e1 e he
      · simp only [flat, mkElem_cells]
        rw [List.append_assoc, ← e3, f1, List.take_append_drop]
    · simp at h

theorem mapL_get {f : AV → Option AV} : ∀ {l l' : List AV}, mapL f l = some l' → l'.length = l.length ∧ ∀ (i : Nat) x', l'[i]? = some x' → ∃ x, l[i]? = some x ∧ f x = some x'
  | [], l', h => by
    simp only [mapL, Option.some.injEq] at h; subst h
    exact ⟨rfl, by simp⟩
  | a :: t, l', h => by
    simp only [mapL] at h
    split at h
    · rename_i b hb
      split at h
      · rename_i u hu
        simp only [Option.some.injEq] at h; subst h
        obtain ⟨h1, h2⟩ := mapL_get hu
        refine ⟨by simp [h1], fun i x' hx => ?_⟩
        cases i with
        | zero => simp at hx; subst hx; exact ⟨a, rfl, hb⟩
        | succ i => simpa using h2 i x' (by simpa using hx)
      · simp at h
    · simp at h

theorem mapL_cons {f : AV → Option AV} {a : AV} {t l' : List AV} (h : mapL f (a :: t) = some l') : ∃ b u, f a = some b ∧ mapL f t = some u ∧ l' = b :: u := by
  simp only [mapL] at h
  split at h
  · rename_i b hb
    split at h
    · rename_i u hu
      simp only [Option.some.injEq] at h
      exact ⟨b, u, hb, hu, h.symm⟩
    · simp at h
  · simp at h

section
variable {G : Glob} {w : World} {I I2 : Nat → Prop} {α : Nat → Option Nat} {H : Heap}

theorem rep_elem {e : AV} {vs : List Value} (h : RepL w I α e.cells vs) : ∃ val, Rep w I α e val ∧ val.cells.toList = vs := by
  cases e with
  | agg cs => exact ⟨.agg vs.toArray, Rep.agg_iff.2 ⟨_, rfl, by simpa [AV.cells] using h⟩, by simp [Value.cells]⟩
  | _ =>
    obtain ⟨y, vs', rfl, h1, h2⟩ := RepL.cons_inv h
    cases h2.nil_inv
    exact ⟨y, h1, by cases h1 <;> rfl⟩

theorem RepL.split {a c : List AV} {us : List Value} (h : RepL w I α (a ++ c) us) : RepL w I α a (us.take a.length) ∧ RepL w I α c (us.drop a.length) := by
  have hl := h.1
  simp only [List.length_append] at hl
  refine ⟨⟨by simp; omega, fun i x y h1 h2 => ?_⟩, ⟨by simp; omega, fun i x y h1 h2 => ?_⟩⟩
  · have hi : i < a.length := (List.getElem?_eq_some_iff.1 h1).1
    rw [List.getElem?_take_of_lt hi] at h2
    exact h.2 i x y (by rw [List.getElem?_append_left hi]; exact h1) h2
  · rw [List.getElem?_drop] at h2
    exact h.2 _ x y (by rw [List.getElem?_append_right (by omega), Nat.add_sub_cancel_left]; exact h1) h2

theorem rep_fptr_row {cs : List AV} {b base off : Nat} (hI : I b) (hr : Row w I α b base cs) : Rep w I α (.fptr cs off) (.pointer (some ⟨b, base + off, none⟩)) := by
  refine .fptr cs off b base (fun j => (w.cell? ⟨b, base + j, none⟩).getD undef) hI (fun j c h => ?_) (fun j c h => ?_)
  · obtain ⟨y, h1, _⟩ := hr j c h
    rw [h1]; rfl
  · obtain ⟨y, h1, h2⟩ := hr j c h
    rw [h1]; exact h2

/-- Freezing is sound at a depth. -/
def FrOk (w : World) (I I2 : Nat → Prop) (α : Nat → Option Nat) (f : AV → Option AV) : Prop := ∀ v v' val, f v = some v' → Rep w I α v val → Rep w I2 α v' val

theorem FrOk.list {f : AV → Option AV} (ih : FrOk w I I2 α f) {l l' : List AV} {vs : List Value} (h : mapL f l = some l') (hr : RepL w I α l vs) : RepL w I2 α l' vs := by
  obtain ⟨h1, h2⟩ := mapL_get h
  refine ⟨by rw [h1, hr.1], fun i x' y hx hy => ?_⟩
  obtain ⟨x, e1, e2⟩ := h2 i x' hx
  exact ih x x' y e2 (hr.2 i x y e1 hy)

theorem FrOk.row {f : AV → Option AV} (ih : FrOk w I I2 α f) {l l' : List AV} {b base : Nat} (h : mapL f l = some l') (hr : Row w I α b base l) : Row w I2 α b base l' := by
  obtain ⟨h1, h2⟩ := mapL_get h
  intro j x' hx
  obtain ⟨x, e1, e2⟩ := h2 j x' hx
  obtain ⟨y, e3, e4⟩ := hr j x e1
  exact ⟨y, e3, ih x x' y e2 e4⟩

theorem FrOk.flat {f : AV → Option AV} (ih : FrOk w I I2 α f) {sz : Nat} : ∀ {es es' : List AV} {us : List Value}, mapL f es = some es' → (∀ e ∈ es, e.cells.length = sz) → RepL w I α (flat es) us →
    RepL w I2 α (Abs.flat es') us ∧ ∀ e ∈ es', e.cells.length = sz
  | [], es', us, h, _, hr => by
    simp only [mapL, Option.some.injEq] at h; subst h
    have := hr.nil_inv; subst this
    exact ⟨.nil, by simp⟩
  | e :: t, es', us, h, hs, hr => by
    obtain ⟨b, u, h1, h2, rfl⟩ := mapL_cons h
    obtain ⟨r1, r2⟩ := RepL.split (a := e.cells) (c := Abs.flat t) hr
    obtain ⟨val, v1, v2⟩ := rep_elem r1
    have hb := (ih e b val h1 v1).cells
    rw [v2] at hb
    obtain ⟨k1, k2⟩ := FrOk.flat ih h2 (fun x hx => hs x (by simp [hx])) r2
    refine ⟨?_, fun x hx => ?_⟩
    · have := hb.append k1
      rwa [List.take_append_drop] at this
    · rcases List.mem_cons.1 hx with rfl | hx
      · rw [hb.1, ← r1.1]; exact hs e (by simp)
      · exact k2 x hx

theorem flat_len {sz : Nat} : ∀ {es : List AV}, (∀ e ∈ es, e.cells.length = sz) → (flat es).length = es.length * sz
  | [], _ => by simp [flat]
  | e :: t, h => by
    simp only [flat, List.length_append, List.length_cons]
    rw [h e (by simp), flat_len (fun x hx => h x (by simp [hx])), Nat.succ_mul, Nat.add_comm]

/-- The cells of a frozen slice's elements lie in a row. -/
theorem Rep.fsl_flat {full : Bool} {es : List AV} {v : Value} (h : Rep w I α (.fsl full es) v) (hne : es ≠ []) : ∃ b base sz cap, v = .slice (some ⟨b, base, none⟩) es.length cap ∧ es.length ≤ cap ∧ (full = true → cap = es.length) ∧ I b ∧
    (∀ e ∈ es, e.cells.length = sz) ∧ ∃ us : List Value, RepL w I α (flat es) us ∧ ∀ (i : Nat) y, us[i]? = some y → w.cell? ⟨b, base + i, none⟩ = some y := by
  cases h with
  | fsl _ _ a len cap sz b base g hl hc hf ha hI hs hg hr =>
    refine ⟨b, base, sz, cap, by rw [ha, hl], by omega, fun hh => by rw [hf hh, hl], hI hne, hs, (List.range (es.length * sz)).map fun i => (w.cell? ⟨b, base + i, none⟩).getD undef, ⟨by rw [flat_len hs]; simp, fun i x y h1 h2 => ?_⟩, fun i y h1 => ?_⟩
    · obtain ⟨q, e, j, e1, e2, e3⟩ := at_flat hs h1
      rw [List.getElem?_map] at h2
      simp only [Option.map_eq_some_iff] at h2
      obtain ⟨i', h3, h4⟩ := h2
      obtain ⟨h5, h6⟩ := List.getElem?_eq_some_iff.1 h3
      simp at h6; subst h6
      have := hg q e j x e1 e2
      rw [e3] at h4
      rw [Nat.add_assoc] at this
      rw [this] at h4
      simp only [Option.getD_some] at h4
      rw [← h4]
      exact hr q e j x e1 e2
    · rw [List.getElem?_map] at h1
      simp only [Option.map_eq_some_iff] at h1
      obtain ⟨i', h3, h4⟩ := h1
      obtain ⟨h5, h6⟩ := List.getElem?_eq_some_iff.1 h3
      simp at h6 h5; subst h6
      obtain ⟨x, hx⟩ : ∃ x, (flat es)[i]? = some x := by
        have : i < (flat es).length := by rw [flat_len hs]; exact h5
        exact ⟨_, List.getElem?_eq_getElem this⟩
      obtain ⟨q, e, j, e1, e2, e3⟩ := at_flat hs hx
      have := hg q e j x e1 e2
      rw [Nat.add_assoc, ← e3] at this
      rw [this] at h4 ⊢
      simpa using h4
 where
  at_flat {sz : Nat} : ∀ {es : List AV} {i : Nat} {x : AV}, (∀ e ∈ es, e.cells.length = sz) → (flat es)[i]? = some x → ∃ q e j, es[q]? = some e ∧ e.cells[j]? = some x ∧ i = q * sz + j
    | [], i, x, _, h => by simp [flat] at h
    | e :: t, i, x, hs, h => by
      simp only [flat] at h
      by_cases hi : i < e.cells.length
      · rw [List.getElem?_append_left hi] at h
        exact ⟨0, e, i, rfl, h, by simp⟩
      · rw [List.getElem?_append_right (by omega)] at h
        obtain ⟨q, e', j, h1, h2, h3⟩ := at_flat (fun y hy => hs y (by simp [hy])) h
        rw [hs e (by simp)] at h3 hi
        exact ⟨q + 1, e', j, by simpa using h1, h2, by rw [Nat.succ_mul]; omega⟩

/-- The blocks that are let go become blocks that are written no more. -/
def Frozen (I : Nat → Prop) (α : Nat → Option Nat) (H : Heap) (n : Nat) (b : Nat) : Prop := I b ∨ ∃ id, n ≤ id ∧ hget H id ≠ none ∧ α id = some b

theorem row_of_repl {b base : Nat} {cs : List AV} {us : List Value} (h : RepL w I α cs us) (hc : ∀ (i : Nat) y, us[i]? = some y → w.cell? ⟨b, base + i, none⟩ = some y) : Row w I α b base cs := fun j x hx => by
  obtain ⟨y, h1, h2⟩ := h.get hx
  exact ⟨y, hc j y h1, h2⟩

theorem freeze_sound (r : Rel G w I α H) (n : Nat) : ∀ d, FrOk w I (Frozen I α H n) α (freezeA n H d)
  | 0, v, v', val, h, _ => by simp [freezeA] at h
  | d + 1, v, v', val, h, hv => by
    have ih := freeze_sound r n d
    have up : ∀ {v : AV} {val : Value}, Rep w I α v val → Rep w (Frozen I α H n) α v val := fun hv => hv.mono (fun _ h => .inl h) (fun _ _ h => h) (fun _ _ _ => rfl) (fun _ _ _ => rfl)
    cases v with
    | ptr id off =>
      simp only [freezeA] at h
      split at h
      · cases h; exact up hv
      · rename_i hid
        have hid := blt_false hid
        split at h
        · rename_i l hg
          split at h
          · rename_i l' hl
            cases h
            obtain ⟨b, e1, e2, e3⟩ := r.live id _ hg
            cases hv with
            | ptr _ _ b' hb =>
              rw [hb] at e1; cases e1
              have := rep_fptr_row (off := off) (I := Frozen I α H n) (.inr ⟨id, by omega, by rw [hg]; simp, hb⟩) (ih.row hl e3.row)
              rwa [Nat.zero_add] at this
          · simp at h
        · simp at h
    | rsl own id off len sz =>
      simp only [freezeA] at h
      split at h
      · cases h; exact up hv
      · rename_i hid
        have hid := blt_false hid
        split at h
        · rename_i l hg
          split at h
          · rename_i es hes
            split at h
            · rename_i es' hl
              cases h
              obtain ⟨b, e1, e2, e3⟩ := r.live id _ hg
              cases hv with
              | rsl _ _ _ _ _ cap b' hb hcap ho =>
                rw [hb] at e1; cases e1
                obtain ⟨c, ty, f1, f2, f3⟩ := e3
                obtain ⟨g1, g2, rr, g3⟩ := cutElems_eq hes
                have hlen : es'.length = len := by rw [(mapL_get hl).1, g2]
                have hdrop : RepL w I α (l.drop off) ((c.toList.take l.length).drop off) := ⟨by simp only [List.length_drop, ← f3.1], fun i x y h1 h2 => by
                  rw [List.getElem?_drop] at h1 h2
                  exact f3.2 _ x y h1 h2⟩
                rw [g3] at hdrop
                obtain ⟨k1, _⟩ := hdrop.split
                obtain ⟨m1, m2⟩ := ih.flat hl g1 k1
                have hrow : Row w (Frozen I α H n) α b off (flat es') := row_of_repl m1 fun i y hy => by
                  have hi := (List.getElem?_eq_some_iff.1 hy).1
                  simp only [List.length_take] at hi
                  rw [List.getElem?_take_of_lt (by omega), List.getElem?_drop] at hy
                  have hj := (List.getElem?_eq_some_iff.1 hy).1
                  simp only [List.length_take] at hj
                  rw [List.getElem?_take_of_lt (by omega)] at hy
                  simp only [World.cell?, f1]
                  simpa using hy
                have := rep_fsl_row (full := false) (es := es') (b := b) (base := off) (cap := cap) (sz := sz) (I := Frozen I α H n) (.inr ⟨id, by omega, by rw [hg]; simp, hb⟩) m2 (by omega) (by simp) hrow
                rwa [hlen] at this
            · simp at h
          · simp at h
        · simp at h
    | fptr cs off =>
      simp only [freezeA] at h
      split at h
      · rename_i cs' hl
        cases h
        obtain ⟨b, base, rfl, hI, hr⟩ := hv.fptr_row
        exact rep_fptr_row (.inl hI) (ih.row hl hr)
      · simp at h
    | fsl full es =>
      simp only [freezeA] at h
      split at h
      · rename_i es' hl
        cases h
        by_cases hne : es = []
        · subst hne
          simp only [mapL, Option.some.injEq] at hl
          subst hl
          exact up hv
        · obtain ⟨b, base, sz, cap, rfl, h1, h2, h3, h4, us, h5, h6⟩ := hv.fsl_flat hne
          obtain ⟨m1, m2⟩ := ih.flat hl h4 h5
          have hlen := (mapL_get hl).1
          rw [← hlen] at h1 h2 ⊢
          exact rep_fsl_row (I := Frozen I α H n) (.inl h3) m2 h1 h2 (row_of_repl m1 h6)
      · simp at h
    | agg cs =>
      simp only [freezeA] at h
      split at h
      · rename_i cs' hl
        cases h
        obtain ⟨a', rfl, hr⟩ := Rep.agg_iff.1 hv
        exact Rep.agg_iff.2 ⟨a', rfl, ih.list hl hr⟩
      · simp at h
    | tuple cs =>
      simp only [freezeA] at h
      split at h
      · rename_i cs' hl
        cases h
        obtain ⟨a', rfl, hr⟩ := Rep.tuple_iff.1 hv
        exact Rep.tuple_iff.2 ⟨a', rfl, ih.list hl hr⟩
      · simp at h
    | func fn a b =>
      simp only [freezeA] at h
      split at h
      · rename_i a1 b1 ha hb
        cases h
        obtain ⟨a', c', rfl, h1, h2⟩ := Rep.func_iff.1 hv
        exact Rep.func_iff.2 ⟨a', c', rfl, ih.list ha h1, ih.list hb h2⟩
      · simp at h
    | iface t v =>
      simp only [freezeA] at h
      split at h
      · rename_i v1 h1
        cases h
        cases hv with
        | iface _ _ v2 hv2 => exact .iface t v1 v2 (ih v v1 v2 h1 hv2)
      · simp at h
    | map id =>
      simp only [freezeA] at h
      split at h
      · cases h; exact up hv
      · simp at h
    | _ => simp only [freezeA, Option.some.injEq] at h; subst h; exact up hv

/-- Closed values hang on no block of the short heap. -/
theorem rep_closed {α' : Nat → Option Nat} {v : AV} {val : Value} (h : Rep w I α v val) (hc : closedA v = true) : Rep w I α' v val := by
  induction h with
  | bool b => exact .bool b
  | int k n => exact .int k n
  | str s b h => exact .str s b h
  | ptr id off b h => simp [closedA] at hc
  | nilp => exact .nilp
  | fptr cs off b base g hIb hg hr ih =>
    simp only [closedA] at hc
    exact .fptr cs off b base g hIb hg fun j c e => ih j c e (all_get hc e)
  | gptr g off => exact .gptr g off
  | fsl full es a len cap sz b base g hl hcap hf ha hIb hsz hg hr ih =>
    simp only [closedA] at hc
    refine .fsl full es a len cap sz b base g hl hcap hf ha hIb hsz hg fun i e j c h1 h2 => ih i e j c h1 h2 ?_
    exact cells_closed (all_get hc h1) h2
  | rsl own id off len sz cap b h hcap ho => simp [closedA] at hc
  | nilsl => exact .nilsl
  | map id b h => simp [closedA] at hc
  | nilmap => exact .nilmap
  | func fn a c a' c' h1 h2 _ _ ih1 ih2 =>
    simp only [closedA, Bool.and_eq_true] at hc
    exact .func fn a c a' c' h1 h2 (fun i x y e1 e2 => ih1 i x y e1 e2 (all_get hc.1 e1)) (fun i x y e1 e2 => ih2 i x y e1 e2 (all_get hc.2 e1))
  | nilFunc => exact .nilFunc
  | iface t v v' _ ih => exact .iface t v v' (ih (by simpa [closedA] using hc))
  | nilIface => exact .nilIface
  | agg a a' h1 _ ih => exact .agg a a' h1 fun i x y e1 e2 => ih i x y e1 e2 (all_get (by simpa [closedA] using hc) e1)
  | tuple a a' h1 _ ih => exact .tuple a a' h1 fun i x y e1 e2 => ih i x y e1 e2 (all_get (by simpa [closedA] using hc) e1)
 where
  all_get : ∀ {l : List AV} {i : Nat} {x : AV}, closedAll l = true → l[i]? = some x → closedA x = true
    | [], _, _, _, h => by simp at h
    | a :: t, 0, x, hc, h => by
      simp only [closedAll, Bool.and_eq_true] at hc
      simp at h; subst h; exact hc.1
    | a :: t, i + 1, x, hc, h => by
      simp only [closedAll, Bool.and_eq_true] at hc
      exact all_get hc.2 (by simpa using h)
  cells_closed {e : AV} {j : Nat} {c : AV} (hc : closedA e = true) (h : e.cells[j]? = some c) : closedA c = true := by
    cases e with
    | agg cs => exact all_get (l := cs) (by simpa [closedA] using hc) (by simpa [AV.cells] using h)
    | _ => (cases j with
      | zero => simp [AV.cells] at h; subst h; exact hc
      | succ j => simp [AV.cells] at h)

theorem repl_closed {α' : Nat → Option Nat} {l : List AV} {vs : List Value} (h : RepL w I α l vs) (hc : closedAll l = true) : RepL w I α' l vs :=
  ⟨h.1, fun i x y h1 h2 => rep_closed (h.2 i x y h1 h2) (rep_closed.all_get hc h1)⟩

end
/-! ### Calls that see but a part of the heap -/

/-- Values that name but blocks below a number hang on these alone. -/
theorem rep_low {w : World} {I : Nat → Prop} {α α2 : Nat → Option Nat} {n : Nat} (hα : ∀ id b, id < n → α id = some b → α2 id = some b) {v : AV} {val : Value} (h : Rep w I α v val) (hc : lowA n v = true) : Rep w I α2 v val := by
  induction h with
  | bool b => exact .bool b
  | int k n => exact .int k n
  | str s b h => exact .str s b h
  | ptr id off b h => exact .ptr id off b (hα _ _ (blt_iff.1 (by simpa only [lowA] using hc)) h)
  | nilp => exact .nilp
  | fptr cs off b base g hIb hg hr ih =>
    simp only [lowA] at hc
    exact .fptr cs off b base g hIb hg fun j c e => ih j c e (all_get hc e)
  | gptr g off => exact .gptr g off
  | fsl full es a len cap sz b base g hl hcap hf ha hIb hsz hg hr ih =>
    simp only [lowA] at hc
    refine .fsl full es a len cap sz b base g hl hcap hf ha hIb hsz hg fun i e j c h1 h2 => ih i e j c h1 h2 ?_
    exact cells_low (all_get hc h1) h2
  | rsl own id off len sz cap b h hcap ho => exact .rsl own id off len sz cap b (hα _ _ (blt_iff.1 (by simpa only [lowA] using hc)) h) hcap ho
  | nilsl => exact .nilsl
  | map id b h => exact .map id b (hα _ _ (blt_iff.1 (by simpa only [lowA] using hc)) h)
  | nilmap => exact .nilmap
  | func fn a c a' c' h1 h2 _ _ ih1 ih2 =>
    simp only [lowA, Bool.and_eq_true] at hc
    exact .func fn a c a' c' h1 h2 (fun i x y e1 e2 => ih1 i x y e1 e2 (all_get hc.1 e1)) (fun i x y e1 e2 => ih2 i x y e1 e2 (all_get hc.2 e1))
  | nilFunc => exact .nilFunc
  | iface t v v' _ ih => exact .iface t v v' (ih (by simpa only [lowA] using hc))
  | nilIface => exact .nilIface
  | agg a a' h1 _ ih => exact .agg a a' h1 fun i x y e1 e2 => ih i x y e1 e2 (all_get (by simpa only [lowA] using hc) e1)
  | tuple a a' h1 _ ih => exact .tuple a a' h1 fun i x y e1 e2 => ih i x y e1 e2 (all_get (by simpa only [lowA] using hc) e1)
 where
  all_get : ∀ {l : List AV} {i : Nat} {x : AV}, lowAll n l = true → l[i]? = some x → lowA n x = true
    | [], _, _, _, h => by simp at h
    | a :: t, 0, x, hc, h => by
      simp only [lowAll, Bool.and_eq_true] at hc
      simp at h; subst h; exact hc.1
    | a :: t, i + 1, x, hc, h => by
      simp only [lowAll, Bool.and_eq_true] at hc
      exact all_get hc.2 (by simpa using h)
  cells_low {e : AV} {j : Nat} {c : AV} (hc : lowA n e = true) (h : e.cells[j]? = some c) : lowA n c = true := by
    cases e with
    | agg cs => exact all_get (l := cs) (by simpa only [lowA] using hc) (by simpa [AV.cells] using h)
    | _ => (cases j with
      | zero => simp [AV.cells] at h; subst h; exact hc
      | succ j => simp [AV.cells] at h)

mutual
theorem sameA_eq : ∀ (a b : AV), sameA a b = true → a = b := fun a b h => by
  unfold sameA at h
  split at h
  · rename_i a b; cases a <;> cases b <;> simp_all
  · simp only [Bool.and_eq_true, decide_eq_true_eq] at h
    obtain ⟨rfl, h⟩ := h
    rw [beqInt_eq] at h
    simp only [beq_iff_eq] at h
    subst h; rfl
  · rw [beqBytes_eq] at h
    simp only [beq_iff_eq] at h
    subst h; rfl
  · simp only [Bool.and_eq_true] at h
    rw [beq_iff.1 h.1, beq_iff.1 h.2]
  · rfl
  · simp only [Bool.and_eq_true] at h
    rw [beq_iff.1 h.1, sameL_eq _ _ h.2]
  · rename_i f a g b
    simp only [Bool.and_eq_true] at h
    rw [sameL_eq _ _ h.2]
    cases f <;> cases g <;> simp_all
  · rename_i f i o l z g j p m y
    simp only [Bool.and_eq_true] at h
    obtain ⟨h1, h2, h3, h4, h5⟩ := h
    rw [beq_iff.1 h2, beq_iff.1 h3, beq_iff.1 h4, beq_iff.1 h5]
    cases f <;> cases g <;> simp_all
  · rfl
  · rw [beq_iff.1 h]
  · rfl
  · simp only [Bool.and_eq_true] at h
    rw [beq_iff.1 h.1, sameL_eq _ _ h.2.1, sameL_eq _ _ h.2.2]
  · rfl
  · simp only [Bool.and_eq_true] at h
    rw [beq_iff.1 h.1, sameA_eq _ _ h.2]
  · rfl
  · rw [sameL_eq _ _ h]
  · rw [sameL_eq _ _ h]
  · cases h
theorem sameL_eq : ∀ (a b : List AV), sameL a b = true → a = b
  | [], [], _ => rfl
  | a :: t, b :: u, h => by
    simp only [sameL, Bool.and_eq_true] at h
    rw [sameA_eq a b h.1, sameL_eq t u h.2]
  | [], _ :: _, h => by simp [sameL] at h
  | _ :: _, [], h => by simp [sameL] at h
end

theorem sameP_eq : ∀ (a b : List (AV × AV)), sameP a b = true → a = b
  | [], [], _ => rfl
  | (a, a') :: t, (b, b') :: u, h => by
    simp only [sameP, Bool.and_eq_true] at h
    rw [sameA_eq a b h.1, sameA_eq a' b' h.2.1, sameP_eq t u h.2.2]
  | [], _ :: _, h => by simp [sameP] at h
  | _ :: _, [], h => by simp [sameP] at h
theorem sameN_eq : ∀ (a b : List Nat), sameN a b = true → a = b
  | [], [], _ => rfl
  | a :: t, b :: u, h => by
    simp only [sameN, Bool.and_eq_true] at h
    rw [beq_iff.1 h.1, sameN_eq t u h.2]
  | [], _ :: _, h => by simp [sameN] at h
  | _ :: _, [], h => by simp [sameN] at h
theorem sameB_eq {a b : Blk} (h : sameB a b = true) : a = b := by
  unfold sameB at h
  split at h
  · rw [sameL_eq _ _ h]
  · simp only [Bool.and_eq_true] at h
    rw [beq_iff.1 h.1, sameN_eq _ _ h.2.1, sameP_eq _ _ h.2.2]
  · cases h

theorem cutH_get (h : Heap) : ∀ (L : List Nat) (k : Nat), hget (cutH h L) k = if k ∈ L then hget h k else none
  | [], k => by simp [cutH, hget]
  | i :: t, k => by
    simp only [cutH]
    by_cases e : k = i
    · subst e; rw [hget_hset_self]; simp
    · rw [hget_hset_ne _ _ e, cutH_get h t k]; simp [e]

theorem cut_some {h : Heap} {L : List Nat} {k : Nat} {b : Blk} (hk : hget (cutH h L) k = some b) : k ∈ L ∧ hget h k = some b := by
  rw [cutH_get] at hk
  split at hk
  · exact ⟨by assumption, hk⟩
  · cases hk
theorem cut_ne {h : Heap} {L : List Nat} {k : Nat} (hk : hget (cutH h L) k ≠ none) : k ∈ L ∧ hget h k ≠ none := by
  rw [cutH_get] at hk
  split at hk
  · exact ⟨by assumption, hk⟩
  · exact absurd rfl hk

section
variable {G : Glob} {w w' : World} {I I' : Nat → Prop} {α α' : Nat → Option Nat} {H H1 Hd : Heap} {L : List Nat} {nx : Nat}

theorem rel_cut (r : Rel G w I α H) (L : List Nat) : Rel G w I α (cutH H L) where
  live id blk h := r.live id blk (cut_some h).2
  inj id id' b h1 h2 := r.inj id id' b (cut_ne h1).2 (cut_ne h2).2
  imm := r.imm
  dom := r.dom
  glob := r.glob

theorem own_cut {b : Nat} (h : Owned α (cutH H L) b) : ∃ id ∈ L, hget H id ≠ none ∧ α id = some b := by
  obtain ⟨id, h1, h2⟩ := h
  exact ⟨id, (cut_ne h1).1, (cut_ne h1).2, h2⟩

/-- What a block has become. -/
def NB (n : Nat) (h1 : Heap) (i : Nat) (o : Option Blk) : Prop := i < n ∧ match hget h1 i with
  | none => o = none
  | some b => ∃ b', freezeB n h1 b = some b' ∧ lowB n b' = true ∧ o = some b'

theorem mem_keysM : ∀ {m : Mods} {p : Nat × Option Blk}, p ∈ m → p.1 ∈ m.keys
  | [], _, h => by cases h
  | (k, b) :: t, p, h => by
    rcases List.mem_cons.1 h with rfl | h
    · simp [Mods.keys]
    · simp [Mods.keys, mem_keysM h]
theorem keys_memM : ∀ {m : Mods} {k : Nat}, k ∈ m.keys → ∃ p ∈ m, p.1 = k
  | [], _, h => by cases h
  | (j, b) :: t, k, h => by
    simp only [Mods.keys, List.mem_cons] at h
    rcases h with rfl | h
    · exact ⟨(k, b), by simp, rfl⟩
    · obtain ⟨p, h1, h2⟩ := keys_memM h
      exact ⟨p, by simp [h1], h2⟩
theorem app_getM : ∀ (m : Mods) (h : Heap) (k : Nat), (k ∈ m.keys → ∃ p ∈ m, p.1 = k ∧ hget (Mods.app m h) k = p.2) ∧ (k ∉ m.keys → hget (Mods.app m h) k = hget h k)
  | [], _, _ => ⟨fun h => (by cases h), fun _ => rfl⟩
  | (j, b) :: t, h, k => by
    obtain ⟨i1, i2⟩ := app_getM t (hset h j b) k
    simp only [Mods.app, Mods.keys, List.mem_cons]
    refine ⟨fun hk => ?_, fun hk => ?_⟩
    · by_cases ht : k ∈ Mods.keys t
      · obtain ⟨p, h1, h2, h3⟩ := i1 ht
        exact ⟨p, .inr h1, h2, h3⟩
      · have e : k = j := hk.resolve_right ht
        subst e
        exact ⟨(k, b), .inl rfl, rfl, by rw [i2 ht, hget_hset_self]⟩
    · rw [i2 (fun h => hk (.inr h)), hget_hset_ne _ _ (fun e => hk (.inl e))]

theorem lookMods_spec {n : Nat} {h1 h : Heap} : ∀ {L : List Nat} {m : Mods}, lookMods n h1 h L = some m → (∀ p ∈ m, p.1 ∈ L ∧ NB n h1 p.1 p.2) ∧ ∀ i ∈ L, i ∈ m.keys ∨ NB n h1 i (hget h i)
  | [], m, hm => by
    simp only [lookMods, Option.some.injEq] at hm; subst hm
    exact ⟨by simp, by simp⟩
  | i :: t, m, hm => by
    simp only [lookMods] at hm
    split at hm
    · simp at hm
    · rename_i hlt
      have hlt := blt_iff.1 hlt
      split at hm
      · rename_i m' hm'
        obtain ⟨a1, a2⟩ := lookMods_spec hm'
        have up : ∀ p ∈ m', p.1 ∈ i :: t ∧ NB n h1 p.1 p.2 := fun p hp => ⟨by simp [(a1 p hp).1], (a1 p hp).2⟩
        have keep : NB n h1 i (hget h i) → (∀ p ∈ m', p.1 ∈ i :: t ∧ NB n h1 p.1 p.2) ∧ ∀ j ∈ i :: t, j ∈ m'.keys ∨ NB n h1 j (hget h j) := fun hi => ⟨up, fun j hj => by
          rcases List.mem_cons.1 hj with rfl | hj
          · exact .inr hi
          · exact a2 j hj⟩
        have put : ∀ o, NB n h1 i o → (∀ p ∈ (i, o) :: m', p.1 ∈ i :: t ∧ NB n h1 p.1 p.2) ∧ ∀ j ∈ i :: t, j ∈ Mods.keys ((i, o) :: m') ∨ NB n h1 j (hget h j) := fun o hi => ⟨fun p hp => by
          rcases List.mem_cons.1 hp with rfl | hp
          · exact ⟨by simp, hi⟩
          · exact up p hp, fun j hj => by
          rcases List.mem_cons.1 hj with rfl | hj
          · exact .inl (by simp [Mods.keys])
          · exact (a2 j hj).imp (fun h => by simp [Mods.keys, h]) id⟩
        split at hm
        · rename_i e1 e2
          simp only [Option.some.injEq] at hm; subst hm
          exact keep ⟨hlt, by rw [e1]; exact e2⟩
        · rename_i e1 e2
          simp only [Option.some.injEq] at hm; subst hm
          exact put none ⟨hlt, by rw [e1]⟩
        · rename_i b e1
          split at hm
          · rename_i b' hb'
            split at hm
            · rename_i hlow
              split at hm
              · rename_i hs
                simp only [Option.some.injEq] at hm; subst hm
                refine keep ⟨hlt, ?_⟩
                rw [e1]
                split at hs
                · rename_i c hc
                  exact ⟨b', hb', hlow, by rw [hc, sameB_eq hs]⟩
                · cases hs
              · simp only [Option.some.injEq] at hm; subst hm
                exact put (some b') ⟨hlt, by rw [e1]; exact ⟨b', hb', hlow, rfl⟩⟩
            · simp at hm
          · simp at hm
      · simp at hm

theorem mods_get {n : Nat} {h1 h : Heap} {m : Mods} (hm : lookMods n h1 h L = some m) : (∀ i ∈ L, NB n h1 i (hget (Mods.app m h) i)) ∧ ∀ i, i ∉ L → hget (Mods.app m h) i = hget h i := by
  obtain ⟨a1, a2⟩ := lookMods_spec hm
  refine ⟨fun i hi => ?_, fun i hi => (app_getM m h i).2 fun hk => ?_⟩
  · by_cases hk : i ∈ m.keys
    · obtain ⟨p, h2, rfl, h4⟩ := (app_getM m h i).1 hk
      rw [h4]; exact (a1 p h2).2
    · rw [(app_getM m h i).2 hk]
      exact (a2 i hi).resolve_left hk
  · obtain ⟨p, h2, rfl⟩ := keys_memM hk
    exact hi (a1 p h2).1

theorem mapP_rep {f : AV → Option AV} {I2 : Nat → Prop} (hf : FrOk w I I2 α f) : ∀ {es es' : List (AV × AV)}, mapP f es = some es' → es'.length = es.length ∧ ∀ (i : Nat) x', es'[i]? = some x' → ∃ x, es[i]? = some x ∧ (∀ y, Rep w I α x.1 y → Rep w I2 α x'.1 y) ∧ ∀ y, Rep w I α x.2 y → Rep w I2 α x'.2 y
  | [], es', h => by
    simp only [mapP, Option.some.injEq] at h; subst h
    exact ⟨rfl, by simp⟩
  | (a, b) :: t, es', h => by
    simp only [mapP] at h
    split at h
    · rename_i a' ha
      split at h
      · rename_i b' hb
        split at h
        · rename_i u hu
          simp only [Option.some.injEq] at h; subst h
          obtain ⟨h1, h2⟩ := mapP_rep hf hu
          refine ⟨by simp [h1], fun i x' hx => ?_⟩
          cases i with
          | zero => simp at hx; subst hx; exact ⟨(a, b), rfl, fun y hy => hf _ _ _ ha hy, fun y hy => hf _ _ _ hb hy⟩
          | succ i => simpa using h2 i x' (by simpa using hx)
        · simp at h
      · simp at h
    · simp at h

theorem lowP_get {n : Nat} : ∀ {es : List (AV × AV)} {i : Nat} {x : AV × AV}, lowP n es = true → es[i]? = some x → lowA n x.1 = true ∧ lowA n x.2 = true
  | [], _, _, _, h => by simp at h
  | (a, b) :: t, 0, x, hc, h => by
    simp only [lowP, Bool.and_eq_true] at hc
    simp at h; subst h; exact ⟨hc.1, hc.2.1⟩
  | (a, b) :: t, i + 1, x, hc, h => by
    simp only [lowP, Bool.and_eq_true] at hc
    exact lowP_get hc.2.2 (by simpa using h)

/-- A block, what was made become part of it, stands for what it stood for. -/
theorem freezeB_rep {n : Nat} {b : Nat} {b0 b1 : Blk} (rd : Rel G w' I' α' Hd) (hf : freezeB n Hd b0 = some b1) (hl : lowB n b1 = true) (hα : ∀ id c, id < n → α' id = some c → α id = some c) (h : BRel w' I' α' b b0) :
    BRel w' (Frozen I' α' Hd n) α b b1 := by
  have fr := freeze_sound rd n 40
  cases b0 with
  | cells l =>
    simp only [freezeB] at hf
    split at hf
    · rename_i l' hl'
      simp only [Option.some.injEq] at hf; subst hf
      obtain ⟨c, e, h1, h2, h3⟩ := h
      have hlen := (mapL_get hl').1
      have h4 := fr.list hl' h3
      refine ⟨c, e, h1, by rw [hlen]; exact h2, ?_⟩
      rw [hlen]
      exact ⟨h4.1, fun i x y e1 e2 => rep_low hα (h4.2 i x y e1 e2) (rep_low.all_get hl e1)⟩
    · simp at hf
  | siter s p =>
    simp only [freezeB, Option.some.injEq] at hf; subst hf
    exact h
  | mapb cl st es =>
    simp only [freezeB] at hf
    split at hf
    · rename_i es' hes
      simp only [Option.some.injEq] at hf; subst hf
      obtain ⟨en, h1, h2, h4, h3⟩ := h
      obtain ⟨k1, k2⟩ := mapP_rep fr hes
      refine ⟨en, h1, by rw [k1]; exact h2, h4, fun i x' y e1 e2 => ?_⟩
      obtain ⟨x, g1, g2, g3⟩ := k2 i x' e1
      obtain ⟨q1, q2⟩ := h3 i x y g1 e2
      obtain ⟨l1, l2⟩ := lowP_get hl e1
      exact ⟨rep_low hα (g2 _ q1) l1, rep_low hα (g3 _ q2) l2⟩
    · simp at hf
  | miter m since seen last =>
    simp only [freezeB, Option.some.injEq] at hf; subst hf
    obtain ⟨mb, h1, h2⟩ := h
    exact ⟨mb, hα _ _ (blt_iff.1 (by simpa only [lowB] using hl)) h1, h2⟩

/-- What a call that saw but a part of the heap means for the caller. -/
theorem look_core {m : Mods} (r : Rel G w I α H) (ev : Ev w I α (cutH H L) w' I' α' H1) (rd : Rel G w' I' α' Hd) (hsub : ∀ id, hget Hd id ≠ none → hget H1 id ≠ none) (hn : ∀ id, α' id ≠ none → α id ≠ none ∨ nx ≤ id)
    (hm : lookMods nx Hd H L = some m) :
    Ev w I α H w' (Frozen I' α' Hd nx) α (Mods.app m H) ∧ Rel G w' (Frozen I' α' Hd nx) α (Mods.app m H) ∧ (∀ id b, id < nx → α' id = some b → α id = some b) ∧
    ∀ id b, hget (Mods.app m H) id ≠ none → α id = some b → (id < nx ∧ hget Hd id ≠ none) ∨ (b < w.heap.size ∧ ¬ Owned α (cutH H L) b) := by
  obtain ⟨g1, g2⟩ := mods_get hm
  have hlow : ∀ id b, id < nx → α' id = some b → α id = some b := fun id b hid h => by
    rcases hn id (by rw [h]; simp) with h1 | h1
    · cases h2 : α id with
      | none => exact absurd h2 h1
      | some c => rw [ev.α_mono id c h2] at h; rw [← h]
    · omega
  have inL : ∀ {id : Nat}, id ∈ L → hget (Mods.app m H) id ≠ none → id < nx ∧ hget Hd id ≠ none := fun {id} hL h => by
    obtain ⟨h1, h2⟩ := g1 id hL
    refine ⟨h1, fun e => ?_⟩
    rw [e] at h2
    exact h h2
  have fr : ∀ b, Frozen I' α' Hd nx b → I b ∨ w.heap.size ≤ b ∨ Owned α (cutH H L) b := fun b h => by
    rcases h with h | ⟨id, _, h1, h2⟩
    · exact ev.Inew b h
    · exact .inr (ev.own b ⟨id, hsub id h1, h2⟩)
  have ownH : ∀ {b : Nat}, Owned α (cutH H L) b → Owned α H b := fun h => by
    obtain ⟨id, _, h1, h2⟩ := own_cut h
    exact ⟨id, h1, h2⟩
  have notcut : ∀ {id b : Nat}, id ∉ L → hget H id ≠ none → α id = some b → ¬ Owned α (cutH H L) b := fun {id b} hL h1 h2 ho => by
    obtain ⟨k, k1, k2, k3⟩ := own_cut ho
    exact hL (r.inj k id b k2 h1 k3 h2 ▸ k1)
  have eo : Ev w I α H w' (Frozen I' α' Hd nx) α (Mods.app m H) :=
    { os := ev.os
      I_mono := fun b h => .inl (ev.I_mono b h)
      α_mono := fun _ _ h => h
      size := ev.size
      frame := fun b hb ho => ev.frame b hb fun h => ho (ownH h)
      shape := ev.shape
      Inew := fun b h => (fr b h).imp (fun h => h) (Or.imp (fun h => h) ownH)
      own := fun b ⟨id, h1, h2⟩ => by
        by_cases hL : id ∈ L
        · obtain ⟨_, k2⟩ := inL hL h1
          exact (ev.own b ⟨id, hsub id k2, ev.α_mono id b h2⟩).imp (fun h => h) ownH
        · rw [g2 id hL] at h1
          exact .inr ⟨id, h1, h2⟩ }
  refine ⟨eo, ⟨fun id blk h => ?_, fun id id' b h1 h2 h3 h4 => ?_, fun b h => ?_, fun id b h => Nat.lt_of_lt_of_le (r.dom id b h) ev.size, glob_ev r eo⟩, hlow, fun id b h1 h2 => ?_⟩
  · by_cases hL : id ∈ L
    · obtain ⟨k1, k2⟩ := g1 id hL
      rw [h] at k2
      split at k2
      · cases k2
      · rename_i b0 hb0
        obtain ⟨b1, f1, f2, f3⟩ := k2
        cases f3
        obtain ⟨b, q1, q2, q3⟩ := rd.live id b0 hb0
        refine ⟨b, hlow id b k1 q1, ?_, freezeB_rep rd f1 f2 hlow q3⟩
        rintro (h4 | ⟨k, h4, h5, h6⟩)
        · exact q2 h4
        · have := rd.inj k id b h5 (by rw [hb0]; simp) h6 q1
          omega
    · rw [g2 id hL] at h
      obtain ⟨b, h1, h2, h3⟩ := r.live id blk h
      have hnc := notcut hL (by rw [h]; simp) h1
      have hb := r.dom id b h1
      refine ⟨b, h1, fun h4 => ?_, h3.ev r eo (ev.frame b hb hnc)⟩
      rcases fr b h4 with h5 | h5 | h5
      · exact h2 h5
      · omega
      · exact hnc h5
  · have cross : ∀ {i j : Nat}, i ∈ L → j ∉ L → hget (Mods.app m H) i ≠ none → hget (Mods.app m H) j ≠ none → α i = some b → α j = some b → False := fun {i j} hi hj a1 a2 a3 a4 => by
      obtain ⟨_, k2⟩ := inL hi a1
      rw [g2 j hj] at a2
      rcases ev.own b ⟨i, hsub i k2, ev.α_mono i b a3⟩ with h | h
      · have := r.dom j b a4; omega
      · exact notcut hj a2 a4 h
    by_cases hL : id ∈ L <;> by_cases hL' : id' ∈ L
    · exact rd.inj id id' b (inL hL h1).2 (inL hL' h2).2 (ev.α_mono id b h3) (ev.α_mono id' b h4)
    · exact (cross hL hL' h1 h2 h3 h4).elim
    · exact (cross hL' hL h2 h1 h4 h3).elim
    · rw [g2 id hL] at h1
      rw [g2 id' hL'] at h2
      exact r.inj id id' b h1 h2 h3 h4
  · rcases h with h | ⟨id, _, _, h⟩
    · exact rd.imm b h
    · exact rd.dom id b h
  · by_cases hL : id ∈ L
    · exact .inl (inL hL h1)
    · rw [g2 id hL] at h1
      exact .inr ⟨r.dom id b h2, notcut hL h1 h2⟩

theorem BRel.monoA {α2 : Nat → Option Nat} {k : Nat} {bk : Blk} (h : BRel w I α k bk) (hα : ∀ id b, α id = some b → α2 id = some b) : BRel w I α2 k bk := by
  have mono : ∀ {a : AV} {u : Value}, Rep w I α a u → Rep w I α2 a u := fun h => h.mono (fun _ h => h) hα (fun _ _ _ => rfl) (fun _ _ _ => rfl)
  cases bk with
  | cells l => obtain ⟨cc, e, h1, h2, h3⟩ := h; exact ⟨cc, e, h1, h2, h3.1, fun i x y e1 e2 => mono (h3.2 i x y e1 e2)⟩
  | siter s p => exact h
  | mapb cl st es => obtain ⟨en, h1, h2, h4, h3⟩ := h; exact ⟨en, h1, h2, h4, fun i x y e1 e2 => ⟨mono (h3 i x y e1 e2).1, mono (h3 i x y e1 e2).2⟩⟩
  | miter m since seen last => obtain ⟨mb, h1, h2⟩ := h; exact ⟨mb, hα _ _ h1, h2⟩

theorem post_look {v : AV} {u : Value} {rid m0 : Nat} {res : AV × Option (List AV) × Mods} (r : Rel G w I α H) (hrid : α rid = none) (h : BodyPost G w I α (cutH H L) nx v H1 m0 u w') (he : lookEnd L rid nx H v H1 = some res) :
    Post G w I α H rid nx (lookFin L rid nx H res).1 (lookFin L rid nx H res).2.1 nx u w' := by
  obtain ⟨⟨I', α', ev, r1, hv, hn⟩, _⟩ := h
  have hn' : ∀ id, α' id ≠ none → α id ≠ none ∨ nx ≤ id := fun id h => (hn id h).imp (fun h => h) (·.1)
  have plain : ∀ {v : AV}, Rep w' I' α' v u → lookEnd.lookPlain L nx H H1 v = some res → Post G w I α H rid nx (lookFin L rid nx H res).1 (lookFin L rid nx H res).2.1 nx u w' := fun {v} hv he => by
    unfold lookEnd.lookPlain at he
    split at he
    · rename_i v' hf
      split at he
      · rename_i m hl hm
        simp only [Option.some.injEq] at he; subst he
        obtain ⟨eo, ro, hlow, _⟩ := look_core r ev r1 (fun _ h => h) hn' hm
        exact ⟨⟨_, α, eo, ro, rep_low hlow (freeze_sound r1 nx 40 v v' u hf hv) hl, fun _ h => .inl h⟩, Nat.le_refl _⟩
      · simp at he
    · simp at he
  unfold lookEnd at he
  split at he
  · rename_i i len sz
    split at he
    · exact plain hv he
    · rename_i hi
      have hi := blt_false hi
      split at he
      · rename_i l hl
        split at he
        · rename_i l' hl'
          split at he
          · rename_i m hlo hm
            simp only [Option.some.injEq] at he; subst he
            have hsub : ∀ id, hget (hdel H1 i) id ≠ none → id ≠ i ∧ hget H1 id ≠ none := fun id h => by
              by_cases e : id = i
              · subst e; rw [hget_hdel_self] at h; exact absurd rfl h
              · rw [hget_hdel_ne _ e] at h; exact ⟨e, h⟩
            obtain ⟨eo, ro, hlow, hK⟩ := look_core r ev (rel_del r1 i) (fun id h => (hsub id h).2) hn' hm
            obtain ⟨b, q1, q2, q3⟩ := r1.live i _ hl
            have hnF : ¬ Frozen I' α' (hdel H1 i) nx b := by
              rintro (h | ⟨k, _, h2, h3⟩)
              · exact q2 h
              · exact (hsub k h2).1 (r1.inj k i b (hsub k h2).2 (by rw [hl]; simp) h3 q1)
            have hmono : ∀ id c, α id = some c → upd α rid b id = some c := fun id c h => by
              rw [upd_ne]; exact h
              intro e; subst e; rw [hrid] at h; cases h
            have apart : ∀ id, hget (Mods.app m H) id ≠ none → α id = some b → False := fun id h1 h2 => by
              rcases hK id b h1 h2 with ⟨h3, h4⟩ | ⟨h3, h4⟩
              · have := r1.inj id i b (hsub id h4).2 (by rw [hl]; simp) (ev.α_mono id b h2) q1
                omega
              · rcases ev.own b ⟨i, by rw [hl]; simp, q1⟩ with h | h
                · omega
                · exact h4 h
            have eo2 : Ev w I α H w' (Frozen I' α' (hdel H1 i) nx) (upd α rid b) (hins (Mods.app m H) rid (.cells l')) :=
              ⟨eo.os, eo.I_mono, hmono, eo.size, eo.frame, eo.shape, eo.Inew, fun c ⟨id, h1, h2⟩ => by
                by_cases e : id = rid
                · subst e; rw [upd_self] at h2; cases h2
                  rcases ev.own b ⟨i, by rw [hl]; simp, q1⟩ with h | h
                  · exact .inl h
                  · obtain ⟨k, _, k1, k2⟩ := own_cut h
                    exact .inr ⟨k, k1, k2⟩
                · rw [upd_ne _ _ e] at h2
                  rw [hget_hins_ne _ _ e] at h1
                  exact eo.own c ⟨id, h1, h2⟩⟩
            refine ⟨⟨_, upd α rid b, eo2, ⟨fun id blk h => ?_, fun id id' c h1 h2 h3 h4 => ?_, ro.imm, fun id c h => ?_, glob_ev r eo2⟩, ?_, fun id h => ?_⟩, Nat.le_refl _⟩
            · by_cases e : id = rid
              · subst e
                simp only [lookFin] at h
                rw [hget_hins_self] at h; cases h
                refine ⟨b, upd_self _ _ _, hnF, ?_⟩
                have := freezeB_rep (n := nx) (b0 := .cells l) (b1 := .cells l') (rel_del r1 i) (by simp only [freezeB, hl']) (by simpa only [lowB] using hlo) hlow q3
                exact this.monoA hmono
              · simp only [lookFin] at h
                rw [hget_hins_ne _ _ e] at h
                obtain ⟨c, h1, h2, h3⟩ := ro.live id blk h
                exact ⟨c, hmono _ _ h1, h2, h3.monoA hmono⟩
            · simp only [lookFin] at h1 h2
              by_cases e : id = rid <;> by_cases e' : id' = rid
              · rw [e, e']
              · subst e
                rw [upd_self] at h3; cases h3
                rw [upd_ne _ _ e'] at h4
                rw [hget_hins_ne _ _ e'] at h2
                exact (apart id' h2 h4).elim
              · subst e'
                rw [upd_self] at h4; cases h4
                rw [upd_ne _ _ e] at h3
                rw [hget_hins_ne _ _ e] at h1
                exact (apart id h1 h3).elim
              · rw [upd_ne _ _ e] at h3
                rw [upd_ne _ _ e'] at h4
                rw [hget_hins_ne _ _ e] at h1
                rw [hget_hins_ne _ _ e'] at h2
                exact ro.inj id id' c h1 h2 h3 h4
            · by_cases e : id = rid
              · subst e; rw [upd_self] at h; cases h; exact r1.dom i b q1
              · rw [upd_ne _ _ e] at h; exact ro.dom id c h
            · cases hv with
              | rsl _ _ _ _ _ cap b' hb hcap ho =>
                rw [q1] at hb; cases hb
                exact .rsl _ _ _ _ _ cap b (upd_self _ _ _) hcap ho
            · by_cases e : id = rid
              · exact .inr (.inl e)
              · rw [upd_ne _ _ e] at h; exact .inl h
          · simp at he
        · simp at he
      · simp at he
  · exact plain hv he

end
end Go.Proofs.Abs
