/- Aggregates and slices out of parts. -/
import Derived.Test.YtbhnlgennmmnmaaGreatDoorE9
namespace Go.Proofs.Abs
open Go

/-! ### Lists -/

theorem flat_at : ∀ {sz : Nat} {l : List AV}, (∀ a ∈ l, a.cells.length = sz) → ∀ (i j : Nat) e x, l[i]? = some e → e.cells[j]? = some x → (flat l)[i * sz + j]? = some x
  | _, [], _, _, _, _, _, h, _ => by simp at h
  | sz, y :: t, hs, i, j, e, x, h1, h2 => by
    have hy := hs y (by simp)
    cases i with
    | zero =>
      simp at h1; subst h1
      have hj : j < y.cells.length := by
        rcases Nat.lt_or_ge j y.cells.length with h' | h'
        · exact h'
        · rw [List.getElem?_eq_none h'] at h2; cases h2
      simp only [flat, Nat.zero_mul, Nat.zero_add]
      rw [List.getElem?_append_left hj]; exact h2
    | succ i =>
      simp only [flat]
      rw [List.getElem?_append_right (by rw [hy, Nat.add_mul]; omega), hy]
      have := flat_at (l := t) (fun a ha => hs a (List.mem_cons_of_mem _ ha)) i j e x (by simpa using h1) h2
      rw [show (i + 1) * sz + j - sz = i * sz + j by rw [Nat.add_mul]; omega]
      exact this

theorem flat_set : ∀ {sz : Nat} {l : List AV}, (∀ a ∈ l, a.cells.length = sz) → ∀ (i : Nat) (v : AV), i < l.length → v.cells.length = sz →
    flat (l.set i v) = (flat l).take (i * sz) ++ v.cells ++ (flat l).drop (i * sz + v.cells.length)
  | _, [], _, _, _, h, _ => by simp at h
  | sz, y :: t, hs, i, v, hi, hv => by
    have hy := hs y (by simp)
    cases i with
    | zero => simp [flat, hv, ← hy]
    | succ i =>
      simp only [List.set_cons_succ, flat]
      rw [flat_set (fun a ha => hs a (by simp [ha])) i v (by simpa using hi) hv]
      have e1 : (i + 1) * sz = y.cells.length + i * sz := by rw [hy, Nat.add_mul]; omega
      rw [e1, List.take_length_add_append, Nat.add_assoc, List.drop_length_add_append]
      simp [List.append_assoc]

theorem allSize_set {sz : Nat} {l : List AV} (h : ∀ a ∈ l, a.cells.length = sz) {i : Nat} {v : AV} (hv : v.cells.length = sz) : ∀ a ∈ l.set i v, a.cells.length = sz := by
  intro a ha
  rcases List.mem_or_eq_of_mem_set ha with h' | rfl
  · exact h a h'
  · exact hv

theorem repE_mem {z : AV} : ∀ {n : Nat} {a : AV}, a ∈ repE z n → a = z
  | 0, _, h => by simp [repE] at h
  | n + 1, a, h => by
    simp only [repE, List.mem_cons] at h
    rcases h with h | h
    · exact h
    · exact repE_mem h
theorem repE_length (z : AV) : ∀ n : Nat, (repE z n).length = n
  | 0 => rfl
  | n + 1 => by simp [repE, repE_length z n]

theorem fold_zip : ∀ (vs : List Value) (k off : Nat) (cs : Array Value), off + k + vs.length ≤ cs.size →
    ((vs.zipIdx k).foldl (fun cs (p : Value × Nat) => cs.setIfInBounds (off + p.2) p.1) cs).toList = cs.toList.take (off + k) ++ vs ++ cs.toList.drop (off + k + vs.length)
  | [], k, off, cs, _ => by simp
  | v :: vs, k, off, cs, h => by
    simp only [List.zipIdx_cons, List.foldl_cons]
    rw [fold_zip vs (k + 1) off _ (by simp at h ⊢; omega)]
    simp only [Array.toList_setIfInBounds, List.length_cons] at *
    have := list_seg_step cs.toList (off + k) v vs (by simp; omega)
    simpa [Nat.add_assoc] using this

section
variable {P : Program} {G : Glob} {call : Caller} {w : World} {I : Nat → Prop} {α : Nat → Option Nat} {H : Heap} {rid nx : Nat}

theorem RepL.splice {l cs l' : List AV} {vs us : List Value} {o : Nat} (h : RepL w I α l vs) (hc : RepL w I α cs us) (hs : splice l o cs = some l') :
    RepL w I α l' (vs.take o ++ us ++ vs.drop (o + us.length)) ∧ (cs = [] ∨ o + cs.length ≤ l.length) := by
  obtain ⟨e1, e2⟩ := splice_eq _ _ _ _ hs
  refine ⟨?_, e2⟩
  rw [e1, ← hc.1]
  exact ((h.take o).append hc).append (h.drop _)

/-- Parts beside their trees. -/
def RepP (w : World) (I : Nat → Prop) (α : Nat → Option Nat) : List (Nat × AV) → List (Nat × Value) → Prop
  | [], [] => True
  | (i, a) :: t, (j, v) :: u => i = j ∧ Rep w I α a v ∧ RepP w I α t u
  | _, _ => False

theorem rep_mapParts {s : Tr} {a : Act} (hs : SlotsRel w I α s a.tmps) : ∀ {l : List (Nat × Operand)} {vs : List (Nat × AV)}, mapParts (evA s) l = some vs → RepP w I α vs (l.map fun (i, x) => (i, a.eval x))
  | [], vs, h => by simp [mapParts] at h; subst h; trivial
  | (i, x) :: l, vs, h => by
    simp only [mapParts] at h
    split at h
    · rename_i v hv
      simp only [Option.map_eq_some_iff] at h
      obtain ⟨us, h1, rfl⟩ := h
      exact ⟨rfl, rep_ev hs hv, rep_mapParts hs h1⟩
    · simp at h

theorem rep_fill {place : Nat → Option (Nat × Nat)} : ∀ {parts : List (Nat × AV)} {parts' : List (Nat × Value)} {cells l : List AV} {cells' : Array Value}, RepP w I α parts parts' → RepL w I α cells cells'.toList →
    fillA place cells parts = some l → ∃ l', Instr.fill place cells' parts' = some l' ∧ RepL w I α l l'.toList
  | [], [], cells, l, cells', _, h, hf => by simp [fillA] at hf; subst hf; exact ⟨cells', rfl, h⟩
  | (i, a) :: t, (j, v) :: u, cells, l, cells', hp, h, hf => by
    obtain ⟨rfl, hv, hp⟩ := hp
    simp only [fillA] at hf
    split at hf
    · rename_i off size hpl
      split at hf
      · rename_i hsz
        simp only [Bool.and_eq_true] at hsz
        have hpos : 0 < size := by simpa using hsz.2
        have hsz : a.cells.length = size := by have := hsz.1; rw [lenN_eq] at this; exact beq_iff.1 this
        split at hf
        · rename_i c hc
          have hcs := hv.cells
          have hvs : v.cells.size = size := by rw [← hsz, hcs.1]; simp
          obtain ⟨h1, h2⟩ := h.splice hcs hc
          simp only [Instr.fill, hpl, hvs]
          have hfit : off + size ≤ cells'.size := by
            rcases h2 with h2 | h2
            · rw [h2] at hsz; simp at hsz; omega
            · have := h.1; simp at this; omega
          have : ¬ ((decide (size ≠ size) || decide (off + size > cells'.size)) = true) := by simp; omega
          rw [if_neg this]
          refine rep_fill hp ?_ hf
          have e := fold_zip v.cells.toList 0 off cells' (by simp; omega)
          simp only [Nat.add_zero] at e
          have e' : (v.cells.zipIdx.foldl (fun cs (p : Value × Nat) => cs.setIfInBounds (off + p.2) p.1) cells').toList = cells'.toList.take off ++ v.cells.toList ++ cells'.toList.drop (off + v.cells.toList.length) := by
            rw [← e]
            congr 1
            rw [← Array.foldl_toList, Array.toList_zipIdx]
          rw [e']; exact h1
        · simp at hf
      · simp at hf
    · simp at hf
  | [], _ :: _, _, _, _, hp, _, _ => hp.elim
  | _ :: _, [], _, _, _, hp, _, _ => by
    rename_i p _ _ _ _ ; exact hp.elim


theorem placesA_eq : ∀ {fs : List Field} {pl : List (Nat × Nat)}, placesA P fs = some pl → fs.mapM (fun f => (P.info? f.type).map fun i => (f.offset, i.size)) = some pl
  | [], pl, h => by simp [placesA] at h; subst h; rfl
  | f :: fs, pl, h => by
    simp only [placesA] at h
    split at h
    · rename_i s hs
      split at h
      · rename_i l hl
        simp only [Option.some.injEq] at h; subst h
        obtain ⟨i, h1, rfl⟩ := sizeA_info hs
        simp [List.mapM_cons, h1, placesA_eq hl]
      · simp at h
    · simp at h

theorem rep_buildA {t : TypeId} {parts : List (Nat × AV)} {parts' : Array (Nat × Value)} {v : AV} (hp : RepP w I α parts parts'.toList) (h : buildA P t parts = some v) :
    ∃ v', (Instr.build t parts').run P w = .ok v' w ∧ Rep w I α v v' := by
  unfold buildA at h
  split at h
  · rename_i z fs hz ht
    split at h
    · rename_i pl hpl
      cases hf : fillA (getN pl) z.cells parts with
      | none => simp [hf, aggO] at h
      | some l =>
        simp only [hf, aggO, Option.some.injEq] at h; subst h
        obtain ⟨i, zv, h1, h2, h3⟩ := zeroA_info hz
        have hzr : RepL w I α z.cells zv.cells.toList := (rep_ofValue h3).cells
        obtain ⟨l', e1, e2⟩ := rep_fill hp hzr hf
        refine ⟨.agg l', run_build w t parts' l' ?_, Rep.agg_iff.2 ⟨l', rfl, e2⟩⟩
        have hg : (fun x => (pl.toArray)[x]?) = getN pl := by funext x; rw [getN_eq]; simp
        simp only [Program.built, h1, ht, h2, placesA_eq hpl]
        rw [hg]; exact e1
    · simp at h
  · rename_i z n e hz ht
    split at h
    · rename_i s hs
      cases hf : fillA (fun i => some (i * s, s)) z.cells parts with
      | none => simp [hf, aggO] at h
      | some l =>
        simp only [hf, aggO, Option.some.injEq] at h; subst h
        obtain ⟨i, zv, h1, h2, h3⟩ := zeroA_info hz
        obtain ⟨ie, h4, rfl⟩ := sizeA_info hs
        have hzr : RepL w I α z.cells zv.cells.toList := (rep_ofValue h3).cells
        obtain ⟨l', e1, e2⟩ := rep_fill hp hzr hf
        exact ⟨.agg l', run_build w t parts' l' (by simp only [Program.built, h1, ht, h2, h4]; exact e1), Rep.agg_iff.2 ⟨l', rfl, e2⟩⟩
    · simp at h
  · simp at h

/-- A frozen row is a slice of its elements. -/
theorem rep_fsl_row {full : Bool} {es : List AV} {b base cap sz : Nat} (hI : I b) (hs : ∀ a ∈ es, a.cells.length = sz) (hc : es.length ≤ cap) (hf : full = true → cap = es.length) (hr : Row w I α b base (flat es)) :
    Rep w I α (.fsl full es) (.slice (some ⟨b, base, none⟩) es.length cap) := by
  refine .fsl full es _ _ cap sz b base (fun i j => (w.cell? ⟨b, base + i * sz + j, none⟩).getD undef) rfl hc hf (fun _ => rfl) (fun _ => hI) hs (fun i e j c h1 h2 => ?_) (fun i e j c h1 h2 => ?_)
  · obtain ⟨y, h3, _⟩ := hr _ _ (flat_at hs i j e c h1 h2)
    rw [← Nat.add_assoc] at h3
    rw [h3]; rfl
  · obtain ⟨y, h3, h4⟩ := hr _ _ (flat_at hs i j e c h1 h2)
    rw [← Nat.add_assoc] at h3
    rw [h3]; exact h4

theorem elemOfA_eq {t e : TypeId} (h : elemOfA P t = some e) : P.underlying t = some (.slice e) := by
  unfold elemOfA at h
  split at h
  · rename_i e' ht; simp at h; subst h; exact ht
  · simp at h

theorem rep_fillS {sz : Nat} (hpos : 0 < sz) : ∀ {parts : List (Nat × AV)} {parts' : List (Nat × Value)} {es es' : List AV} {cells' : Array Value}, RepP w I α parts parts' → RepL w I α (flat es) cells'.toList → (∀ a ∈ es, a.cells.length = sz) →
    fillS sz es parts = some es' → ∃ l', Instr.fill (fun i => some (i * sz, sz)) cells' parts' = some l' ∧ RepL w I α (flat es') l'.toList ∧ (∀ a ∈ es', a.cells.length = sz) ∧ es'.length = es.length
  | [], [], es, es', cells', _, h, hs, hf => by simp [fillS] at hf; subst hf; exact ⟨cells', rfl, h, hs, rfl⟩
  | (i, a) :: t, (j, v) :: u, es, es', cells', hp, h, hs, hf => by
    obtain ⟨rfl, hv, hp⟩ := hp
    simp only [fillS] at hf
    split at hf
    · rename_i hc
      simp only [Bool.and_eq_true] at hc
      have hsz : a.cells.length = sz := by have := hc.1; rw [lenN_eq] at this; exact beq_iff.1 this
      have hi : i < es.length := by have := hc.2; rw [lenN_eq] at this; simpa using this
      have hcs := hv.cells
      have hvs : v.cells.size = sz := by rw [← hsz, hcs.1]; simp
      have hfl : (flat es).length = es.length * sz := flat_length hs
      have hfit : i * sz + sz ≤ cells'.size := by
        have h1 := h.1
        simp only [Array.length_toList] at h1
        have : (i + 1) * sz ≤ es.length * sz := Nat.mul_le_mul_right _ hi
        rw [Nat.add_mul] at this; omega
      simp only [Instr.fill, hvs]
      have : ¬ ((decide (sz ≠ sz) || decide (i * sz + sz > cells'.size)) = true) := by simp; omega
      rw [if_neg this]
      rw [setN_eq] at hf
      have e := fold_zip v.cells.toList 0 (i * sz) cells' (by simp; omega)
      simp only [Nat.add_zero] at e
      have e' : (v.cells.zipIdx.foldl (fun cs (p : Value × Nat) => cs.setIfInBounds (i * sz + p.2) p.1) cells').toList = cells'.toList.take (i * sz) ++ v.cells.toList ++ cells'.toList.drop (i * sz + v.cells.toList.length) := by
        rw [← e]
        congr 1
        rw [← Array.foldl_toList, Array.toList_zipIdx]
      obtain ⟨l', h1, h2, h3, h4⟩ := rep_fillS hpos hp (by
        rw [e', flat_set hs i a hi hsz, ← hcs.1]
        exact ((h.take _).append hcs).append (h.drop _)) (allSize_set hs hsz) hf
      exact ⟨l', h1, h2, h3, by rw [h4]; simp⟩
    · simp at hf
  | [], _ :: _, _, _, _, hp, _, _, _ => hp.elim
  | _ :: _, [], _, _, _, hp, _, _, _ => by
    rename_i p _ _ _ _ ; exact hp.elim

theorem zeros_rep {z : AV} {zv : Array Value} {n sz : Nat} (hpos : 0 < sz) (hz : RepL w I α z.cells zv.toList) (hs : z.cells.length = sz) :
    RepL w I α (flat (repE z n)) (((Array.range (n * sz)).map (zv[· % zv.size]!)).toList) := by
  have hall : ∀ a ∈ repE z n, a.cells.length = sz := fun a ha => by rw [repE_mem ha]; exact hs
  have hzv : zv.size = sz := by rw [← hs, hz.1]; simp
  refine ⟨by rw [flat_length hall, repE_length]; simp, fun i x y h1 h2 => ?_⟩
  obtain ⟨e, h3, h4⟩ := flat_get hpos hall i x h1
  have he := repE_mem (List.mem_of_getElem? h3)
  subst he
  have hi : i < n * sz := by
    rcases Nat.lt_or_ge i (n * sz) with h' | h'
    · exact h'
    · rw [List.getElem?_eq_none (by rw [flat_length hall, repE_length]; exact h')] at h1; cases h1
  have hm : i % sz < sz := Nat.mod_lt _ hpos
  have hy : y = zv[i % zv.size]! := by
    simp [hi] at h2
    exact h2.symm
  rw [hy, hzv]
  refine hz.2 _ _ _ h4 ?_
  rw [getElem!_pos zv (i % sz) (by omega)]
  simp [hzv, hm]

theorem implV_buildSlice {t : TypeId} {n : Nat} {parts : List (Nat × AV)} {parts' : Array (Nat × Value)} {v : AV} (c : Ctx P G call w I α H rid nx) (hp : RepP w I α parts parts'.toList) (h : buildSliceA P t n parts = some v) :
    ImplV P G call w I α H rid nx (Instr.buildSlice t n parts') (.val v) := by
  unfold buildSliceA at h
  split at h
  · rename_i e he
    have ht := elemOfA_eq he
    split at h
    · rename_i sz z hsz hz
      split at h
      · rename_i hc
        simp only [Bool.and_eq_true] at hc
        have hle := Nat.le_of_ble_eq_true hc.1.1
        have hpos : 0 < sz := by simpa using hc.2
        have hzl : z.cells.length = sz := by have := hc.1.2; rw [lenN_eq] at this; exact beq_iff.1 this
        cases hf : fillS sz (repE z n) parts with
        | none => simp [hf, fslO] at h
        | some es =>
          simp only [hf, fslO, Option.some.injEq] at h; subst h
          obtain ⟨i, zv, h1, h2, h3⟩ := zeroA_info hz
          have hzr : RepL w I α z.cells zv.cells.toList := (rep_ofValue h3).cells
          have hnot : ¬ (n * sz > 2 ^ 24) := by omega
          · have hall : ∀ a ∈ repE z n, a.cells.length = sz := fun a ha => by rw [repE_mem ha]; exact hzl
            obtain ⟨l', e1, e2, e3, e4⟩ := rep_fillS hpos hp (zeros_rep (n := n) hpos hzr hzl) hall hf
            rw [repE_length] at e4
            by_cases hn : n * sz = 0
            · have hn0 : n = 0 := by rcases Nat.mul_eq_zero.1 hn with h | h <;> omega
              subst hn0
              have hes : es = [] := List.eq_nil_of_length_eq_zero e4
              subst hes
              have r0 : Array.range 0 = #[] := rfl
              have e1' : Instr.fill (fun i => some (i * sz, sz)) #[] parts'.toList = some l' := by simpa [r0] using e1
              refine impl_newF c (w' := { w with heap := w.heap.push (.cells l' e) }) (o := .cells l' e) (v' := .slice (some ⟨w.heap.size, 0, none⟩) 0 0) ?_ rfl (fun I' _ hnew _ _ => ?_)
              · simp [Instr.buildSlice, run_underlying' ht, run_sizeOf' hsz, r0, e1', newRow]
              · exact rep_fsl_row (sz := sz) hnew e3 (Nat.le_refl _) (fun _ => rfl) (fun j c hj => by simp [flat] at hj)
            · refine impl_newF c (w' := { w with heap := w.heap.push (.cells l' e) }) (o := .cells l' e) (v' := .slice (some ⟨w.heap.size, 0, none⟩) n n) ?_ rfl (fun I' _ hnew rel ev => ?_)
              · simp [Instr.buildSlice, run_underlying' ht, run_sizeOf' hsz, hnot, hn, run_zeroValue' h1 h2, e1, newRow]
              · rw [← e4]
                refine rep_fsl_row (sz := sz) hnew e3 (Nat.le_refl _) (fun _ => rfl) ?_
                exact rep_cells_row (c := l') (e := e) (fr := (0, 0)) (by simp) (e2.ev c.rel ev)
      · simp at h
    · simp at h
  · simp at h

end
end Go.Proofs.Abs
