/- Aggregates and slices out of parts. -/
import Derived.Test.YtnlllfokomenfaaGreatDoorE9
namespace Go.Proofs.Abs
open Go

/-! ### Lists -/

theorem flat_at : ∀ {sz : Nat} {l : List AV}, (∀ a ∈ l, a.cells.length = sz) → ∀ (i j : Nat) e x, l[i]? = some e → e.cells[j]? = some x → (flat l)[i * sz + j]? = some x
  | _, [], _, _, _, _, _, h, _ => by simp at h
  | sz, y :: t, hs, i, j, e, x, h1, h2 => by
    have hy := hs y (by simp)
    cases i with
    | zero =>
      simp at h1; subst h1
      have hj : j < y.cells.length := by
        rcases Nat.lt_or_ge j y.cells.length with h' | h'
        · exact h'
        · rw [List.getElem?_eq_none h'] at h2; cases h2
      simp only [flat, Nat.zero_mul, Nat.zero_add]
      rw [List.getElem?_append_left hj]; exact h2
    | succ i =>
      simp only [flat]
      rw [List.getElem?_append_right (by rw [hy, Nat.add_mul]; omega), hy]
      have := flat_at (l := t) (fun a ha => hs a (List.mem_cons_of_mem _ ha)) i j e x (by simpa using h1) h2
      rw [show (i + 1) * sz + j - sz = i * sz + j by rw [Nat.add_mul]; omega]
      exact this

theorem flat_set : ∀ {sz : Nat} {l : List AV}, (∀ a ∈ l, a.cells.length = sz) → ∀ (i : Nat) (v : AV), i < l.length → v.cells.length = sz →
    flat (l.set i v) = (flat l).take (i * sz) ++ v.cells ++ (flat l).drop (i * sz + v.cells.length)
  | _, [], _, _, _, h, _ => by simp at h
  | sz, y :: t, hs, i, v, hi, hv => by
    have hy := hs y (by simp)
    cases i with
    | zero => simp [flat, hv, ← hy]
    | succ i =>
      simp only [List.set_cons_succ, flat]
      rw [flat_set (fun a ha => hs a (by simp [ha])) i v (by simpa using hi) hv]
      have e1 : (i + 1) * sz = y.cells.length + i * sz := by rw [hy, Nat.add_mul]; omega
      rw [e1, List.take_length_add_append, Nat.add_assoc, List.drop_length_add_append]
      simp [List.append_assoc]

theorem allSize_set {sz : Nat} {l : List AV} (h : ∀ a ∈ l, a.cells.length = sz) {i : Nat} {v : AV} (hv : v.cells.length = sz) : ∀ a ∈ l.set i v, a.cells.length = sz := by
  intro a ha
  rcases List.mem_or_eq_of_mem_set ha with h' | rfl
  · exact h a h'
  · exact hv

theorem repE_mem {z : AV} : ∀ {n : Nat} {a : AV}, a ∈ repE z n → a = z
  | 0, _, h => by simp [repE] at h
  | n + 1, a, h => by
    simp only [repE, List.mem_cons] at h
    rcases h with h | h
    · exact h
    · exact repE_mem h
theorem repE_length (z : AV) : ∀ n : Nat, (repE z n).length = n
  | 0 => rfl
  | n + 1 => by simp [repE, repE_length z n]

theorem fold_zip : ∀ (vs : List Value) (k off : Nat) (cs : Array Value), off + k + vs.length ≤ cs.size →
    ((vs.zipIdx k).foldl (fun cs (p : Value × Nat) => cs.setIfInBounds (off + p.2) p.1) cs).toList = cs.toList.take (off + k) ++ vs ++ cs.toList.drop (off + k + vs.length)
  | [], k, off, cs, _ => by simp
  | v :: vs, k, off, cs, h => by
    simp only [List.zipIdx_cons, List.foldl_cons]
    rw [fold_zip vs (k + 1) off _ (by simp at h ⊢; omega)]
    simp only [Array.toList_setIfInBounds, List.length_cons] at *
    have := list_seg_step cs.toList (off + k) v vs (by simp; omega)
    simpa [Nat.add_assoc] using this

section
variable {P : Program} {G : Glob} {call : Caller} {w : World} {I : Nat → Prop} {α : Nat → Option Nat} {H : Heap} {rid nx : Nat}

theorem RepL.splice {l cs l' : List AV} {vs us : List Value} {o : Nat} (h : RepL w I α l vs) (hc : RepL w I α cs us) (hs : splice l o cs = some l') :
    RepL w I α l' (vs.take o ++ us ++ vs.drop (o + us.length)) ∧ (cs = [] ∨ o + cs.length ≤ l.length) := by
  obtain ⟨e1, e2⟩ := splice_eq _ _ _ _ hs
  refine ⟨?_, e2⟩
  rw [e1, ← hc.1]
  exact ((h.take o).append hc).append (h.drop _)

/-- Parts beside their trees. -/
def RepP (w : World) (I : Nat → Prop) (α : Nat → Option Nat) : List (Nat × AV) → List (Nat × Value) → Prop
  | [], [] => True
  | (i, a) :: t, (j, v) :: u => i = j ∧ Rep w I α a v ∧ RepP w I α t u
  | _, _ => False

theorem rep_mapParts {s : Tr} {a : Act} (hs : SlotsRel w I α s a.tmps) : ∀ {l : List (Nat × Operand)} {vs : List (Nat × AV)}, mapParts (evA s) l = some vs → RepP w I α vs (l.map fun (i, x) => (i, a.eval x))
  | [], vs, h => by simp [mapParts] at h; subst h; trivial
  | (i, x) :: l, vs, h => by
    simp only [mapParts] at h
    split at h
    · rename_i v hv
      simp only [Option.map_eq_some_iff] at h
      obtain ⟨us, h1, rfl⟩ := h
      exact ⟨rfl, rep_ev hs hv, rep_mapParts hs h1⟩
    · simp at h

theorem rep_fill {place : Nat → Option (Nat × Nat)} : ∀ {parts : List (Nat × AV)} {parts' : List (Nat × Value)} {cells l : List AV} {cells' : Array Value}, RepP w I α parts parts' → RepL w I α cells cells'.toList →
    fillA place cells parts = some l → ∃ l', Instr.fill place cells' parts' = some l' ∧ RepL w I α l l'.toList
  | [], [], cells, l, cells', _, h, hf => by simp [fillA] at hf; subst hf; exact ⟨cells', rfl, h⟩
  | (i, a) :: t, (j, v) :: u, cells, l, cells', hp, h, hf => by
    obtain ⟨rfl, hv, hp⟩ := hp
    simp only [fillA] at hf
    split at hf
    · rename_i off size hpl
      split at hf
      · rename_i hsz
        simp only [Bool.and_eq_true] at hsz
        have hpos : 0 < size := by simpa using hsz.2
        have hsz : a.cells.length = size := by have := hsz.1; rw [lenN_eq] at this; exact beq_iff.1 this
        split at hf
        · rename_i c hc
          have hcs := hv.cells
          have hvs : v.cells.size = size := by rw [← hsz, hcs.1]; simp
          obtain ⟨h1, h2⟩ := h.splice hcs hc
          simp only [Instr.fill, hpl, hvs]
          have hfit : off + size ≤ cells'.size := by
            rcases h2 with h2 | h2
            · rw [h2] at hsz; simp at hsz; omega
            · have := h.1; simp at this; omega
          have : ¬ ((decide (size ≠ size) || decide (off + size > cells'.size)) = true) := by simp; omega
          rw [if_neg this]
          refine rep_fill hp ?_ hf
          have e := fold_zip v.cells.toList 0 off cells' (by simp; omega)
          simp only [Nat.add_zero] at e
          have e' : (v.cells.zipIdx.foldl (fun cs (p : Value × Nat) => cs.setIfInBounds (off + p.2) p.1) cells').toList = cells'.toList.take off ++ v.cells.toList ++ cells'.toList.drop (off + v.cells.toList.length) := by
            rw [← e]
            congr 1
            rw [← Array.foldl_toList, Array.toList_zipIdx]
          rw [e']; exact h1
        · simp at hf
      · simp at hf
    · simp at hf
  | [], _ :: _, _, _, _, hp, _, _ => hp.elim
  | _ :: _, [], _, _, _, hp, _, _ => by
    rename_i p _ _ _ _ ; exact hp.elim


theorem placesA_eq : ∀ {fs : List Field} {pl : List (Nat × Nat)}, placesA P fs = some pl → fs.mapM (fun f => (P.info? f.type).map fun i => (f.offset, i.size)) = some pl
  | [], pl, h => by simp [placesA] at h; subst h; rfl
  | f :: fs, pl, h => by
    simp only [placesA] at h
    split at h
    · rename_i s hs
      split at h
      · rename_i l hl
        simp only [Option.some.injEq] at h; subst h
        obtain ⟨i, h1, rfl⟩ := sizeA_info hs
        simp [List.mapM_cons, h1, placesA_eq hl]
      · simp at h
    · simp at h

theorem rep_buildA {t : TypeId} {parts : List (Nat × AV)} {parts' : Array (Nat × Value)} {v : AV} (hp : RepP w I α parts parts'.toList) (h : buildA P t parts = some v) :
    ∃ v', (Instr.build t parts').run P w = .ok v' w ∧ Rep w I α v v' := by
  unfold buildA at h
  split at h
  · rename_i z fs hz ht
    split at h
    · rename_i pl hpl
      cases hf : fillA (getN pl) z.cells parts with
      | none => simp [hf, aggO] at h
      | some l =>
        simp only [hf, aggO, Option.some.injEq] at h; subst h
        obtain ⟨i, zv, h1, h2, h3⟩ := zeroA_info hz
        have hzr : RepL w I α z.cells zv.cells.toList := (rep_ofValue h3).cells
        obtain ⟨l', e1, e2⟩ := rep_fill hp hzr hf
        refine ⟨.agg l', run_build w t parts' l' ?_, Rep.agg_iff.2 ⟨l', rfl, e2⟩⟩
        have hg : (fun x => (pl.toArray)[x]?) = getN pl := by funext x; rw [getN_eq]; simp
        simp only [Program.built, h1, ht, h2, placesA_eq hpl]
        rw [hg]; exact e1
    · simp at h
  · rename_i z n e hz ht
    split at h
    · rename_i s hs
      cases hf : fillA (fun i => some (i * s, s)) z.cells parts with
      | none => simp [hf, aggO] at h
      | some l =>
        simp only [hf, aggO, Option.some.injEq] at h; subst h
        obtain ⟨i, zv, h1, h2, h3⟩ := zeroA_info hz
        obtain ⟨ie, h4, rfl⟩ := sizeA_info hs
        have hzr : RepL w I α z.cells zv.cells.toList := (rep_ofValue h3).cells
        obtain ⟨l', e1, e2⟩ := rep_fill hp hzr hf
        exact ⟨.agg l', run_build w t parts' l' (by simp only [Program.built, h1, ht, h2, h4]; exact e1), Rep.agg_iff.2 ⟨l', rfl, e2⟩⟩
    · simp at h
  · simp at h

/-- A frozen row is a slice of its elements. -/
theorem rep_fsl_row {full : Bool} {es : List AV} {b base cap sz : Nat} (hI : I b) (hs : ∀ a ∈ es, a.cells.length = sz) (hc : es.length ≤ cap) (hf : full = true → cap = es.length) (hr : Row w I α b base (flat es)) :
    Rep w I α (.fsl full es) (.slice (some ⟨b, base, none⟩) es.length cap) := by
  refine .fsl full es _ _ cap sz b base (fun i j => (w.cell? ⟨b, base + i * sz + j, none⟩).getD undef) rfl hc hf rfl (fun _ => hI) hs (fun i e j c h1 h2 => ?_) (fun i e j c h1 h2 => ?_)
  · obtain ⟨y, h3, _⟩ := hr _ _ (flat_at hs i j e c h1 h2)
    rw [← Nat.add_assoc] at h3
    rw [h3]; rfl
  · obtain ⟨y, h3, h4⟩ := hr _ _ (flat_at hs i j e c h1 h2)
    rw [← Nat.add_assoc] at h3
    rw [h3]; exact h4

theorem elemOfA_eq {t e : TypeId} (h : elemOfA P t = some e) : P.underlying t = some (.slice e) := by
  unfold elemOfA at h
  split at h
  · rename_i e' ht; simp at h; subst h; exact ht
  · simp at h

theorem rep_fillS {sz : Nat} (hpos : 0 < sz) : ∀ {parts : List (Nat × AV)} {parts' : List (Nat × Value)} {es es' : List AV} {cells' : Array Value}, RepP w I α parts parts' → RepL w I α (flat es) cells'.toList → (∀ a ∈ es, a.cells.length = sz) →
    fillS sz es parts = some es' → ∃ l', Instr.fill (fun i => some (i * sz, sz)) cells' parts' = some l' ∧ RepL w I α (flat es') l'.toList ∧ (∀ a ∈ es', a.cells.length = sz) ∧ es'.length = es.length
  | [], [], es, es', cells', _, h, hs, hf => by simp [fillS] at hf; subst hf; exact ⟨cells', rfl, h, hs, rfl⟩
  | (i, a) :: t, (j, v) :: u, es, es', cells', hp, h, hs, hf => by
    obtain ⟨rfl, hv, hp⟩ := hp
    simp only [fillS] at hf
    split at hf
    · rename_i hc
      simp only [Bool.and_eq_true] at hc
      have hsz : a.cells.length = sz := by have := hc.1; rw [lenN_eq] at this; exact beq_iff.1 this
      have hi : i < es.length := by have := hc.2; rw [lenN_eq] at this; simpa using this
      have hcs := hv.cells
      have hvs : v.cells.size = sz := by rw [← hsz, hcs.1]; simp
      have hfl : (flat es).length = es.length * sz := flat_length hs
      have hfit : i * sz + sz ≤ cells'.size := by
        have h1 := h.1
        simp only [Array.length_toList] at h1
        have : (i + 1) * sz ≤ es.length * sz := Nat.mul_le_mul_right _ hi
        rw [Nat.add_mul] at this; omega
      simp only [Instr.fill, hvs]
      have : ¬ ((decide (sz ≠ sz) || decide (i * sz + sz > cells'.size)) = true) := by simp; omega
      rw [if_neg this]
      rw [setN_eq] at hf
      have e := fold_zip v.cells.toList 0 (i * sz) cells' (by simp; omega)
      simp only [Nat.add_zero] at e
      have e' : (v.cells.zipIdx.foldl (fun cs (p : Value × Nat) => cs.setIfInBounds (i * sz + p.2) p.1) cells').toList = cells'.toList.take (i * sz) ++ v.cells.toList ++ cells'.toList.drop (i * sz + v.cells.toList.length) := by
        rw [← e]
        congr 1
        rw [← Array.foldl_toList, Array.toList_zipIdx]
      obtain ⟨l', h1, h2, h3, h4⟩ := rep_fillS hpos hp (by
        rw [e', flat_set hs i a hi hsz, ← hcs.1]
        exact ((h.take _).append hcs).append (h.drop _)) (allSize_set hs hsz) hf
      exact ⟨l', h1, h2, h3, by rw [h4]; simp⟩
    · simp at hf
  | [], _ :: _, _, _, _, hp, _, _, _ => hp.elim
  | _ :: _, [], _, _, _, hp, _, _, _ => by
    rename_i p _ _ _ _ ; exact hp.elim

theorem zeros_rep {z : AV} {zv : Array Value} {n sz : Nat} (hpos : 0 < sz) (hz : RepL w I α z.cells zv.toList) (hs : z.cells.length = sz) :
    RepL w I α (flat (repE z n)) (((Array.range (n * sz)).map (zv[· % zv.size]!)).toList) := by
  have hall : ∀ a ∈ repE z n, a.cells.length = sz := fun a ha => by rw [repE_mem ha]; exact hs
  have hzv : zv.size = sz := by rw [← hs, hz.1]; simp
  refine ⟨by rw [flat_length hall, repE_length]; simp, fun i x y h1 h2 => ?_⟩
  obtain ⟨e, h3, h4⟩ := flat_get hpos hall i x h1
  have he := repE_mem (List.mem_of_getElem? h3)
  subst he
  have hi : i < n * sz := by
    rcases Nat.lt_or_ge i (n * sz) with h' | h'
    · exact h'
    · rw [List.getElem?_eq_none (by rw [flat_length hall, repE_length]; exact h')] at h1; cases h1
  have hm : i % sz < sz := Nat.mod_lt _ hpos
  have hy : y = zv[i % zv.size]! := by
    simp [hi] at h2
    exact h2.symm
  rw [hy, hzv]
  refine hz.2 _ _ _ h4 ?_
  rw [getElem!_pos zv (i % sz) (by omega)]
  simp [hzv, hm]

theorem implV_buildSlice {t : TypeId} {n : Nat} {parts : List (Nat × AV)} {parts' : Array (Nat × Value)} {v : AV} (c : Ctx P G call w I α H rid nx) (hp : RepP w I α parts parts'.toList) (h : buildSliceA P t n parts = some v) :
    ImplV P G call w I α H rid nx (Instr.buildSlice t n parts') (.val v) := by
  unfold buildSliceA at h
  split at h
  · rename_i e he
    have ht := elemOfA_eq he
    split at h
    · rename_i sz z hsz hz
      split at h
      · rename_i hc
        simp only [Bool.and_eq_true] at hc
        have hle := Nat.le_of_ble_eq_true hc.1.1
        have hpos : 0 < sz := by simpa using hc.2
        have hzl : z.cells.length = sz := by have := hc.1.2; rw [lenN_eq] at this; exact beq_iff.1 this
        cases hf : fillS sz (repE z n) parts with
        | none => simp [hf, fslO] at h
        | some es =>
          simp only [hf, fslO, Option.some.injEq] at h; subst h
          obtain ⟨i, zv, h1, h2, h3⟩ := zeroA_info hz
          have hzr : RepL w I α z.cells zv.cells.toList := (rep_ofValue h3).cells
          have hnot : ¬ (n * sz > 2 ^ 24) := by omega
          · have hall : ∀ a ∈ repE z n, a.cells.length = sz := fun a ha => by rw [repE_mem ha]; exact hzl
            obtain ⟨l', e1, e2, e3, e4⟩ := rep_fillS hpos hp (zeros_rep (n := n) hpos hzr hzl) hall hf
            rw [repE_length] at e4
            by_cases hn : n * sz = 0
            · have hn0 : n = 0 := by rcases Nat.mul_eq_zero.1 hn with h | h <;> omega
              subst hn0
              have hes : es = [] := List.eq_nil_of_length_eq_zero e4
              subst hes
              have r0 : Array.range 0 = #[] := rfl
              have e1' : Instr.fill (fun i => some (i * sz, sz)) #[] parts'.toList = some l' := by simpa [r0] using e1
              refine impl_newF c (w' := { w with heap := w.heap.push (.cells l' e) }) (o := .cells l' e) (v' := .slice (some ⟨w.heap.size, 0, none⟩) 0 0) ?_ rfl (fun I' _ hnew _ _ => ?_)
              · simp [Instr.buildSlice, run_underlying' ht, run_sizeOf' hsz, r0, e1', newRow]
              · exact rep_fsl_row (sz := sz) hnew e3 (Nat.le_refl _) (fun _ => rfl) (fun j c hj => by simp [flat] at hj)
            · refine impl_newF c (w' := { w with heap := w.heap.push (.cells l' e) }) (o := .cells l' e) (v' := .slice (some ⟨w.heap.size, 0, none⟩) n n) ?_ rfl (fun I' _ hnew rel ev => ?_)
              · simp [Instr.buildSlice, run_underlying' ht, run_sizeOf' hsz, hnot, hn, run_zeroValue' h1 h2, e1, newRow]
              · rw [← e4]
                refine rep_fsl_row (sz := sz) hnew e3 (Nat.le_refl _) (fun _ => rfl) ?_
                exact rep_cells_row (c := l') (e := e) (fr := (0, 0)) (by simp) (e2.ev c.rel ev)
      · simp at h
    · simp at h
  · simp at h

/-- A new slice in a row of the call's own. -/
theorem implV_buildRow {t : TypeId} {n : Nat} {parts : List (Nat × AV)} {parts' : Array (Nat × Value)} {es : List AV} {el : TypeId} {sz : Nat} (c : Ctx P G call w I α H rid nx) (hp : RepP w I α parts parts'.toList) (h : buildSliceA P t n parts = some (.fsl true es))
    (hel : elemOfA P t = some el) (hsz' : sizeA P el = some sz) : ImplV P G call w I α H rid nx (Instr.buildSlice t n parts') (.new (.cells (flat es)) fun id => .rsl true id 0 n sz) := by
  unfold buildSliceA at h
  rw [hel] at h
  simp only at h
  have ht := elemOfA_eq hel
  split at h
  · rename_i sz0 z hsz hz
    have hee : sz0 = sz := by rw [hsz] at hsz'; exact (Option.some.inj hsz')
    subst hee
    split at h
    · rename_i hc
      simp only [Bool.and_eq_true] at hc
      have hle := Nat.le_of_ble_eq_true hc.1.1
      have hpos : 0 < sz0 := by simpa using hc.2
      have hzl : z.cells.length = sz0 := by have := hc.1.2; rw [lenN_eq] at this; exact beq_iff.1 this
      cases hf : fillS sz0 (repE z n) parts with
      | none => simp [hf, fslO] at h
      | some es' =>
        simp only [hf, fslO, Option.some.injEq, AV.fsl.injEq, true_and] at h; subst h
        obtain ⟨i, zv, h1, h2, h3⟩ := zeroA_info hz
        have hzr : RepL w I α z.cells zv.cells.toList := (rep_ofValue h3).cells
        have hnot : ¬ (n * sz0 > 2 ^ 24) := by omega
        have hall : ∀ a ∈ repE z n, a.cells.length = sz0 := fun a ha => by rw [repE_mem ha]; exact hzl
        obtain ⟨l', e1, e2, e3, e4⟩ := rep_fillS hpos hp (zeros_rep (n := n) hpos hzr hzl) hall hf
        rw [repE_length] at e4
        have hl' : l'.size = n * sz0 := by
          have := e2.1
          rw [flat_length e3, e4] at this
          simpa using this.symm
        have hrun : (Instr.buildSlice t n parts').run P w = .ok (.slice (some ⟨w.heap.size, 0, none⟩) n n) (w.alloc (.cells l' el)) := by
          by_cases hn : n * sz0 = 0
          · have hn0 : n = 0 := by rcases Nat.mul_eq_zero.1 hn with h | h <;> omega
            subst hn0
            have r0 : Array.range 0 = #[] := rfl
            have e1' : Instr.fill (fun i => some (i * sz0, sz0)) #[] parts'.toList = some l' := by simpa [r0] using e1
            simp [Instr.buildSlice, run_underlying' ht, run_sizeOf' hsz, r0, e1', newRow]
          · simp [Instr.buildSlice, run_underlying' ht, run_sizeOf' hsz, hnot, hn, run_zeroValue' h1 h2, e1, newRow]
        have hnew : (w.alloc (.cells l' el)).heap[w.heap.size]? = some (.cells l' el (0, 0)) := by show (w.heap.push (.cells l' el))[w.heap.size]? = _; simp
        refine impl_new c (w' := w.alloc (.cells l' el)) (by rw [hrun]; rfl) rfl (fun α' hα rel => ?_) (fun α' hα => .rsl true rid 0 n sz0 n _ hα (Nat.le_refl _) (fun _ => ⟨el, n * sz0, ?_, by omega⟩))
        · have ev : Ev w I α H (w.alloc (.cells l' el)) I α H := ev_push rfl I (fun _ h => h) (fun _ h => .inl h)
          refine bRel_cells hnew ?_
          have := e2.ev c.rel ev
          exact ⟨this.1, fun i a b h1 h2 => (this.2 i a b h1 h2).mono (fun _ h => h) hα (fun _ _ _ => rfl) (fun _ _ _ => rfl)⟩
        · simp only [World.shape?, hnew, hl']
    · simp at h
  · simp at h

/-- What append does with a source, by where it lays its cells. -/
structure AppRun (P : Program) (w : World) (argTypes : Array TypeId) (ty : TypeId) (x' : Value) (i : TypeInfo) (zv : Value) (e : TypeId) (n : Nat) (news : List Value) : Prop where
  inn : ∀ {g sLen sCap : Nat} {cur : Array Value} {ee : TypeId}, sLen + n ≤ sCap → w.heap[g]? = some (.cells cur ee (0, 0)) → sLen * i.size + news.length ≤ cur.size → (∀ v ∈ news, v.oneCell' = true) →
    (Builtin.append_ argTypes ty #[.slice (some ⟨g, 0, none⟩) sLen sCap, x']).run P w =
      .ok (.slice (some ⟨g, 0, none⟩) (sLen + n) sCap) (w.setRow g (cur.toList.take (sLen * i.size) ++ news ++ cur.toList.drop (sLen * i.size + news.length)).toArray)
  nought : n = 0 → ∀ {a : Option Addr} {sLen sCap : Nat}, sLen ≤ sCap → (Builtin.append_ argTypes ty #[.slice a sLen sCap, x']).run P w = .ok (.slice a sLen sCap) w
  out : ∀ {a : Option Addr} {sLen sCap : Nat} {olds : List Value}, (∀ w', w'.heap = w.heap → (Builtin.firstCells i.size sLen (.slice a sLen sCap)).run P w' = .ok olds.toArray w') → sCap < sLen + n → (sLen + n) * i.bytes ≤ 140737488355328 →
    (Builtin.append_ argTypes ty #[.slice a sLen sCap, x']).run P w =
      .ok (.slice (some ⟨w.heap.size, 0, none⟩) (sLen + n) (grownCap w (sLen + n) sCap e))
        (w.drew.alloc (.cells (olds.toArray ++ news.toArray ++ Builtin.zeroCells zv.cells (grownCap w (sLen + n) sCap e - (sLen + n))) e))

theorem appRun_src {argTypes : Array TypeId} {ty st xt e : TypeId} {xd : TypeDesc} {i : TypeInfo} {x' zv : Value} {n : Nat} {vs : List Value} (h0 : argTypes[0]? = some st) (h1 : argTypes[1]? = some xt) (hst : P.underlying st = some (.slice e)) (hxt : P.underlying xt = some xd)
    (hni : (∃ e', xd = .slice e') ∨ xd = .string) (hi : P.info? e = some i) (hb0 : i.bytes ≠ 0) (hzv : i.zero = some zv) (hvl : vs.length = n * i.size) (hlen : (Builtin.lenOf x').run P w = .ok n w)
    (hfirst : ∀ n' w', n' ≤ n → w'.heap = w.heap → (Builtin.firstCells i.size n' x').run P w' = .ok (vs.take (n' * i.size)).toArray w') : AppRun P w argTypes ty x' i zv e n vs := by
  have hf : ∀ w', w'.heap = w.heap → (Builtin.firstCells i.size n x').run P w' = .ok vs.toArray w' := fun w' hw' => by
    rw [hfirst n w' (Nat.le_refl _) hw', ← hvl, List.take_length]
  refine ⟨fun hr hg hfit hone => run_append_in h0 h1 hst hxt hni hi hlen (hf w rfl) hr hg hfit hone, fun hn a sLen sCap hle => ?_, fun hold ho hby => run_append_out h0 h1 hst hxt hni hi hb0 hzv hlen hf hold ho hby⟩
  subst hn
  have hf0 : (Builtin.firstCells i.size 0 x').run P w = .ok #[] w := by
    rw [hfirst 0 w (Nat.zero_le _) rfl]; simp
  exact run_append_none h0 h1 hst hxt hni hi hlen hf0 hle

theorem zeroCells_zero (z : Array Value) : Builtin.zeroCells z 0 = #[] := by
  apply Array.ext'
  simp [Builtin.zeroCells]

theorem appRun_int {argTypes : Array TypeId} {ty st xt e : TypeId} {ik k : IntKind} {i : TypeInfo} {zv : Value} {n : Nat} (h0 : argTypes[0]? = some st) (h1 : argTypes[1]? = some xt) (hst : P.underlying st = some (.slice e)) (hxt : P.underlying xt = some (.int ik))
    (hi : P.info? e = some i) (hb0 : i.bytes ≠ 0) (hsz0 : i.size ≠ 0) (hzv : i.zero = some zv) (hn : n ≤ 9223372036854775807) (hb : n * i.bytes ≤ 281474976710656) :
    AppRun P w argTypes ty (.int k n) i zv e n (Builtin.zeroCells zv.cells n).toList := by
  have w1 : IntKind.i64.wrap (n : Int) = n := IntWalk.i64_in _ ⟨by omega, by omega⟩
  have e1 : ¬ ((n : Int) < 0) := by omega
  have e2 : ¬ ((281474976710656 : Int) < (n : Int) * (i.bytes : Int)) := by
    have : (n : Int) * (i.bytes : Int) = ((n * i.bytes : Nat) : Int) := by simp
    rw [this]; omega
  have hsA : sizeA P e = some i.size := by simp [sizeA, hi]
  have w0 : IntKind.i64.wrap 0 = 0 := IntWalk.i64_in _ ⟨by omega, by omega⟩
  refine ⟨fun {g sLen sCap cur ee} hr hg hfit hone => ?_, fun hn0 {a sLen sCap} hle => ?_, fun {a sLen sCap olds} hold hout hby => ?_⟩
  · have hst' := run_storeCells_at P g (sLen * i.size) ee (Builtin.zeroCells zv.cells n).toList 0 cur w hg (by simpa using hfit) hone
    simp only [Nat.add_zero] at hst'
    by_cases hz : n = 0
    · subst hz
      have hr' : sLen ≤ sCap := hr
      rw [zeroCells_zero] at hst' ⊢
      simp only [List.append_nil, List.length_nil, Nat.add_zero, List.take_append_drop] at hst'
      simp [Builtin.append_, h0, h1, run_underlying' hst, run_underlying' hxt, run_typeInfo' hi, run_sizeOf' hsA, asInt, asIntOf, w0, hr', Addr.add_lit, hst']
    · have hzz : ¬ (n * i.size = 0) := fun h => by rcases Nat.mul_eq_zero.1 h with h | h <;> omega
      simp [Builtin.append_, h0, h1, run_underlying' hst, run_underlying' hxt, run_typeInfo' hi, run_sizeOf' hsA, asInt, asIntOf, w1, e1, e2, hr, hzz, run_zeroValue' hi hzv, Addr.add_lit, hst']
  · subst hn0
    cases a <;> simp [Builtin.append_, h0, h1, run_underlying' hst, run_underlying' hxt, run_typeInfo' hi, run_sizeOf' hsA, asInt, asIntOf, w0, hle, storeCells]
  · have hnr : ¬ (sLen + n ≤ sCap) := by omega
    have hfit := growslice_fits hout hby
    have hfit' : ¬ (281474976710656 < Builtin.nextslicecap (sLen + n) sCap * i.bytes) := by omega
    have hneed : ¬ (((sLen + n : Nat) : Int) > IntKind.i64.max) := by
      have h1 : sLen + n ≤ (sLen + n) * i.bytes := Nat.le_mul_of_pos_right _ (Nat.pos_of_ne_zero hb0)
      have h2 : IntKind.i64.max = 9223372036854775807 := by decide
      rw [h2]; omega
    have ho' := hold w.drew rfl
    by_cases hz : n = 0
    · subst hz
      rw [zeroCells_zero]
      have hnr' : ¬ (sLen ≤ sCap) := hnr
      have hneed2 : ¬ (9223372036854775807 < (sLen : Int)) := by
        have h2 : IntKind.i64.max = 9223372036854775807 := by decide
        rw [h2] at hneed; omega
      have hfit2 : ¬ (281474976710656 < Builtin.nextslicecap sLen sCap * i.bytes) := hfit'
      simp [Builtin.append_, h0, h1, run_underlying' hst, run_underlying' hxt, run_typeInfo' hi, run_sizeOf' hsA, asInt, asIntOf, w0, hnr', hneed2, hfit2, ho', run_zeroValue' hi hzv, newRow, grownCap, Question.forced]
    · have hzz : ¬ (n * i.size = 0) := fun h => by rcases Nat.mul_eq_zero.1 h with h | h <;> omega
      have hneed2 : ¬ (9223372036854775807 < (sLen : Int) + (n : Int)) := by
        have h2 : IntKind.i64.max = 9223372036854775807 := by decide
        rw [h2] at hneed; omega
      simp [Builtin.append_, h0, h1, run_underlying' hst, run_underlying' hxt, run_typeInfo' hi, run_sizeOf' hsA, asInt, asIntOf, w1, e1, e2, hnr, hneed2, hfit', hzz, ho', run_zeroValue' hi hzv, newRow, grownCap, Question.forced]

theorem impl_appSrc {m : Result Next} {argTypes : Array TypeId} {ty st xt el : TypeId} {xd : TypeDesc} {i : TypeInfo} {z x : AV} {zv x' : Value} {k : Nat → List AV → Option Eff} {e : Eff} (c : Ctx P G call w I α H rid nx) (hx : Rep w I α x x')
    (h0 : argTypes[0]? = some st) (h1 : argTypes[1]? = some xt) (hst : P.underlying st = some (.slice el)) (hxt : P.underlying xt = some xd) (hi : P.info? el = some i) (hb0 : i.bytes ≠ 0) (hsz0 : i.size ≠ 0)
    (hz : zeroA P el = some z) (hzl : z.cells.length = i.size) (hzv : i.zero = some zv) (hzs : zv.cells.size = i.size) (h : appSrc xd i.size i.bytes z x k = some e)
    (hk : ∀ n cs vs e', k n cs = some e' → RepL w I α cs vs → vs.length = n * i.size → AppRun P w argTypes ty x' i zv el n vs → Impl P G call w I α H rid nx m e') : Impl P G call w I α H rid nx m e := by
  have src : (∃ e', xd = .slice e') ∨ xd = .string → srcA i.size x k = some e → Impl P G call w I α H rid nx m e := fun hni h =>
    impl_src c hx h fun n cs vs e' hk' hcs hvl hlen hfirst => hk n cs vs e' hk' hcs hvl (appRun_src h0 h1 hst hxt hni hi hb0 hzv hvl hlen hfirst)
  unfold appSrc at h
  split at h
  · exact src (.inl ⟨_, rfl⟩) h
  · exact src (.inr rfl) h
  · split at h
    · rename_i ik kk n
      split at h
      · rename_i hc
        simp only [Bool.and_eq_true] at hc
        have c1 := Nat.le_of_ble_eq_true hc.1
        have c2 := Nat.le_of_ble_eq_true hc.2
        cases hx
        obtain ⟨i', zv', g1, g2, g3⟩ := zeroA_info hz
        rw [hi] at g1; cases g1
        rw [hzv] at g2; cases g2
        have hzr : RepL w I α z.cells zv.cells.toList := (rep_ofValue g3).cells
        have hzz := zeros_rep (n := n) (Nat.pos_of_ne_zero hsz0) hzr hzl
        have hzc : (Builtin.zeroCells zv.cells n).toList = ((Array.range (n * i.size)).map (zv.cells[· % zv.cells.size]!)).toList := by
          simp only [Builtin.zeroCells, hzs]
        exact hk n _ (Builtin.zeroCells zv.cells n).toList e h (by rw [hzc]; exact hzz) (by simp [zeroCells_size, hzs]) (appRun_int h0 h1 hst hxt hi hb0 hsz0 hzv c1 c2)
      · simp at h
    · simp at h
  · simp at h

theorem implV_append {argTypes : Array TypeId} {ty : TypeId} {s x : AV} {s' x' : Value} {e : Eff} (c : Ctx P G call w I α H rid nx) (hs : Rep w I α s s') (hx : Rep w I α x x') (h : appendA P argTypes s x = some e) :
    ImplV P G call w I α H rid nx (Builtin.append_ argTypes ty #[s', x']) e := by
  unfold appendA at h
  split at h
  · rename_i st xt h0 h1
    split at h
    · rename_i el xd hst hxt
      · split at h
        · rename_i i z hi hz
          split at h
          · simp at h
          · rename_i hc
            simp only [Bool.or_eq_true, not_or, Bool.not_eq_true', Bool.not_eq_true] at hc
            have hsz0 : i.size ≠ 0 := beq_false_iff.1 hc.1.1
            have hb0 : i.bytes ≠ 0 := beq_false_iff.1 hc.1.2
            have hzl : z.cells.length = i.size := by
              have h2 : Nat.beq (lenN z.cells) i.size = true := by
                cases hq : Nat.beq (lenN z.cells) i.size with
                | true => rfl
                | false => rw [hq] at hc; simp at hc
              have := beq_iff.1 h2; rwa [lenN_eq] at this
            obtain ⟨zv, hzv, hzs, _⟩ := zeroA_cells (w := w) (I := I) (α := α) hi hz
            rw [hzl] at hzs
            refine impl_appSrc (ty := ty) c hx h0 h1 hst hxt hi hb0 hsz0 hz hzl hzv hzs h fun n cs vs e' hk hcs hvl R => ?_
            split at hk
            · -- a nil slice
              cases hs
              split at hk
              · rename_i hn
                have hn : n = 0 := beq_iff.1 hn
                subst hn
                simp only [Option.some.injEq] at hk; subst hk
                exact impl_val c (by rw [R.nought rfl (Nat.le_refl _)]; rfl) .nilsl
              · rename_i hn
                have hn : n ≠ 0 := fun e => hn (beq_iff.2 e)
                split at hk
                · rename_i hby
                  have hby := Nat.le_of_ble_eq_true hby
                  simp only [Option.some.injEq] at hk; subst hk
                  intro d u H' nx' ft he
                  have : u = .rsl true rid 0 n i.size ∧ H' = hins H rid (.cells cs) ∧ nx' = nx := by
                    cases d <;> (simp only [runEff, Option.some.injEq, Prod.mk.injEq] at he; obtain ⟨rfl, rfl, rfl, _⟩ := he; exact ⟨rfl, rfl, rfl⟩)
                  obtain ⟨rfl, rfl, rfl⟩ := this
                  have hrun := R.out (a := none) (sLen := 0) (sCap := 0) (olds := []) (fun w' _ => by simp [Builtin.firstCells]) (by omega) (by simpa using hby)
                  rw [hrun]
                  simp only [Nat.zero_add, Result.andThen_ok]
                  exact post_newRow (olds := []) (news := vs) c rfl (by simpa using hcs) (by simpa using hvl) hzs (grownCap_ge w _ _ _)
                · simp at hk
            · -- a full slice
              rename_i es
              split at hk
              · rename_i hn
                have hn : n = 0 := beq_iff.1 hn
                subst hn
                simp only [Option.some.injEq] at hk; subst hk
                obtain ⟨a, len, cap, rfl, hlc⟩ : ∃ a len cap, s' = .slice a len cap ∧ len ≤ cap := by
                  cases hs with
                  | fsl _ _ a len cap sz b base g hl hc hf ha hI hs hg hr => exact ⟨a, len, cap, rfl, hc⟩
                exact impl_val c (by rw [R.nought rfl hlc]; rfl) hs
              · rename_i hn
                have hn : n ≠ 0 := fun e => hn (beq_iff.2 e)
                split at hk
                · rename_i hby
                  simp only [Bool.and_eq_true] at hby
                  have hall := hby.2
                  have hby := Nat.le_of_ble_eq_true hby.1
                  rw [lenN_eq] at hby
                  simp only [Option.some.injEq] at hk; subst hk
                  intro d u H' nx' ft he
                  have : u = .rsl true rid 0 (lenN es + n) i.size ∧ H' = hins H rid (.cells (flat es ++ cs)) ∧ nx' = nx := by
                    cases d <;> (simp only [runEff, Option.some.injEq, Prod.mk.injEq] at he; obtain ⟨rfl, rfl, rfl, _⟩ := he; exact ⟨rfl, rfl, rfl⟩)
                  obtain ⟨rfl, rfl, rfl⟩ := this
                  obtain ⟨a, cap, us, rfl, hlc, hfull, hus, hul, hfi⟩ := fsl_flat (P := P) hs hall
                  have hcap := hfull rfl
                  subst hcap
                  have hrun := R.out (a := a) (sLen := es.length) (sCap := es.length) (olds := us) (fun w' hw' => by
                    rw [hfi es.length w' (Nat.le_refl _) hw', ← hul, List.take_length]) (by omega) hby
                  rw [hrun, lenN_eq]
                  exact post_newRow c rfl (hus.append hcs) (by rw [List.length_append, hul, hvl, Nat.add_mul]) hzs (grownCap_ge w _ _ _)
                · simp at hk
            · -- any slice, nothing appended
              rename_i es
              split at hk
              · rename_i hn
                have hn : n = 0 := beq_iff.1 hn
                subst hn
                simp only [Option.some.injEq] at hk; subst hk
                obtain ⟨a, len, cap, rfl, hlc⟩ : ∃ a len cap, s' = .slice a len cap ∧ len ≤ cap := by
                  cases hs with
                  | fsl _ _ a len cap sz b base g hl hc hf ha hI hs hg hr => exact ⟨a, len, cap, rfl, hc⟩
                exact impl_val c (by rw [R.nought rfl hlc]; rfl) hs
              · simp at hk
            · -- a row of the call's own
              rename_i id len sz
              split at hk
              · rename_i hby
                simp only [Bool.and_eq_true] at hby
                have hsz : sz = i.size := beq_iff.1 hby.2
                subst hsz
                have hone := hby.1.2
                have hby := Nat.le_of_ble_eq_true hby.1.1
                simp only [Option.some.injEq] at hk; subst hk
                cases hs with
                | rsl _ _ _ _ _ cap b hb hlc ho =>
                  obtain ⟨e0, n0, hshape, hcapn⟩ := ho rfl
                  refine impl_repl c fun blk b' blk' v hg hα hB hkk => ?_
                  rw [hb] at hα; cases hα
                  split at hkk
                  · rename_i l
                    obtain ⟨cur, ee, k1, k2, k3⟩ := hB
                    have hcur : cap * i.size = cur.size := by
                      simp only [World.shape?, k1, Option.some.injEq, Prod.mk.injEq] at hshape
                      omega
                    have hlenmul : len * i.size ≤ cap * i.size := Nat.mul_le_mul_right _ hlc
                    -- in place
                    have inplace : len + n ≤ cap → ∀ l', (∀ w', Rel G w' I α (hdel H id) → Ev w I α H w' I α (hdel H id) → w'.heap[b]? = some (.cells (cur.toList.take (len * i.size) ++ vs ++ cur.toList.drop (len * i.size + vs.length)).toArray ee (0, 0)) → BRel w' I α b (.cells l')) →
                        Out P (Post G w I α H rid nx (.rsl true rid 0 (len + n) i.size) (hins (hdel H id) rid (.cells l')) nx) (((Builtin.append_ argTypes ty #[.slice (some ⟨b, 0, none⟩) len cap, x']).run P w).andThen fun v w' => .ok (.value v) w') := by
                      intro hroom l' hl'
                      have hmul : (len + n) * i.size ≤ cap * i.size := Nat.mul_le_mul_right _ hroom
                      have hfit : len * i.size + vs.length ≤ cur.size := by rw [hvl, ← Nat.add_mul]; omega
                      rw [R.inn hroom k1 hfit (hcs.one hone)]
                      refine post_rename c hg hb (by simp) (fun k hk => setRow_other w b k _ hk) ?_ (fun rel ev => hl' _ rel ev (setRow_heap w b cur _ ee _ k1)) (fun α' hα' => .rsl true rid 0 _ _ cap b hα' hroom (fun _ => ⟨e0, n0, ?_, hcapn⟩))
                      · simp only [World.shape?, setRow_heap w b cur _ ee _ k1, k1]
                        simp; omega
                      · simp only [World.shape?, k1, Option.some.injEq, Prod.mk.injEq] at hshape
                        simp only [World.shape?, setRow_heap w b cur _ ee _ k1, Option.some.injEq, Prod.mk.injEq]
                        refine ⟨hshape.1, ?_⟩
                        simp; omega
                    split at hkk
                    · rename_i hroom
                      have hroom := Nat.le_of_ble_eq_true hroom
                      rw [lenN_eq] at hroom
                      split at hkk
                      · rename_i l' hl'
                        simp only [Option.some.injEq, Prod.mk.injEq] at hkk
                        obtain ⟨rfl, rfl⟩ := hkk
                        have hle : len + n ≤ cap := by
                          have : (len + n) * i.size ≤ cap * i.size := by omega
                          exact Nat.le_of_mul_le_mul_right this (Nat.pos_of_ne_zero hsz0)
                        exact inplace hle l' (fun w' rel ev hw' => bRel_splice k2 (k3.ev c.rel ev) hl' (hcs.ev c.rel ev) hw')
                      · simp at hkk
                    · split at hkk
                      · rename_i hll
                        have hll := Nat.le_of_ble_eq_true hll
                        rw [lenN_eq] at hll
                        simp only [Option.some.injEq, Prod.mk.injEq] at hkk
                        obtain ⟨rfl, rfl⟩ := hkk
                        have hpre : RepL w I α (l.take (len * i.size)) (cur.toList.take (len * i.size)) := by
                          have := k3.take (len * i.size)
                          rwa [List.take_take, Nat.min_eq_left hll] at this
                        have hprelen : (l.take (len * i.size)).length = len * i.size := by simp; omega
                        by_cases hle : len + n ≤ cap
                        · refine inplace hle _ (fun w' rel ev hw' => ?_)
                          have hmul : (len + n) * i.size ≤ cap * i.size := Nat.mul_le_mul_right _ hle
                          rw [Nat.add_mul] at hmul
                          refine ⟨_, ee, hw', ?_, ?_⟩
                          · simp [hcs.1, hvl]; omega
                          · have k := (hpre.ev c.rel ev).append (hcs.ev c.rel ev)
                            have e1 : ((cur.toList.take (len * i.size) ++ vs ++ cur.toList.drop (len * i.size + vs.length)).toArray.toList.take (l.take (len * i.size) ++ cs).length) = cur.toList.take (len * i.size) ++ vs := by
                              simp only
                              rw [← k.1.symm]
                              exact List.take_left
                            rw [e1]; exact k
                        · have hold : ∀ w', w'.heap = w.heap → (Builtin.firstCells i.size len (.slice (some ⟨b, 0, none⟩) len cap)).run P w' = .ok (cur.toList.take (len * i.size)).toArray w' := fun w' hw' => by
                            simp only [Builtin.firstCells]
                            have e2 : (cur.toList.take (len * i.size)).length = len * i.size := by simp; omega
                            have := run_loadCells_list (P := P) w' ⟨b, 0, none⟩ (cur.toList.take (len * i.size)) (fun j v hv => by
                              rw [add_lit, cell_heap hw']
                              have hj : j < len * i.size := by
                                rcases Nat.lt_or_ge j (len * i.size) with h' | h'
                                · exact h'
                                · rw [List.getElem?_eq_none (by omega)] at hv; cases hv
                              rw [List.getElem?_take_of_lt hj] at hv
                              simp only [World.cell?, k1, Nat.zero_add]
                              simpa using hv)
                            rwa [e2] at this
                          have hrun := R.out (sCap := cap) hold (by omega) hby
                          rw [hrun]
                          refine Post.of_del (id := id) (post_newRow (c.del id) rfl (hpre.append hcs) ?_ hzs (grownCap_ge w _ _ _))
                          rw [List.length_append, hvl, ← hpre.1, hprelen, Nat.add_mul]
                      · simp at hkk
                  · simp at hkk
              · simp at hk
            · simp at hk
        · simp at h
    · simp at h
  · simp at h


end
end Go.Proofs.Abs
