/- Slicing, conversions, make, copy, clear, len, min, max. -/
import Derived.Test.YtnlllfokomenfaaGreatDoorE10
import Derived.Laws.BytesString
namespace Go.Proofs.Abs
open Go

section
variable {P : Program} {G : Glob} {call : Caller} {w : World} {I : Nat → Prop} {α : Nat → Option Nat} {H : Heap} {rid nx : Nat}

theorem natOf_rep {x : AV} {x' : Value} {n : Nat} (hx : Rep w I α x x') (h : natOf x = some n) : ∃ k, x' = .int k n := by
  unfold natOf at h
  split at h
  · simp at h; subst h; cases hx; exact ⟨_, rfl⟩
  · simp at h

/-- An optional bound beside its value. -/
def RepO (w : World) (I : Nat → Prop) (α : Nat → Option Nat) : Option AV → Option Value → Prop
  | none, none => True
  | some a, some v => Rep w I α a v
  | _, _ => False

theorem rep_mapOpt {s : Tr} {a : Act} (hs : SlotsRel w I α s a.tmps) {x : Option Operand} {v : Option AV} (h : mapOpt (evA s) x = some v) : RepO w I α v (x.map a.eval) := by
  cases x with
  | none => simp [mapOpt] at h; subst h; trivial
  | some x =>
    simp only [mapOpt, Option.map_eq_some_iff] at h
    obtain ⟨u, h1, rfl⟩ := h
    exact rep_ev hs h1

theorem optNat_rep {x : Option AV} {x' : Option Value} {n : Option Nat} (hx : RepO w I α x x') (h : optNat x = some n) :
    (n = none ∧ x' = none) ∨ ∃ k m, n = some m ∧ x' = some (.int k m) := by
  cases x with
  | none =>
    simp [optNat] at h; subst h
    cases x' with
    | none => exact .inl ⟨rfl, rfl⟩
    | some _ => exact hx.elim
  | some a =>
    simp only [optNat, Option.map_eq_some_iff] at h
    obtain ⟨m, h1, rfl⟩ := h
    cases x' with
    | none => exact hx.elim
    | some v =>
      obtain ⟨k, rfl⟩ := natOf_rep hx h1
      exact .inr ⟨k, m, rfl, rfl⟩

theorem run_sliceBound {k : IntKind} {n y : Nat} {code : BoundsCode} (h : n ≤ y) : (Instr.sliceBound (.int k n) y code).run P w = .ok n w := by
  have : (0 : Int) ≤ n ∧ (n : Int) ≤ y := by omega
  simp [Instr.sliceBound, asIntOf]
  intro h'; omega

/-- The bounds of a slice expression. -/
theorem run_sliceBounds {lo hi mx : Option Nat} {lo' hi' mx' : Option Value} {isSlice : Bool} {len cap : Nat}
    (h1 : (lo = none ∧ lo' = none) ∨ ∃ k m, lo = some m ∧ lo' = some (.int k m)) (h2 : (hi = none ∧ hi' = none) ∨ ∃ k m, hi = some m ∧ hi' = some (.int k m))
    (h3 : (mx = none ∧ mx' = none) ∨ ∃ k m, mx = some m ∧ mx' = some (.int k m))
    (hl : lo.getD 0 ≤ hi.getD len) (hh : hi.getD len ≤ mx.getD cap) (hm : mx.getD cap ≤ cap) (hmx : mx.isSome = true → hi.isSome = true) :
    (Instr.sliceBounds isSlice len cap lo' hi' mx').run P w = .ok (lo.getD 0, hi.getD len, mx.getD cap) w := by
  rcases h1 with ⟨rfl, rfl⟩ | ⟨k1, l, rfl, rfl⟩ <;> rcases h2 with ⟨rfl, rfl⟩ | ⟨k2, h, rfl, rfl⟩ <;> rcases h3 with ⟨rfl, rfl⟩ | ⟨k3, m, rfl, rfl⟩ <;>
    simp only [Option.getD_none, Option.getD_some, Option.isSome_some, Option.isSome_none, forall_const, Bool.false_eq_true] at hl hh hm hmx <;>
    simp [Instr.sliceBounds, run_sliceBound, *]

theorem rep_fsl_nil {b o n cap : Nat} (h : n = 0) (hc : n ≤ cap) : Rep w I α (.fsl false []) (.slice (some ⟨b, o, none⟩) n cap) :=
  .fsl false [] _ _ _ 0 b o (fun _ _ => undef) (by simp [h]) hc (by simp) rfl (fun h => absurd rfl h) (by simp) (by simp) (by simp)

theorem rep_fsl_drop {full f' : Bool} {es es' : List AV} {x' : Value} {l h : Nat} {sz : Nat} (hx : Rep w I α (.fsl full es) x') (hc : cutA es l h = some es') (hlh : l ≤ h) (hhn : h ≤ es.length) (hsz : es ≠ [] → ∀ e ∈ es, e.cells.length = sz) :
    ∃ a len cap, x' = .slice a len cap ∧ len = es.length ∧ len ≤ cap ∧ (full = true → cap = len) ∧
      ∀ m, h ≤ m → (f' = true → m = h) → Rep w I α (.fsl f' es') (.slice (if m = l then a else a.map (·.add (l * sz))) (h - l) (m - l)) := by
  cases hx with
  | fsl _ _ a len cap sz' b base g hl hcap hf ha hI hs hg hr =>
    refine ⟨a, len, cap, rfl, hl.symm, hcap, hf, fun m hm hfm => ?_⟩
    obtain ⟨e1, e2, _⟩ := chunk_eq _ _ _ _ hc
    have hne : es' ≠ [] → es ≠ [] := fun h0 e => by subst e; simp at e1; exact h0 e1
    have hget : ∀ i e, es'[i]? = some e → es[l + i]? = some e := fun i e he => by
      have hi : i < h - l := by
        rcases Nat.lt_or_ge i (h - l) with h' | h'
        · exact h'
        · rw [List.getElem?_eq_none (by omega)] at he; cases he
      rw [e1, List.getElem?_take_of_lt hi, List.getElem?_drop] at he; exact he
    by_cases h0 : es' = []
    · subst h0
      have hl0 : h - l = 0 := by simpa using e2.symm
      obtain ⟨base', hb'⟩ : ∃ base', (if m = l then a else a.map (·.add (l * sz))) = some ⟨b, base', none⟩ := by
        subst ha
        by_cases hml : m = l
        · exact ⟨base, by rw [if_pos hml]⟩
        · exact ⟨base + l * sz, by rw [if_neg hml]; simp [add_lit]⟩
      exact .fsl f' [] _ _ _ 0 b base' (fun _ _ => undef) (by simp [hl0]) (by omega) (fun h0 => by have := hfm h0; omega) hb' (fun h => absurd rfl h) (by simp) (by simp) (by simp)
    have hml : m ≠ l := fun e => by
      have : es'.length = 0 := by rw [e2]; omega
      exact h0 (List.eq_nil_of_length_eq_zero this)
    have hsz' : sz' = sz := by
      obtain ⟨x, hx⟩ := List.exists_mem_of_ne_nil es (hne h0)
      rw [← hs x hx, hsz (hne h0) x hx]
    subst hsz'
    refine .fsl f' es' _ _ _ sz' b (base + l * sz') (fun i j => g (l + i) j) e2 (by omega) (fun h0 => by have := hfm h0; omega) (by rw [if_neg hml, ha]; simp [add_lit]) (fun h0 => hI (hne h0)) (fun e he => ?_) (fun i e j c k1 k2 => ?_) (fun i e j c k1 k2 => hr (l + i) e j c (hget i e k1) k2)
    · obtain ⟨i, hi⟩ := List.getElem?_of_mem he
      exact hs e (List.mem_of_getElem? (hget i e hi))
    · have := hg (l + i) e j c (hget i e k1) k2
      rw [Nat.add_mul] at this
      rw [show base + l * sz' + i * sz' + j = base + (l * sz' + i * sz') + j by omega]
      exact this


theorem mx_ok {mx : Option Nat} {h n cap : Nat} {b : Bool} (hm : (match mx with | some m => Nat.ble h m && Nat.ble m n && b | none => true) = true) (hn : n ≤ cap) (hh : h ≤ cap) :
    h ≤ mx.getD cap ∧ mx.getD cap ≤ cap ∧ (mx.isSome = true → b = true) := by
  cases mx with
  | none => simpa using hh
  | some m =>
    simp only [Bool.and_eq_true] at hm
    have h1 := Nat.le_of_ble_eq_true hm.1.1
    have h2 := Nat.le_of_ble_eq_true hm.1.2
    exact ⟨by simpa using h1, by simp; omega, fun _ => hm.2⟩

theorem implV_slice {t : TypeId} {x : AV} {x' : Value} {lo hi mx : Option AV} {lo' hi' mx' : Option Value} {e : Eff} (c : Ctx P G call w I α H rid nx) (hx : Rep w I α x x')
    (h1 : RepO w I α lo lo') (h2 : RepO w I α hi hi') (h3 : RepO w I α mx mx') (h : sliceA P t x lo hi mx = some e) :
    ImplV P G call w I α H rid nx (Instr.sliceAt t x' lo' hi' mx') e := by
  unfold sliceA at h
  split at h
  · rename_i lo hi mx k1 k2 k3
    have b1 := optNat_rep h1 k1
    have b2 := optNat_rep h2 k2
    have b3 := optNat_rep h3 k3
    split at h
    · -- a string
      rename_i s
      unfold sliceStr at h
      split at h
      · rename_i ht
        split at h
        · rename_i hc
          simp only [Bool.and_eq_true] at hc
          have hl := Nat.le_of_ble_eq_true hc.1.2
          have hh := Nat.le_of_ble_eq_true hc.2
          rw [lenN_eq] at hl hh
          simp only [Option.some.injEq] at h; subst h
          cases hx with
          | str _ bs hbs =>
            have hsz : bs.size = s.length := by rw [← hbs]; exact Array.length_toList.symm
            have hmx : mx = none := by have := hc.1.1; cases mx <;> simp at this ⊢
            subst hmx
            have hmx' : mx' = none := by
              rcases b3 with ⟨_, h⟩ | ⟨k, m, h, _⟩
              · exact h
              · cases h
            subst hmx'
            have hb := run_sliceBounds (P := P) (w := w) (isSlice := false) (len := bs.size) (cap := bs.size) b1 b2 (.inl ⟨rfl, rfl⟩) (by rw [hsz]; exact hl) (by simp; rw [hsz]; exact hh) (by simp) (by simp)
            refine implV_val c (v' := .string (bs.extract (lo.getD 0) (hi.getD bs.size))) ?_ (.str _ _ ?_)
            · simp [Instr.sliceAt, Instr.slice, run_underlying' ht, hb]
            · rw [ByteArray.data_extract, lenN_eq, ← hsz]
              simp [List.extract_eq_take_drop, hbs]
        · simp at h
      · simp at h
    · -- frozen elements
      rename_i full es
      unfold sliceFsl at h
      split at h
      · rename_i el hel
        have ht := elemOfA_eq hel
        split at h
        · rename_i sz hsz
          split at h
          · rename_i hc
            simp only [Bool.and_eq_true] at hc
            have hl := Nat.le_of_ble_eq_true hc.1.1.2
            have hh := Nat.le_of_ble_eq_true hc.1.2
            have hhead := hc.1.1.1
            have hm := hc.2
            split at h
            · rename_i es' hes'
              simp only [Option.some.injEq] at h; subst h
              rw [lenN_eq] at hl hh hm hes'
              have hall : es ≠ [] → ∀ e ∈ es, e.cells.length = sz := fun hne => by
                cases hx with
                | fsl _ _ a len cap sz' b base g hl' hcap hf ha hI hs hg hr =>
                  match es, hne with
                  | e0 :: r, _ =>
                    have h0 : e0.cells.length = sz := by
                      simp only [headSize] at hhead; rw [lenN_eq] at hhead; exact beq_iff.1 hhead
                    have : sz' = sz := by rw [← h0, hs e0 (by simp)]
                    subst this; exact hs
              obtain ⟨a, len, cap, rfl, hlen, hcap, hf, hres⟩ := rep_fsl_drop (f' := fslFull full mx (hi.getD (lenN es)) (lenN es)) (sz := sz) hx hes' hl hh hall
              subst hlen
              obtain ⟨m1, m2, m3⟩ := mx_ok (cap := cap) hm hcap (by omega)
              have hb := run_sliceBounds (P := P) (w := w) (isSlice := true) (len := es.length) (cap := cap) b1 b2 b3 hl m1 m2 m3
              refine implV_val c (v' := .slice (if mx.getD cap = lo.getD 0 then a else a.map (·.add (lo.getD 0 * sz))) (hi.getD es.length - lo.getD 0) (mx.getD cap - lo.getD 0)) ?_ (hres _ m1 (fun hfm => ?_))
              · simp [Instr.sliceAt, Instr.slice, run_underlying' ht, hb, run_sizeOf' hsz]
              · cases mx with
                | none =>
                  simp only [fslFull, Bool.and_eq_true] at hfm
                  have := beq_iff.1 hfm.2
                  rw [lenN_eq] at this
                  simp only [Option.getD_none]
                  rw [this, hf hfm.1]
                | some m =>
                  simp only [fslFull] at hfm
                  have := beq_iff.1 hfm
                  rw [lenN_eq] at this
                  simpa using this
            · simp at h
          · simp at h
        · simp at h
      · simp at h
    · -- nil
      unfold sliceNil at h
      split at h
      · rename_i el hel
        have ht := elemOfA_eq hel
        split at h
        · rename_i sz hsz
          split at h
          · rename_i hc
            simp only [Bool.and_eq_true] at hc
            have e1 : lo.getD 0 = 0 := beq_iff.1 hc.1.1.1
            have e2 : hi.getD 0 = 0 := beq_iff.1 hc.1.1.2
            have e3 : mx.getD 0 = 0 := beq_iff.1 hc.1.2
            simp only [Option.some.injEq] at h; subst h
            cases hx
            have hb := run_sliceBounds (P := P) (w := w) (isSlice := true) (len := 0) (cap := 0) b1 b2 b3 (by omega) (by omega) (by omega) (fun hs => by
              have := hc.2; cases mx <;> simp_all)
            refine implV_val c (v' := .slice none 0 0) ?_ .nilsl
            simp [Instr.sliceAt, Instr.slice, run_underlying' ht, hb, run_sizeOf' hsz, e1, e2, e3]
          · simp at h
        · simp at h
      · simp at h
    · -- a row of the call's own
      rename_i own id off len sz'
      unfold sliceRsl at h
      split at h
      · rename_i el hel
        have ht := elemOfA_eq hel
        split at h
        · rename_i sz hsz
          split at h
          · rename_i hc
            simp only [Bool.and_eq_true] at hc
            have hs : sz = sz' := beq_iff.1 hc.1.1
            subst hs
            have hl := Nat.le_of_ble_eq_true hc.1.2
            have hm := hc.2
            cases hx with
            | rsl _ _ _ _ _ cap b hb hcap ho =>
              have main : hi.getD len ≤ cap → ImplV P G call w I α H rid nx (Instr.sliceAt t (.slice (some ⟨b, off, none⟩) len cap) lo' hi' mx') (.val (rslCut (own && mx.isNone) id off (lo.getD 0) (hi.getD len) sz)) := fun hhc => by
                obtain ⟨m1, m2, m3⟩ := mx_ok (cap := cap) hm hcap hhc
                have hbd := run_sliceBounds (P := P) (w := w) (isSlice := true) (len := len) (cap := cap) b1 b2 b3 hl m1 m2 m3
                refine implV_val c (v' := .slice (if mx.getD cap = lo.getD 0 then some ⟨b, off, none⟩ else some ⟨b, off + lo.getD 0 * sz, none⟩) (hi.getD len - lo.getD 0) (mx.getD cap - lo.getD 0)) ?_ ?_
                · simp only [Instr.sliceAt, Instr.slice, Sem.run_bind, run_underlying' ht, Result.andThen_ok, hbd, run_sizeOf' hsz, Option.map_some, add_lit]
                  rfl
                · have hown : ∀ o l, (own && mx.isNone) = true → off + cap * sz = o + l * sz → ∃ e n, w.shape? b = some (e, n) ∧ o + l * sz = n := fun o l ho' hol => by
                    simp only [Bool.and_eq_true] at ho'
                    obtain ⟨e0, n0, s1, s2⟩ := ho ho'.1
                    exact ⟨e0, n0, s1, by omega⟩
                  unfold rslCut
                  split
                  · rename_i h0
                    have h0 : lo.getD 0 = 0 := beq_iff.1 h0
                    have : (if mx.getD cap = lo.getD 0 then some (⟨b, off, none⟩ : Addr) else some ⟨b, off + lo.getD 0 * sz, none⟩) = some ⟨b, off, none⟩ := by rw [h0]; simp
                    rw [this, h0]
                    refine .rsl _ id off _ sz _ b hb (by omega) (fun ho' => hown _ _ ho' ?_)
                    simp only [Bool.and_eq_true] at ho'
                    have : mx = none := by cases mx <;> simp_all
                    subst this; simp
                  · rename_i h0
                    have h0 : lo.getD 0 ≠ 0 := beq_false_iff.1 h0
                    split
                    · rename_i h4
                      have h4 : lo.getD 0 = hi.getD len := beq_iff.1 h4
                      split <;> exact rep_fsl_nil (by omega) (by omega)
                    · rename_i h4
                      have h4 : lo.getD 0 ≠ hi.getD len := beq_false_iff.1 h4
                      rw [if_neg (by omega)]
                      refine .rsl _ id _ _ sz _ b hb (by omega) (fun ho' => hown _ _ ho' ?_)
                      simp only [Bool.and_eq_true] at ho'
                      have : mx = none := by cases mx <;> simp_all
                      subst this
                      simp only [Option.getD_none]
                      have hle : lo.getD 0 ≤ cap := by omega
                      have : cap * sz = lo.getD 0 * sz + (cap - lo.getD 0) * sz := by rw [← Nat.add_mul]; congr 1; omega
                      omega
              split at h
              · rename_i hh
                have hh := Nat.le_of_ble_eq_true hh
                simp only [Option.some.injEq] at h; subst h
                exact main (by omega)
              · split at h
                · rename_i hown
                  simp only [Bool.and_eq_true] at hown
                  have hpos : 0 < sz := by simpa using hown.2
                  simp only [Option.some.injEq] at h; subst h
                  refine impl_read c fun blk b' e' hg hα hB hk => ?_
                  rw [hb] at hα; cases hα
                  split at hk
                  · rename_i cells
                    split at hk
                    · rename_i hle
                      have hle := Nat.le_of_ble_eq_true hle
                      rw [lenN_eq] at hle
                      simp only [Option.some.injEq] at hk; subst hk
                      obtain ⟨cc, ee, g1, g2, _⟩ := hB
                      obtain ⟨e0, n0, s1, s2⟩ := ho hown.1
                      have hn : n0 = cc.size := by simp only [World.shape?, g1, Option.some.injEq, Prod.mk.injEq] at s1; exact s1.2.symm
                      exact main (Nat.le_of_mul_le_mul_right (show hi.getD len * sz ≤ cap * sz by omega) hpos)
                    · simp at hk
                  · simp at hk
                · simp at h
          · simp at h
        · simp at h
      · simp at h
    · -- an array behind a pointer
      rename_i id off
      unfold sliceArr at h
      split at h
      · rename_i n el ht
        split at h
        · rename_i sz hsz
          split at h
          · rename_i hc
            simp only [Bool.and_eq_true] at hc
            have hl := Nat.le_of_ble_eq_true hc.1.2
            have hh := Nat.le_of_ble_eq_true hc.2
            have hmx : mx = none := by have := hc.1.1; cases mx <;> simp at this ⊢
            subst hmx
            have hmx' : mx' = none := by
              rcases b3 with ⟨_, h⟩ | ⟨k, m, h, _⟩
              · exact h
              · cases h
            subst hmx'
            cases hx with
            | ptr _ _ b hb =>
              have hbd := run_sliceBounds (P := P) (w := w) (isSlice := false) (len := n) (cap := n) b1 b2 (.inl ⟨rfl, rfl⟩) hl (by simpa using hh) (by simp) (by simp)
              simp only [Option.getD_none] at hbd
              have hrun : (Instr.sliceAt t (.pointer (some ⟨b, off, none⟩)) lo' hi' none).run P w = .ok (.slice (some (if n = lo.getD 0 then ⟨b, off, none⟩ else ⟨b, off + lo.getD 0 * sz, none⟩)) (hi.getD n - lo.getD 0) (n - lo.getD 0)) w := by
                simp only [Instr.sliceAt, Sem.run_bind, run_underlying' ht, Result.andThen_ok, Instr.sureAddr, Sem.run_pure, hbd, run_sizeOf' hsz, add_lit]
              split at h
              · rename_i h4
                have h4 : lo.getD 0 = hi.getD n := beq_iff.1 h4
                simp only [Option.some.injEq] at h; subst h
                exact implV_val c hrun (by split <;> exact rep_fsl_nil (by omega) (by omega))
              · rename_i h4
                have h4 : lo.getD 0 ≠ hi.getD n := beq_false_iff.1 h4
                simp only [Option.some.injEq] at h; subst h
                refine implV_val c hrun ?_
                rw [if_neg (by omega)]
                exact .rsl false id _ _ sz _ b hb (by omega) (by simp)
          · simp at h
        · simp at h
      · simp at h
    · simp at h
  · simp at h

end
end Go.Proofs.Abs
